/- TopEvery holds: MBJ. -/
import Derived.Test.YtgknoidliabanaaGreatDoorMBI
set_option linter.unusedVariables false
set_option linter.unusedSimpArgs false
set_option linter.unusedSectionVars false
set_option maxRecDepth 20000
set_option maxHeartbeats 8000000
namespace Go.Proofs.YtgknoidliabanaaGreatDoor
open Go.RowKit _root_.Go.Proofs.Tryz
open Lib renaming hid→aA
open List renaming setIfInBounds_toArray→aB,drop_succ_cons→aC,take_succ_cons→aD,set_cons_zero→aE,set_cons_succ→aF,cons_append→aG,nil_append→aH,drop_zero→aI,take_zero→aJ
section
variable {z z':Nat→Nat} {w w':World} {K:jD} {r:iL}
def gM (w:World) (b c p:Nat) (ti:Bool):World:=(((w.setCell ⟨b,4,none⟩ (.int .i64 (c:Nat))).setCell ⟨b,5,none⟩ (.bool true)).setCell ⟨b,6,none⟩ (.bool ti)).setCell ⟨b,7,none⟩ (.int .u64 (p:Nat))
def wanted (t:Lm) (c p:Nat) (ti:Bool):Lm:= { t with wc:=c,wn:=true,wt:=ti,wp:=p }
theorem dW.Lz (h:dW w z K r) {i:Nat} (hi:i<4) (c p:Nat) (ti:Bool):dW (gM w (K.tb i) c p ti) z K { r with dT:=eY r.dT i (wanted (r.dT i) c p ti) }∧eF Rz z w z (gM w (K.tb i) c p ti)∧eV (fun j=>j=K.tb i) w (gM w (K.tb i) c p ti):=by
 obtain ⟨h1,s1⟩:=h.yV hi 4 (.int .i64 (c:Nat)) { r.dT i with wc:=c } (by simp [iQ])
 obtain ⟨h2,s2⟩:=h1.yV hi 5 (.bool true) { r.dT i with wc:=c,wn:=true } (by show (iQ i (eY _ i _ i)).setIfInBounds _ _=_;rw [mC];simp [iQ])
 obtain ⟨h3,s3⟩:=h2.yV hi 6 (.bool ti) { r.dT i with wc:=c,wn:=true,wt:=ti } (by show (iQ i (eY _ i _ i)).setIfInBounds _ _=_;rw [mC];simp [iQ])
 obtain ⟨h4,s4⟩:=h3.yV hi 7 (.int .u64 (p:Nat)) { r.dT i with wc:=c,wn:=true,wt:=ti,wp:=p } (by show (iQ i (eY _ i _ i)).setIfInBounds _ _=_;rw [mC];simp [iQ])
 simp only [pS] at h4
 exact ⟨h4,((s1.trans s2 fun _ h=>h).trans s3 fun _ h=>h).trans s4 fun _ h=>h,((((eV.refl (fun j=>j=K.tb i) w).setCell (p:=⟨K.tb i,4,none⟩) (.inl rfl) _).setCell (p:=⟨K.tb i,5,none⟩) (.inl rfl) _).setCell (p:=⟨K.tb i,6,none⟩) (.inl rfl) _).setCell (p:=⟨K.tb i,7,none⟩) (.inl rfl) _⟩
def looked (r:iL) (i c p:Nat) (ti:Bool):iL:= { r with m:= { r.m with t:= { r.m.t with fV:=r.m.t.fV+p*8192 } },dT:=eY r.dT i { wanted (r.dT i) c p ti with step:=2 } }
theorem TA (i k:Nat) (hi:i<2) (h:dW w z K r) (hk:(r.dT i).ask=k) (sN:k<r.asks.length) (DS:1≤r.asks[k].n) (GH:r.asks[k].n<16) (qH:(r.m.ca i).held (kx (wC r.asks[k].n) true)=0) (h0:eI r.m.h.sp 0=none) (htn:(r.m.ca i).kZ=0) (haw:(r.m.ca i).mH<1000) (Jj:r.m.t.fV<1000000000):
  Calls prog 53 #[.pointer (some ⟨K.rb,0,none⟩),.pointer (some ⟨K.tb i,0,none⟩)] w fun e w'=>e= .returned (.tuple #[])∧gK z w K (looked r i (wC r.asks[k].n) (wP r.asks[k].n) true) w':=by
 have uQ:=aA (lT i k (by omega) h hk sN)
 have Bm:=St r.asks[k].n (by omega) (by omega)
 have Y0:=Bm.n
 have oX:1≤wC r.asks[k].n∧wC r.asks[k].n<68:=by
  rcases Bm with ⟨e, -⟩ | ⟨e1,e2, -⟩
  ·exfalso
   unfold wC at e
   rw [if_pos (by omega)] at e
   omega
  ·omega
 have Zu:decide ((0:Int)<(wC r.asks[k].n:Nat))=true:=decide_eq_true (by omega)
 have NA:=aA fun w'=>FF (r.asks[k].op:Nat) (r.asks[k].p:Nat) r.asks[k].n r.asks[k].sp r.asks[k].sn r.asks[k].sc w' DS GH
 have HBY:=aA fun w'=>AN (wC r.asks[k].n) (wP r.asks[k].n) true true w' (by omega)
 have HH:=aA h
 unfold xR at NA
 unfold oP at uQ
 have yH:(i:Int)<2:=by omega
 clear h hk Bm
 have hwi:IntKind.i64.wrap (r.asks[k].n:Int)=(r.asks[k].n:Int):=by rw [IntKind.wrap_i64];omega
 generalize r.asks[k].n=n at*
 generalize wC n=c at*
 generalize wP n=p at*
 generalize r.asks[k].op=op at*
 generalize r.asks[k].p=ap at*
 generalize r.asks[k].sp=sp at*
 generalize r.asks[k].sn=sn at*
 generalize r.asks[k].sc=sc at*
 have hz:∀w:World,(zeroValue 38).run prog w= .ok (.agg #[.int .i64 0,.int .i64 0,.int .u64 0,.int .u64 0,.int .i64 0,.int .u64 0,.bool false,.int .i64 0,.slice none 0 0,.slice none 0 0]) w:=fun w=>by kernel_rfl
 go_enter func53,ntmps53
 go_wp2_with (first
  | (go_at_call 85;refine uQ.out.mono ?_;rintro e w1 ⟨rfl,hx⟩;have gX:=aA hx;clear hx)
  | (go_at_call 95;refine (NA.out _).mono ?_;rintro e w2 ⟨rfl,hx⟩;have gY:=aA hx;have hT:=(HH.out.ext ((gX.out.alloc _ _).trans hx)).fH (i:=i) (by omega);have t4:=hT.c4;have t5:=hT.c5;have t6:=hT.c6;have t7:=hT.c7;have tl:=hT.lt;have f4:=hT.fz 4;have f5:=hT.fz 5;have f6:=hT.fz 6;have f7:=hT.fz 7;clear hT hx)
  | fail)
 have gT:=aA (show (dW ((gM w2 (K.tb i) c p true).alloc (.cells #[.int .i64 (c:Nat),.bool true,.bool true,.int .u64 (p:Nat)] 84)) (lay z w 20) K { r with dT:=eY r.dT i (wanted (r.dT i) c p true) }∧eF Rz z w (lay z w 20) ((gM w2 (K.tb i) c p true).alloc (.cells #[.int .i64 (c:Nat),.bool true,.bool true,.int .u64 (p:Nat)] 84)))∧
   eG ((gM w2 (K.tb i) c p true).alloc (.cells #[.int .i64 (c:Nat),.bool true,.bool true,.int .u64 (p:Nat)] 84)) w1.heap.size 38 #[.int .i64 (op:Nat),.int .i64 (ap:Nat),.int .u64 (n:Nat),.int .u64 0,.int .i64 0,.int .u64 0,.bool false,.int .i64 0,.slice none 0 0,.slice sp sn sc]∧eG ((gM w2 (K.tb i) c p true).alloc (.cells #[.int .i64 (c:Nat),.bool true,.bool true,.int .u64 (p:Nat)] 84)) w2.heap.size 84 #[.int .i64 (c:Nat),.bool true,.bool true,.int .u64 (p:Nat)] from by
  have x2:Ext w w2:=(gX.out.alloc _ _).trans gY.out
  have h2:=HH.out.eC (eF.fL x2 (fun _=>False) z 20) (fun _ _ h=>h) (fun h=>h)
  obtain ⟨h3,s3,c3⟩:=h2.Lz (i:=i) (by omega) c p true
  have x4:Ext (gM w2 (K.tb i) c p true) ((gM w2 (K.tb i) c p true).alloc (.cells #[.int .i64 (c:Nat),.bool true,.bool true,.int .u64 (p:Nat)] 84)):=(Ext.refl _).alloc _ _
  have e2:(gM w2 (K.tb i) c p true).heap.size=w2.heap.size:=by unfold gM;simp
  have q1:=(eG.new w1 38 #[.int .i64 (op:Nat),.int .i64 (ap:Nat),.int .u64 (n:Nat),.int .u64 0,.int .i64 0,.int .u64 0,.bool false,.int .i64 0,.slice none 0 0,.slice sp sn sc]).later gY.out
  have ht:K.tb i≠w1.heap.size:=by have:=(HH.out.tk i (by omega)).1.lt;have:=gX.out.size;omega
  have q2:=eG.new (gM w2 (K.tb i) c p true) 84 #[.int .i64 (c:Nat),.bool true,.bool true,.int .u64 (p:Nat)]
  rw [e2] at q2
  exact ⟨⟨h3.ext x4,((eF.fL x2 Rz z 20).trans s3 fun _ h=>h).trans (eF.dX x4 Rz _) fun _ h=>h⟩,(q1.eA c3 (fun e=>ht e.symm)).alloc _,q2⟩)
 unfold gM at gT
 generalize ((((w2.setCell ⟨K.tb i,4,none⟩ (.int .i64 (c:Nat))).setCell ⟨K.tb i,5,none⟩ (.bool true)).setCell ⟨K.tb i,6,none⟩ (.bool true)).setCell ⟨K.tb i,7,none⟩ (.int .u64 (p:Nat))).alloc (.cells #[.int .i64 (c:Nat),.bool true,.bool true,.int .u64 (p:Nat)] 84)=w4 at gT ⊢
 clear t4 t5 t6 t7 tl f4 f5 f6 f7
 have HM:=aA (show ∀w',Ext w4 w'→eE w' (lay z w 20) K.m r.m from fun w' hx=>(gT.out.1.1.ext hx).m)
 have d0:=gT.out.1.1.cells.c0
 have dl:=gT.out.1.1.cells.lt
 have m4:=gT.out.1.1.m.hd.cell 4
 have ml:=gT.out.1.1.m.hd.lt
 simp [mT] at m4
 have hT:=gT.out.1.1.fH (i:=i) (by omega)
 have t0:=hT.c0
 have tl:=hT.lt
 have k0:=gT.out.1.1.m.cr.c i hi
 have kl:=gT.out.1.1.m.cr.lt
 have kc:=gT.out.1.1.m.cr.cc
 clear hT
 go_quiet (fail)
 have sL:=aA (show ∀w',Ext w4 w'→(w'.cell? ⟨w1.heap.size,2,none⟩=some (.int .u64 (n:Nat))∧w1.heap.size<w'.heap.size)∧(w'.cell? ⟨w2.heap.size,0,none⟩=some (.int .i64 (c:Nat))∧w'.cell? ⟨w2.heap.size,1,none⟩=some (.bool true)∧w'.cell? ⟨w2.heap.size,2,none⟩=some (.bool true)∧w'.cell? ⟨w2.heap.size,3,none⟩=some (.int .u64 (p:Nat))∧w2.heap.size<w'.heap.size)∧(w'.cell? ⟨K.rb,0,none⟩=some (.pointer (some ⟨K.m.mb,0,none⟩))∧w'.cell? ⟨K.m.mb,3,none⟩=some (.pointer (some ⟨K.m.oC,0,none⟩))∧K.rb<w'.heap.size∧K.m.mb<w'.heap.size) from fun w' hx=>
  ⟨⟨(gT.out.2.1.later hx).cell 2,(gT.out.2.1.later hx).lt⟩,⟨(gT.out.2.2.later hx).cell 0,(gT.out.2.2.later hx).cell 1,(gT.out.2.2.later hx).cell 2,(gT.out.2.2.later hx).cell 3,(gT.out.2.2.later hx).lt⟩,(gT.out.1.1.ext hx).cells.c0,(HM.out _ hx).hd.cell 3,(gT.out.1.1.ext hx).cells.lt,(HM.out _ hx).hd.lt⟩)
 have kJ:=aA (show Ext w4 (w4.drewN nq) from (Ext.refl w4).eZ nq)
 generalize w4.drewN nq=w5 at kJ ⊢
 obtain ⟨⟨a2,al⟩,⟨b0,b1,b2,b3,bl⟩,e0,e3,el,Jr⟩:=sL.out _ kJ.out
 have HPC:=aA (show Calls prog 96 #[.pointer (some ⟨K.m.cb i,0,none⟩),.int .i64 (n:Nat)] w5 fun r w'=>r= .returned (.tuple #[.int .u64 0,.bool false])∧w5=w' from by
  have:=(HM.out _ kJ.out).ca i hi
  rw [htn] at this
  exact FG n this DS GH haw)
 have Ou:=aA (Hj c true ((HM.out _ kJ.out).ca i hi) (HM.out _ kJ.out).nM (HM.out _ kJ.out).sw (HM.out _ kJ.out).h oX.1 oX.2 qH h0)
 have Y1:=aA fun w' (hx:Ext w4 w')=>BM c true ((HM.out _ hx).ca i hi) oX.1 oX.2 qH
 have SN:=aA fun w' (hx:Ext w4 w')=>AM (p*8192) (HM.out _ hx).sw (by omega)
 clear d0 dl m4 ml t0 tl k0 kl kc
 go_wp2_with (first
  | (go_at_call 96;refine HPC.out.mono ?_;rintro e w6 ⟨rfl,rfl⟩)
  | (go_at_call 97;refine Ou.out.mono ?_;rintro e w6 ⟨rfl,hx⟩;have sZ:=aA (kJ.out.trans hx);clear a2 al b0 b1 b2 b3 bl e0 e3 el Jr hx;obtain ⟨⟨a2,al⟩,⟨b0,b1,b2,b3,bl⟩,e0,e3,el,Jr⟩:=sL.out _ sZ.out)
  | (go_at_call 100;refine (Y1.out _ sZ.out).mono ?_;rintro e w7 ⟨rfl,hx⟩;have zP:=aA (sZ.out.trans hx);clear a2 al b0 b1 b2 b3 bl e0 e3 el Jr hx;obtain ⟨⟨a2,al⟩,⟨b0,b1,b2,b3,bl⟩,e0,e3,el,Jr⟩:=sL.out _ zP.out)
  | fail)
 have Lj:=aA (show ∀w',Ext w7 w'→w'.cell? ⟨K.rb,0,none⟩=some (.pointer (some ⟨K.m.mb,0,none⟩))∧w'.cell? ⟨K.m.mb,3,none⟩=some (.pointer (some ⟨K.m.oC,0,none⟩))∧w'.cell? ⟨w2.heap.size,0,none⟩=some (.int .i64 (c:Nat))∧w'.cell? ⟨w2.heap.size,1,none⟩=some (.bool true)∧w'.cell? ⟨w2.heap.size,2,none⟩=some (.bool true)∧w'.cell? ⟨w2.heap.size,3,none⟩=some (.int .u64 (p:Nat)) from fun w' hx=>by
  obtain ⟨-,⟨b0,b1,b2,b3,bl⟩,e0,e3,el,Jr⟩:=sL.out _ (zP.out.trans hx)
  exact ⟨e0,e3,b0,b1,b2,b3⟩)
 refine eN (fun w'=>w'.cell? ⟨K.rb,0,none⟩=some (.pointer (some ⟨K.m.mb,0,none⟩))∧w'.cell? ⟨K.m.mb,3,none⟩=some (.pointer (some ⟨K.m.oC,0,none⟩))∧w'.cell? ⟨w2.heap.size,0,none⟩=some (.int .i64 (c:Nat))∧w'.cell? ⟨w2.heap.size,1,none⟩=some (.bool true)∧w'.cell? ⟨w2.heap.size,2,none⟩=some (.bool true)∧w'.cell? ⟨w2.heap.size,3,none⟩=some (.int .u64 (p:Nat))) [0,1,2,3,4,5,6] [7,8] 9 (by kernel_rfl) (by kernel_rfl) (Lj.out _ (Ext.refl _).drew) ?_
 simp only [fX,aC,aI,aD,aJ,aG,aH]
 iterate 7 (refine fI (v:=?_) (by rfl) ?_ ?_;rotate_left;(· (intro u gP;obtain ⟨s0,s1,s2,s3,s4,s5⟩:=gP;go_simp;(try with_reducible rfl)));(try simp only [Act.put,aB,aE,aF]))
 refine fS ?_
 refine dV ?_
 go_wp2_with fail
 (try refine ⟨Lj.out _ (Ext.refl _).drew,?_⟩)
 refine dV ?_
 go_wp2_with (first | (go_at_call 102;refine (HBY.out _).mono ?_;rintro e w8 ⟨rfl,hx⟩;have CJ:=aA ((Ext.refl w7).drew.trans hx);clear hx) | fail)
 refine ⟨Lj.out _ CJ.out,?_⟩
 refine fJ ?_
 go_wp2_with (first | (go_at_call 101;refine (SN.out _ (zP.out.trans CJ.out)).mono ?_;rintro e w9 ⟨rfl,h9,s9⟩;have H9:=aA (And.intro h9 s9);clear h9 s9) | fail)
 refine NoPanic.normal ?_
 have XB:=aA (show dW w9 (lay z w 20) K { r with m:= { r.m with t:= { r.m.t with fV:=r.m.t.fV+p*8192 } },dT:=eY r.dT i (wanted (r.dT i) c p true) }∧eF Rz z w (lay z w 20) w9 from by
  have Di:=zP.out.trans CJ.out
  have AZ:eF Mz (lay z w 20) w8 (lay z w 20) w9:=H9.out.2.mono fun i hi=>by unfold Mz;omega
  exact ⟨(gT.out.1.1.ext Di).DY ((HM.out _ Di).U5 H9.out.1 H9.out.2) AZ,(gT.out.1.2.trans (eF.dX Di Rz _) fun _ h=>h).trans AZ fun i hi=>by unfold Mz at hi;unfold Rz;omega⟩)
 have hT:=XB.out.1.fH (i:=i) (by omega)
 have t2:=hT.c2
 have tl2:=hT.lt
 have f2:=hT.fz 2
 clear hT
 go_wp2_with fail
 go_returns
 obtain ⟨Ck,AZ⟩:=XB.out.1.yV (i:=i) (by omega) 2 (.int .i64 2) { wanted (r.dT i) c p true with step:=2 } (by show (iQ i (eY _ i _ i)).setIfInBounds _ _=_;rw [mC];simp [iQ])
 refine ⟨rfl,_,?_,XB.out.2.trans AZ fun _ h=>h⟩
 simp only [pS] at Ck
 exact Ck
theorem PD (i k:Nat) (hi:i<2) (h:dW w z K r) (hk:(r.dT i).ask=k) (sN:k<r.asks.length) (DS:16≤r.asks[k].n) (GH:r.asks[k].n≤32768) (qH:(r.m.ca i).held (kx (wC r.asks[k].n) true)=0) (h0:eI r.m.h.sp 0=none) (Jj:r.m.t.fV<1000000000):
  Calls prog 53 #[.pointer (some ⟨K.rb,0,none⟩),.pointer (some ⟨K.tb i,0,none⟩)] w fun e w'=>e= .returned (.tuple #[])∧gK z w K (looked r i (wC r.asks[k].n) (wP r.asks[k].n) false) w':=by
 have uQ:=aA (lT i k (by omega) h hk sN)
 have Bm:=St r.asks[k].n (by omega) (by omega)
 have Y0:=Bm.n
 have oX:1≤wC r.asks[k].n∧wC r.asks[k].n<68:=by
  rcases Bm with ⟨e, -⟩ | ⟨e1,e2, -⟩
  ·exfalso
   unfold wC at e
   rw [if_neg (by omega),if_pos GH] at e
   omega
  ·omega
 have Zu:decide ((0:Int)<(wC r.asks[k].n:Nat))=true:=decide_eq_true (by omega)
 have NA:=aA fun w'=>Cx (r.asks[k].op:Nat) (r.asks[k].p:Nat) r.asks[k].n r.asks[k].sp r.asks[k].sn r.asks[k].sc w' DS GH
 have HBY:=aA fun w'=>AN (wC r.asks[k].n) (wP r.asks[k].n) true false w' (by omega)
 have HH:=aA h
 unfold xR at NA
 unfold oP at uQ
 have yH:(i:Int)<2:=by omega
 clear h hk Bm
 generalize r.asks[k].n=n at*
 generalize wC n=c at*
 generalize wP n=p at*
 generalize r.asks[k].op=op at*
 generalize r.asks[k].p=ap at*
 generalize r.asks[k].sp=sp at*
 generalize r.asks[k].sn=sn at*
 generalize r.asks[k].sc=sc at*
 have hz:∀w:World,(zeroValue 38).run prog w= .ok (.agg #[.int .i64 0,.int .i64 0,.int .u64 0,.int .u64 0,.int .i64 0,.int .u64 0,.bool false,.int .i64 0,.slice none 0 0,.slice none 0 0]) w:=fun w=>by kernel_rfl
 go_enter func53,ntmps53
 go_wp2_with (first
  | (go_at_call 85;refine uQ.out.mono ?_;rintro e w1 ⟨rfl,hx⟩;have gX:=aA hx;clear hx)
  | (go_at_call 95;refine (NA.out _).mono ?_;rintro e w2 ⟨rfl,hx⟩;have gY:=aA hx;have hT:=(HH.out.ext ((gX.out.alloc _ _).trans hx)).fH (i:=i) (by omega);have t4:=hT.c4;have t5:=hT.c5;have t6:=hT.c6;have t7:=hT.c7;have tl:=hT.lt;have f4:=hT.fz 4;have f5:=hT.fz 5;have f6:=hT.fz 6;have f7:=hT.fz 7;clear hT hx)
  | fail)
 have gT:=aA (show (dW ((gM w2 (K.tb i) c p false).alloc (.cells #[.int .i64 (c:Nat),.bool true,.bool false,.int .u64 (p:Nat)] 84)) (lay z w 20) K { r with dT:=eY r.dT i (wanted (r.dT i) c p false) }∧eF Rz z w (lay z w 20) ((gM w2 (K.tb i) c p false).alloc (.cells #[.int .i64 (c:Nat),.bool true,.bool false,.int .u64 (p:Nat)] 84)))∧
   eG ((gM w2 (K.tb i) c p false).alloc (.cells #[.int .i64 (c:Nat),.bool true,.bool false,.int .u64 (p:Nat)] 84)) w1.heap.size 38 #[.int .i64 (op:Nat),.int .i64 (ap:Nat),.int .u64 (n:Nat),.int .u64 0,.int .i64 0,.int .u64 0,.bool false,.int .i64 0,.slice none 0 0,.slice sp sn sc]∧eG ((gM w2 (K.tb i) c p false).alloc (.cells #[.int .i64 (c:Nat),.bool true,.bool false,.int .u64 (p:Nat)] 84)) w2.heap.size 84 #[.int .i64 (c:Nat),.bool true,.bool false,.int .u64 (p:Nat)] from by
  have x2:Ext w w2:=(gX.out.alloc _ _).trans gY.out
  have h2:=HH.out.eC (eF.fL x2 (fun _=>False) z 20) (fun _ _ h=>h) (fun h=>h)
  obtain ⟨h3,s3,c3⟩:=h2.Lz (i:=i) (by omega) c p false
  have x4:Ext (gM w2 (K.tb i) c p false) ((gM w2 (K.tb i) c p false).alloc (.cells #[.int .i64 (c:Nat),.bool true,.bool false,.int .u64 (p:Nat)] 84)):=(Ext.refl _).alloc _ _
  have e2:(gM w2 (K.tb i) c p false).heap.size=w2.heap.size:=by unfold gM;simp
  have q1:=(eG.new w1 38 #[.int .i64 (op:Nat),.int .i64 (ap:Nat),.int .u64 (n:Nat),.int .u64 0,.int .i64 0,.int .u64 0,.bool false,.int .i64 0,.slice none 0 0,.slice sp sn sc]).later gY.out
  have ht:K.tb i≠w1.heap.size:=by have:=(HH.out.tk i (by omega)).1.lt;have:=gX.out.size;omega
  have q2:=eG.new (gM w2 (K.tb i) c p false) 84 #[.int .i64 (c:Nat),.bool true,.bool false,.int .u64 (p:Nat)]
  rw [e2] at q2
  exact ⟨⟨h3.ext x4,((eF.fL x2 Rz z 20).trans s3 fun _ h=>h).trans (eF.dX x4 Rz _) fun _ h=>h⟩,(q1.eA c3 (fun e=>ht e.symm)).alloc _,q2⟩)
 unfold gM at gT
 generalize ((((w2.setCell ⟨K.tb i,4,none⟩ (.int .i64 (c:Nat))).setCell ⟨K.tb i,5,none⟩ (.bool true)).setCell ⟨K.tb i,6,none⟩ (.bool false)).setCell ⟨K.tb i,7,none⟩ (.int .u64 (p:Nat))).alloc (.cells #[.int .i64 (c:Nat),.bool true,.bool false,.int .u64 (p:Nat)] 84)=w4 at gT ⊢
 clear t4 t5 t6 t7 tl f4 f5 f6 f7
 have HM:=aA (show ∀w',Ext w4 w'→eE w' (lay z w 20) K.m r.m from fun w' hx=>(gT.out.1.1.ext hx).m)
 have d0:=gT.out.1.1.cells.c0
 have dl:=gT.out.1.1.cells.lt
 have m4:=gT.out.1.1.m.hd.cell 4
 have ml:=gT.out.1.1.m.hd.lt
 simp [mT] at m4
 have hT:=gT.out.1.1.fH (i:=i) (by omega)
 have t0:=hT.c0
 have tl:=hT.lt
 have k0:=gT.out.1.1.m.cr.c i hi
 have kl:=gT.out.1.1.m.cr.lt
 have kc:=gT.out.1.1.m.cr.cc
 clear hT
 go_quiet (fail)
 have sL:=aA (show ∀w',Ext w4 w'→(w'.cell? ⟨w1.heap.size,2,none⟩=some (.int .u64 (n:Nat))∧w1.heap.size<w'.heap.size)∧(w'.cell? ⟨w2.heap.size,0,none⟩=some (.int .i64 (c:Nat))∧w'.cell? ⟨w2.heap.size,1,none⟩=some (.bool true)∧w'.cell? ⟨w2.heap.size,2,none⟩=some (.bool false)∧w'.cell? ⟨w2.heap.size,3,none⟩=some (.int .u64 (p:Nat))∧w2.heap.size<w'.heap.size)∧(w'.cell? ⟨K.rb,0,none⟩=some (.pointer (some ⟨K.m.mb,0,none⟩))∧w'.cell? ⟨K.m.mb,3,none⟩=some (.pointer (some ⟨K.m.oC,0,none⟩))∧K.rb<w'.heap.size∧K.m.mb<w'.heap.size) from fun w' hx=>
  ⟨⟨(gT.out.2.1.later hx).cell 2,(gT.out.2.1.later hx).lt⟩,⟨(gT.out.2.2.later hx).cell 0,(gT.out.2.2.later hx).cell 1,(gT.out.2.2.later hx).cell 2,(gT.out.2.2.later hx).cell 3,(gT.out.2.2.later hx).lt⟩,(gT.out.1.1.ext hx).cells.c0,(HM.out _ hx).hd.cell 3,(gT.out.1.1.ext hx).cells.lt,(HM.out _ hx).hd.lt⟩)
 have kJ:=aA (show Ext w4 (w4.drewN nq) from (Ext.refl w4).eZ nq)
 generalize w4.drewN nq=w5 at kJ ⊢
 obtain ⟨⟨a2,al⟩,⟨b0,b1,b2,b3,bl⟩,e0,e3,el,Jr⟩:=sL.out _ kJ.out
 have Ou:=aA (Hj c true ((HM.out _ kJ.out).ca i hi) (HM.out _ kJ.out).nM (HM.out _ kJ.out).sw (HM.out _ kJ.out).h oX.1 oX.2 qH h0)
 have Y1:=aA fun w' (hx:Ext w4 w')=>BM c true ((HM.out _ hx).ca i hi) oX.1 oX.2 qH
 have SN:=aA fun w' (hx:Ext w4 w')=>AM (p*8192) (HM.out _ hx).sw (by omega)
 clear d0 dl m4 ml t0 tl k0 kl kc
 go_wp2_with (first
  | (go_at_call 97;refine Ou.out.mono ?_;rintro e w6 ⟨rfl,hx⟩;have sZ:=aA (kJ.out.trans hx);clear a2 al b0 b1 b2 b3 bl e0 e3 el Jr hx;obtain ⟨⟨a2,al⟩,⟨b0,b1,b2,b3,bl⟩,e0,e3,el,Jr⟩:=sL.out _ sZ.out)
  | (go_at_call 100;refine (Y1.out _ sZ.out).mono ?_;rintro e w7 ⟨rfl,hx⟩;have zP:=aA (sZ.out.trans hx);clear a2 al b0 b1 b2 b3 bl e0 e3 el Jr hx;obtain ⟨⟨a2,al⟩,⟨b0,b1,b2,b3,bl⟩,e0,e3,el,Jr⟩:=sL.out _ zP.out)
  | fail)
 have Lj:=aA (show ∀w',Ext w7 w'→w'.cell? ⟨K.rb,0,none⟩=some (.pointer (some ⟨K.m.mb,0,none⟩))∧w'.cell? ⟨K.m.mb,3,none⟩=some (.pointer (some ⟨K.m.oC,0,none⟩))∧w'.cell? ⟨w2.heap.size,0,none⟩=some (.int .i64 (c:Nat))∧w'.cell? ⟨w2.heap.size,1,none⟩=some (.bool true)∧w'.cell? ⟨w2.heap.size,2,none⟩=some (.bool false)∧w'.cell? ⟨w2.heap.size,3,none⟩=some (.int .u64 (p:Nat)) from fun w' hx=>by
  obtain ⟨-,⟨b0,b1,b2,b3,bl⟩,e0,e3,el,Jr⟩:=sL.out _ (zP.out.trans hx)
  exact ⟨e0,e3,b0,b1,b2,b3⟩)
 refine eN (fun w'=>w'.cell? ⟨K.rb,0,none⟩=some (.pointer (some ⟨K.m.mb,0,none⟩))∧w'.cell? ⟨K.m.mb,3,none⟩=some (.pointer (some ⟨K.m.oC,0,none⟩))∧w'.cell? ⟨w2.heap.size,0,none⟩=some (.int .i64 (c:Nat))∧w'.cell? ⟨w2.heap.size,1,none⟩=some (.bool true)∧w'.cell? ⟨w2.heap.size,2,none⟩=some (.bool false)∧w'.cell? ⟨w2.heap.size,3,none⟩=some (.int .u64 (p:Nat))) [0,1,2,3,4,5,6] [7,8] 9 (by kernel_rfl) (by kernel_rfl) (Lj.out _ (Ext.refl _).drew) ?_
 simp only [fX,aC,aI,aD,aJ,aG,aH]
 iterate 7 (refine fI (v:=?_) (by rfl) ?_ ?_;rotate_left;(· (intro u gP;obtain ⟨s0,s1,s2,s3,s4,s5⟩:=gP;go_simp;(try with_reducible rfl)));(try simp only [Act.put,aB,aE,aF]))
 refine fS ?_
 refine dV ?_
 go_wp2_with fail
 (try refine ⟨Lj.out _ (Ext.refl _).drew,?_⟩)
 refine dV ?_
 go_wp2_with (first | (go_at_call 102;refine (HBY.out _).mono ?_;rintro e w8 ⟨rfl,hx⟩;have CJ:=aA ((Ext.refl w7).drew.trans hx);clear hx) | fail)
 refine ⟨Lj.out _ CJ.out,?_⟩
 refine fJ ?_
 go_wp2_with (first | (go_at_call 101;refine (SN.out _ (zP.out.trans CJ.out)).mono ?_;rintro e w9 ⟨rfl,h9,s9⟩;have H9:=aA (And.intro h9 s9);clear h9 s9) | fail)
 refine NoPanic.normal ?_
 have XB:=aA (show dW w9 (lay z w 20) K { r with m:= { r.m with t:= { r.m.t with fV:=r.m.t.fV+p*8192 } },dT:=eY r.dT i (wanted (r.dT i) c p false) }∧eF Rz z w (lay z w 20) w9 from by
  have Di:=zP.out.trans CJ.out
  have AZ:eF Mz (lay z w 20) w8 (lay z w 20) w9:=H9.out.2.mono fun i hi=>by unfold Mz;omega
  exact ⟨(gT.out.1.1.ext Di).DY ((HM.out _ Di).U5 H9.out.1 H9.out.2) AZ,(gT.out.1.2.trans (eF.dX Di Rz _) fun _ h=>h).trans AZ fun i hi=>by unfold Mz at hi;unfold Rz;omega⟩)
 have hT:=XB.out.1.fH (i:=i) (by omega)
 have t2:=hT.c2
 have tl2:=hT.lt
 have f2:=hT.fz 2
 clear hT
 go_wp2_with fail
 go_returns
 obtain ⟨Ck,AZ⟩:=XB.out.1.yV (i:=i) (by omega) 2 (.int .i64 2) { wanted (r.dT i) c p false with step:=2 } (by show (iQ i (eY _ i _ i)).setIfInBounds _ _=_;rw [mC];simp [iQ])
 refine ⟨rfl,_,?_,XB.out.2.trans AZ fun _ h=>h⟩
 simp only [pS] at Ck
 exact Ck
theorem PE (i k:Nat) (hi:i<2) (h:dW w z K r) (hk:(r.dT i).ask=k) (sN:k<r.asks.length) (DS:32768<r.asks[k].n) (GH:r.asks[k].n≤100000) (Jj:r.m.t.fV<1000000000):
  Calls prog 53 #[.pointer (some ⟨K.rb,0,none⟩),.pointer (some ⟨K.tb i,0,none⟩)] w fun e w'=>e= .returned (.tuple #[])∧gK z w K (looked r i (wC r.asks[k].n) (wP r.asks[k].n) false) w':=by
 have uQ:=aA (lT i k (by omega) h hk sN)
 have Bm:=St r.asks[k].n (by omega) (by omega)
 have Y0:=Bm.n
 have Zu:decide ((0:Int)<(wC r.asks[k].n:Nat))=false:=decide_eq_false (by unfold wC;rw [if_neg (by omega),if_neg (by omega)];omega)
 have Yh:decide (0<wC r.asks[k].n)=false:=decide_eq_false (by unfold wC;rw [if_neg (by omega),if_neg (by omega)];omega)
 have NA:=aA fun w'=>Lr (r.asks[k].op:Nat) (r.asks[k].p:Nat) r.asks[k].n r.asks[k].sp r.asks[k].sn r.asks[k].sc w' DS GH
 have HBY:=aA fun w'=>AN (wC r.asks[k].n) (wP r.asks[k].n) true false w' (by omega)
 have HH:=aA h
 unfold xR at NA
 unfold oP at uQ
 have yH:(i:Int)<2:=by omega
 clear h hk Bm
 generalize r.asks[k].n=n at*
 generalize wC n=c at*
 generalize wP n=p at*
 generalize r.asks[k].op=op at*
 generalize r.asks[k].p=ap at*
 generalize r.asks[k].sp=sp at*
 generalize r.asks[k].sn=sn at*
 generalize r.asks[k].sc=sc at*
 have hz:∀w:World,(zeroValue 38).run prog w= .ok (.agg #[.int .i64 0,.int .i64 0,.int .u64 0,.int .u64 0,.int .i64 0,.int .u64 0,.bool false,.int .i64 0,.slice none 0 0,.slice none 0 0]) w:=fun w=>by kernel_rfl
 go_enter func53,ntmps53
 go_wp2_with (first
  | (go_at_call 85;refine uQ.out.mono ?_;rintro e w1 ⟨rfl,hx⟩;have gX:=aA hx;clear hx)
  | (go_at_call 95;refine (NA.out _).mono ?_;rintro e w2 ⟨rfl,hx⟩;have gY:=aA hx;have hT:=(HH.out.ext ((gX.out.alloc _ _).trans hx)).fH (i:=i) (by omega);have t4:=hT.c4;have t5:=hT.c5;have t6:=hT.c6;have t7:=hT.c7;have tl:=hT.lt;have f4:=hT.fz 4;have f5:=hT.fz 5;have f6:=hT.fz 6;have f7:=hT.fz 7;clear hT hx)
  | fail)
 have gT:=aA (show (dW ((gM w2 (K.tb i) c p false).alloc (.cells #[.int .i64 (c:Nat),.bool true,.bool false,.int .u64 (p:Nat)] 84)) (lay z w 20) K { r with dT:=eY r.dT i (wanted (r.dT i) c p false) }∧eF Rz z w (lay z w 20) ((gM w2 (K.tb i) c p false).alloc (.cells #[.int .i64 (c:Nat),.bool true,.bool false,.int .u64 (p:Nat)] 84)))∧
   eG ((gM w2 (K.tb i) c p false).alloc (.cells #[.int .i64 (c:Nat),.bool true,.bool false,.int .u64 (p:Nat)] 84)) w1.heap.size 38 #[.int .i64 (op:Nat),.int .i64 (ap:Nat),.int .u64 (n:Nat),.int .u64 0,.int .i64 0,.int .u64 0,.bool false,.int .i64 0,.slice none 0 0,.slice sp sn sc]∧eG ((gM w2 (K.tb i) c p false).alloc (.cells #[.int .i64 (c:Nat),.bool true,.bool false,.int .u64 (p:Nat)] 84)) w2.heap.size 84 #[.int .i64 (c:Nat),.bool true,.bool false,.int .u64 (p:Nat)] from by
  have x2:Ext w w2:=(gX.out.alloc _ _).trans gY.out
  have h2:=HH.out.eC (eF.fL x2 (fun _=>False) z 20) (fun _ _ h=>h) (fun h=>h)
  obtain ⟨h3,s3,c3⟩:=h2.Lz (i:=i) (by omega) c p false
  have x4:Ext (gM w2 (K.tb i) c p false) ((gM w2 (K.tb i) c p false).alloc (.cells #[.int .i64 (c:Nat),.bool true,.bool false,.int .u64 (p:Nat)] 84)):=(Ext.refl _).alloc _ _
  have e2:(gM w2 (K.tb i) c p false).heap.size=w2.heap.size:=by unfold gM;simp
  have q1:=(eG.new w1 38 #[.int .i64 (op:Nat),.int .i64 (ap:Nat),.int .u64 (n:Nat),.int .u64 0,.int .i64 0,.int .u64 0,.bool false,.int .i64 0,.slice none 0 0,.slice sp sn sc]).later gY.out
  have ht:K.tb i≠w1.heap.size:=by have:=(HH.out.tk i (by omega)).1.lt;have:=gX.out.size;omega
  have q2:=eG.new (gM w2 (K.tb i) c p false) 84 #[.int .i64 (c:Nat),.bool true,.bool false,.int .u64 (p:Nat)]
  rw [e2] at q2
  exact ⟨⟨h3.ext x4,((eF.fL x2 Rz z 20).trans s3 fun _ h=>h).trans (eF.dX x4 Rz _) fun _ h=>h⟩,(q1.eA c3 (fun e=>ht e.symm)).alloc _,q2⟩)
 unfold gM at gT
 generalize ((((w2.setCell ⟨K.tb i,4,none⟩ (.int .i64 (c:Nat))).setCell ⟨K.tb i,5,none⟩ (.bool true)).setCell ⟨K.tb i,6,none⟩ (.bool false)).setCell ⟨K.tb i,7,none⟩ (.int .u64 (p:Nat))).alloc (.cells #[.int .i64 (c:Nat),.bool true,.bool false,.int .u64 (p:Nat)] 84)=w4 at gT ⊢
 clear t4 t5 t6 t7 tl f4 f5 f6 f7
 have HM:=aA (show ∀w',Ext w4 w'→eE w' (lay z w 20) K.m r.m from fun w' hx=>(gT.out.1.1.ext hx).m)
 have d0:=gT.out.1.1.cells.c0
 have dl:=gT.out.1.1.cells.lt
 have m4:=gT.out.1.1.m.hd.cell 4
 have ml:=gT.out.1.1.m.hd.lt
 simp [mT] at m4
 have hT:=gT.out.1.1.fH (i:=i) (by omega)
 have t0:=hT.c0
 have tl:=hT.lt
 have k0:=gT.out.1.1.m.cr.c i hi
 have kl:=gT.out.1.1.m.cr.lt
 have kc:=gT.out.1.1.m.cr.cc
 clear hT
 go_quiet (fail)
 have sL:=aA (show ∀w',Ext w4 w'→(w'.cell? ⟨w1.heap.size,2,none⟩=some (.int .u64 (n:Nat))∧w1.heap.size<w'.heap.size)∧(w'.cell? ⟨w2.heap.size,0,none⟩=some (.int .i64 (c:Nat))∧w'.cell? ⟨w2.heap.size,1,none⟩=some (.bool true)∧w'.cell? ⟨w2.heap.size,2,none⟩=some (.bool false)∧w'.cell? ⟨w2.heap.size,3,none⟩=some (.int .u64 (p:Nat))∧w2.heap.size<w'.heap.size)∧(w'.cell? ⟨K.rb,0,none⟩=some (.pointer (some ⟨K.m.mb,0,none⟩))∧w'.cell? ⟨K.m.mb,3,none⟩=some (.pointer (some ⟨K.m.oC,0,none⟩))∧K.rb<w'.heap.size∧K.m.mb<w'.heap.size) from fun w' hx=>
  ⟨⟨(gT.out.2.1.later hx).cell 2,(gT.out.2.1.later hx).lt⟩,⟨(gT.out.2.2.later hx).cell 0,(gT.out.2.2.later hx).cell 1,(gT.out.2.2.later hx).cell 2,(gT.out.2.2.later hx).cell 3,(gT.out.2.2.later hx).lt⟩,(gT.out.1.1.ext hx).cells.c0,(HM.out _ hx).hd.cell 3,(gT.out.1.1.ext hx).cells.lt,(HM.out _ hx).hd.lt⟩)
 have kJ:=aA (show Ext w4 (w4.drewN nq) from (Ext.refl w4).eZ nq)
 generalize w4.drewN nq=w5 at kJ ⊢
 obtain ⟨⟨a2,al⟩,⟨b0,b1,b2,b3,bl⟩,e0,e3,el,Jr⟩:=sL.out _ kJ.out
 have SN:=aA fun w' (hx:Ext w4 w')=>AM (p*8192) (HM.out _ hx).sw (by omega)
 clear d0 dl m4 ml t0 tl k0 kl kc
 go_wp2_with (first
  | fail)
 have zP:=kJ
 obtain ⟨w7,F6⟩:∃w7,w7=w5:=⟨_,rfl⟩
 rw [←F6] at zP a2 al b0 b1 b2 b3 bl e0 e3 el Jr ⊢
 clear F6
 have Lj:=aA (show ∀w',Ext w7 w'→w'.cell? ⟨K.rb,0,none⟩=some (.pointer (some ⟨K.m.mb,0,none⟩))∧w'.cell? ⟨K.m.mb,3,none⟩=some (.pointer (some ⟨K.m.oC,0,none⟩))∧w'.cell? ⟨w2.heap.size,0,none⟩=some (.int .i64 (c:Nat))∧w'.cell? ⟨w2.heap.size,1,none⟩=some (.bool true)∧w'.cell? ⟨w2.heap.size,2,none⟩=some (.bool false)∧w'.cell? ⟨w2.heap.size,3,none⟩=some (.int .u64 (p:Nat)) from fun w' hx=>by
  obtain ⟨-,⟨b0,b1,b2,b3,bl⟩,e0,e3,el,Jr⟩:=sL.out _ (zP.out.trans hx)
  exact ⟨e0,e3,b0,b1,b2,b3⟩)
 refine eN (fun w'=>w'.cell? ⟨K.rb,0,none⟩=some (.pointer (some ⟨K.m.mb,0,none⟩))∧w'.cell? ⟨K.m.mb,3,none⟩=some (.pointer (some ⟨K.m.oC,0,none⟩))∧w'.cell? ⟨w2.heap.size,0,none⟩=some (.int .i64 (c:Nat))∧w'.cell? ⟨w2.heap.size,1,none⟩=some (.bool true)∧w'.cell? ⟨w2.heap.size,2,none⟩=some (.bool false)∧w'.cell? ⟨w2.heap.size,3,none⟩=some (.int .u64 (p:Nat))) [0,1,2,3,4,5,6] [7,8] 9 (by kernel_rfl) (by kernel_rfl) (Lj.out _ (Ext.refl _).drew) ?_
 simp only [fX,aC,aI,aD,aJ,aG,aH]
 iterate 7 (refine fI (v:=?_) (by rfl) ?_ ?_;rotate_left;(· (intro u gP;obtain ⟨s0,s1,s2,s3,s4,s5⟩:=gP;go_simp;(try with_reducible rfl)));(try simp only [Act.put,aB,aE,aF]))
 refine fS ?_
 refine dV ?_
 go_wp2_with fail
 (try refine ⟨Lj.out _ (Ext.refl _).drew,?_⟩)
 refine dV ?_
 go_wp2_with (first | (go_at_call 102;refine (HBY.out _).mono ?_;rintro e w8 ⟨rfl,hx⟩;have CJ:=aA ((Ext.refl w7).drew.trans hx);clear hx) | fail)
 refine ⟨Lj.out _ CJ.out,?_⟩
 refine fJ ?_
 go_wp2_with (first | (go_at_call 101;refine (SN.out _ (zP.out.trans CJ.out)).mono ?_;rintro e w9 ⟨rfl,h9,s9⟩;have H9:=aA (And.intro h9 s9);clear h9 s9) | fail)
 refine NoPanic.normal ?_
 have XB:=aA (show dW w9 (lay z w 20) K { r with m:= { r.m with t:= { r.m.t with fV:=r.m.t.fV+p*8192 } },dT:=eY r.dT i (wanted (r.dT i) c p false) }∧eF Rz z w (lay z w 20) w9 from by
  have Di:=zP.out.trans CJ.out
  have AZ:eF Mz (lay z w 20) w8 (lay z w 20) w9:=H9.out.2.mono fun i hi=>by unfold Mz;omega
  exact ⟨(gT.out.1.1.ext Di).DY ((HM.out _ Di).U5 H9.out.1 H9.out.2) AZ,(gT.out.1.2.trans (eF.dX Di Rz _) fun _ h=>h).trans AZ fun i hi=>by unfold Mz at hi;unfold Rz;omega⟩)
 have hT:=XB.out.1.fH (i:=i) (by omega)
 have t2:=hT.c2
 have tl2:=hT.lt
 have f2:=hT.fz 2
 clear hT
 go_wp2_with fail
 go_returns
 obtain ⟨Ck,AZ⟩:=XB.out.1.yV (i:=i) (by omega) 2 (.int .i64 2) { wanted (r.dT i) c p false with step:=2 } (by show (iQ i (eY _ i _ i)).setIfInBounds _ _=_;rw [mC];simp [iQ])
 refine ⟨rfl,_,?_,XB.out.2.trans AZ fun _ h=>h⟩
 simp only [pS] at Ck
 exact Ck
end
end Go.Proofs.YtgknoidliabanaaGreatDoor
