/- TopEvery holds: MBI. -/
import Derived.Recover
import Derived.Test.YtgknoidliabanaaGreatDoorMBH
set_option linter.unusedVariables false
set_option linter.unusedSimpArgs false
set_option linter.unusedSectionVars false
set_option maxRecDepth 20000
set_option maxHeartbeats 8000000
namespace Go.Proofs.YtgknoidliabanaaGreatDoor
open Go.RowKit _root_.Go.Proofs.Tryz
open Lib renaming hid→aA
open Nat renaming lt_of_lt_of_le→aB,le_succ→aO
open And renaming intro→aC
open List renaming setIfInBounds_toArray→aD,set_cons_succ→aE,set_cons_zero→aF,cons_append→aG,getElem?_eq_some_iff→aH,drop_succ_cons→aI,take_succ_cons→aJ,nil_append→aK,drop_zero→aL,take_zero→aM
open NoPanic renaming normal→aN
section
variable {z z':Nat→Nat} {w w':World} {gp go c:Nat} {K:mO} {m:iU}
def iU.BV (m:iU) (h:HS) (g q:Nat):iU:=({ m with fresh:=false } :iU).st4 h g q
theorem PB (Φ:Nat→HS→Prop) (id q:Nat) (h:eE w z K m) (hf:m.fresh=true) (hid:1≤id∧id<1000) (hq:q≤1000)
  (HA:∀w' z',eE w' z' K { m with fresh:=false }→Calls prog 272 #[.pointer (some ⟨K.k.hb,0,none⟩),.int .u64 4,.int .i64 4096] w' fun e w''=>e= .returned (.tuple #[.int .i64 (id:Nat),.int .i64 0])∧∃g h',fQ z' w' K.k h' w''∧Φ g h')
  (HP:∀g h',Φ g h'→kF h' id g (qX q) q 4):
  Calls prog 150 #[.pointer (some ⟨K.qE,0,none⟩),.int .i64 1,.int .u64 4096] w fun e w'=>e= .returned (.tuple #[.int .u64 ((q*8192+3*4096:Nat):Int),.int .i64 0])∧∃g h',Φ g h'∧kG z w K (m.BV h' g q) w':=by
 obtain ⟨gp,go,hs⟩:=(h.DW.2 hf).mid
 have HS:=aA (Ow Φ id q h.f_ rfl hs hid HA HP)
 have HO:=aA fun w' (hx:Ext w w')=>Sf w' (h.tz.eA (eV.dX hx (fun _=>False)) (fun h=>h))
 have hul:(Lit.int .u64 (((q*8192+3*4096:Nat):Int))).wf=true:=tL (by omega)
 have HU:=aA (show ∀w' z' (m':iU),m'.fresh=false→eE w' z' K m'→eH KU w' go [] 0→z' go=13→∃w'',(Instr.mapUpdate 163 (.map (some go)) (.int .u64 ((q*8192+3*4096:Nat):Int)) (.int .u64 4096)).run prog w'= .ok () w''∧eE w'' z' K m'∧eF Mz z' w' z' w'' from fun w' z' m' hfm hm U6 V4=>by
  obtain ⟨w'',h1,h2,h3⟩:=U6.put (x:=q*8192+3*4096) hul (t:=163) underlying163 (.int .u64 4096)
  have s:eF (fun i=>i=13∨i=150) z' w' z' w'':=⟨h3.eA.mono fun i hi=>.inl (by left;rw [hi];exact V4),fun _ _=>rfl⟩
  exact ⟨w'',h1,hm.vO hfm s ⟨(h3.eA.cell hm.DW.1.lt (fun e=>Bq U6 hm.DW.1.c0 e.symm)).trans hm.DW.1.c0,aB hm.DW.1.lt h3.eA.size,hm.DW.1.zb⟩,s.mono fun i hi=>by unfold Mz;omega⟩)
 clear h hs HA HP hul
 generalize hb:q*8192+3*4096=b3 at HS HU ⊢
 go_enter func150,ntmps150
 go_wp2_with (first
  | (go_at_call 212;refine (U4 1 _ (by decide)).mono ?_;rintro e w1 ⟨rfl,rfl⟩)
  | (go_at_call 213;refine (HO.out _ (Ext.refl _)).mono ?_;rintro e w1 ⟨rfl,rfl⟩)
  | (go_at_call 214;refine HS.out.mono ?_;rintro e w2 ⟨rfl,g,h',z2,Hx,mI,⟨co,U6,V4,bl⟩,Es⟩;obtain ⟨w3,hup,Gp,Dm⟩:=HU.out _ _ (({ m with fresh:=false } :iU).st4 h' g q) rfl mI U6 V4;have H3:=aA (aC Hx (aC Gp (Es.trans Dm fun _ h=>h)));clear Hx mI U6 V4 Es Gp Dm)
  | fail)
 go_returns
 exact ⟨rfl,g,h',H3.out.1,z2,H3.out.2.1,H3.out.2.2⟩
end
theorem Lu (p6 p7 p8:Value) (w:World):
  CallsD prog 35 #[p6,p7,p8] .returning w fun e u' w'=>e= .returned (.tuple #[])∧u'= .returning∧w'=w:=by
 refine callsD_of_wpS func35 rfl fun X8 cs hu=>?_
 apply wpS_seq
 apply wpS_region
 generalize hC:Code.block 0 _=C
 simp [wpOpsS,go_sem,recoverD,hu,ntmps35,Exit.thenS]
 have e:(#[p6,p7,p8] ++ (Array.replicate 32 undef).setIfInBounds 3 Value.nilIface)= #[p6,p7,p8,undef,undef,undef,.nilIface,undef,undef,undef,undef,undef,undef,undef,undef,undef,undef,undef,undef,undef,undef,undef,undef,undef,undef,undef,undef,undef,undef,undef,undef,undef,undef,undef,undef]:=by
  apply Array.ext'
  simp only [Array.toList_append,Array.toList_setIfInBounds,Array.toList_replicate,List.replicate_succ,aE,aF,aG,aK,List.replicate]
 rw [e]
 subst hC
 refine wpS_of_wp ?_
 go_wp2_with fail
 refine ⟨rfl,.returning,?_,.tuple #[],by simp [results,results35,go_sem],rfl,rfl,rfl⟩
 cases X8
 simp only at hu
 rw [hu]
def uR (l:List Nat):List Value:=l.map fun i=>.int .i64 (i:Nat)
def wN (f:Nat→Bool) (n:Nat):List Nat:=(List.range n).filter f
theorem Lv (f:Nat→Bool) (n:Nat):wN f (n+1)=if f n then wN f n ++ [n] else wN f n:=by
 unfold wN
 rw [List.range_succ,List.filter_append]
 cases h:f n<;>simp [h]
theorem Dq (f:Nat→Bool) (n:Nat):(wN f n).length≤n:=by
 unfold wN
 exact Nat.le_trans (List.length_filter_le _ _) (by simp)
section
variable {z z':Nat→Nat} {w w':World} {K:jD} {r:iL}
theorem rE (h:dW w z K r) (f:Nat→Bool) (HE:∀i,i<4→∀w',Ext w w'→Calls prog 34 #[.pointer (some ⟨K.rb,0,none⟩),.pointer (some ⟨K.tb i,0,none⟩)] w' fun e w''=>e= .returned (.bool (f i))∧Ext w' w''):
  Calls prog 14 #[.pointer (some ⟨K.rb,0,none⟩)] w fun e w'=>∃v,e= .returned v∧w'.ownsRow w.heap.size 3 1 v (wN f 4).length (uR (wN f 4))∧Ext w w':=by
 obtain ⟨i0,kS,lF,jT,jU⟩:=info_parts vM
 obtain ⟨c0,c1,c2,c3,c6,c7,c8,c9,Mp,hl, -⟩:=h.cells
 have C9:=h.kc
 have trl:=h.tr.lt
 have HH:=aA h
 have HEE:=aA HE
 have HD:=aA fun w' (hx:Ext w w')=>uO (h.ext hx).m
 clear h HE
 go_enter func14,ntmps14
 go_wp2_with fail
 go_loopw [3,11] (fun v u wr=>∃(j:Nat) (a:Value),j≤4∧v=a∧u= .int .i64 j∧Hid (wr.ownsRow w.heap.size 3 1 a (wN f j).length (uR (wN f j)))∧Hid (Ext w wr)) (fun _ u _=>4-(intOf u).toNat)
 case atStart=>exact ⟨0,.slice none 0 0,by omega,rfl,rfl,aA (jQ _ _ _ _),aA (Ext.refl _)⟩
 case round=>
  obtain ⟨j,a,hj,rfl,rfl,HO,HX⟩:=hrel
  obtain ⟨p,cap,ha,Fk,sO, -⟩:=dZ HO.out
  subst ha
  have d2:=(HX.out.cell K.rb 2 hl).trans c2
  have d0:=(HX.out.cell K.rb 0 hl).trans c0
  have dl:=aB hl HX.out.size
  have dtr:=aB trl HX.out.size
  by_cases fK:j<4
  ·have d3:=(HX.out.cell _ _ trl).trans (HH.out.Od fK)
   have T:=(HH.out.ext HX.out).fH fK
   have t0:=T.c0
   have tl:=T.lt
   have hi4:(j:Int)<4:=by omega
   have HD2:=aA (HD.out _ HX.out)
   have G1:=aA (HEE.out j fK _ HX.out)
   have EC:=Dq f j
   cases hf:f j
   ·rw [hf] at G1
    have HN:=aA (show wN f (j+1)=wN f j by rw [Lv,hf];rfl)
    go_wp2_with (first | (go_at_call 21;refine HD2.out.mono ?_;rintro e w1 ⟨rfl,rfl⟩) | (go_at_call 34;refine G1.out.mono ?_;rintro e w1 ⟨rfl,hx⟩;have gX:=aA hx;clear hx) | fail)
    go_roundw
    case rel=>exact ⟨j+1,_,by omega,rfl,by go_num,aA (by rw [HN.out];exact dY HO.out gX.out.below),aA (HX.out.trans gX.out)⟩
    case measure=>simp [intOf];omega
   ·rw [hf] at G1
    have HN:=aA (show uR (wN f (j+1))=uR (wN f j) ++ [.int .i64 (j:Nat)]∧(wN f (j+1)).length=(wN f j).length+1 by rw [Lv,hf];simp [uR])
    go_wp2_with (first | (go_at_call 21;refine HD2.out.mono ?_;rintro e w1 ⟨rfl,rfl⟩) | (go_at_call 34;refine G1.out.mono ?_;rintro e w1 ⟨rfl,hx⟩;have e0:=(hx.cell _ 0 tl).trans t0;have el:=aB tl hx.size;have gX:=aA hx;clear hx) | (at_builtin;refine dS w.heap.size _ rfl (.tmp 26) (.tmp 31) 22 rfl 3 i0 _ 1 8 underlying22 kS lF jT jU rfl (by decide) _ _ _ (by rfl) (by exact dY HO.out ((gX.out.alloc _ _).below)) (.slice (some ⟨w1.heap.size,0,none⟩) 1 1) 1 [.int .i64 (j:Nat)] (by rfl) (by exact jF w1 [.int .i64 (j:Nat)] _ 1 rfl) (by intro u hu;simp at hu;subst hu;rfl) (by unfold maxLen;omega) (by omega) (by have:=HX.out.size;have:=gX.out.size;simp;omega) ?_) | fail)
    intro v' w3 eP gH kP
    have HF:=aA (aC eP (gH.ext (HX.out.trans (gX.out.alloc _ _)) fun i hi=>(eB HO.out i hi).1))
    clear eP gH kP
    go_wp2_with fail
    go_roundw
    case rel=>exact ⟨j+1,v',by omega,rfl,by go_num,aA (by rw [HN.out.1,HN.out.2];exact HF.out.1),aA HF.out.2⟩
    case measure=>simp [intOf];omega
  ·obtain rfl:j=4:=by omega
   go_wp2_with fail
   go_returns
   exact ⟨_,rfl,HO.out,HX.out⟩
end
theorem Lw (p n:Int) (hn:0<n): -n<p.tmod n∧p.tmod n<n∧(p.tmod n+n) % n=p % n:=by
 have h1:=Int.tmod_lt_of_pos p hn
 have h2: -n<p.tmod n:=by
  have h3:=Int.tmod_lt_of_pos (-p) hn
  rw [Int.neg_tmod] at h3
  omega
 refine ⟨h2,h1,?_⟩
 rw [Int.add_emod_right]
 have h4:=Int.mul_tdiv_add_tmod p n
 have h5:p=p.tmod n+n*p.tdiv n:=by omega
 conv=>rhs;rw [h5]
 rw [Int.add_mul_emod_self_left]
def qG:List (gR Int):=AO.mapIdx fun i x=>(x.1,Value.func (.func x.2) #[] #[],i)
theorem Sz (w:World):(zeroValue 109).run prog w= .ok .nilFunc w:=by kernel_rfl
section
variable {z z':Nat→Nat} {w w':World} {K:jD} {r:iL}
theorem dW.steps (h:dW w z K r) {s fN:Nat} (hs:eI qG (s:Int)=some (.func (.func fN) #[] #[])) (Fp:s<100):(Instr.lookup 56 (.map (some K.sg)) (.int .i64 (s:Nat)) false).run prog w= .ok (.func (.func fN) #[] #[]) w:=by
 obtain ⟨c,a⟩:=h.sg
 have:=a.1.look (x:=(s:Int)) (jY (by omega) (by omega)) (t:=56) underlying56 (Sz w)
 rw [show eI (AO.mapIdx fun i x=>(x.1,Value.func (.func x.2) #[] #[],i)) (s:Int)=some (.func (.func fN) #[] #[]) from hs] at this
 exact this
theorem Lx {W w:World} {v:Value} {L:List Nat} {n k i:Nat} (h:w.ownsRow W.heap.size 3 1 v L.length (uR L)) (hn:L.length=n) (hk:L[k]? =some i):
  ∃gl wJ,v= .slice (some ⟨gl,0,none⟩) n wJ∧n≤wJ∧wJ≤maxLen∧W.heap.size≤gl∧gl<w.heap.size∧w.cell? ⟨gl,k,none⟩=some (.int .i64 (i:Nat))∧k<n:=by
 obtain ⟨sN, -⟩:=aH.1 hk
 obtain ⟨pv,VW,rfl,h1,h2,h3 | ⟨gl,rfl,h4,wS⟩⟩:=dZ h
 ·omega
 ·refine ⟨gl,VW,by rw [hn],by omega,h2,h4,wS,?_,by omega⟩
  rw [h.cellAt k (by omega)]
  unfold uR
  rw [List.getElem?_map,hk];rfl
theorem AU:¬Rz 20:=fun h=>h.2 rfl
theorem vP (pick:Int) (f:Nat→Bool) (P:iL→Prop) (n k i s fN:Nat) (h:dW w z K r) (hi:i<2) (hs:(r.dT i).step≠0) (AW:(r.dT i).step=s) (Fp:s<100) (j_:eI qG (s:Int)=some (.func (.func fN) #[] #[])) (hcf:∀args w,(callFunc fN args).run prog w= .ok (.enter fN args) w)
  (HE:∀i,i<4→∀w',Ext w w'→Calls prog 34 #[.pointer (some ⟨K.rb,0,none⟩),.pointer (some ⟨K.tb i,0,none⟩)] w' fun e w''=>e= .returned (.bool (f i))∧Ext w' w'')
  (hn:(wN f 4).length=n) (hp:(pick % (n:Int)).toNat=k) (hk:(wN f 4)[k]? =some i)
  (Ly:∀z' w',dW w' z' K r→eF Rz z w z' w'→Calls prog fN #[.pointer (some ⟨K.rb,0,none⟩),.pointer (some ⟨K.tb i,0,none⟩)] w' fun e w''=>e= .returned (.tuple #[])∧∃r2,gK z' w' K r2 w''∧P r2):
  Calls prog 15 #[.pointer (some ⟨K.rb,0,none⟩),.int .i64 pick] w fun e w'=>e= .returned (.tuple #[.int .i64 (i:Nat),.int .i64 0])∧∃r2,gK z w K r2 w'∧P r2:=by
 have lV:Ext w ((w.alloc (.cells #[.pointer (some ⟨K.rb,0,none⟩)] 23)).alloc (.cells #[.int .i64 0] 3)):=((Ext.refl w).alloc _ _).alloc _ _
 have qJ:((w.alloc (.cells #[.pointer (some ⟨K.rb,0,none⟩)] 23)).alloc (.cells #[.int .i64 0] 3)).heap.size=w.heap.size+1+1:=by simp
 have Zh:=(eG.new w 23 #[.pointer (some ⟨K.rb,0,none⟩)]).alloc (.cells #[.int .i64 0] 3)
 have sR:=eG.new (w.alloc (.cells #[.pointer (some ⟨K.rb,0,none⟩)] 23)) 3 #[.int .i64 0]
 rw [World.size_alloc] at sR
 have PC:=aA (rE (h.ext lV) f fun i hi w' hx=>HE i hi w' (lV.trans hx))
 rw [qJ] at PC
 have sL:=aA (aC Zh (aC sR lV))
 have HD:=aA fun w' (hx:Ext w w')=>uO (h.ext hx).m
 have hnl:=Dq f 4
 rw [hn] at hnl
 have hkn:k<n:=by
  obtain ⟨sN, -⟩:=aH.1 hk
  omega
 obtain ⟨m1,m2,m3⟩:=Lw pick n (by omega)
 have M8:pick % (n:Int)=(k:Int):=by
  have:=Int.emod_nonneg pick (b:=(n:Int)) (by omega)
  omega
 rw [M8] at m3
 have kn:((n:Int)==0)=false:=beq_eq_false_iff_ne.2 (by omega)
 have kn0:n≠0:=by omega
 have m4:IntKind.i64.wrap (pick.tmod (n:Int)+n)=pick.tmod (n:Int)+n:=by rw [IntKind.wrap_i64];omega
 have aMh:(k:Int)<(n:Int):=by omega
 have m5:(pick.tmod (n:Int)+n).tmod (n:Int)=(k:Int):=by rw [Int.tmod_eq_emod_of_nonneg (by omega)];exact m3
 have HH:=aA h
 have JT:=aA Ly
 have Jm:=aA (aC hn (aC hk (aC AW j_)))
 have hmf:∀(fn:Fn) (first cap:Array Value) (w:World),(Instr.makeFunc fn first cap).run prog w= .ok (.func fn first cap) w:=fun _ _ _ _=>rfl
 have c0:=h.cells.c0
 have hl:=h.cells.lt
 have k_:=aA hs
 clear HE Zh sR lV hn hk AW j_ hp M8 Ly hs
 go_enter_defers func15,ntmps15
 go_wp2_with (first
  | (go_at_call 14;refine PC.out.mono ?_;rintro e w3 ⟨v,rfl,Mu,lL⟩;obtain ⟨gl,wJ,rfl,cn1,cn2,cn3,cn4,X9, -⟩:=Lx (W:=(w.alloc (.cells #[.pointer (some ⟨K.rb,0,none⟩)] 23)).alloc (.cells #[.int .i64 0] 3)) (by rw [qJ];exact Mu) Jm.out.1 Jm.out.2.1;have iA:=aA (aC (sL.out.2.2.trans lL) lL);have p0:=(sL.out.1.later lL).cell 0;have q0:=(sL.out.2.1.later lL).cell 0;simp at p0 q0;have p1:=(sL.out.1.later lL).lt;have q1:=(sL.out.2.1.later lL).lt;have d0:=(iA.out.1.cell K.rb 0 hl).trans c0;have dl:=aB hl iA.out.1.size;clear Mu lL)
  | (go_at_call 21;refine (HD.out _ iA.out.1).mono ?_;rintro e w4 ⟨rfl,rfl⟩)
  | fail)
 have d2:=(iA.out.1.cell K.rb 2 hl).trans HH.out.cells.c2
 have dt:=(iA.out.1.cell _ _ HH.out.tr.lt).trans (HH.out.Od (i:=i) (by omega))
 have C9:=HH.out.kc
 have hi4:(i:Int)<4:=by omega
 refine eN (fun w'=>w'.cell? ⟨w.heap.size,0,none⟩=some (.pointer (some ⟨K.rb,0,none⟩))∧w'.cell? ⟨K.rb,2,none⟩=some (.slice (some ⟨K.tr,0,none⟩) 4 K.tc)∧w'.cell? ⟨gl,k,none⟩=some (.int .i64 (i:Nat))∧w'.cell? ⟨K.tr,i,none⟩=some (.pointer (some ⟨K.tb i,0,none⟩))) [0,1,2,3,4,5,6,7,8,9,10,11,12,13,14,15,16,17,18] [19] 20 (by kernel_rfl) (by kernel_rfl) ⟨p0,d2,X9,dt⟩ ?_
 simp only [fX,aI,aL,aJ,aM,aG,aK]
 iterate 19 (refine fI (v:=?_) (by rfl) ?_ ?_;rotate_left;(· (intro u gP;obtain ⟨s0,s1,s2,s3⟩:=gP;go_simp;(try with_reducible rfl)));(try simp only [Act.put,aD,aF,aE]))
 refine fS ?_
 refine dV ?_
 go_wp2_with fail
 have Cg:=aA (show ∀w',Ext w3 w'→w'.cell? ⟨w.heap.size,0,none⟩=some (.pointer (some ⟨K.rb,0,none⟩))∧w'.cell? ⟨K.rb,2,none⟩=some (.slice (some ⟨K.tr,0,none⟩) 4 K.tc)∧w'.cell? ⟨gl,k,none⟩=some (.int .i64 (i:Nat))∧w'.cell? ⟨K.tr,i,none⟩=some (.pointer (some ⟨K.tb i,0,none⟩)) from fun w' hx=>
  ⟨(hx.cell _ _ p1).trans p0,(hx.cell _ _ dl).trans d2,(hx.cell _ _ cn4).trans X9,(hx.cell _ _ (aB HH.out.tr.lt iA.out.1.size)).trans dt⟩)
 refine ⟨Cg.out _ ((Ext.refl w3).alloc _ _).drew,?_⟩
 refine fJ ?_
 go_wp2_with fail
 refine aN ?_
 have XA:=aA (show Ext w3 (w3.alloc (.cells #[.pointer (some ⟨K.tb i,0,none⟩)] 82)).drew∧eG (w3.alloc (.cells #[.pointer (some ⟨K.tb i,0,none⟩)] 82)).drew w3.heap.size 82 #[.pointer (some ⟨K.tb i,0,none⟩)] from ⟨((Ext.refl w3).alloc _ _).drew,(eG.new w3 _ _).drew⟩)
 generalize (w3.alloc (.cells #[.pointer (some ⟨K.tb i,0,none⟩)] 82)).drew=w4 at XA ⊢
 have Qm:=iA.out.1.trans XA.out.1
 have gT:=aA (show dW w4 (lay z w 20) K r∧eF Rz z w (lay z w 20) w4 from ⟨HH.out.eC (eF.fL Qm (fun _=>False) z 20) (fun _ _ h=>h) (fun h=>h),eF.fL Qm Rz z 20⟩)
 have wW:=aA (show eG w4 w.heap.size 23 #[.pointer (some ⟨K.rb,0,none⟩)]∧eG w4 (w.heap.size+1) 3 #[.int .i64 0]∧eG w4 w3.heap.size 82 #[.pointer (some ⟨K.tb i,0,none⟩)]∧lay z w 20 w.heap.size=20∧lay z w 20 (w.heap.size+1)=20∧lay z w 20 w3.heap.size=20 from
  ⟨(sL.out.1.later iA.out.2).later XA.out.1,(sL.out.2.1.later iA.out.2).later XA.out.1,XA.out.2,eQ (Nat.le_refl _),eQ (aO _),eQ iA.out.1.size⟩)
 have T:=gT.out.1.fH (i:=i) (by omega)
 have t2:=T.c2
 have tl:=T.lt
 have r0:w4.cell? ⟨w.heap.size,0,none⟩=some (.pointer (some ⟨K.rb,0,none⟩)):=wW.out.1.cell 0
 have r1:w4.cell? ⟨w3.heap.size,0,none⟩=some (.pointer (some ⟨K.tb i,0,none⟩)):=wW.out.2.2.1.cell 0
 have rl0:=wW.out.1.lt
 have rl1:=wW.out.2.2.1.lt
 clear p0 q0 p1 q1 d0 d2 dt dl cn1 cn2 cn3 cn4 X9 T Qm
 have e0:(((r.dT i).step:Int)==0)=false:=beq_eq_false_iff_ne.2 (by have:=k_.out;omega)
 go_wp2_with fail
 have d9:=gT.out.1.cells.Mp
 rw [Jm.out.2.2.1] at t2
 have DM:=gT.out.1.steps Jm.out.2.2.2 Fp
 refine eN (fun w'=>w'.cell? ⟨w.heap.size,0,none⟩=some (.pointer (some ⟨K.rb,0,none⟩))∧w'.cell? ⟨w3.heap.size,0,none⟩=some (.pointer (some ⟨K.tb i,0,none⟩))∧w'.cell? ⟨K.rb,10,none⟩=some (.map (some K.sg))∧w'.cell? ⟨K.tb i,2,none⟩=some (.int .i64 (s:Nat))∧(Instr.lookup 56 (.map (some K.sg)) (.int .i64 (s:Nat)) false).run prog w'= .ok (.func (.func fN) #[] #[]) w') [0,1,2,3,4,5,6,7,8,9,10] [] 11 (by kernel_rfl) (by kernel_rfl) ⟨r0,r1,d9,t2,gT.out.1.ext (Ext.refl _).drew |>.steps Jm.out.2.2.2 Fp⟩ ?_
 simp only [fX,aI,aL,aJ,aM,aG,aK]
 iterate 11 (refine fI (v:=?_) (by rfl) ?_ ?_;rotate_left;(· (intro u gP;obtain ⟨s0,s1,s2,s3,s4⟩:=gP;go_simp;(try with_reducible rfl)));(try simp only [Act.put,aD,aF,aE]))
 refine fS ?_
 refine fJ ?_
 go_wp2_with fail
 refine (JT.out (lay z w 20) w4.drew (gT.out.1.ext (Ext.refl _).drew) ⟨gT.out.2.eA.drew,gT.out.2.zn⟩).mono ?_
 rintro e w6 ⟨rfl,r2,⟨z6,h6,s6⟩,hP⟩
 have b0:=wW.out.1.drew.eA s6.eA (by rw [wW.out.2.2.2.1];exact AU)
 have b1:=wW.out.2.1.drew.eA s6.eA (by rw [wW.out.2.2.2.2.1];exact AU)
 have b2:=wW.out.2.2.1.drew.eA s6.eA (by rw [wW.out.2.2.2.2.2];exact AU)
 have y1:w6.cell? ⟨w.heap.size+1,0,none⟩=some (.int .i64 0):=b1.cell 0
 have y2:w6.cell? ⟨w3.heap.size,0,none⟩=some (.pointer (some ⟨K.tb i,0,none⟩)):=b2.cell 0
 have yf:=b1.frozen 0
 have yl1:=b1.lt
 have yl2:=b2.lt
 have T6:=h6.fH (i:=i) (by omega)
 have y3:=T6.c0
 have yl3:=T6.lt
 have HF:=aA (show gK z w K r2 (w6.setCell ⟨w.heap.size+1,0,none⟩ (.int .i64 (i:Nat)))∧P r2 from by
  have sx:eF (fun j=>j=20) z6 w6 z6 (w6.setCell ⟨w.heap.size+1,0,none⟩ (.int .i64 (i:Nat))):=
   ⟨((eV.refl (fun j=>j=w.heap.size+1) _).setCell (p:=⟨w.heap.size+1,0,none⟩) (.inl rfl) _).mono fun j hj=>.inl (by rw [hj,s6.zn _ wW.out.2.1.drew.lt];exact wW.out.2.2.2.2.1),fun _ _=>rfl⟩
  have s7:eF Rz z w z6 w6:=(show eF Rz z w (lay z w 20) w4.drew from ⟨gT.out.2.eA.drew,gT.out.2.zn⟩).trans s6 fun _ h=>h
  exact ⟨⟨z6,h6.eC sx (fun i hi e=>AU (e▸hi)) (by omega),⟨s7.eA.setCell (p:=⟨w.heap.size+1,0,none⟩) (.inr (aO _)) _,s7.zn⟩⟩,hP⟩)
 clear T6 b0 b1 b2 h6 s6 hP
 go_wp2_with fail
 refine aN ?_
 go_wp2_with fail
 refine leaves_cons (f:=35) (args:= #[.pointer (some ⟨w3.heap.size,0,none⟩),.pointer (some ⟨w.heap.size+1,0,none⟩),.pointer (some ⟨w.heap.size,0,none⟩)]) (by simp) (by simp [go_sem]) ?_
 refine (Lu _ _ _ _).mono ?_
 rintro e u' w'' ⟨rfl,rfl,rfl⟩
 exact ⟨.tuple #[.int .i64 i,.int .i64 0],by simp [results,results15,go_sem,fP y1],rfl,r2,HF.out.1,HF.out.2⟩
theorem CI (pick:Int) (f:Nat→Bool) (P:iL→Prop) (n k i s fN:Nat) (ak:Nat) (l:List Int) (h:dW w z K r) (hi:i<2) (hs:(r.dT i).step=0) (hq:r.q i=(ak:Int)::l) (LF:ak<r.asks.length) (ho:Oe r.asks[ak].op) (AW:((begun r i ak l).dT i).step=s) (Fp:s<100) (j_:eI qG (s:Int)=some (.func (.func fN) #[] #[])) (hcf:∀args w,(callFunc fN args).run prog w= .ok (.enter fN args) w)
  (HE:∀i,i<4→∀w',Ext w w'→Calls prog 34 #[.pointer (some ⟨K.rb,0,none⟩),.pointer (some ⟨K.tb i,0,none⟩)] w' fun e w''=>e= .returned (.bool (f i))∧Ext w' w'')
  (hn:(wN f 4).length=n) (hp:(pick % (n:Int)).toNat=k) (hk:(wN f 4)[k]? =some i)
  (Ly:∀z' w',dW w' z' K (begun r i ak l)→eF Rz z w z' w'→Calls prog fN #[.pointer (some ⟨K.rb,0,none⟩),.pointer (some ⟨K.tb i,0,none⟩)] w' fun e w''=>e= .returned (.tuple #[])∧∃r2,gK z' w' K r2 w''∧P r2):
  Calls prog 15 #[.pointer (some ⟨K.rb,0,none⟩),.int .i64 pick] w fun e w'=>e= .returned (.tuple #[.int .i64 (i:Nat),.int .i64 0])∧∃r2,gK z w K r2 w'∧P r2:=by
 have lV:Ext w ((w.alloc (.cells #[.pointer (some ⟨K.rb,0,none⟩)] 23)).alloc (.cells #[.int .i64 0] 3)):=((Ext.refl w).alloc _ _).alloc _ _
 have qJ:((w.alloc (.cells #[.pointer (some ⟨K.rb,0,none⟩)] 23)).alloc (.cells #[.int .i64 0] 3)).heap.size=w.heap.size+1+1:=by simp
 have Zh:=(eG.new w 23 #[.pointer (some ⟨K.rb,0,none⟩)]).alloc (.cells #[.int .i64 0] 3)
 have sR:=eG.new (w.alloc (.cells #[.pointer (some ⟨K.rb,0,none⟩)] 23)) 3 #[.int .i64 0]
 rw [World.size_alloc] at sR
 have PC:=aA (rE (h.ext lV) f fun i hi w' hx=>HE i hi w' (lV.trans hx))
 rw [qJ] at PC
 have sL:=aA (aC Zh (aC sR lV))
 have HD:=aA fun w' (hx:Ext w w')=>uO (h.ext hx).m
 have hnl:=Dq f 4
 rw [hn] at hnl
 have hkn:k<n:=by
  obtain ⟨sN, -⟩:=aH.1 hk
  omega
 obtain ⟨m1,m2,m3⟩:=Lw pick n (by omega)
 have M8:pick % (n:Int)=(k:Int):=by
  have:=Int.emod_nonneg pick (b:=(n:Int)) (by omega)
  omega
 rw [M8] at m3
 have kn:((n:Int)==0)=false:=beq_eq_false_iff_ne.2 (by omega)
 have kn0:n≠0:=by omega
 have m4:IntKind.i64.wrap (pick.tmod (n:Int)+n)=pick.tmod (n:Int)+n:=by rw [IntKind.wrap_i64];omega
 have aMh:(k:Int)<(n:Int):=by omega
 have m5:(pick.tmod (n:Int)+n).tmod (n:Int)=(k:Int):=by rw [Int.tmod_eq_emod_of_nonneg (by omega)];exact m3
 have HH:=aA h
 have JT:=aA Ly
 have Jm:=aA (aC hn (aC hk (aC AW j_)))
 have hmf:∀(fn:Fn) (first cap:Array Value) (w:World),(Instr.makeFunc fn first cap).run prog w= .ok (.func fn first cap) w:=fun _ _ _ _=>rfl
 have c0:=h.cells.c0
 have hl:=h.cells.lt
 have k_:=aA (aC hs (aC hq ho))
 clear HE Zh sR lV hn hk AW j_ hp M8 Ly hs hq ho
 go_enter_defers func15,ntmps15
 go_wp2_with (first
  | (go_at_call 14;refine PC.out.mono ?_;rintro e w3 ⟨v,rfl,Mu,lL⟩;obtain ⟨gl,wJ,rfl,cn1,cn2,cn3,cn4,X9, -⟩:=Lx (W:=(w.alloc (.cells #[.pointer (some ⟨K.rb,0,none⟩)] 23)).alloc (.cells #[.int .i64 0] 3)) (by rw [qJ];exact Mu) Jm.out.1 Jm.out.2.1;have iA:=aA (aC (sL.out.2.2.trans lL) lL);have p0:=(sL.out.1.later lL).cell 0;have q0:=(sL.out.2.1.later lL).cell 0;simp at p0 q0;have p1:=(sL.out.1.later lL).lt;have q1:=(sL.out.2.1.later lL).lt;have d0:=(iA.out.1.cell K.rb 0 hl).trans c0;have dl:=aB hl iA.out.1.size;clear Mu lL)
  | (go_at_call 21;refine (HD.out _ iA.out.1).mono ?_;rintro e w4 ⟨rfl,rfl⟩)
  | fail)
 have d2:=(iA.out.1.cell K.rb 2 hl).trans HH.out.cells.c2
 have dt:=(iA.out.1.cell _ _ HH.out.tr.lt).trans (HH.out.Od (i:=i) (by omega))
 have C9:=HH.out.kc
 have hi4:(i:Int)<4:=by omega
 refine eN (fun w'=>w'.cell? ⟨w.heap.size,0,none⟩=some (.pointer (some ⟨K.rb,0,none⟩))∧w'.cell? ⟨K.rb,2,none⟩=some (.slice (some ⟨K.tr,0,none⟩) 4 K.tc)∧w'.cell? ⟨gl,k,none⟩=some (.int .i64 (i:Nat))∧w'.cell? ⟨K.tr,i,none⟩=some (.pointer (some ⟨K.tb i,0,none⟩))) [0,1,2,3,4,5,6,7,8,9,10,11,12,13,14,15,16,17,18] [19] 20 (by kernel_rfl) (by kernel_rfl) ⟨p0,d2,X9,dt⟩ ?_
 simp only [fX,aI,aL,aJ,aM,aG,aK]
 iterate 19 (refine fI (v:=?_) (by rfl) ?_ ?_;rotate_left;(· (intro u gP;obtain ⟨s0,s1,s2,s3⟩:=gP;go_simp;(try with_reducible rfl)));(try simp only [Act.put,aD,aF,aE]))
 refine fS ?_
 refine dV ?_
 go_wp2_with fail
 have Cg:=aA (show ∀w',Ext w3 w'→w'.cell? ⟨w.heap.size,0,none⟩=some (.pointer (some ⟨K.rb,0,none⟩))∧w'.cell? ⟨K.rb,2,none⟩=some (.slice (some ⟨K.tr,0,none⟩) 4 K.tc)∧w'.cell? ⟨gl,k,none⟩=some (.int .i64 (i:Nat))∧w'.cell? ⟨K.tr,i,none⟩=some (.pointer (some ⟨K.tb i,0,none⟩)) from fun w' hx=>
  ⟨(hx.cell _ _ p1).trans p0,(hx.cell _ _ dl).trans d2,(hx.cell _ _ cn4).trans X9,(hx.cell _ _ (aB HH.out.tr.lt iA.out.1.size)).trans dt⟩)
 refine ⟨Cg.out _ ((Ext.refl w3).alloc _ _).drew,?_⟩
 refine fJ ?_
 go_wp2_with fail
 refine aN ?_
 have XA:=aA (show Ext w3 (w3.alloc (.cells #[.pointer (some ⟨K.tb i,0,none⟩)] 82)).drew∧eG (w3.alloc (.cells #[.pointer (some ⟨K.tb i,0,none⟩)] 82)).drew w3.heap.size 82 #[.pointer (some ⟨K.tb i,0,none⟩)] from ⟨((Ext.refl w3).alloc _ _).drew,(eG.new w3 _ _).drew⟩)
 generalize (w3.alloc (.cells #[.pointer (some ⟨K.tb i,0,none⟩)] 82)).drew=w4 at XA ⊢
 have Qm:=iA.out.1.trans XA.out.1
 have gT:=aA (show dW w4 (lay z w 20) K r∧eF Rz z w (lay z w 20) w4 from ⟨HH.out.eC (eF.fL Qm (fun _=>False) z 20) (fun _ _ h=>h) (fun h=>h),eF.fL Qm Rz z 20⟩)
 have wW:=aA (show eG w4 w.heap.size 23 #[.pointer (some ⟨K.rb,0,none⟩)]∧eG w4 (w.heap.size+1) 3 #[.int .i64 0]∧eG w4 w3.heap.size 82 #[.pointer (some ⟨K.tb i,0,none⟩)]∧lay z w 20 w.heap.size=20∧lay z w 20 (w.heap.size+1)=20∧lay z w 20 w3.heap.size=20 from
  ⟨(sL.out.1.later iA.out.2).later XA.out.1,(sL.out.2.1.later iA.out.2).later XA.out.1,XA.out.2,eQ (Nat.le_refl _),eQ (aO _),eQ iA.out.1.size⟩)
 have T:=gT.out.1.fH (i:=i) (by omega)
 have t2:=T.c2
 have tl:=T.lt
 have r0:w4.cell? ⟨w.heap.size,0,none⟩=some (.pointer (some ⟨K.rb,0,none⟩)):=wW.out.1.cell 0
 have r1:w4.cell? ⟨w3.heap.size,0,none⟩=some (.pointer (some ⟨K.tb i,0,none⟩)):=wW.out.2.2.1.cell 0
 have rl0:=wW.out.1.lt
 have rl1:=wW.out.2.2.1.lt
 clear p0 q0 p1 q1 d0 d2 dt dl cn1 cn2 cn3 cn4 X9 T Qm
 have e0:(((r.dT i).step:Int)==0)=true:=by rw [beq_iff_eq];have:=k_.out.1;omega
 have HBN:=aA (Sq i ak l hi gT.out.1 k_.out.2.1 LF k_.out.2.2)
 go_wp2_with (first | (go_at_call 38;refine HBN.out.mono ?_;rintro e w5 ⟨rfl,z5,h5,s5⟩) | fail)
 have Qr:=aA (show eG w5 w.heap.size 23 #[.pointer (some ⟨K.rb,0,none⟩)]∧eG w5 (w.heap.size+1) 3 #[.int .i64 0]∧eG w5 w3.heap.size 82 #[.pointer (some ⟨K.tb i,0,none⟩)]∧z5 w.heap.size=20∧z5 (w.heap.size+1)=20∧z5 w3.heap.size=20 from
  ⟨wW.out.1.eA s5.eA (by rw [wW.out.2.2.2.1];exact AU),wW.out.2.1.eA s5.eA (by rw [wW.out.2.2.2.2.1];exact AU),wW.out.2.2.1.eA s5.eA (by rw [wW.out.2.2.2.2.2];exact AU),(s5.zn _ wW.out.1.lt).trans wW.out.2.2.2.1,(s5.zn _ wW.out.2.1.lt).trans wW.out.2.2.2.2.1,(s5.zn _ wW.out.2.2.1.lt).trans wW.out.2.2.2.2.2⟩)
 have wE:=aA (show dW w5 z5 K (begun r i ak l)∧eF Rz z w z5 w5 from ⟨h5,gT.out.2.trans s5 fun _ h=>h⟩)
 clear h5 s5 t2 tl r0 r1 rl0 rl1
 have T:=wE.out.1.fH (i:=i) (by omega)
 have t2:=T.c2
 have tl:=T.lt
 have r0:w5.cell? ⟨w.heap.size,0,none⟩=some (.pointer (some ⟨K.rb,0,none⟩)):=Qr.out.1.cell 0
 have r1:w5.cell? ⟨w3.heap.size,0,none⟩=some (.pointer (some ⟨K.tb i,0,none⟩)):=Qr.out.2.2.1.cell 0
 have rl0:=Qr.out.1.lt
 have rl1:=Qr.out.2.2.1.lt
 clear T
 go_wp2_with fail
 have d9:=wE.out.1.cells.Mp
 rw [Jm.out.2.2.1] at t2
 have DM:=wE.out.1.steps Jm.out.2.2.2 Fp
 refine eN (fun w'=>w'.cell? ⟨w.heap.size,0,none⟩=some (.pointer (some ⟨K.rb,0,none⟩))∧w'.cell? ⟨w3.heap.size,0,none⟩=some (.pointer (some ⟨K.tb i,0,none⟩))∧w'.cell? ⟨K.rb,10,none⟩=some (.map (some K.sg))∧w'.cell? ⟨K.tb i,2,none⟩=some (.int .i64 (s:Nat))∧(Instr.lookup 56 (.map (some K.sg)) (.int .i64 (s:Nat)) false).run prog w'= .ok (.func (.func fN) #[] #[]) w') [0,1,2,3,4,5,6,7,8,9,10] [] 11 (by kernel_rfl) (by kernel_rfl) ⟨r0,r1,d9,t2,wE.out.1.ext (Ext.refl _).drew |>.steps Jm.out.2.2.2 Fp⟩ ?_
 simp only [fX,aI,aL,aJ,aM,aG,aK]
 iterate 11 (refine fI (v:=?_) (by rfl) ?_ ?_;rotate_left;(· (intro u gP;obtain ⟨s0,s1,s2,s3,s4⟩:=gP;go_simp;(try with_reducible rfl)));(try simp only [Act.put,aD,aF,aE]))
 refine fS ?_
 refine fJ ?_
 go_wp2_with fail
 refine (JT.out z5 w5.drew (wE.out.1.ext (Ext.refl _).drew) ⟨wE.out.2.eA.drew,wE.out.2.zn⟩).mono ?_
 rintro e w6 ⟨rfl,r2,⟨z6,h6,s6⟩,hP⟩
 have b0:=Qr.out.1.drew.eA s6.eA (by rw [Qr.out.2.2.2.1];exact AU)
 have b1:=Qr.out.2.1.drew.eA s6.eA (by rw [Qr.out.2.2.2.2.1];exact AU)
 have b2:=Qr.out.2.2.1.drew.eA s6.eA (by rw [Qr.out.2.2.2.2.2];exact AU)
 have y1:w6.cell? ⟨w.heap.size+1,0,none⟩=some (.int .i64 0):=b1.cell 0
 have y2:w6.cell? ⟨w3.heap.size,0,none⟩=some (.pointer (some ⟨K.tb i,0,none⟩)):=b2.cell 0
 have yf:=b1.frozen 0
 have yl1:=b1.lt
 have yl2:=b2.lt
 have T6:=h6.fH (i:=i) (by omega)
 have y3:=T6.c0
 have yl3:=T6.lt
 have HF:=aA (show gK z w K r2 (w6.setCell ⟨w.heap.size+1,0,none⟩ (.int .i64 (i:Nat)))∧P r2 from by
  have sx:eF (fun j=>j=20) z6 w6 z6 (w6.setCell ⟨w.heap.size+1,0,none⟩ (.int .i64 (i:Nat))):=
   ⟨((eV.refl (fun j=>j=w.heap.size+1) _).setCell (p:=⟨w.heap.size+1,0,none⟩) (.inl rfl) _).mono fun j hj=>.inl (by rw [hj,s6.zn _ Qr.out.2.1.drew.lt];exact Qr.out.2.2.2.2.1),fun _ _=>rfl⟩
  have s7:eF Rz z w z6 w6:=(show eF Rz z w z5 w5.drew from ⟨wE.out.2.eA.drew,wE.out.2.zn⟩).trans s6 fun _ h=>h
  exact ⟨⟨z6,h6.eC sx (fun i hi e=>AU (e▸hi)) (by omega),⟨s7.eA.setCell (p:=⟨w.heap.size+1,0,none⟩) (.inr (aO _)) _,s7.zn⟩⟩,hP⟩)
 clear T6 b0 b1 b2 h6 s6 hP
 go_wp2_with fail
 refine aN ?_
 go_wp2_with fail
 refine leaves_cons (f:=35) (args:= #[.pointer (some ⟨w3.heap.size,0,none⟩),.pointer (some ⟨w.heap.size+1,0,none⟩),.pointer (some ⟨w.heap.size,0,none⟩)]) (by simp) (by simp [go_sem]) ?_
 refine (Lu _ _ _ _).mono ?_
 rintro e u' w'' ⟨rfl,rfl,rfl⟩
 exact ⟨.tuple #[.int .i64 i,.int .i64 0],by simp [results,results15,go_sem,fP y1],rfl,r2,HF.out.1,HF.out.2⟩
end
end Go.Proofs.YtgknoidliabanaaGreatDoor
