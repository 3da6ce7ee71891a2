/- TopEvery holds: MBD. -/
import Derived.Test.YtgknoidliabanaaGreatDoorMBC
set_option linter.unusedVariables false
set_option linter.unusedSimpArgs false
set_option linter.unusedSectionVars false
set_option maxRecDepth 20000
set_option maxHeartbeats 8000000
namespace Go.Proofs.YtgknoidliabanaaGreatDoor
open Go.RowKit _root_.Go.Proofs.Tryz
open Lib renaming hid→aA
open List renaming setIfInBounds_toArray→aB,drop_succ_cons→aC,take_succ_cons→aD,set_cons_zero→aE,set_cons_succ→aF,cons_append→aJ,nil_append→aK,drop_zero→aL,take_zero→aM,length_set→aN
open Nat renaming lt_of_lt_of_le→aG
open Value renaming pointer→aH,slice→aO
open And renaming intro→aI
def oR (a:Sl) (ra rn rc:Nat):Sl:= { a with ra:=ra,rn:=rn,rc:=rc,done:=true }
section
variable {S:Nat→Prop} {z z':Nat→Nat} {w w':World} {K:jD} {r:iL}
theorem dW.aL4 {k:Nat} {x:Sl} (h1:dW w z K r) (hk:k<r.asks.length) (hb:x.b=r.asks[k].b) (h2:eG w' x.b 91 (FC x)) (s:eF (fun j=>j=30+k) z w z' w'):dW w' z' K { r with asks:=r.asks.set k x } :=by
 have hf:=h1.tT
 refine ⟨h1.m.eC s (fun i hm=>by unfold Mz at hm;omega) (by omega),?_,h1.tr.eC s (by omega),fun j hj=>?_,?_,fun j hj=>?_,by simpa using hf,?_,h1.kc⟩
 ·obtain ⟨⟨av,ov,on,Jp,a1,a2,a3,a4,a5,a6⟩,hz⟩:=h1.rc.eC s (by omega) (by omega) (by omega)
  refine ⟨⟨av,ov,on,Jp,a1,?_,a3,a4,a5,a6⟩,hz⟩
  have:(r.asks.set k x).map (fun a=>aH (some ⟨a.b,0,none⟩))=r.asks.map fun a=>.pointer (some ⟨a.b,0,none⟩):=by
   rw [List.map_set,hb]
   have hl:k<(r.asks.map fun a=>aH (some ⟨a.b,0,none⟩)).length:=by simpa using hk
   have e:aH (some ⟨r.asks[k].b,0,none⟩)=(r.asks.map fun a=>aH (some ⟨a.b,0,none⟩))[k]:=by simp
   rw [e,List.set_getElem_self]
  show w'.ownsRow 0 _ 1 av (r.asks.set k x).length ((r.asks.set k x).map _)
  rw [this,aN]
  exact a2
 ·obtain ⟨a,b⟩:=h1.tk j hj
  exact ⟨a.eA s.eA (by rw [b];omega),(s.zn _ a.lt).trans b⟩
 ·obtain ⟨qv,a,b⟩:=h1.qr
  exact ⟨qv,a.eC s (by omega),fun p hp=>(b p hp).eC s (by omega)⟩
 ·change j<(r.asks.set k x).length at hj
  rw [aN] at hj
  obtain ⟨a,b⟩:=h1.ak j hj
  show eG w' (r.asks.set k x)[j].b _ (FC (r.asks.set k x)[j])∧z' (r.asks.set k x)[j].b=30+j
  by_cases e:k=j
  ·subst e
   simp only [List.getElem_set_self]
   refine ⟨h2,?_⟩
   rw [hb]
   exact (s.zn _ a.lt).trans b
  ·rw [List.getElem_set_ne e]
   exact ⟨a.eA s.eA (by rw [b];omega),(s.zn _ a.lt).trans b⟩
 ·obtain ⟨c,a⟩:=h1.sg
  exact ⟨c,a.eC s (by omega)⟩
theorem dW.rc_ {hd wd:Int} {no:Nat} (h1:dW w z K r) (h2:Ob w' z' K { r with fM:=hd,world:=wd,no:=no }) (s:eF (fun k=>k=16∨k=23) z w z' w'):dW w' z' K { r with fM:=hd,world:=wd,no:=no } :=by
 refine ⟨h1.m.eC s (fun k hm=>by unfold Mz at hm;omega) (by omega),h2,h1.tr.eC s (by omega),fun j hj=>?_,?_,fun j hj=>?_,h1.tT,?_,h1.kc⟩
 ·obtain ⟨a,b⟩:=h1.tk j hj
  exact ⟨a.eA s.eA (by rw [b];omega),(s.zn _ a.lt).trans b⟩
 ·obtain ⟨qv,a,b⟩:=h1.qr
  exact ⟨qv,a.eC s (by omega),fun p hp=>(b p hp).eC s (by omega)⟩
 ·obtain ⟨a,b⟩:=h1.ak j hj
  have:=h1.tT
  change j<r.asks.length at hj
  exact ⟨a.eA s.eA (by rw [b];omega),(s.zn _ a.lt).trans b⟩
 ·obtain ⟨c,a⟩:=h1.sg
  exact ⟨c,a.eC s (by omega)⟩
def Oi (w:World) (ab ra rn rc nq:Nat):World:=(((((w.alloc (.cells #[.int .u64 (ra:Nat),.int .u64 (rn:Nat),.int .i64 (rc:Nat)] 41)).drewN nq).setCell ⟨ab,10,none⟩ (.int .u64 (ra:Nat))).setCell ⟨ab,11,none⟩ (.int .u64 (rn:Nat))).setCell ⟨ab,12,none⟩ (.int .i64 (rc:Nat))).setCell ⟨ab,13,none⟩ (.bool true)
theorem dW.Dg (h:dW w z K r) {k:Nat} (hk:k<r.asks.length) (ra rn rc nq:Nat):
  dW (Oi w r.asks[k].b ra rn rc nq) z K { r with asks:=r.asks.set k (oR r.asks[k] ra rn rc) }∧eF Rz z w z (Oi w r.asks[k].b ra rn rc nq):=by
 obtain ⟨a,b⟩:=h.ak k hk
 have hf:=h.tT
 have hx:Ext w ((w.alloc (.cells #[.int .u64 (ra:Nat),.int .u64 (rn:Nat),.int .i64 (rc:Nat)] 41)).drewN nq):=((Ext.refl w).alloc _ _).eZ _
 have h2:=h.ext hx
 obtain ⟨a2, -⟩:=h2.ak k hk
 have hB:=(((a2.gG 10 (.int .u64 (ra:Nat))).gG 11 (.int .u64 (rn:Nat))).gG 12 (.int .i64 (rc:Nat))).gG 13 (.bool true)
 have hc:eV (fun j=>j=r.asks[k].b) ((w.alloc (.cells #[.int .u64 (ra:Nat),.int .u64 (rn:Nat),.int .i64 (rc:Nat)] 41)).drewN nq) (Oi w r.asks[k].b ra rn rc nq):=
  by
   unfold Oi
   exact ((((eV.refl (fun j=>j=r.asks[k].b) _).setCell (p:=⟨r.asks[k].b,10,none⟩) (.inl rfl) _).setCell (p:=⟨r.asks[k].b,11,none⟩) (.inl rfl) _).setCell (p:=⟨r.asks[k].b,12,none⟩) (.inl rfl) _).setCell (p:=⟨r.asks[k].b,13,none⟩) (.inl rfl) _
 have s:eF (fun j=>j=30+k) z ((w.alloc (.cells #[.int .u64 (ra:Nat),.int .u64 (rn:Nat),.int .i64 (rc:Nat)] 41)).drewN nq) z (Oi w r.asks[k].b ra rn rc nq):=⟨hc.mono fun j hj=>.inl (by rw [hj];exact b),fun _ _=>rfl⟩
 refine ⟨h2.aL4 hk rfl ?_ s,(eF.dX hx Rz z).trans s fun j hj=>by unfold Rz;omega⟩
 unfold Oi
 simpa [FC,oR] using hB
def fY (r:iL) (i k ra rn rc:Nat):iL:= { r with asks:=r.asks.set k (oR (eJ r k) ra rn rc),dT:=eY r.dT i { r.dT i with step:=0 },no:=r.no+1 }
theorem dW.ordered (h:dW w z K r) {i:Nat} (hi:i<4) {av ov v9:Value} {on on9:Nat} {Jp F4:List Value} {w8:World}
  (HO:w.ownsRow 0 3 1 ov on Jp∧w.ownsRow 0 89 1 av r.asks.length (r.asks.map fun a=>.pointer (some ⟨a.b,0,none⟩))∧eG w K.rb 58 (JQ K r av ov)) (HZ:(∀g,av.ownBlock=some g→z g=22)∧(∀g,ov.ownBlock=some g→z g=23)∧z K.rb=16)
  (hc:eV (fun j=>ov.ownBlock=some j) w w8) (eP:w8.ownsRow 0 3 1 v9 on9 F4) (kP:v9.ownBlock=ov.ownBlock∨∃g,v9.ownBlock=some g∧w.heap.size≤g) (tY:on9≤r.no+1):
  gK z w K { r with dT:=eY r.dT i { r.dT i with step:=0 },no:=r.no+1 } ((w8.setCell ⟨K.rb,5,none⟩ v9).setCell ⟨K.tb i,2,none⟩ (.int .i64 0)):=by
 obtain ⟨a3,a2,a1⟩:=HO
 obtain ⟨b1,b2,b3⟩:=HZ
 have hl:=a1.lt
 have wL:eV (fun j=>j=K.rb∨ov.ownBlock=some j) w (w8.setCell ⟨K.rb,5,none⟩ v9):=(hc.mono fun i hi=>.inl (.inr hi)).setCell (p:=⟨K.rb,5,none⟩) (.inl (.inl rfl)) _
 have s1:eF (fun j=>j=16∨j=23) z w (lay z w 23) (w8.setCell ⟨K.rb,5,none⟩ v9):=eF.oI wL (fun j hj=>by
  rcases hj with rfl | hj
  ·exact .inl b3
  ·exact .inr (b2 j hj)) 23
 have gO:v9.ownBlock≠some K.rb:=fun e=>by
  rcases kP with h9 | ⟨g,h9,Ck⟩
  ·have:=b2 K.rb (h9▸e);omega
  ·rw [e] at h9;injection h9 with h9;omega
 have hB:eG (w8.setCell ⟨K.rb,5,none⟩ v9) K.rb 58 (JQ K r av v9):=by
  have:=(a1.eA hc (fun e=>by have:=b2 _ e;omega)).gG 5 v9
  simpa [JQ] using this
 have hrc:Ob (w8.setCell ⟨K.rb,5,none⟩ v9) (lay z w 23) K { r with fM:=r.fM,world:=r.world,no:=r.no+1 } :=by
  refine ⟨⟨av,v9,on9,F4,hB,fR a2 wL (fun g hg=>?_),fR eP ((eV.refl (fun j=>j=K.rb) w8).setCell (p:=⟨K.rb,5,none⟩) (.inl rfl) v9) (fun g hg e=>gO (e▸hg)),tY,fun g hg=>(eR (eB a2 g hg).2).trans (b1 g hg),fun g hg=>?_⟩,(eR hl).trans b3⟩
  ·have:=b1 g hg
   rintro (rfl | e)
   ·omega
   ·have:=b2 g e;omega
  ·rcases kP with h9 | ⟨g9,h9,Ck⟩
   ·exact (eR (eB a3 g (h9▸hg)).2).trans (b2 g (h9▸hg))
   ·rw [hg] at h9;injection h9 with h9;subst h9;exact eQ Ck
 have h9:=h.rc_ hrc s1
 obtain ⟨c1,c2⟩:=h9.tk i hi
 have hT:=c1.gG 2 (.int .i64 0)
 have s2:eF (fun j=>j=200+i) (lay z w 23) (w8.setCell ⟨K.rb,5,none⟩ v9) (lay z w 23) ((w8.setCell ⟨K.rb,5,none⟩ v9).setCell ⟨K.tb i,2,none⟩ (.int .i64 0)):=
  ⟨((eV.refl (fun j=>j=K.tb i) _).setCell (p:=⟨K.tb i,2,none⟩) (.inl rfl) _).mono fun j hj=>.inl (by rw [hj];exact c2),fun _ _=>rfl⟩
 refine ⟨lay z w 23,h9.F8 (x:= { r.dT i with step:=0 }) hi ?_ s2,(s1.mono fun j hj=>by unfold Rz;omega).trans s2 fun j hj=>by unfold Rz;omega⟩
 simpa [iQ] using hT
theorem rQ (i k:Nat) (ra rn rc:Nat) (hi:i<4) (h:dW w z K r) (hk:(r.dT i).ask=k) (sN:k<r.asks.length) (ho:r.no≤500):
  Calls prog 37 #[.pointer (some ⟨K.rb,0,none⟩),.pointer (some ⟨K.tb i,0,none⟩),.agg #[.int .u64 (ra:Nat),.int .u64 (rn:Nat),.int .i64 (rc:Nat)]] w fun e w'=>e= .returned (.tuple #[])∧gK z w K (fY r i k ra rn rc) w':=by
 have HA:=aA (h.Dg sN ra rn rc)
 have hl:=h.cells.lt
 obtain ⟨t0,t1,t2,t3,t4,t5,t6,t7,t8,tl, -⟩:=h.fH hi
 rw [hk] at t1
 obtain ⟨g,cap,s1,s2,s3,s4,s5, -⟩:=h.ask sN
 have hb:=(h.ak k sN).1
 have bl:=hb.lt
 have f10:=hb.frozen 10
 have f11:=hb.frozen 11
 have f12:=hb.frozen 12
 have f13:=hb.frozen 13
 have Qv:=hb.cell 10
 have b11:=hb.cell 11
 have b12:=hb.cell 12
 have b13:=hb.cell 13
 simp only [FC,List.getElem?_toArray,List.getElem?_cons_zero,List.getElem?_cons_succ] at Qv b11 b12 b13
 have DL:(k:Int)<(r.asks.length:Nat):=by omega
 generalize hr2: { r with asks:=r.asks.set k (oR r.asks[k] ra rn rc) } =r2 at HA
 have YP:r2.dT=r.dT:=by rw [←hr2]
 have ho2:r2.no=r.no:=by rw [←hr2]
 have Er:=aA (show ({ r2 with dT:=eY r2.dT i { r2.dT i with step:=0 },no:=r2.no+1 } :iL)=fY r i k ra rn rc∧(r2.dT i).ask=k∧r2.no≤500 from by
  rw [←hr2]
  refine ⟨?_,hk,ho⟩
  unfold fY
  rw [oQ sN])
 clear h hb hr2 YP ho2 ho hk
 generalize r.asks[k].ra=ra0 at*
 generalize r.asks[k].rn=rn0 at*
 generalize r.asks[k].rc=rc0 at*
 generalize r.asks[k].done=d0 at*
 generalize r.asks[k].b=ab at*
 go_enter func37,ntmps37
 go_wp2_with fail
 go_quiet (fail)
 go_wp2_with fail
 have HW:=aA (HA.out nq)
 unfold Oi at HW
 generalize (((((w.alloc (.cells #[.int .u64 (ra:Nat),.int .u64 (rn:Nat),.int .i64 (rc:Nat)] 41)).drewN nq).setCell ⟨ab,10,none⟩ (.int .u64 (ra:Nat))).setCell ⟨ab,11,none⟩ (.int .u64 (rn:Nat))).setCell ⟨ab,12,none⟩ (.int .i64 (rc:Nat))).setCell ⟨ab,13,none⟩ (.bool true)=wA at HW ⊢
 clear Qv b11 b12 b13 f10 f11 f12 f13 t0 t1 t2 t3 t4 t5 t6 t7 t8 tl s1 s2 s3 s4 s5 hl bl
 obtain ⟨⟨av,ov,on,Jp,a1,a2,a3,a4,a5,a6⟩,a7⟩:=HW.out.1.rc
 obtain ⟨e1,e2,e3⟩:=Er.out
 obtain ⟨p0,GJ,rfl,m1,m2, -⟩:=dZ a3
 have c5:wA.cell? ⟨K.rb,5,none⟩=some (.slice p0 on GJ):=a1.cell 5
 have f5:=a1.frozen 5
 have hl:=a1.lt
 have T:=HW.out.1.fH hi
 have t1:=T.c1
 have t2:=T.c2
 have f2:=T.fz 2
 have tl:=T.lt
 rw [e2] at t1
 have HC:=aA (aI c5 t1)
 have tY:on≤500:=by omega
 have HON:=aA a4
 have HS:=aA (show ∀w':World,eV (fun j=>(aO p0 on GJ).ownBlock=some j) wA w'→(w'.cell? ⟨K.rb,5,none⟩=some (.slice p0 on GJ)∧w'.cell? ⟨K.tb i,1,none⟩=some (.int .i64 (k:Nat))) from fun w' hc=>
  ⟨(hc.cell hl (fun e=>by have:=a6 _ e;omega)).trans c5,(hc.cell tl (fun e=>by have:=a6 _ e;have:=(HW.out.1.tk i hi).2;omega)).trans t1⟩)
 have HO:=aA (aI a3 (aI a2 a1))
 have HZ:=aA (aI a5 (aI a6 a7))
 obtain ⟨i0,kS,lF,jT,jU⟩:=info_parts vM
 clear a1 a2 a3 a4 a5 a6 a7 T e1 e2 e3 c5 t1
 refine eN (fun w'=>w'.cell? ⟨K.rb,5,none⟩=some (.slice p0 on GJ)∧w'.cell? ⟨K.tb i,1,none⟩=some (.int .i64 (k:Nat))) [0,1,2,3,4,5,6,7,8] [9,10,11,12] 13 (by kernel_rfl) (by kernel_rfl) (HS.out _ (eV.refl _ _).drew) ?_
 simp only [fX,aC,aL,aD,aM,aJ,aK]
 iterate 9 (refine fI (v:=?_) (by rfl) ?_ ?_;rotate_left;(· (intro u gP;obtain ⟨s0,s1⟩:=gP;go_simp;(try with_reducible rfl)));(try simp only [Act.put,aB,aE,aF]))
 refine fS ?_
 refine dV ?_
 go_wp2_with fail
 refine ⟨HS.out _ ((eV.refl _ _).drew.alloc _ _),?_⟩
 refine dV ?_
 refine dS 0 _ rfl (.tmp 28) (.tmp 33) 22 rfl 3 i0 _ 1 8 underlying22 kS lF jT jU rfl (by decide) _ _ _ (by rfl) (by exact dY HO.out.1 (((Ext.refl wA).drew.alloc _ _).below)) (.slice (some ⟨wA.heap.size,0,none⟩) 1 1) 1 [.int .i64 (k:Nat)] (by rfl) (by exact jF wA.drew [.int .i64 (k:Nat)] _ 1 rfl) (by intro u hu;simp at hu;subst hu;rfl) (by unfold maxLen;omega) (by omega) (Nat.zero_le _) ?_
 intro v' w8 eP gH kP
 have Qw:eV (fun j=>(aO p0 on GJ).ownBlock=some j) wA w8:=((eV.refl _ wA).drew.alloc _ _).trans gH fun i hi=>.inl hi
 obtain ⟨p9,Oj,rfl, -, -, -⟩:=dZ eP
 have g5:=(Qw.frozen ⟨K.rb,5,none⟩).trans f5
 have g2:=(Qw.frozen ⟨K.tb i,2,none⟩).trans f2
 have d5:=(HS.out _ Qw).1
 have d2:w8.cell? ⟨K.tb i,2,none⟩=some (.int .i64 ((r2.dT i).step:Nat)):=(Qw.cell tl (fun e=>by have:=HZ.out.2.1 _ e;have:=(HW.out.1.tk i hi).2;omega)).trans t2
 have l5:=aG hl Qw.size
 have l2:=aG tl Qw.size
 have HF:=aA (HW.out.1.ordered hi HO.out HZ.out Qw eP (kP.imp id fun e=>⟨_,e,by simp⟩) (by have:=HON.out;omega))
 have GK:=aA (HS.out _ Qw)
 rw [Er.out.1] at HF
 clear eP gH kP Qw
 refine fG ⟨GK.out,?_⟩
 refine dV ?_
 go_wp2_with fail
 refine ⟨GK.out,?_⟩
 refine dV ?_
 go_wp2_with fail
 refine ⟨GK.out,?_⟩
 refine fJ ?_
 go_wp2_with fail
 refine NoPanic.normal ?_
 go_wp2_with fail
 go_returns
 exact ⟨rfl,gK.trans HW.out.2 HF.out⟩
end
def JS (q:Nat→List Int) (p:Nat) (l:List Int):Nat→List Int:=fun j=>if j=p then l else q j
section
variable {S:Nat→Prop} {z z':Nat→Nat} {w w':World} {K:jD} {r:iL}
theorem dW.yV (h:dW w z K r) {i:Nat} (hi:i<4) (o:Nat) (v:Value) (x:Lm) (hx:(iQ i (r.dT i)).setIfInBounds o v=iQ i x):
  dW (w.setCell ⟨K.tb i,o,none⟩ v) z K { r with dT:=eY r.dT i x }∧eF Rz z w z (w.setCell ⟨K.tb i,o,none⟩ v):=by
 obtain ⟨c1,c2⟩:=h.tk i hi
 have s:eF (fun j=>j=200+i) z w z (w.setCell ⟨K.tb i,o,none⟩ v):=
  ⟨((eV.refl (fun j=>j=K.tb i) _).setCell (p:=⟨K.tb i,o,none⟩) (.inl rfl) _).mono fun j hj=>.inl (by rw [hj];exact c2),fun _ _=>rfl⟩
 exact ⟨h.F8 hi (hx▸c1.gG o v) s,s.mono fun j hj=>by unfold Rz;omega⟩
theorem dW.qC (h:dW w z K r) (hd:Int):dW (w.setCell ⟨K.rb,6,none⟩ (.int .i64 hd)) z K { r with fM:=hd }∧eF Rz z w z (w.setCell ⟨K.rb,6,none⟩ (.int .i64 hd)):=by
 obtain ⟨⟨av,ov,on,Jp,a1,a2,a3,a4,a5,a6⟩,a7⟩:=h.rc
 have hc:eV (fun j=>j=K.rb) w (w.setCell ⟨K.rb,6,none⟩ (.int .i64 hd)):=(eV.refl (fun j=>j=K.rb) w).setCell (p:=⟨K.rb,6,none⟩) (.inl rfl) _
 have s:eF (fun j=>j=16) z w z (w.setCell ⟨K.rb,6,none⟩ (.int .i64 hd)):=⟨hc.mono fun j hj=>.inl (by rw [hj];exact a7),fun _ _=>rfl⟩
 refine ⟨h.aE5 (wd:=r.world) ⟨⟨av,ov,on,Jp,?_,fR a2 hc (fun g hg=>?_),fR a3 hc (fun g hg=>?_),a4,a5,a6⟩,a7⟩ s,s.mono fun j hj=>by unfold Rz;omega⟩
 ·simpa [JQ] using a1.gG 6 (.int .i64 hd)
 ·intro e;have:=a5 g hg;rw [e] at this;omega
 ·intro e;have:=a6 g hg;rw [e] at this;omega
theorem dW.aE7 (h:dW w z K r) (wd:Int):dW (w.setCell ⟨K.rb,7,none⟩ (.int .i64 wd)) z K { r with world:=wd }∧eF Rz z w z (w.setCell ⟨K.rb,7,none⟩ (.int .i64 wd)):=by
 obtain ⟨⟨av,ov,on,Jp,a1,a2,a3,a4,a5,a6⟩,a7⟩:=h.rc
 have hc:eV (fun j=>j=K.rb) w (w.setCell ⟨K.rb,7,none⟩ (.int .i64 wd)):=(eV.refl (fun j=>j=K.rb) w).setCell (p:=⟨K.rb,7,none⟩) (.inl rfl) _
 have s:eF (fun j=>j=16) z w z (w.setCell ⟨K.rb,7,none⟩ (.int .i64 wd)):=⟨hc.mono fun j hj=>.inl (by rw [hj];exact a7),fun _ _=>rfl⟩
 refine ⟨h.aE5 (hd:=r.fM) ⟨⟨av,ov,on,Jp,?_,fR a2 hc (fun g hg=>?_),fR a3 hc (fun g hg=>?_),a4,a5,a6⟩,a7⟩ s,s.mono fun j hj=>by unfold Rz;omega⟩
 ·simpa [JQ] using a1.gG 7 (.int .i64 wd)
 ·intro e;have:=a5 g hg;rw [e] at this;omega
 ·intro e;have:=a6 g hg;rw [e] at this;omega
theorem dW.aE8 (h:dW w z K r) {p:Nat} (hp:p<2) {l:List Int} {v:Value} (hq:sH w' z' (24+p) v l) (s:eF (fun j=>j=24+p) z w z' w'):
  dW (w'.setCell ⟨K.qr,p,none⟩ v) z' K { r with q:=JS r.q p l }∧eF Rz z w z' (w'.setCell ⟨K.qr,p,none⟩ v):=by
 obtain ⟨qv,a,b⟩:=h.qr
 have hl:=a.lt
 have hz':z' K.qr=18:=(s.zn _ hl).trans a.zb
 have s2:eF (fun j=>j=18) z' w' z' (w'.setCell ⟨K.qr,p,none⟩ v):=⟨((eV.refl (fun j=>j=K.qr) _).setCell (p:=⟨K.qr,p,none⟩) (.inl rfl) _).mono fun j hj=>.inl (by rw [hj];exact hz'),fun _ _=>rfl⟩
 have s3:eF (fun j=>j=18∨j=24+p) z w z' (w'.setCell ⟨K.qr,p,none⟩ v):=(s.mono fun j hj=>.inr hj).trans s2 fun j hj=>.inl hj
 have a2:=a.eC s (by omega)
 refine ⟨⟨h.m.eC s3 (fun k hm=>by unfold Mz at hm;omega) (by omega),?_,h.tr.eC s3 (by omega),fun j hj=>?_,⟨fun j=>if j=p then v else qv j,⟨fun j hj=>?_,?_,(s3.zn _ hl).trans a.zb,fun j=>(s3.fz _).trans (a.fz j)⟩,fun j hj=>?_⟩,fun j hj=>?_,h.tT,?_,h.kc⟩,s3.mono fun j hj=>by unfold Rz;omega⟩
 ·have:=h.rc.eC s3 (by omega) (by omega) (by omega)
  exact ⟨this.hd,this.zb⟩
 ·obtain ⟨a,b⟩:=h.tk j hj
  exact ⟨a.eA s3.eA (by rw [b];omega),(s3.zn _ a.lt).trans b⟩
 ·by_cases e:j=p
  ·subst e
   rw [if_pos rfl]
   exact fP (a2.c j hj)
  ·rw [if_neg e]
   exact (eD (by intro e2;injection e2 with _ e2 _;exact e e2.symm)).trans (a2.c j hj)
 ·exact aG hl s3.size
 ·show sH _ _ _ _ (JS r.q p l j)
  unfold JS
  by_cases e:j=p
  ·subst e
   simp only [if_true]
   exact hq.eC s2 (by omega)
  ·simp only [if_neg e]
   exact ((b j hj).eC s (by omega)).eC s2 (by omega)
 ·obtain ⟨a,b⟩:=h.ak j hj
  have:=h.tT
  change j<r.asks.length at hj
  exact ⟨a.eA s3.eA (by rw [b];omega),(s3.zn _ a.lt).trans b⟩
 ·obtain ⟨c,a⟩:=h.sg
  exact ⟨c,a.eC s3 (by omega)⟩
def Qx (g o n cap:Nat):Value:=if cap-1=0 then .slice (some ⟨g,o,none⟩) n (cap-1) else .slice (some ⟨g,o+1,none⟩) n (cap-1)
theorem sH.tail {i:Nat} {g o cap:Nat} {a:Int} {l:List Int} (h:sH w z i (.slice (some ⟨g,o,none⟩) (l.length+1) cap) (a::l)):sH w z i (Qx g o l.length cap) l:=by
 obtain ⟨p,pJ,e1,h2,h3,⟨rfl,rfl⟩ | ⟨g',o',iY,rfl,b1,b2,b3,b4⟩⟩:=h
 ·simp at h2
 ·injection e1 with e1 _ e3
  injection e1 with e1
  injection e1 with e1 e4 _
  subst e1 e4 e3
  simp only [List.length_cons] at h2
  unfold Qx
  by_cases h0:cap-1=0
  ·rw [if_pos h0]
   have hl:l= []:=List.length_eq_zero_iff.1 (by omega)
   subst hl
   exact ⟨_,_,rfl,by simp,by omega,.inr ⟨g,o,iY,rfl,b1,by omega,b3,fun j hj=>by simp at hj⟩⟩
  ·rw [if_neg h0]
   refine ⟨_,_,rfl,by omega,by omega,.inr ⟨g,o+1,iY,rfl,b1,by omega,b3,fun j hj=>?_⟩⟩
   have:=b4 (j+1) (by simpa using hj)
   rw [show o+1+j=o+(j+1) by omega]
   simpa using this
theorem Ln (a:Sl) (w:World):(Instr.field 38 (.agg (oP a).toArray) 0).run prog w= .ok (.int .i64 (a.op:Nat)) w:=by
 have h:∀(x y n:Int) (s:Value) (w:World),(Instr.field 38 (.agg #[.int .i64 x,.int .i64 y,.int .u64 n,.int .u64 0,.int .i64 0,.int .u64 0,.bool false,.int .i64 0,.slice none 0 0,s]) 0).run prog w= .ok (.int .i64 x) w:=fun x y n s w=>by kernel_rfl
 exact h _ _ _ _ w
def begun (r:iL) (i k:Nat) (l:List Int):iL:= { r with dT:=eY r.dT i { r.dT i with ask:=k,eT:=0,step:=nW (eJ r k).op },q:=JS r.q i l }
def CG (r:iL) (i k:Nat) (l:List Int):iL:= { r with dT:=eY r.dT i { r.dT i with ask:=k,eT:=0 },q:=JS r.q i l }
theorem pS (f:Nat→Lm) (i:Nat) (x y:Lm):eY (eY f i x) i y=eY f i y:=by
 funext j;unfold eY;split<;>rfl
theorem mC (f:Nat→Lm) (i:Nat) (x:Lm):eY f i x i=x:=by unfold eY;rw [if_pos rfl]
def bgW (w:World) (K:jD) (i k:Nat) (v:Value) (m:Nat):World:=(((w.drewN m).setCell ⟨K.tb i,1,none⟩ (.int .i64 (k:Nat))).setCell ⟨K.qr,i,none⟩ v).setCell ⟨K.tb i,8,none⟩ (.int .u64 0)
theorem dW.bg (h:dW w z K r) {i k:Nat} {l:List Int} (hi:i<2) {v:Value} (hv:sH w z (24+i) v l) (m:Nat):dW (bgW w K i k v m) z K (CG r i k l)∧eF Rz z w z (bgW w K i k v m):=by
 have hx:Ext w (w.drewN m):=(Ext.refl w).eZ m
 obtain ⟨h2,s2⟩:=(h.ext hx).yV (i:=i) (by omega) 1 (.int .i64 (k:Nat)) { r.dT i with ask:=k } (by simp [iQ])
 have hv2:sH ((w.drewN m).setCell ⟨K.tb i,1,none⟩ (.int .i64 (k:Nat))) z (24+i) v l:=by
  refine (hv.eC (eF.dX hx (fun _=>False) z) (fun h=>h)).eC (S:=fun j=>j=200+i) ⟨((eV.refl (fun j=>j=K.tb i) _).setCell (p:=⟨K.tb i,1,none⟩) (.inl rfl) _).mono fun j hj=>.inl (by rw [hj];exact (h.tk i (by omega)).2),fun _ _=>rfl⟩ (by omega)
 obtain ⟨h3,s3⟩:=h2.aE8 hi hv2 (eF.refl _ _ _)
 obtain ⟨h4,s4⟩:=h3.yV (i:=i) (by omega) 8 (.int .u64 0) { r.dT i with ask:=k,eT:=0 } (by
  show (iQ i (eY r.dT i { r.dT i with ask:=k } i)).setIfInBounds 8 _=_
  rw [mC];simp [iQ])
 have e:(eY (eY r.dT i { r.dT i with ask:=k }) i { r.dT i with ask:=k,eT:=0 })=eY r.dT i { r.dT i with ask:=k,eT:=0 } :=pS _ _ _ _
 refine ⟨?_,(((eF.dX hx Rz z).trans s2 fun _ h=>h).trans s3 fun _ h=>h).trans s4 fun _ h=>h⟩
 unfold CG
 rw [←e]
 exact h4
theorem Ol (h:dW w z K r) {i k:Nat} {l:List Int} (hi:i<2) (hk:k<r.asks.length) {v:Value} (hv:sH w z (24+i) v l) (m:Nat):
  Calls prog 85 #[.pointer (some ⟨K.rb,0,none⟩),.pointer (some ⟨K.tb i,0,none⟩)] (bgW w K i k v m) fun e w'=>e= .returned (.agg (oP r.asks[k]).toArray)∧(dW w' z K (CG r i k l)∧eF Rz z w z w')∧w'.cell? ⟨K.tb i,2,none⟩=some (.int .i64 ((r.dT i).step:Nat))∧w'.frozen? ⟨K.tb i,2,none⟩=false∧K.tb i<w'.heap.size:=by
 obtain ⟨h2,s2⟩:=h.bg (k:=k) hi hv m
 refine (lT i k (by omega) h2 (by unfold CG;dsimp only;rw [mC]) hk).mono ?_
 rintro e w' ⟨rfl,hx⟩
 have h3:=h2.ext hx
 have T:=h3.fH (i:=i) (by omega)
 have c2:=T.c2
 unfold CG at c2
 dsimp only at c2
 rw [mC] at c2
 exact ⟨rfl,⟨h3,s2.trans (eF.dX hx Rz z) fun _ h=>h⟩,c2,T.fz 2,T.lt⟩
theorem dW.F9 {i k:Nat} {l:List Int} (h:dW w z K (CG r i k l)) (hi:i<2):dW (w.setCell ⟨K.tb i,2,none⟩ (.int .i64 (nW (eJ r k).op:Nat))) z K (begun r i k l)∧eF Rz z w z (w.setCell ⟨K.tb i,2,none⟩ (.int .i64 (nW (eJ r k).op:Nat))):=by
 obtain ⟨h4,s4⟩:=h.yV (i:=i) (by omega) 2 (.int .i64 (nW (eJ r k).op:Nat)) { r.dT i with ask:=k,eT:=0,step:=nW (eJ r k).op } (by
  show (iQ i (eY r.dT i { r.dT i with ask:=k,eT:=0 } i)).setIfInBounds 2 _=_
  rw [mC];simp [iQ])
 refine ⟨?_,s4⟩
 have e:(eY (eY r.dT i { r.dT i with ask:=k,eT:=0 }) i { r.dT i with ask:=k,eT:=0,step:=nW (eJ r k).op })=eY r.dT i { r.dT i with ask:=k,eT:=0,step:=nW (eJ r k).op } :=pS _ _ _ _
 unfold begun
 rw [←e]
 exact h4
theorem Sq (i k:Nat) (l:List Int) (hi:i<2) (h:dW w z K r) (hq:r.q i=(k:Int)::l) (hk:k<r.asks.length) (ho:Oe r.asks[k].op):
  Calls prog 38 #[.pointer (some ⟨K.rb,0,none⟩),.pointer (some ⟨K.tb i,0,none⟩)] w fun e w'=>e= .returned (.tuple #[])∧gK z w K (begun r i k l) w':=by
 obtain ⟨c0,c1,c2,c3,c6,c7,c8,c9,Mp,hl, -⟩:=h.cells
 obtain ⟨t0,t1,t2,t3,t4,t5,t6,t7,t8,tl,tf⟩:=h.fH (i:=i) (by omega)
 have qi2:=fun n:Nat=>h.xQ (i:=i) (j:=2) (by omega) (by decide) (by omega) ((Ext.refl w).eZ n)
 have qi3:=fun n:Nat=>h.xQ (i:=i) (j:=3) (by omega) (by decide) (by omega) ((Ext.refl w).eZ n)
 have HS:=aA (lM h)
 have HC:=aA fun n=>nI (h.ext ((Ext.refl w).eZ n))
 obtain ⟨qv,hr,Jo⟩:=h.qr
 have q1:=hr.c i hi
 have ql:=hr.lt
 have qf:=hr.fz i
 have a_:=Jo i hi
 rw [hq] at a_
 obtain ⟨g,o,cap,ev,a1,a2,a3,a4,a5⟩:=a_.cons
 rw [ev] at q1 a_
 have yH:(i:Int)<2:=by omega
 have C9:=h.kc
 have f1:=tf 1
 have f2:=tf 2
 have f8:=tf 8
 have HO:=aA (fun w:World=>Hp r.asks[k].op w ho)
 have aFa:=oQ hk
 have uQ:=aA fun v hv m=>Ol h (i:=i) (k:=k) (l:=l) (v:=v) hi hk hv m
 have UC:=aA (Ln r.asks[k])
 have HOP:=aA (show nW r.asks[k].op=nW (eJ r k).op by rw [aFa])
 clear aFa
 generalize (oP r.asks[k]).toArray=ca at*
 generalize r.asks[k].op=op at*
 have HH:=aA (aI h a_.tail)
 have nzr:K.rb≠K.tb i:=fun e=>by have h1:=h.rc.zb;have h2:=(h.tk i (by omega)).2;rw [e] at h1;omega
 have nzq:K.qr≠K.tb i:=fun e=>by have h1:=hr.zb;have h2:=(h.tk i (by omega)).2;rw [e] at h1;omega
 have nzg:g≠K.tb i:=fun e=>by have h2:=(h.tk i (by omega)).2;rw [e] at a5;omega
 have F2:=aA (show ∀m:Nat,((w.drewN m).setCell ⟨K.tb i,1,none⟩ (.int .i64 (k:Nat))).cell? ⟨K.rb,3,none⟩=some (.slice (some ⟨K.qr,0,none⟩) 2 K.qc)∧((w.drewN m).setCell ⟨K.tb i,1,none⟩ (.int .i64 (k:Nat))).cell? ⟨K.tb i,0,none⟩=some (.int .i64 (i:Nat))∧((w.drewN m).setCell ⟨K.tb i,1,none⟩ (.int .i64 (k:Nat))).cell? ⟨K.qr,i,none⟩=some (.slice (some ⟨g,o,none⟩) (l.length+1) cap)∧((w.drewN m).setCell ⟨K.tb i,1,none⟩ (.int .i64 (k:Nat))).cell? ⟨g,o,none⟩=some (.int .i64 (k:Nat)) from fun m=>
  ⟨(eD (pW (Ne.symm nzr))).trans c3,(eD (fT (by decide))).trans t0,(eD (pW (Ne.symm nzq))).trans q1,(eD (pW (Ne.symm nzg))).trans a3⟩)
 clear h hr Jo ev a_ ho tf
 have hle:(1:Int)≤(l.length:Int)+1:=by omega
 rcases (by omega:cap=1∨2≤cap) with rfl | xK
 ·
  go_enter func38,ntmps38
  go_wp2_with (first | (go_at_call 80;refine HS.out.mono ?_;rintro e w1 ⟨rfl,n,rfl⟩) | (go_at_call 82;refine (HC.out _).mono ?_;rintro e w1 ⟨rfl,n2,rfl⟩) | fail)
  refine eN (fun w'=>w'.cell? ⟨K.rb,3,none⟩=some (.slice (some ⟨K.qr,0,none⟩) 2 K.qc)∧w'.cell? ⟨K.tb i,0,none⟩=some (.int .i64 (i:Nat))∧w'.cell? ⟨K.qr,i,none⟩=some (.slice (some ⟨g,o,none⟩) (l.length+1) 1)∧w'.cell? ⟨g,o,none⟩=some (.int .i64 (k:Nat))) [0,1,2,3,4,5,6,7,8,9,10,11,12,13,14,15,16,17,18,19,20,21,22,23,24,25,26,27,28,29,30,31] [32,33,34,35] 36 (by kernel_rfl) (by kernel_rfl) ⟨c3,t0,q1,a3⟩ ?_
  simp only [fX,aC,aL,aD,aM,aJ,aK]
  iterate 32 (refine fI (v:=?_) (by rfl) ?_ ?_;rotate_left;(· (intro u gP;obtain ⟨s0,s1,s2,s3⟩:=gP;go_simp;(try with_reducible rfl)));(try simp only [Act.put,aB,aE,aF]))
  refine fS ?_
  iterate 2 (refine dV ?_;go_wp2_with fail;(try refine ⟨⟨c3,t0,q1,a3⟩,?_⟩))
  refine dV ?_
  go_wp2_with fail
  refine ⟨F2.out _,?_⟩
  refine dV ?_
  go_wp2_with fail
  refine ⟨F2.out _,?_⟩
  refine fJ ?_
  go_wp2_with fail
  refine NoPanic.normal ?_
  go_wp2_with fail
  have Mm:=aA (uQ.out (.slice (some ⟨g,o,none⟩) 0 0) (by have:=HH.out.2;unfold Qx at this;simpa [show l.length=0 by omega] using this))
  unfold bgW at Mm
  have Lo:=UC.out
  go_wp2_with (first | (go_at_call 85;refine (Mm.out _).mono ?_;rintro e w4 ⟨rfl,h4,d2,e2,l4⟩;have gT:=aA h4;clear h4) | (go_at_call 84;refine (HO.out _).mono ?_;rintro e w5 ⟨rfl,rfl⟩) | fail)
  go_returns
  rw [HOP.out]
  obtain ⟨h5,s5⟩:=dW.F9 gT.out.1 hi
  exact ⟨rfl,z,h5,gT.out.2.trans s5 fun _ h=>h⟩
 ·have hcz:¬(cap-1=0):=by omega
  go_enter func38,ntmps38
  go_wp2_with (first | (go_at_call 80;refine HS.out.mono ?_;rintro e w1 ⟨rfl,n,rfl⟩) | (go_at_call 82;refine (HC.out _).mono ?_;rintro e w1 ⟨rfl,n2,rfl⟩) | fail)
  refine eN (fun w'=>w'.cell? ⟨K.rb,3,none⟩=some (.slice (some ⟨K.qr,0,none⟩) 2 K.qc)∧w'.cell? ⟨K.tb i,0,none⟩=some (.int .i64 (i:Nat))∧w'.cell? ⟨K.qr,i,none⟩=some (.slice (some ⟨g,o,none⟩) (l.length+1) cap)∧w'.cell? ⟨g,o,none⟩=some (.int .i64 (k:Nat))) [0,1,2,3,4,5,6,7,8,9,10,11,12,13,14,15,16,17,18,19,20,21,22,23,24,25,26,27,28,29,30,31] [32,33,34,35] 36 (by kernel_rfl) (by kernel_rfl) ⟨c3,t0,q1,a3⟩ ?_
  simp only [fX,aC,aL,aD,aM,aJ,aK]
  iterate 32 (refine fI (v:=?_) (by rfl) ?_ ?_;rotate_left;(· (intro u gP;obtain ⟨s0,s1,s2,s3⟩:=gP;go_simp;(try with_reducible rfl)));(try simp only [Act.put,aB,aE,aF]))
  refine fS ?_
  iterate 2 (refine dV ?_;go_wp2_with fail;(try refine ⟨⟨c3,t0,q1,a3⟩,?_⟩))
  refine dV ?_
  go_wp2_with fail
  refine ⟨F2.out _,?_⟩
  refine dV ?_
  go_wp2_with fail
  refine ⟨F2.out _,?_⟩
  refine fJ ?_
  go_wp2_with fail
  refine NoPanic.normal ?_
  go_wp2_with fail
  have Mm:=aA (uQ.out (.slice (some ⟨g,o+1,none⟩) l.length (cap-1)) (by have:=HH.out.2;unfold Qx at this;rw [if_neg hcz] at this;exact this))
  unfold bgW at Mm
  have Lo:=UC.out
  go_wp2_with (first | (go_at_call 85;refine (Mm.out _).mono ?_;rintro e w4 ⟨rfl,h4,d2,e2,l4⟩;have gT:=aA h4;clear h4) | (go_at_call 84;refine (HO.out _).mono ?_;rintro e w5 ⟨rfl,rfl⟩) | fail)
  go_returns
  rw [HOP.out]
  obtain ⟨h5,s5⟩:=dW.F9 gT.out.1 hi
  exact ⟨rfl,z,h5,gT.out.2.trans s5 fun _ h=>h⟩
end
end Go.Proofs.YtgknoidliabanaaGreatDoor
