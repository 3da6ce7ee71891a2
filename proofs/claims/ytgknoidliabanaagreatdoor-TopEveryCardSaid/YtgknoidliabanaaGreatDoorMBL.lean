/- TopEvery holds: MBL. -/
import Derived.Test.YtgknoidliabanaaGreatDoorMBJ
import Derived.Test.YtgknoidliabanaaGreatDoorMBK
set_option linter.unusedVariables false
set_option linter.unusedSimpArgs false
set_option linter.unusedSectionVars false
set_option maxRecDepth 20000
set_option maxHeartbeats 8000000
namespace Go.Proofs.YtgknoidliabanaaGreatDoor
open Go.RowKit _root_.Go.Proofs.Tryz
open Lib renaming hid→aA
open And renaming intro→aB
open List renaming getElem?_cons_zero→aC,getElem?_cons_succ→aD,getElem?_toArray→aE
open Go renaming Calls→aF,Value→aG,World→aH
section
variable {z z':Nat→Nat} {w w':aH} {K:jD} {r:iL}
def gQ (r:iL) (i s:Nat):iL:= { r with dT:=eY r.dT i { r.dT i with step:=s } }
theorem dW.zQ (h:dW w z K r) {i:Nat} (hi:i<4) (s:Nat):dW (w.setCell ⟨K.tb i,2,none⟩ (.int .i64 (s:Nat))) z K (gQ r i s)∧eF Rz z w z (w.setCell ⟨K.tb i,2,none⟩ (.int .i64 (s:Nat))):=
 h.yV hi 2 (.int .i64 (s:Nat)) { r.dT i with step:=s } (by simp [iQ])
theorem FQ (r:iL) (i s t:Nat):gQ (gQ r i s) i t=gQ r i t:=by
 unfold gQ
 simp only [pS,mC]
theorem TF (kk:Nat) (h:dW w z K r) (hc:r.m.t.fV=kk*8192) (W_:kk<64) (hr:r.m.t.pQ=0) (hp:r.m.t.fO=0):
  aF prog 103 #[.pointer (some ⟨K.m.oC,0,none⟩)] w fun e w'=>e= .returned (.int .u64 0)∧Ext w w':=by
 have h1:=Wf 0 (by omega) h.m.sw (fun w'=>by rw [hc,hr];exact Rt.MD kk W_ w')
 rw [hp] at h1
 exact h1
theorem TG (i kk:Nat) (hi:i<2) (h:dW w z K r) (hc:r.m.t.fV=kk*8192) (W_:kk<64) (hr:r.m.t.pQ=0) (hp:r.m.t.fO=0):
  aF prog 54 #[.pointer (some ⟨K.rb,0,none⟩),.pointer (some ⟨K.tb i,0,none⟩)] w fun e w'=>e= .returned (.tuple #[])∧gK z w K (gQ r i (if (r.dT i).wc=0 then 6 else 4)) w':=by
 have HD:=aA (TF kk h hc W_ hr hp)
 have d0:=h.cells.c0
 have dl:=h.cells.lt
 have m3:=h.m.hd.cell 3
 have ml:=h.m.hd.lt
 simp [mT] at m3
 have HH:=aA h
 clear h
 by_cases h0:(r.dT i).wc=0
 ·rw [if_pos h0]
  have e0:(((r.dT i).wc:Int)==0)=true:=by simp [h0]
  go_enter func54,ntmps54
  go_wp2_with (first | (go_at_call 103;refine HD.out.mono ?_;rintro e w1 ⟨rfl,hx⟩;have HX:=aA hx;have hT:=(HH.out.ext hx).fH (i:=i) (by omega);have t2:=hT.c2;have t4:=hT.c4;have tl:=hT.lt;have f2:=hT.fz 2;clear hT hx) | fail)
  go_returns
  obtain ⟨h1,s1⟩:=(HH.out.ext HX.out).zQ (i:=i) (by omega) 4
  obtain ⟨h2,s2⟩:=h1.zQ (i:=i) (by omega) 6
  rw [FQ] at h2
  exact ⟨rfl,z,h2,((eF.dX HX.out Rz z).trans s1 fun _ h=>h).trans s2 fun _ h=>h⟩
 ·rw [if_neg h0]
  have e0:(((r.dT i).wc:Int)==0)=false:=by simp [h0]
  go_enter func54,ntmps54
  go_wp2_with (first | (go_at_call 103;refine HD.out.mono ?_;rintro e w1 ⟨rfl,hx⟩;have HX:=aA hx;have hT:=(HH.out.ext hx).fH (i:=i) (by omega);have t2:=hT.c2;have t4:=hT.c4;have tl:=hT.lt;have f2:=hT.fz 2;clear hT hx) | fail)
  go_returns
  obtain ⟨h1,s1⟩:=(HH.out.ext HX.out).zQ (i:=i) (by omega) 4
  exact ⟨rfl,z,h1,(eF.dX HX.out Rz z).trans s1 fun _ h=>h⟩
theorem MF (i k:Nat) (hi:i<2) (h:dW w z K r) (hk:(r.dT i).ask=k) (sN:k<r.asks.length):
  aF prog 58 #[.pointer (some ⟨K.rb,0,none⟩),.pointer (some ⟨K.tb i,0,none⟩)] w fun e w'=>e= .returned (.tuple #[])∧gK z w K { gQ r i (if r.asks[k].op=1 then 7 else 8) with fM:=(i:Nat) } w':=by
 have d0:=h.cells.c0
 have d3:=h.cells.c3
 have d6:=h.cells.c6
 have dl:=h.cells.lt
 have df:=h.cells.fz 6
 have hT:=h.fH (i:=i) (by omega)
 have t0:=hT.c0
 have t2:=hT.c2
 have tl:=hT.lt
 have f2:=hT.fz 2
 obtain ⟨h1,s1⟩:=h.qC (i:Nat)
 obtain ⟨h2,s2⟩:=h1.zQ (i:=i) (by omega) 8
 have HR:=aA (aB h2 (s1.trans s2 fun _ h=>h))
 have gO:K.rb≠K.tb i:=fun e=>by have h1:=h.rc.zb;have h2:=(h.tk i (by omega)).2;rw [e] at h1;omega
 have yH:(i:Int)<2:=by omega
 have HS:=aA (show ∀w',Ext ((w.setCell ⟨K.rb,6,none⟩ (.int .i64 (i:Nat))).setCell ⟨K.tb i,2,none⟩ (.int .i64 8)) w'→w'.cell? ⟨K.rb,3,none⟩=some (.slice (some ⟨K.qr,0,none⟩) 2 K.qc)∧w'.cell? ⟨K.tb i,0,none⟩=some (.int .i64 (i:Nat)) from fun w' hx=>
  ⟨(h2.ext hx).cells.c3,((h2.ext hx).fH (i:=i) (by omega)).c0⟩)
 have HC:=aA (show ∀w',Ext ((w.setCell ⟨K.rb,6,none⟩ (.int .i64 (i:Nat))).setCell ⟨K.tb i,2,none⟩ (.int .i64 8)) w'→aF prog 85 #[.pointer (some ⟨K.rb,0,none⟩),.pointer (some ⟨K.tb i,0,none⟩)] w' fun e w''=>e= .returned (.agg (oP r.asks[k]).toArray)∧Ext w' w'' from fun w' hx=>
  lT i k (by omega) (h2.ext hx) (by show (eY _ i _ i).ask=k;rw [mC];exact hk) sN)
 have UC:=aA (Ln r.asks[k])
 clear h h1 h2 s1 s2 hT hk
 generalize (oP r.asks[k]).toArray=ca at*
 generalize r.asks[k].op=op at*
 by_cases ho:op=1
 ·have e1:((op:Int)==1)=true:=by simp [ho]
  rw [if_pos ho]
  go_enter func58,ntmps58
  go_wp2_with fail
  generalize (w.setCell ⟨K.rb,6,none⟩ (.int .i64 (i:Nat))).setCell ⟨K.tb i,2,none⟩ (.int .i64 8)=w2 at HR HS HC ⊢
  have l3:∀x:gF w2,x.w.cell? ⟨K.rb,3,none⟩=some (.slice (some ⟨K.qr,0,none⟩) 2 K.qc):=fun x=>(HS.out _ x.ext).1
  have l0:∀x:gF w2,x.w.cell? ⟨K.tb i,0,none⟩=some (.int .i64 (i:Nat)):=fun x=>(HS.out _ x.ext).2
  have Lo:=UC.out
  refine gE w2 (by kernel_rfl) (by kernel_rfl) (Ext.refl _) ?_
  repeat (go_big_quiet_step ((go_at_call 85;exact kT (HC.out _ (gF.ext _)))))
  refine wpQuiet_nil ?_
  rintro ⟨w5,TH⟩
  dsimp only
  have wE:=aA (aB (HR.out.1.ext TH) (HR.out.2.trans (eF.dX TH Rz z) fun _ h=>h))
  have hT:=wE.out.1.fH (i:=i) (by omega)
  have u2:=hT.c2
  have ul:=hT.lt
  have uf:=hT.fz 2
  clear hT l3 l0
  go_wp2_with fail
  go_returns
  obtain ⟨h6,s6⟩:=wE.out.1.zQ (i:=i) (by omega) 7
  rw [FQ] at h6
  exact ⟨rfl,z,h6,wE.out.2.trans s6 fun _ h=>h⟩
 ·have e1:((op:Int)==1)=false:=by simp;omega
  rw [if_neg ho]
  go_enter func58,ntmps58
  go_wp2_with fail
  generalize (w.setCell ⟨K.rb,6,none⟩ (.int .i64 (i:Nat))).setCell ⟨K.tb i,2,none⟩ (.int .i64 8)=w2 at HR HS HC ⊢
  have l3:∀x:gF w2,x.w.cell? ⟨K.rb,3,none⟩=some (.slice (some ⟨K.qr,0,none⟩) 2 K.qc):=fun x=>(HS.out _ x.ext).1
  have l0:∀x:gF w2,x.w.cell? ⟨K.tb i,0,none⟩=some (.int .i64 (i:Nat)):=fun x=>(HS.out _ x.ext).2
  have Lo:=UC.out
  refine gE w2 (by kernel_rfl) (by kernel_rfl) (Ext.refl _) ?_
  repeat (go_big_quiet_step ((go_at_call 85;exact kT (HC.out _ (gF.ext _)))))
  refine wpQuiet_nil ?_
  rintro ⟨w5,TH⟩
  dsimp only
  have wE:=aA (aB (HR.out.1.ext TH) (HR.out.2.trans (eF.dX TH Rz z) fun _ h=>h))
  go_wp2_with fail
  go_returns
  exact ⟨rfl,z,wE.out.1,wE.out.2⟩
end
section
variable {z z':Nat→Nat} {w w':aH} {K:jD} {r:iL}
def nB (r:iL) (i:Nat) (h:HS) (id:Nat):iL:= { gQ r i 1 with m:= { r.m with h:=h,ca:=sX r.m.ca i { r.m.ca i with held:=mZ (r.m.ca i).held (kx (r.dT i).wc (r.dT i).wn) id } },fM:= -1 }
theorem oV {S:Nat→Prop} {b T:Nat} {vs:Array aG} (hb:eG w b T vs) (hz:z b=20) (s:eF S z w z' w') (h20:¬S 20):eG w' b T vs∧z' b=20:=
 ⟨hb.eA s.eA (by rw [hz];exact h20),(s.zn _ hb.lt).trans hz⟩
theorem dW.MG {h':HS} {b T:Nat} {vs:Array aG} (h:dW w z K r) (ht:fQ z w.drew K.m.k h' w') (hb:eG w b T vs) (hz:z b=20):
  ∃z2,dW w' z2 K { r with m:= { r.m with h:=h' } }∧eF Rz z w z2 w'∧eG w' b T vs∧z2 b=20:=by
 have hd:=h.ext (Ext.refl w).drew
 obtain ⟨z2,h2,s2⟩:=hd.mP (hd.m.Hm ht)
 have s3:=(eF.dX (Ext.refl w).drew Rz z).trans s2 fun _ h=>h
 obtain ⟨b1,b2⟩:=oV hb hz s3 (by unfold Rz;omega)
 exact ⟨z2,h2,s3,b1,b2⟩
theorem dW.ca_ {x:Lf} {i:Nat} (h:dW w z K r) (hi:i<2) (h2:nV w' z' (K.m.cb i) i K.m.nM x.held x.kZ x.mH) (s:eF (fun k=>k=100+i) z w z' w'):dW w' z' K { r with m:= { r.m with ca:=sX r.m.ca i x } }∧eF Rz z w z' w':=
 have s2:eF Mz z w z' w':=s.mono fun k hk=>by unfold Mz;omega
 ⟨h.DY (h.m.ca_ hi h2 s) s2,s.mono fun k hk=>by unfold Rz;omega⟩
theorem FR (Φ:HS→Prop) (i id:Nat) (hi:i<2) (h:dW w z K r) (hc:1≤(r.dT i).wc∧(r.dT i).wc<68) (hid:id<1000)
    (HA:∀w' z',eE w' z' K.m r.m→aF prog 110 #[.pointer (some ⟨K.m.k.hb,0,none⟩),.int .i64 (i:Nat),.int .u64 ((r.dT i).wp:Nat),.int .i64 ((r.dT i).wc:Nat),.bool (r.dT i).wn] w' fun e w''=>e= .returned (.tuple #[.int .i64 (id:Nat),.int .i64 0])∧∃h',fQ z' w' K.m.k h' w''∧Φ h'):
    aF prog 59 #[.pointer (some ⟨K.rb,0,none⟩),.pointer (some ⟨K.tb i,0,none⟩)] w fun e w'=>e= .returned (.tuple #[])∧∃h',Φ h'∧gK z w K (nB r i h' id) w':=by
  have hT:=h.fH (i:=i) (by omega)
  have t4:=hT.c4
  have t5:=hT.c5
  have t6:=hT.c6
  have t7:=hT.c7
  have tl:=hT.lt
  have HH:=aA h
  have Zu:decide ((0:Int)<((r.dT i).wc:Nat))=true:=decide_eq_true (by omega)
  have yH:(i:Int)<2:=by omega
  clear h hT
  go_enter func59,ntmps59
  go_wp2_with fail
  have rG:=aA (show (dW (w.alloc (.cells #[.int .i64 ((r.dT i).wc:Nat),.bool (r.dT i).wn,.bool (r.dT i).wt,.int .u64 ((r.dT i).wp:Nat)] 84)) (lay z w 20) K r∧eF Rz z w (lay z w 20) (w.alloc (.cells #[.int .i64 ((r.dT i).wc:Nat),.bool (r.dT i).wn,.bool (r.dT i).wt,.int .u64 ((r.dT i).wp:Nat)] 84)))∧eG (w.alloc (.cells #[.int .i64 ((r.dT i).wc:Nat),.bool (r.dT i).wn,.bool (r.dT i).wt,.int .u64 ((r.dT i).wp:Nat)] 84)) w.heap.size 84 #[.int .i64 ((r.dT i).wc:Nat),.bool (r.dT i).wn,.bool (r.dT i).wt,.int .u64 ((r.dT i).wp:Nat)]∧lay z w 20 w.heap.size=20 from by
    have x1:Ext w (w.alloc (.cells #[.int .i64 ((r.dT i).wc:Nat),.bool (r.dT i).wn,.bool (r.dT i).wt,.int .u64 ((r.dT i).wp:Nat)] 84)):=(Ext.refl w).alloc _ _
    exact ⟨⟨HH.out.eC (eF.fL x1 (fun _=>False) z 20) (fun _ _ h=>h) (fun h=>h),eF.fL x1 Rz z 20⟩,eG.new w 84 _,eQ (Nat.le_refl _)⟩)
  generalize hce:(r.dT i).wc=c at*
  generalize aFt:(r.dT i).wn=np at*
  have HCE:=aA (aB hce aFt)
  clear hce aFt
  generalize (r.dT i).wt=ti at*
  generalize (r.dT i).wp=p at*
  generalize Ig:w.alloc (.cells #[.int .i64 (c:Nat),.bool np,.bool ti,.int .u64 (p:Nat)] 84)=w1 at rG ⊢
  clear t4 t5 t6 t7 tl
  have d0:=rG.out.1.1.cells.c0
  have dl:=rG.out.1.1.cells.lt
  have m0:=rG.out.1.1.m.hd.cell 0
  have ml:=rG.out.1.1.m.hd.lt
  simp [mT] at m0
  have hT:=rG.out.1.1.fH (i:=i) (by omega)
  have t0:=hT.c0
  have tl:=hT.lt
  have b0:=rG.out.2.1.cell 0
  have b1:=rG.out.2.1.cell 1
  have b3:=rG.out.2.1.cell 3
  have bl:=rG.out.2.1.lt
  simp only [aE,aC,aD] at b0 b1 b3
  clear hT
  have HK:=aA (show ∀w',Ext w1 w'→w'.cell? ⟨K.rb,0,none⟩=some (.pointer (some ⟨K.m.mb,0,none⟩))∧w'.cell? ⟨K.m.mb,0,none⟩=some (.pointer (some ⟨K.m.k.hb,0,none⟩))∧w'.cell? ⟨K.tb i,0,none⟩=some (.int .i64 (i:Nat))∧w'.cell? ⟨w.heap.size,0,none⟩=some (.int .i64 (c:Nat))∧w'.cell? ⟨w.heap.size,1,none⟩=some (.bool np)∧w'.cell? ⟨w.heap.size,3,none⟩=some (.int .u64 (p:Nat)) from fun w' hx=>
    ⟨(hx.cell _ _ dl).trans d0,(hx.cell _ _ ml).trans m0,(hx.cell _ _ tl).trans t0,(hx.cell _ _ bl).trans b0,(hx.cell _ _ bl).trans b1,(hx.cell _ _ bl).trans b3⟩)
  go_region_held3 (fun w'=>w'.cell? ⟨K.rb,0,none⟩=some (.pointer (some ⟨K.m.mb,0,none⟩))∧w'.cell? ⟨K.m.mb,0,none⟩=some (.pointer (some ⟨K.m.k.hb,0,none⟩))∧w'.cell? ⟨K.tb i,0,none⟩=some (.int .i64 (i:Nat))∧w'.cell? ⟨w.heap.size,0,none⟩=some (.int .i64 (c:Nat))∧w'.cell? ⟨w.heap.size,1,none⟩=some (.bool np)∧w'.cell? ⟨w.heap.size,3,none⟩=some (.int .u64 (p:Nat))) (first | exact HK.out _ (Ext.refl _).drew | exact G2.out) (first
    | (go_at_call 110;refine (HA _ (lay z w 20) (rG.out.1.1.m.ext (Ext.refl _).drew)).mono ?_;rintro e w2 ⟨rfl,h',wB,Hx⟩;obtain ⟨z2,CQ,uE,sR,TI⟩:=rG.out.1.1.MG wB rG.out.2.1 rG.out.2.2;have Er:=aA (aB (aB CQ uE) (aB sR TI));have My:=aA Hx;have G2:=aA (aB CQ.cells.c0 (aB (CQ.m.hd.cell 0) (aB (CQ.fH (i:=i) (by omega)).c0 (aB (sR.cell 0) (aB (sR.cell 1) (sR.cell 3))))));clear wB Hx CQ uE sR TI))
  obtain ⟨z2,CQ,uE,sR,TI⟩:∃z2,dW w2 z2 K { r with m:= { r.m with h:=h' } }∧eF Rz (lay z w 20) w1 z2 w2∧eG w2 w.heap.size 84 #[.int .i64 (c:Nat),.bool np,.bool ti,.int .u64 (p:Nat)]∧z2 w.heap.size=20:=⟨_,Er.out.1.1,Er.out.1.2,Er.out.2.1,Er.out.2.2⟩
  clear Er G2 d0 dl ml m0 t0 tl bl b0 b1 b3
  have d0:=CQ.cells.c0
  have d6:=CQ.cells.c6
  have dl:=CQ.cells.lt
  have df:=CQ.cells.fz 6
  have AY:=aA (show (dW (w2.setCell ⟨K.rb,6,none⟩ (.int .i64 (-1))) z2 K { r with m:= { r.m with h:=h' },fM:= -1 }∧eF Rz (lay z w 20) w1 z2 (w2.setCell ⟨K.rb,6,none⟩ (.int .i64 (-1))))∧eG (w2.setCell ⟨K.rb,6,none⟩ (.int .i64 (-1))) w.heap.size 84 #[.int .i64 (c:Nat),.bool np,.bool ti,.int .u64 (p:Nat)] from by
    obtain ⟨h3,s3⟩:=CQ.qC (-1)
    exact ⟨⟨h3,uE.trans s3 fun _ h=>h⟩,(oV sR TI s3 (by unfold Rz;omega)).1⟩)
  have QM:=aA TI
  have gO:K.rb≠w.heap.size:=fun e=>by have:=CQ.rc.zb;rw [e] at this;omega
  have b0:=sR.cell 0
  have bl:=sR.lt
  simp only [aE,aC,aD] at b0
  clear CQ uE sR TI
  go_wp2_with fail
  generalize w2.setCell ⟨K.rb,6,none⟩ (.int .i64 (-1))=w3 at AY ⊢
  clear d0 d6 dl df gO bl b0
  obtain ⟨⟨XM,Fu⟩,hB3⟩:=AY.out
  have d0:=XM.cells.c0
  have dl:=XM.cells.lt
  have m4:=XM.m.hd.cell 4
  have ml:=XM.m.hd.lt
  simp [mT] at m4
  have hT:=XM.fH (i:=i) (by omega)
  have t0:=hT.c0
  have tl:=hT.lt
  have k0:=XM.m.cr.c i hi
  have kl:=XM.m.cr.lt
  have kc:=XM.m.cr.cc
  have b0:=hB3.cell 0
  have b1:=hB3.cell 1
  have bl:=hB3.lt
  simp only [aE,aC,aD] at b0 b1
  have HC:=aA (Lb c np (id:Nat) ((XM.ext (Ext.refl w3).drew).m.ca i hi) (by omega))
  have HS:=aA (show ∀w',Ext w3 w'→w'.cell? ⟨K.rb,0,none⟩=some (.pointer (some ⟨K.m.mb,0,none⟩))∧w'.cell? ⟨K.m.mb,4,none⟩=some (.slice (some ⟨K.m.cr,0,none⟩) 2 K.m.cc)∧w'.cell? ⟨K.tb i,0,none⟩=some (.int .i64 (i:Nat))∧w'.cell? ⟨K.m.cr,i,none⟩=some (.pointer (some ⟨K.m.cb i,0,none⟩))∧w'.cell? ⟨w.heap.size,0,none⟩=some (.int .i64 (c:Nat))∧w'.cell? ⟨w.heap.size,1,none⟩=some (.bool np) from fun w' hx=>
    ⟨(hx.cell _ _ dl).trans d0,(hx.cell _ _ ml).trans m4,(hx.cell _ _ tl).trans t0,(hx.cell _ _ kl).trans k0,(hx.cell _ _ bl).trans b0,(hx.cell _ _ bl).trans b1⟩)
  have gT:=aA (show ∀w' z',nV w' z' (K.m.cb i) i K.m.nM (mZ (r.m.ca i).held (kx c np) (id:Nat)) (r.m.ca i).kZ (r.m.ca i).mH→eF (fun k=>k=100+i) z2 w3.drew z' w'→dW w' z' K { r with m:= { r.m with h:=h',ca:=sX r.m.ca i { r.m.ca i with held:=mZ (r.m.ca i).held (kx c np) (id:Nat) } },fM:= -1 }∧eF Rz z2 w3 z' w' from fun w' z' hc hs=>by
    obtain ⟨h4,s4⟩:=(XM.ext (Ext.refl w3).drew).ca_ (x:= { r.m.ca i with held:=mZ (r.m.ca i).held (kx c np) (id:Nat) }) hi hc hs
    exact ⟨h4,(eF.dX (Ext.refl w3).drew Rz z2).trans s4 fun _ h=>h⟩)
  clear hT XM Fu hB3 HA HK HH
  go_region_held3 (fun w'=>w'.cell? ⟨K.rb,0,none⟩=some (.pointer (some ⟨K.m.mb,0,none⟩))∧w'.cell? ⟨K.m.mb,4,none⟩=some (.slice (some ⟨K.m.cr,0,none⟩) 2 K.m.cc)∧w'.cell? ⟨K.tb i,0,none⟩=some (.int .i64 (i:Nat))∧w'.cell? ⟨K.m.cr,i,none⟩=some (.pointer (some ⟨K.m.cb i,0,none⟩))∧w'.cell? ⟨w.heap.size,0,none⟩=some (.int .i64 (c:Nat))∧w'.cell? ⟨w.heap.size,1,none⟩=some (.bool np)) (first | exact HS.out _ (Ext.refl _).drew | exact HK4.out) (first
    | (go_at_call 108;refine HC.out.mono ?_;rintro e w4 ⟨rfl,zM,uX⟩;have wE:=aA (gT.out w4 _ zM uX);obtain ⟨hB4, -⟩:=oV AY.out.2 QM.out wE.out.2 (by unfold Rz;omega);have HK4:=aA (aB wE.out.1.cells.c0 (aB (wE.out.1.m.hd.cell 4) (aB (wE.out.1.fH (i:=i) (by omega)).c0 (aB (wE.out.1.m.cr.c i hi) (aB (hB4.cell 0) (hB4.cell 1))))));clear zM uX hB4))
  clear HC HS gT d0 dl ml m4 t0 tl k0 kl kc bl b0 b1 HK4
  have HS5:=aA ((rG.out.1.2.trans AY.out.1.2 fun _ h=>h).trans wE.out.2 fun _ h=>h)
  have hT:=wE.out.1.fH (i:=i) (by omega)
  have t2:=hT.c2
  have tl:=hT.lt
  have f2:=hT.fz 2
  clear hT
  go_wp2_with fail
  go_returns
  obtain ⟨h6,s6⟩:=wE.out.1.zQ (i:=i) (by omega) 1
  refine ⟨rfl,h',My.out,_,?_,HS5.out.trans s6 fun _ h=>h⟩
  have e:nB r i h' id=gQ { r with m:= { r.m with h:=h',ca:=sX r.m.ca i { r.m.ca i with held:=mZ (r.m.ca i).held (kx c np) (id:Nat) } },fM:= -1 } i 1:=by
    unfold nB
    rw [HCE.out.1,HCE.out.2]
    rfl
  rw [e]
  exact h6
end
section
variable {z z':Nat→Nat} {w w':aH} {K:jD} {r:iL}
def qY (q n:Nat):gN:=⟨fD.Az q n true,fun _=>false,fun _=>false⟩
def rH:Kd:=⟨0,true,true,true⟩
def iU.owned (m:iU) (h:HS) (id g q n i q':Nat) (v:aG):iU:= { m with h:= { h with st:=kC h.st g (gW (qY q n) 0) },s:=uN m.s ⟨id,q*8192,rH⟩ q' i v }
def iU.yO (m:iU) (h:HS) (id g q n i q':Nat) (v:aG):iU:= { m.owned h id g q n i q' v with eK:=m.eK+1 }
def sI (r:iL) (i k:Nat) (h:HS) (id g q n j q':Nat) (v:aG):iL:=fY { r with m:=r.m.yO h id g q n j q' v,fM:= -1 } i k (q*8192) (n*8192) 0
structure Kn (z:Nat→Nat) (w:aH) (K:jD) (b T:Nat) (vs:Array aG) (w':aH) (z':Nat→Nat) (r:iL):Prop where
 run:dW w' z' K r
 eC:eF Rz z w z' w'
 box:eG w' b T vs
 zb:z' b=20
section
variable {b T:Nat} {vs:Array aG} {w1 w2:aH} {z1 z2:Nat→Nat} {r2:iL} {m:iU}
theorem Kn.to (h:Kn z w K b T vs w1 z1 r) (hr:dW w2 z2 K r2) (hs:eF Rz z1 w1 z2 w2):Kn z w K b T vs w2 z2 r2:=
 ⟨hr,h.eC.trans hs fun _ h=>h,(oV h.box h.zb hs (by unfold Rz;omega)).1,(oV h.box h.zb hs (by unfold Rz;omega)).2⟩
theorem Kn.ext (h:Kn z w K b T vs w1 z1 r) (hx:Ext w1 w2):Kn z w K b T vs w2 z1 r:=h.to (h.run.ext hx) (eF.dX hx Rz z1)
theorem Kn.mP (h:Kn z w K b T vs w1 z1 r) (hm:eE w2 z2 K.m m) (hs:eF Mz z1 w1 z2 w2):Kn z w K b T vs w2 z2 { r with m:=m } :=
 h.to (h.run.DY hm hs) (hs.mono fun i hi=>by unfold Mz at hi;unfold Rz;omega)
end
theorem FT (Φ:Nat→HS→Prop) (i k id q n j:Nat) (hi:i<2) (h:dW w z K r) (hk:(r.dT i).ask=k) (sN:k<r.asks.length) (ho:r.no≤500) (hc:(r.dT i).wc=0) (hwn:(r.dT i).wn=true) (hwt:(r.dT i).wt=false) (hwp:(r.dT i).wp=n) (hid:1≤id∧id<1000) (DS:1≤n∧n≤15) (hq:q≤1000) (hm:r.m.eK<1000)
    (HA:∀w' z',eE w' z' K.m r.m→aF prog 110 #[.pointer (some ⟨K.m.k.hb,0,none⟩),.int .i64 (i:Nat),.int .u64 (n:Nat),.int .i64 0,.bool true] w' fun e w''=>e= .returned (.tuple #[.int .i64 (id:Nat),.int .i64 0])∧∃g h',fQ z' w' K.m.k h' w''∧Φ g h')
    (HP:∀g h',Φ g h'→kF h' id g (qY q n) q n)
    (kS:eI r.m.s.ids (id:Int)=none) (Ms:eI r.m.s.Ac (q*8192)=none) (hn:(r.m.s.rw rH).length≤1000) (wU:j≤(r.m.s.rw rH).length) (hp:∀l,l<(r.m.s.rw rH).length→decide (q*8192≤(r.m.s.it ((r.m.s.rw rH).getD l 0)).base)=decide (j≤l)):
    aF prog 59 #[.pointer (some ⟨K.rb,0,none⟩),.pointer (some ⟨K.tb i,0,none⟩)] w fun e w'=>e= .returned (.tuple #[])∧∃g h' q' v,Φ g h'∧gK z w K (sI r i k h' id g q n j q' v) w':=by
  have hT:=h.fH (i:=i) (by omega)
  have t4:=hT.c4
  have t5:=hT.c5
  have t6:=hT.c6
  have t7:=hT.c7
  have tl:=hT.lt
  have HH:=aA h
  rw [hc] at t4
  rw [hwn] at t5
  rw [hwt] at t6
  rw [hwp] at t7
  have yH:(i:Int)<2:=by omega
  clear h hT
  go_enter func59,ntmps59
  go_wp2_with fail
  have rG:=aA (show (dW (w.alloc (.cells #[.int .i64 0,.bool true,.bool false,.int .u64 (n:Nat)] 84)) (lay z w 20) K r∧eF Rz z w (lay z w 20) (w.alloc (.cells #[.int .i64 0,.bool true,.bool false,.int .u64 (n:Nat)] 84)))∧eG (w.alloc (.cells #[.int .i64 0,.bool true,.bool false,.int .u64 (n:Nat)] 84)) w.heap.size 84 #[.int .i64 0,.bool true,.bool false,.int .u64 (n:Nat)]∧lay z w 20 w.heap.size=20 from by
    have x1:Ext w (w.alloc (.cells #[.int .i64 0,.bool true,.bool false,.int .u64 (n:Nat)] 84)):=(Ext.refl w).alloc _ _
    exact ⟨⟨HH.out.eC (eF.fL x1 (fun _=>False) z 20) (fun _ _ h=>h) (fun h=>h),eF.fL x1 Rz z 20⟩,eG.new w 84 _,eQ (Nat.le_refl _)⟩)
  generalize Ig:w.alloc (.cells #[.int .i64 0,.bool true,.bool false,.int .u64 (n:Nat)] 84)=w1 at rG ⊢
  clear t4 t5 t6 t7 tl
  have d0:=rG.out.1.1.cells.c0
  have dl:=rG.out.1.1.cells.lt
  have m0:=rG.out.1.1.m.hd.cell 0
  have ml:=rG.out.1.1.m.hd.lt
  simp [mT] at m0
  have hT:=rG.out.1.1.fH (i:=i) (by omega)
  have t0:=hT.c0
  have tl:=hT.lt
  have b0:=rG.out.2.1.cell 0
  have b1:=rG.out.2.1.cell 1
  have b3:=rG.out.2.1.cell 3
  have bl:=rG.out.2.1.lt
  simp only [aE,aC,aD] at b0 b1 b3
  clear hT
  have HK:=aA (show ∀w',Ext w1 w'→w'.cell? ⟨K.rb,0,none⟩=some (.pointer (some ⟨K.m.mb,0,none⟩))∧w'.cell? ⟨K.m.mb,0,none⟩=some (.pointer (some ⟨K.m.k.hb,0,none⟩))∧w'.cell? ⟨K.tb i,0,none⟩=some (.int .i64 (i:Nat))∧w'.cell? ⟨w.heap.size,0,none⟩=some (.int .i64 0)∧w'.cell? ⟨w.heap.size,1,none⟩=some (.bool true)∧w'.cell? ⟨w.heap.size,3,none⟩=some (.int .u64 (n:Nat)) from fun w' hx=>
    ⟨(hx.cell _ _ dl).trans d0,(hx.cell _ _ ml).trans m0,(hx.cell _ _ tl).trans t0,(hx.cell _ _ bl).trans b0,(hx.cell _ _ bl).trans b1,(hx.cell _ _ bl).trans b3⟩)
  go_region_held3 (fun w'=>w'.cell? ⟨K.rb,0,none⟩=some (.pointer (some ⟨K.m.mb,0,none⟩))∧w'.cell? ⟨K.m.mb,0,none⟩=some (.pointer (some ⟨K.m.k.hb,0,none⟩))∧w'.cell? ⟨K.tb i,0,none⟩=some (.int .i64 (i:Nat))∧w'.cell? ⟨w.heap.size,0,none⟩=some (.int .i64 0)∧w'.cell? ⟨w.heap.size,1,none⟩=some (.bool true)∧w'.cell? ⟨w.heap.size,3,none⟩=some (.int .u64 (n:Nat))) (first | exact HK.out _ (Ext.refl _).drew | exact G2.out) (first
    | (go_at_call 110;refine (HA _ (lay z w 20) (rG.out.1.1.m.ext (Ext.refl _).drew)).mono ?_;rintro e w2 ⟨rfl,g,h',wB,Hx⟩;obtain ⟨z2,CQ,uE,sR,TI⟩:=rG.out.1.1.MG wB rG.out.2.1 rG.out.2.2;have Er:=aA (aB (aB CQ uE) (aB sR TI));have My:=aA Hx;have G2:=aA (aB CQ.cells.c0 (aB (CQ.m.hd.cell 0) (aB (CQ.fH (i:=i) (by omega)).c0 (aB (sR.cell 0) (aB (sR.cell 1) (sR.cell 3))))));clear wB Hx CQ uE sR TI))
  obtain ⟨z2,CQ,uE,sR,TI⟩:∃z2,dW w2 z2 K { r with m:= { r.m with h:=h' } }∧eF Rz (lay z w 20) w1 z2 w2∧eG w2 w.heap.size 84 #[.int .i64 0,.bool true,.bool false,.int .u64 (n:Nat)]∧z2 w.heap.size=20:=⟨_,Er.out.1.1,Er.out.1.2,Er.out.2.1,Er.out.2.2⟩
  clear Er G2 d0 dl ml m0 t0 tl bl b0 b1 b3
  have d0:=CQ.cells.c0
  have d6:=CQ.cells.c6
  have dl:=CQ.cells.lt
  have df:=CQ.cells.fz 6
  have AY:=aA (show (dW (w2.setCell ⟨K.rb,6,none⟩ (.int .i64 (-1))) z2 K { r with m:= { r.m with h:=h' },fM:= -1 }∧eF Rz (lay z w 20) w1 z2 (w2.setCell ⟨K.rb,6,none⟩ (.int .i64 (-1))))∧eG (w2.setCell ⟨K.rb,6,none⟩ (.int .i64 (-1))) w.heap.size 84 #[.int .i64 0,.bool true,.bool false,.int .u64 (n:Nat)] from by
    obtain ⟨h3,s3⟩:=CQ.qC (-1)
    exact ⟨⟨h3,uE.trans s3 fun _ h=>h⟩,(oV sR TI s3 (by unfold Rz;omega)).1⟩)
  have QM:=aA TI
  have gO:K.rb≠w.heap.size:=fun e=>by have:=CQ.rc.zb;rw [e] at this;omega
  have b0:=sR.cell 0
  have bl:=sR.lt
  simp only [aE,aC,aD] at b0
  clear CQ uE sR TI
  go_wp2_with fail
  generalize w2.setCell ⟨K.rb,6,none⟩ (.int .i64 (-1))=w3 at AY ⊢
  clear d0 d6 dl df gO bl b0
  have Cg:=aA (rG.out.1.2.trans AY.out.1.2 fun _ h=>h)
  clear rG HK HA HH
  have hhs:=HP _ _ My.out
  have HC0:=aA fun w' z' r' (hr:dW w' z' K r') (e1:(r'.dT i).ask=k) (e2:k<r'.asks.length)=>lT i k (by omega) hr e1 e2
  have Gm:fD.nQ (qY q n).U (qY q n).s.look 0:=⟨Nat.le_refl _,rfl,fun l h1 h2=>by omega⟩
  have e5:(gW (qY q n) 0).s.base+0*(gW (qY q n) 0).s.elem=q*8192:=by show q*8192+0*(n*8192)=_;omega
  have e6:(gW (qY q n) 0).s.elem=n*8192:=rfl
  have HO:=aA (show ∀w',Ext w3 w'→aF prog 111 #[.pointer (some ⟨K.m.mb,0,none⟩),.int .i64 (id:Nat)] w' fun e w''=>e= .returned (.int .u64 ((q*8192:Nat):Int))∧∃q' v,kG z2 w' K.m (r.m.owned h' id g q n j q' v) w'' from fun w' hx=>e_ id g q n j (qY q n) (AY.out.1.1.ext hx).m hhs hid rfl Gm (show 0<1 by decide) (show 0<68 by decide) kS Ms hn wU hp)
  have HG:=aA fun (x y:Int) (n0:Nat) set sn sc w' z' q' v (JH:eE w' z' K.m (r.m.owned h' id g q n j q' v))=>CH x y n0 set sn sc 0 n false id g q n 0 (gW (qY q n) 0) JH ⟨hhs.nA,by omega,rfl,show 0<1 by decide,rfl,by rw [e5];omega,by rw [e5];omega,by omega,by rw [e5];omega,by rw [e6];omega⟩ hm (fun e=>by cases e)
  have e7:((0:Nat):Int)=0:=rfl
  simp only [e5] at HG
  simp only [e6,e7] at HG
  have Y2:=aA (show Kn z w K w.heap.size 84 #[.int .i64 0,.bool true,.bool false,.int .u64 (n:Nat)] w3 z2 { r with m:= { r.m with h:=h' },fM:= -1 } from ⟨AY.out.1.1,Cg.out,AY.out.2,QM.out⟩)
  have JW:=aA (show ∀w' z' r',Kn z w K w.heap.size 84 #[.int .i64 0,.bool true,.bool false,.int .u64 (n:Nat)] w' z' r'→w'.cell? ⟨K.rb,0,none⟩=some (.pointer (some ⟨K.m.mb,0,none⟩))∧w'.cell? ⟨w.heap.size,0,none⟩=some (.int .i64 0)∧w'.cell? ⟨w.heap.size,1,none⟩=some (.bool true)∧w'.cell? ⟨w.heap.size,2,none⟩=some (.bool false)∧w'.cell? ⟨w.heap.size,3,none⟩=some (.int .u64 (n:Nat)) from fun w' z' r' h=>⟨h.run.cells.c0,h.box.cell 0,h.box.cell 1,h.box.cell 2,h.box.cell 3⟩)
  have RD:=aA fun w' z' r' (hr:dW w' z' K r') (e1:(r'.dT i).ask=k) (e2:k<r'.asks.length) (e3:r'.no≤500)=>rQ i k (q*8192) (n*8192) 0 (by omega) hr e1 e2 e3
  have HE:=aA (aB hk (aB sN ho))
  have qR:∀(q':Nat) (v:aG),(r.m.owned h' id g q n j q' v).eK=r.m.eK:=fun _ _=>rfl
  simp only [qR] at HG
  clear AY Cg QM kS Ms hn wU hp HP hhs Gm hm hk sN ho qR e5 e6 hc hwn hwt hwp
  generalize Mo:q*8192=ba at HO HG RD
  generalize zS:n*8192=el at HG RD
  have YX:=aA (aB Mo zS)
  clear Mo zS
  have hl:=Y2.out.run.cells.lt
  have bl:=Y2.out.box.lt
  obtain ⟨d0,b0,b1,b2,b3⟩:=JW.out _ _ _ Y2.out
  generalize YN:r.asks[k]'HE.out.2.1=ak at HC0
  unfold oP at HC0
  go_region_held3 (fun w'=>w'.cell? ⟨K.rb,0,none⟩=some (.pointer (some ⟨K.m.mb,0,none⟩))∧w'.cell? ⟨w.heap.size,0,none⟩=some (.int .i64 0)∧w'.cell? ⟨w.heap.size,1,none⟩=some (.bool true)∧w'.cell? ⟨w.heap.size,2,none⟩=some (.bool false)∧w'.cell? ⟨w.heap.size,3,none⟩=some (.int .u64 (n:Nat))) (first | exact JW.out _ _ _ (Y2.out.ext (Ext.refl _).drew) | exact JW.out _ _ _ HK9.out | exact JW.out _ _ _ HK8.out | exact JW.out _ _ _ HK7.out | exact JW.out _ _ _ HK6.out | exact JW.out _ _ _ HK5.out) (first
    | (go_at_call 85;refine (HC0.out _ _ _ (Y2.out.run.ext (Ext.refl _).drew) HE.out.1 HE.out.2.1).mono ?_;rintro e w5 ⟨rfl,pZ⟩;have HK5:=aA ((Y2.out.ext (Ext.refl _).drew).ext pZ);have kJ:=aA ((Ext.refl w3).drew.trans pZ);clear pZ)
    | (go_at_call 111;refine (HO.out _ (by first | exact kJ.out | exact (Ext.refl _).drew)).mono ?_;rintro e w6 ⟨rfl,q',v,z6,XN,PO⟩;have HK6:=aA (show Kn z w K w.heap.size 84 #[.int .i64 0,.bool true,.bool false,.int .u64 (n:Nat)] w6 z6 { r with m:=r.m.owned h' id g q n j q' v,fM:= -1 } from by first | exact HK5.out.mP XN PO | exact (Y2.out.ext (Ext.refl _).drew).mP XN PO);clear XN PO)
    | (go_at_call 85;refine (HC0.out _ _ _ HK6.out.run HE.out.1 HE.out.2.1).mono ?_;rintro e w7 ⟨rfl,hx7⟩;have HK7:=aA (HK6.out.ext hx7);clear hx7)
    | (go_at_call 99;refine (HG.out _ _ _ _ _ _ _ z6 q' v (by first | exact HK7.out.run.m | exact HK6.out.run.m)).mono ?_;rintro e w8 ⟨rfl,z8,hm8,Y3⟩;have HK8:=aA (show Kn z w K w.heap.size 84 #[.int .i64 0,.bool true,.bool false,.int .u64 (n:Nat)] w8 z8 { r with m:=r.m.yO h' id g q n j q' v,fM:= -1 } from by first | exact HK7.out.mP hm8 Y3 | exact HK6.out.mP hm8 Y3);clear hm8 Y3)
    | (go_at_call 37;refine (RD.out _ _ _ HK8.out.run HE.out.1 HE.out.2.1 HE.out.2.2).mono ?_;rintro e w9 ⟨rfl,z9,hr9,Fp⟩;have HK9:=aA (HK8.out.to hr9 Fp);clear hr9 Fp))
  go_wp2_with fail
  go_returns
  refine ⟨rfl,g,h',q',v,My.out,z9,?_,HK9.out.eC⟩
  have:=HK9.out.run
  rw [←YX.out.1, ←YX.out.2] at this
  exact this
end
section
variable {z z':Nat→Nat} {w w':aH} {gp go c:Nat} {K:mO} {m:iU}
def PQ (w:aH) (b:Nat) (x0 x1 x2:aG):aH:=((w.setCell ⟨b,0,none⟩ x0).setCell ⟨b,1,none⟩ x1).setCell ⟨b,2,none⟩ x2
theorem o_ {b T:Nat} {v0 v1 v2:aG} (hb:eG w b T #[v0,v1,v2]) (hz:z b=20) (x0 x1 x2:aG):(eF (fun j=>j=20) z w z (PQ w b x0 x1 x2)∧eV (fun j=>j=b) w (PQ w b x0 x1 x2))∧(PQ w b x0 x1 x2).cell? ⟨b,0,none⟩=some x0∧(PQ w b x0 x1 x2).cell? ⟨b,1,none⟩=some x1∧(PQ w b x0 x1 x2).cell? ⟨b,2,none⟩=some x2:=by
 unfold PQ
 have hc:eV (fun j=>j=b) w (((w.setCell ⟨b,0,none⟩ x0).setCell ⟨b,1,none⟩ x1).setCell ⟨b,2,none⟩ x2):=(((eV.refl (fun j=>j=b) _).setCell (p:=⟨b,0,none⟩) (.inl rfl) _).setCell (p:=⟨b,1,none⟩) (.inl rfl) _).setCell (p:=⟨b,2,none⟩) (.inl rfl) _
 refine ⟨⟨⟨hc.mono fun j hj=>.inl (by rw [hj];exact hz),fun _ _=>rfl⟩,hc⟩,?_,?_,?_⟩
 ·exact (eD (fT (by decide))).trans ((eD (fT (by decide))).trans (fP (hb.cell 0)))
 ·exact (eD (fT (by decide))).trans (fP ((eD (fT (by decide))).trans (hb.cell 1)))
 ·exact fP ((eD (fT (by decide))).trans ((eD (fT (by decide))).trans (hb.cell 2)))
theorem eE.TJ (h:eE w z K m) (s:eF (fun j=>j=20) z w z' w'):eE w' z' K m:=h.eC s (fun i hi e=>by unfold Mz at hi;omega) (by omega)
theorem TK (Φ:Nat→HS→Prop) (id q:Nat) (sp:Option Addr) (sn sc:Nat) (h:eE w z K m) (hf:m.fresh=true) (hid:1≤id∧id<1000) (hq:q≤1000)
    (HA:∀w' z',eE w' z' K { m with fresh:=false }→aF prog 272 #[.pointer (some ⟨K.k.hb,0,none⟩),.int .u64 4,.int .i64 4096] w' fun e w''=>e= .returned (.tuple #[.int .i64 (id:Nat),.int .i64 0])∧∃g h',fQ z' w' K.k h' w''∧Φ g h')
    (HP:∀g h',Φ g h'→kF h' id g (qX q) q 4):
    aF prog 113 #[.pointer (some ⟨K.mb,0,none⟩),.agg #[.int .i64 2,.int .i64 1,.int .u64 4096,.int .u64 0,.int .i64 0,.int .u64 0,.bool false,.int .i64 0,.slice none 0 0,.slice sp sn sc]] w fun e w'=>e= .returned (.agg #[.int .u64 ((q*8192+3*4096:Nat):Int),.int .u64 0,.int .i64 0])∧∃g h',Φ g h'∧kG z w K (m.BV h' g q) w':=by
  have gX:=aA (show Ext w ((w.alloc (.cells #[.int .i64 2,.int .i64 1,.int .u64 4096,.int .u64 0,.int .i64 0,.int .u64 0,.bool false,.int .i64 0,.slice none 0 0,.slice sp sn sc] 38)).alloc (.cells #[.int .u64 0,.int .u64 0,.int .i64 0] 41)) from ((Ext.refl w).alloc _ _).alloc _ _)
  have vH:=aA (show eG ((w.alloc (.cells #[.int .i64 2,.int .i64 1,.int .u64 4096,.int .u64 0,.int .i64 0,.int .u64 0,.bool false,.int .i64 0,.slice none 0 0,.slice sp sn sc] 38)).alloc (.cells #[.int .u64 0,.int .u64 0,.int .i64 0] 41)) w.heap.size 38 #[.int .i64 2,.int .i64 1,.int .u64 4096,.int .u64 0,.int .i64 0,.int .u64 0,.bool false,.int .i64 0,.slice none 0 0,.slice sp sn sc]∧eG ((w.alloc (.cells #[.int .i64 2,.int .i64 1,.int .u64 4096,.int .u64 0,.int .i64 0,.int .u64 0,.bool false,.int .i64 0,.slice none 0 0,.slice sp sn sc] 38)).alloc (.cells #[.int .u64 0,.int .u64 0,.int .i64 0] 41)) (w.heap.size+1) 41 #[.int .u64 0,.int .u64 0,.int .i64 0] from by
    have q1:=eG.new (w.alloc (.cells #[.int .i64 2,.int .i64 1,.int .u64 4096,.int .u64 0,.int .i64 0,.int .u64 0,.bool false,.int .i64 0,.slice none 0 0,.slice sp sn sc] 38)) 41 #[.int .u64 0,.int .u64 0,.int .i64 0]
    rw [aH.size_alloc] at q1
    exact ⟨(eG.new w _ _).alloc _,q1⟩)
  have HH:=aA h
  go_enter func113,ntmps113
  go_wp2_with fail
  generalize (w.alloc (.cells #[.int .i64 2,.int .i64 1,.int .u64 4096,.int .u64 0,.int .i64 0,.int .u64 0,.bool false,.int .i64 0,.slice none 0 0,.slice sp sn sc] 38)).alloc (.cells #[.int .u64 0,.int .u64 0,.int .i64 0] 41)=w1 at gX vH ⊢
  have uJ:=aA (show eE w1 (lay z w 20) K m∧eF Mz z w (lay z w 20) w1 from ⟨h.eC (eF.fL gX.out (fun _=>False) z 20) (fun _ _ h=>h) (fun h=>h),eF.fL gX.out Mz z 20⟩)
  have HS:=aA (PB Φ id q (uJ.out.1.ext (Ext.refl w1).drew) hf hid hq HA HP)
  have HZ:=aA (show lay z w 20 w.heap.size=20∧lay z w 20 (w.heap.size+1)=20 from ⟨eQ (Nat.le_refl _),eQ (by omega)⟩)
  generalize jT:lay z w 20=z1 at uJ HS HZ
  clear h HA HP HH jT
  have m5:=uJ.out.1.hd.cell 5
  have ml:=uJ.out.1.hd.lt
  simp [mT] at m5
  have b1:=vH.out.1.cell 1
  have b2:=vH.out.1.cell 2
  have bl:=vH.out.1.lt
  simp only [aE,aC,aD] at b1 b2
  have HK:=aA (show ∀w',Ext w1 w'→w'.cell? ⟨K.mb,5,none⟩=some (.pointer (some ⟨K.qE,0,none⟩))∧w'.cell? ⟨w.heap.size,1,none⟩=some (.int .i64 1)∧w'.cell? ⟨w.heap.size,2,none⟩=some (.int .u64 4096) from fun w' hx=>
    ⟨(hx.cell _ _ ml).trans m5,(hx.cell _ _ bl).trans b1,(hx.cell _ _ bl).trans b2⟩)
  generalize wK:q*8192+3*4096=b3 at HS ⊢
  go_region_held3 (fun w'=>w'.cell? ⟨K.mb,5,none⟩=some (.pointer (some ⟨K.qE,0,none⟩))∧w'.cell? ⟨w.heap.size,1,none⟩=some (.int .i64 1)∧w'.cell? ⟨w.heap.size,2,none⟩=some (.int .u64 4096)) (first | exact HK.out _ (Ext.refl _).drew | exact G2.out) (first
    | (go_at_call 150;refine HS.out.mono ?_;rintro e w2 ⟨rfl,g,h',Hx,z2,mI,Es⟩;have He:=aA (aB (oV (vH.out.1.drew) HZ.out.1 Es (by unfold Mz;omega)) (oV (vH.out.2.drew) HZ.out.2 Es (by unfold Mz;omega)));have G2:=aA (aB (mI.hd.cell 5) (aB (He.out.1.1.cell 1) (He.out.1.1.cell 2)));have AA:=aA (aB Hx (aB mI Es));clear Hx mI Es))
  have r0:=He.out.2.1.cell 0
  have r1:=He.out.2.1.cell 1
  have r2:=He.out.2.1.cell 2
  have rl:=He.out.2.1.lt
  have rf0:=He.out.2.1.frozen 0
  have rf1:=He.out.2.1.frozen 1
  have rf2:=He.out.2.1.frozen 2
  have HP3:=aA (o_ He.out.2.1 He.out.2.2 (.int .u64 (b3:Nat)) (.int .u64 0) (.int .i64 0))
  unfold PQ at HP3
  clear m5 ml b1 b2 bl HK G2
  go_wp2_with fail
  generalize ((w2.setCell ⟨w.heap.size+1,0,none⟩ (.int .u64 (b3:Nat))).setCell ⟨w.heap.size+1,1,none⟩ (.int .u64 0)).setCell ⟨w.heap.size+1,2,none⟩ (.int .i64 0)=w5 at HP3 ⊢
  obtain ⟨⟨s5,Fm⟩,q0,q1,q2⟩:=HP3.out
  have s6:eF Mz z w z2 w2:=(uJ.out.2.trans (eF.dX (Ext.refl w1).drew Mz z1) fun _ h=>h).trans AA.out.2.2 fun _ h=>h
  refine bodyPost_ret (v:=.agg #[.int .u64 (b3:Nat),.int .u64 0,.int .i64 0]) (by simp [results,results113,go_sem,q0,q1,q2]) rfl ?_
  subst wK
  exact ⟨rfl,g,h',AA.out.1,z2,AA.out.2.1.TJ s5,s6.eA.trans Fm fun i hi=>.inr (by omega),s6.zn⟩
end
section
variable {z z':Nat→Nat} {w w':aH} {K:jD} {r:iL}
def DC (r:iL) (i k:Nat) (h:HS) (g q:Nat):iL:= { fY { r with m:=r.m.BV h g q } i k (q*8192+3*4096) 0 0 with fM:= -1 }
structure MH (a:Sl):Prop where
 op:a.op=2
 p:a.p=1
 n:a.n=4096
theorem MI (Φ:Nat→HS→Prop) (i k id q:Nat) (hi:i<2) (h:dW w z K r) (hk:(r.dT i).ask=k) (sN:k<r.asks.length) (ha:MH r.asks[k]) (ho:r.no≤500) (hf:r.m.fresh=true) (hid:1≤id∧id<1000) (hq:q≤1000)
    (HA:∀w' z',eE w' z' K.m { r.m with fresh:=false }→aF prog 272 #[.pointer (some ⟨K.m.k.hb,0,none⟩),.int .u64 4,.int .i64 4096] w' fun e w''=>e= .returned (.tuple #[.int .i64 (id:Nat),.int .i64 0])∧∃g h',fQ z' w' K.m.k h' w''∧Φ g h')
    (HP:∀g h',Φ g h'→kF h' id g (qX q) q 4):
    aF prog 60 #[.pointer (some ⟨K.rb,0,none⟩),.pointer (some ⟨K.tb i,0,none⟩)] w fun e w'=>e= .returned (.tuple #[])∧∃g h',Φ g h'∧gK z w K (DC r i k h' g q) w':=by
  have H1:=aA (nI h)
  have hdf:∀nq,(binOp .eql 82 (.pointer (some ⟨K.tb i,0,none⟩)) (.pointer (some ⟨K.tb 3,0,none⟩))).run prog (w.drewN nq)= .ok (.bool false) (w.drewN nq):=fun nq=>h.xQ (by omega) (by omega) (by omega) ((Ext.refl w).eZ nq)
  have HC:=aA fun w' (hx:Ext w w')=>lT i k (by omega) (h.ext hx) hk sN
  have HAC:=aA fun w' (hx:Ext w w')=>TK Φ id q r.asks[k].sp r.asks[k].sn r.asks[k].sc (h.ext hx).m hf hid hq HA HP
  have RD:=aA fun w' z' r' (hr:dW w' z' K r') (e1:(r'.dT i).ask=k) (e2:k<r'.asks.length) (e3:r'.no≤500)=>rQ i k (q*8192+3*4096) 0 0 (by omega) hr e1 e2 e3
  have HE:=aA (aB hk (aB sN ho))
  have HH:=aA h
  unfold oP at HC
  rw [ha.op,ha.p,ha.n] at HC
  clear h hk HA HP ha hf
  generalize r.asks[k].sp=sp at*
  generalize r.asks[k].sn=sn at*
  generalize r.asks[k].sc=sc at*
  generalize wK:q*8192+3*4096=b3 at HAC RD
  go_enter func60,ntmps60
  go_wp2_with (first
    | (go_at_call 82;refine H1.out.mono ?_;rintro e w1 ⟨rfl,nq,rfl⟩;have aMu:=hdf nq)
    | fail)
  have gX:=aA (show Ext w (w.drewN nq) from (Ext.refl w).eZ nq)
  generalize w.drewN nq=w1 at gX ⊢
  clear hdf aMu
  have d0:=(HH.out.ext gX.out).cells.c0
  have dl:=(HH.out.ext gX.out).cells.lt
  go_region_held3 (fun w'=>w'.cell? ⟨K.rb,0,none⟩=some (.pointer (some ⟨K.m.mb,0,none⟩))) (first | exact (HH.out.ext (gX.out.trans (Ext.refl _).drew)).cells.c0 | exact gT.out.1.cells.c0 | exact AY.out.1.cells.c0 | exact (HH.out.ext gY.out).cells.c0) (first
    | (go_at_call 85;refine (HC.out _ (gX.out.trans (Ext.refl _).drew)).mono ?_;rintro e w2 ⟨rfl,lV⟩;have gY:=aA ((gX.out.trans (Ext.refl _).drew).trans lV);clear lV)
    | (go_at_call 113;refine (HAC.out _ gY.out).mono ?_;rintro e w3 ⟨rfl,g,h',Hx,z3,Gp,Dm⟩;have AY:=aA (aB ((HH.out.ext gY.out).DY Gp Dm) ((eF.dX gY.out Rz z).trans (Dm.mono fun i hi=>by unfold Mz at hi;unfold Rz;omega) fun _ h=>h));have My:=aA Hx;clear Gp Dm Hx)
    | (go_at_call 37;refine (RD.out _ _ _ AY.out.1 HE.out.1 HE.out.2.1 HE.out.2.2).mono ?_;rintro e w4 ⟨rfl,z4,hr4,Uw⟩;have gT:=aA (aB hr4 (AY.out.2.trans Uw fun _ h=>h));clear hr4 Uw))
  clear d0 dl
  have d6:=gT.out.1.cells.c6
  have dl:=gT.out.1.cells.lt
  have df:=gT.out.1.cells.fz 6
  go_wp2_with fail
  go_returns
  obtain ⟨h5,s5⟩:=gT.out.1.qC (-1)
  refine ⟨rfl,g,h',My.out,z4,?_,gT.out.2.trans s5 fun _ h=>h⟩
  subst wK
  exact h5
end
end Go.Proofs.YtgknoidliabanaaGreatDoor
