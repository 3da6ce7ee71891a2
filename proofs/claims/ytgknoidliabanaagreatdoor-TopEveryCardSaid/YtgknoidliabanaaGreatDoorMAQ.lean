/- TopEvery holds: MAQ. -/
import Derived.Defers
import Derived.Test.YtgknoidliabanaaGreatDoorMAP
set_option linter.unusedVariables false
set_option linter.unusedSimpArgs false
set_option linter.unusedSectionVars false
set_option maxRecDepth 20000
set_option maxHeartbeats 8000000
namespace Go.Proofs.YtgknoidliabanaaGreatDoor
open Go.RowKit _root_.Go.Proofs.Tryz
open Lib renaming hid→aA
open World renaming size_alloc→aB
open And renaming intro→aC
open Result renaming andThen_ok→aD
open List renaming take_succ_cons→aE,drop_succ_cons→aF,take_zero→aK,drop_zero→aL
open Go renaming World→aG,Calls→aH,Value→aR
open Nat renaming le_add_right→aI,lt_of_lt_of_le→aM,le_trans→aN,le_refl→aP,add_zero→aQ
open Sem renaming run_bind→aJ,run_pure→aO
theorem Kz (p a b c:Addr) (w:aG) (h:w.cell? p=some (.int .i64 0)):
  CallsD prog 200 #[.pointer (some p),.pointer (some a),.pointer (some b),.pointer (some c)] .returning w fun e u' w'=>u'= .returning∧(e= .returned (.tuple #[])∧w'=w):=by
 go_enter_d func200,ntmps200
 go_wp2_with fail
 go_returns
 exact ⟨rfl,rfl⟩
section
variable {z:Nat→Nat} {w:aG} {k:yK} {h h2:HS}
def boxes (w:aG) (hb:Nat) (n:Nat):aG:=((w.alloc (.cells #[.pointer (some ⟨hb,0,none⟩)] 71)).alloc (.cells #[.int .u64 n] 34)).alloc (.cells #[.int .i64 0] 24)
theorem Gx (p:Int) (n q:Nat) (h1:eX w z k h) (Aa:0<n) (hqn:q+n≤34359738368)
  (HG:∀z' w',Ext w w'→(∀i,i<w.heap.size→z' i=z i)→eX w' z' k h→aH prog 197 #[.pointer (some ⟨k.hb,0,none⟩),.int .i64 p,.int .u64 n] w' fun r w''=>r= .returned (.tuple #[.int .u64 q,.bool true])∧fQ z' w' k h2 w'')
  (hl:h2.m.laid.length≤400000) (hr:h2.m.ready.length≤400000) (YN:iF h2.m.laid q (q+n)=n) (hcr:iF h2.m.ready q (q+n)≠n):
  aH prog 145 #[.pointer (some ⟨k.hb,0,none⟩),.int .i64 p,.int .u64 n] w fun r w'=>r= .returned (.tuple #[.int .u64 q,.int .i64 0])∧fQ z w k { h2 with m:= { h2.m with ready:=tK h2.m.ready q (q+n) } } w':=by
 have mD:Ext w (boxes w k.hb n):=(((Ext.refl w).alloc _ _).alloc _ _).alloc _ _
 have hS0:=eF.fL mD Hz z 0
 have C7:=h1.eC (eF.fL mD (fun _=>False) z 0) (fun _ _ h=>h)
 have HG0:=aA (HG (lay z w 0) (boxes w k.hb n) mD (fun i hi=>eR hi) C7)
 have Qg:=aB w (.cells #[.pointer (some ⟨k.hb,0,none⟩)] 71)
 have B0:eG (boxes w k.hb n) w.heap.size 71 #[.pointer (some ⟨k.hb,0,none⟩)]:=((eG.new w _ _).alloc _).alloc _
 have B1:eG (boxes w k.hb n) (w.heap.size+1) 34 #[.int .u64 n]:=by
  have h9:=(eG.new (w.alloc (.cells #[.pointer (some ⟨k.hb,0,none⟩)] 71)) 34 #[.int .u64 n]).alloc (.cells #[.int .i64 0] 24)
  rw [aB] at h9
  exact h9
 have B2:eG (boxes w k.hb n) (w.heap.size+2) 24 #[.int .i64 0]:=by
  have h9:=eG.new ((w.alloc (.cells #[.pointer (some ⟨k.hb,0,none⟩)] 71)).alloc (.cells #[.int .u64 n] 34)) 24 #[.int .i64 0]
  rw [aB,aB] at h9
  exact h9
 have HB:=aA (aC B0 (aC B1 B2))
 have Vu:=aA hS0
 have hmf:∀(fn:Fn) (first cap:Array aR) (w:aG),(Instr.makeFunc fn first cap).run prog w= .ok (.func fn first cap) w:=fun _ _ _ _=>rfl
 have hb:=h1.hc.lt
 have y0:¬Hz (lay z w 0 w.heap.size):=by rw [eQ (aP _)];unfold Hz;omega
 have y1:¬Hz (lay z w 0 (w.heap.size+1)):=by rw [eQ (aI _ _)];unfold Hz;omega
 have y2:¬Hz (lay z w 0 (w.heap.size+2)):=by rw [eQ (aI _ _)];unfold Hz;omega
 have HY:=aA (aC y0 (aC y1 y2))
 clear HG hS0 C7 mD h1 Qg B0 B1 B2 y0 y1 y2
 go_enter_defers func145,ntmps145
 go_wp2_with fail
 refine HG0.out.mono ?_
 rintro r w1 ⟨rfl,z1,Ki,vA⟩
 have b0:=HB.out.1.eA vA.eA HY.out.1
 have b1:=HB.out.2.1.eA vA.eA HY.out.2.1
 have b2:=HB.out.2.2.eA vA.eA HY.out.2.2
 have c0:w1.cell? ⟨w.heap.size,0,none⟩=some (.pointer (some ⟨k.hb,0,none⟩)):=b0.cell 0
 have c1:w1.cell? ⟨w.heap.size+1,0,none⟩=some (.int .u64 n):=b1.cell 0
 have c2:w1.cell? ⟨w.heap.size+2,0,none⟩=some (.int .i64 0):=b2.cell 0
 have f2:=b2.frozen 0
 have l0:=b0.lt
 have l1:=b1.lt
 have l2:=b2.lt
 have m0:=Ki.hc.c0
 have AX:=Ki.hc.lt
 have O4:=aA Ki
 have HT1:=aA (Vu.out.trans vA fun _ h=>h)
 have vH:=aA (aC b0 (aC b1 b2))
 have HZ1:=aA vA.zn
 clear Ki vA b0 b1 b2
 go_wp2_with fail
 refine fC 6 (by kernel_rfl) (by kernel_rfl) ?_
 simp only [aE,aK,aF,aL]
 repeat (go_big_quiet_step (fail))
 refine wpQuiet_nil ?_
 go_wp2_with fail
 have lW:Ext w1 (w1.alloc (.cells #[.int .u64 q] 34)).drew:=((Ext.refl w1).alloc _ _).drew
 have Aq:=O4.out.ext lW
 have HC:=aA (Cj q n Aq.mem Aa hqn hl hr YN hcr)
 have tR:=aA Aq
 have uD:=aA lW
 clear Aq lW
 refine HC.out.mono ?_
 rintro r w2 ⟨rfl,hm⟩
 obtain ⟨z2,Co,Fu⟩:=tR.out.Eo hm
 have b2:=(vH.out.2.2.later uD.out).eA Fu.eA (by rw [HZ1.out _ HB.out.2.2.lt];exact HY.out.2.2)
 have d2:w2.cell? ⟨w.heap.size+2,0,none⟩=some (.int .i64 0):=b2.cell 0
 have e2:=b2.frozen 0
 have l3:=b2.lt
 have HF:=aA (show fQ z w k { h2 with m:= { h2.m with ready:=tK h2.m.ready q (q+n) } } (w2.setCell ⟨w.heap.size+2,0,none⟩ (.int .i64 0)) from by
  have jU:¬Hz (z2 (w.heap.size+2)):=by rw [Fu.zn _ (aM vH.out.2.2.lt uD.out.size),HZ1.out _ HB.out.2.2.lt];exact HY.out.2.2
  have s4:eF (fun i=>¬Hz i) z2 w2 z2 (w2.setCell ⟨w.heap.size+2,0,none⟩ (.int .i64 0)):=⟨((jB.refl (w.heap.size+2) 0 w2).set _).eA.mono fun i hi=>.inl (by rw [hi];exact jU),fun _ _=>rfl⟩
  have s5:eF Hz z w z2 (w2.setCell ⟨w.heap.size+2,0,none⟩ (.int .i64 0)):=by
   have s6:=(HT1.out.trans (eF.dX uD.out Hz z1) fun _ h=>h).trans Fu fun _ h=>h
   refine ⟨?_,s6.zn⟩
   refine s6.eA.trans ((jB.refl (w.heap.size+2) 0 w2).set (.int .i64 0)).eA fun i hi=>.inr (by omega)
  exact ⟨z2,Co.eC s4 (fun i hi h=>h hi),s5⟩)
 clear hm Co Fu b2
 go_wp2_with fail
 refine leaves_cons (f:=200) (args:= #[.pointer (some ⟨w.heap.size+2,0,none⟩),.pointer (some ⟨w.heap.size,0,none⟩),.pointer (some ⟨w1.heap.size,0,none⟩),.pointer (some ⟨w.heap.size+1,0,none⟩)]) (by simp) (by simp [go_sem]) ?_
 refine (Kz _ _ _ _ _ ?_).mono ?_
 ·exact fP d2
 rintro e u' w3 ⟨rfl,rfl,rfl⟩
 exact ⟨.tuple #[.int .u64 q,.int .i64 0],by simp [results,results145,go_sem,fP d2],rfl,HF.out⟩
def nS (h:HS) (n:Nat):HS:= { h with m:=⟨[(512,1024)], [(512,512+n)]⟩,t:=TQ 512 (512+n) 1024,a:= { h.a with ch:= [(1,2)] },hint:=1024 }
theorem Gy (p:Int) (n:Nat) (h1:eX w z k h) (hm:h.m=⟨[], []⟩) (ht:h.t=⟨[], [], [], []⟩) (ha:h.a.ch= []) (hh:h.hint=0) (Aa:0<n) (hn:n<512)
    (HG:∀z' w',Ext w w'→(∀i,i<w.heap.size→z' i=z i)→eX w' z' k h→aH prog 197 #[.pointer (some ⟨k.hb,0,none⟩),.int .i64 p,.int .u64 n] w' fun r w''=>r= .returned (.tuple #[.int .u64 0,.bool false])∧Ext w' w''):
    aH prog 145 #[.pointer (some ⟨k.hb,0,none⟩),.int .i64 p,.int .u64 n] w fun r w'=>r= .returned (.tuple #[.int .u64 (512:Nat),.int .i64 0])∧fQ z w k (nS h n) w':=by
  have mD:Ext w (boxes w k.hb n):=(((Ext.refl w).alloc _ _).alloc _ _).alloc _ _
  have hS0:=eF.fL mD Hz z 0
  have C7:=h1.eC (eF.fL mD (fun _=>False) z 0) (fun _ _ h=>h)
  have C3:=aA C7
  have HG0:=aA (HG (lay z w 0) (boxes w k.hb n) mD (fun i hi=>eR hi) C3.out)
  have Qg:=aB w (.cells #[.pointer (some ⟨k.hb,0,none⟩)] 71)
  have B0:eG (boxes w k.hb n) w.heap.size 71 #[.pointer (some ⟨k.hb,0,none⟩)]:=((eG.new w _ _).alloc _).alloc _
  have B1:eG (boxes w k.hb n) (w.heap.size+1) 34 #[.int .u64 n]:=by
    have h9:=(eG.new (w.alloc (.cells #[.pointer (some ⟨k.hb,0,none⟩)] 71)) 34 #[.int .u64 n]).alloc (.cells #[.int .i64 0] 24)
    rw [aB] at h9
    exact h9
  have B2:eG (boxes w k.hb n) (w.heap.size+2) 24 #[.int .i64 0]:=by
    have h9:=eG.new ((w.alloc (.cells #[.pointer (some ⟨k.hb,0,none⟩)] 71)).alloc (.cells #[.int .u64 n] 34)) 24 #[.int .i64 0]
    rw [aB,aB] at h9
    exact h9
  have HB:=aA (aC B0 (aC B1 B2))
  have Vu:=aA hS0
  have hmf:∀(fn:Fn) (first cap:Array aR) (w:aG),(Instr.makeFunc fn first cap).run prog w= .ok (.func fn first cap) w:=fun _ _ _ _=>rfl
  have hb:=h1.hc.lt
  have y0:¬Hz (lay z w 0 w.heap.size):=by rw [eQ (aP _)];unfold Hz;omega
  have y1:¬Hz (lay z w 0 (w.heap.size+1)):=by rw [eQ (aI _ _)];unfold Hz;omega
  have y2:¬Hz (lay z w 0 (w.heap.size+2)):=by rw [eQ (aI _ _)];unfold Hz;omega
  have HY:=aA (aC y0 (aC y1 y2))
  clear HG hS0 mD h1 Qg B0 B1 B2 y0 y1 y2
  go_enter_defers func145,ntmps145
  go_wp2_with fail
  refine HG0.out.mono ?_
  rintro r w0 ⟨rfl,hx⟩
  have tI:=aA hx
  have B0':=HB.out.1.later hx
  have B1':=HB.out.2.1.later hx
  have B2':=HB.out.2.2.later hx
  have c0:w0.cell? ⟨w.heap.size,0,none⟩=some (.pointer (some ⟨k.hb,0,none⟩)):=B0'.cell 0
  have c1:w0.cell? ⟨w.heap.size+1,0,none⟩=some (.int .u64 n):=B1'.cell 0
  have c2:w0.cell? ⟨w.heap.size+2,0,none⟩=some (.int .i64 0):=B2'.cell 0
  have f2:=B2'.frozen 0
  have l0:=B0'.lt
  have l1:=B1'.lt
  have l2:=B2'.lt
  have HW:=aA (Kw n (C3.out.ext hx) hm ht ha hh Aa (by omega))
  clear hx B0' B1' B2'
  go_wp2_with fail
  refine HW.out.mono ?_
  rintro r w1 ⟨rfl,z1,Ki,vA⟩
  have b0:=(HB.out.1.later tI.out).eA vA.eA HY.out.1
  have b1:=(HB.out.2.1.later tI.out).eA vA.eA HY.out.2.1
  have b2:=(HB.out.2.2.later tI.out).eA vA.eA HY.out.2.2
  have d2:w1.cell? ⟨w.heap.size+2,0,none⟩=some (.int .i64 0):=b2.cell 0
  have g2:=b2.frozen 0
  have k2:=b2.lt
  have jU:¬Hz (z1 (w.heap.size+2)):=by rw [vA.zn _ (HB.out.2.2.later tI.out).lt];exact HY.out.2.2
  have s4:eF (fun i=>¬Hz i) z1 w1 z1 (w1.setCell ⟨w.heap.size+2,0,none⟩ (.int .i64 0)):=⟨((jB.refl (w.heap.size+2) 0 w1).set _).eA.mono fun i hi=>.inl (by rw [hi];exact jU),fun _ _=>rfl⟩
  have Co:=Ki.eC s4 (fun i hi h=>h hi)
  have hT3:eF Hz z w z1 (w1.setCell ⟨w.heap.size+2,0,none⟩ (.int .i64 0)):=by
    have s6:=(Vu.out.trans (eF.dX tI.out Hz (lay z w 0)) fun _ h=>h).trans vA fun _ h=>h
    exact ⟨s6.eA.trans ((jB.refl (w.heap.size+2) 0 w1).set (.int .i64 0)).eA fun i hi=>.inr (by omega),s6.zn⟩
  have b3:=b0.zR (p:=⟨w.heap.size+2,0,none⟩) (by show w.heap.size≠w.heap.size+2;omega) (.int .i64 0)
  have b4:=b1.zR (p:=⟨w.heap.size+2,0,none⟩) (by show w.heap.size+1≠w.heap.size+2;omega) (.int .i64 0)
  have b5:=b2.gG 0 (.int .i64 0)
  have HZ1:=aA (show ∀i,i<(boxes w k.hb n).heap.size→z1 i=lay z w 0 i from fun i hi=>vA.zn i (aM hi tI.out.size))
  have Q0:=b3.cell 0
  have Q1:=b4.cell 0
  have r1:=Co.hc.c1
  have RX:=aA Co
  have U_:=aA hT3
  have LA:=aA (aC b3 (aC b4 b5))
  clear Ki vA b0 b1 b2 b3 b4 b5 s4 Co hT3 c0 c1 c2 f2 HW
  go_wp2_with fail
  have HZW:=aA (show ∀i,i<(boxes w k.hb n).heap.size→¬Hz (lay z w 0 i)→¬Hz (z1 i) from fun i hi h=>by rw [HZ1.out i hi];exact h)
  generalize w1.setCell ⟨w.heap.size+2,0,none⟩ (.int .i64 0)=V at*
  have hl0:=LA.out.1.lt
  have Mq:=LA.out.2.1.lt
  have A6:=LA.out.2.2.lt
  have hbV:=RX.out.hc.lt
  have HTT:=aA (show aH prog 199 #[.pointer (some ⟨k.tb,0,none⟩),.int .u64 n] V.drew fun r w4=>r= .returned (.tuple #[.int .u64 (512:Nat),.int .u64 n,.int .i64 0])∧(w4.cell? ⟨w.heap.size,0,none⟩=some (.pointer (some ⟨k.hb,0,none⟩))∧w4.cell? ⟨w.heap.size+1,0,none⟩=some (.int .u64 n)∧w4.cell? ⟨k.hb,1,none⟩=some (.pointer (some ⟨k.tb,0,none⟩)))∧Hid (∃z4,eX w4 z4 k { h with m:=⟨[(512,1024)], []⟩,t:=TQ 512 (512+n) 1024,a:= { h.a with ch:= [(1,2)] },hint:=1024 }∧eF Hz z w z4 w4∧eG w4 w.heap.size 71 #[.pointer (some ⟨k.hb,0,none⟩)]∧eG w4 (w.heap.size+1) 34 #[.int .u64 n]∧eG w4 (w.heap.size+2) 24 #[.int .i64 0]∧∀i,i<V.heap.size→z4 i=z1 i) from by
    have Dl:=RX.out.ext (Ext.refl V).drew
    have hT:=EW n 512 Dl.tree (Ij _ _ _) Aa (by omega) (Qf (by omega)) (Kx (by decide) Aa (by omega))
    rw [Ky (by omega) Aa,show iF (TQ 512 512 1024).r 512 (512+n)=n by simp only [TQ,oJ];omega] at hT
    refine hT.mono ?_
    rintro r w4 ⟨hr,ht4⟩
    obtain ⟨z4,Qh,KN⟩:=Dl.yL ht4
    have b0:=(LA.out.1.drew).eA (F:=fun i=>Hz (z1 i)) (w':=w4) KN.eA (HZW.out _ HB.out.1.lt HY.out.1)
    have b1:=(LA.out.2.1.drew).eA (F:=fun i=>Hz (z1 i)) (w':=w4) KN.eA (HZW.out _ HB.out.2.1.lt HY.out.2.1)
    have b2:=(LA.out.2.2.drew).eA (F:=fun i=>Hz (z1 i)) (w':=w4) KN.eA (HZW.out _ HB.out.2.2.lt HY.out.2.2)
    exact ⟨hr,⟨b0.cell 0,b1.cell 0,Qh.hc.c1⟩,aA ⟨z4,Qh,(U_.out.trans (eF.dX (Ext.refl V).drew Hz z1) fun _ h=>h).trans KN fun _ h=>h,b0,b1,b2,KN.zn⟩⟩)
  go_region_held3 (fun w'=>w'.cell? ⟨w.heap.size,0,none⟩=some (.pointer (some ⟨k.hb,0,none⟩))∧w'.cell? ⟨w.heap.size+1,0,none⟩=some (.int .u64 n)∧w'.cell? ⟨k.hb,1,none⟩=some (.pointer (some ⟨k.tb,0,none⟩))) (go_keep) (first
    | (go_at_call 199;refine HTT.out.mono ?_;rintro r w4 ⟨rfl,⟨j0,j1,j2⟩,H4⟩))
  obtain ⟨z4,Dl,Uj,b0,b1,b2,hz4⟩:=H4.out
  have m0:=Dl.hc.c0
  have YO:=Dl.hc.lt
  have n0:=b0.lt
  have n1:=b1.lt
  have n2:=b2.lt
  have p2:=b2.frozen 0
  have O4:=aA Dl
  have HT1:=aA Uj
  have vH:=aA (aC b0 (aC b1 b2))
  have HZ4:=aA (show ∀i,i<(boxes w k.hb n).heap.size→z4 i=lay z w 0 i from fun i hi=>(hz4 i (by have:=LA.out.2.2.lt;have e:(boxes w k.hb n).heap.size=w.heap.size+3:=(by unfold boxes;simp only [aB]);omega)).trans (HZ1.out i hi))
  clear HTT H4 Dl Uj hz4 b0 b1 b2
  go_wp2_with fail
  refine fC 6 (by kernel_rfl) (by kernel_rfl) ?_
  simp only [aE,aK,aF,aL]
  repeat (go_big_quiet_step (fail))
  refine wpQuiet_nil ?_
  go_wp2_with fail
  have lW:Ext w4 (w4.alloc (.cells #[.int .u64 (512:Nat)] 34)).drew:=((Ext.refl w4).alloc _ _).drew
  have Aq:=O4.out.ext lW
  have HC:=aA (Cj 512 n Aq.mem Aa (by omega) (by simp) (by simp) (by simp only [oJ];omega) (by simp [iF];omega))
  have tR:=aA Aq
  have uD:=aA lW
  clear Aq lW
  refine HC.out.mono ?_
  rintro r w2 ⟨rfl,hm5⟩
  obtain ⟨z2,Co,Fu⟩:=tR.out.Eo hm5
  have b2:=(vH.out.2.2.later uD.out).eA Fu.eA (by rw [HZ4.out _ HB.out.2.2.lt];exact HY.out.2.2)
  have d2:w2.cell? ⟨w.heap.size+2,0,none⟩=some (.int .i64 0):=b2.cell 0
  have e2:=b2.frozen 0
  have l3:=b2.lt
  have HF:=aA (show fQ z w k (nS h n) (w2.setCell ⟨w.heap.size+2,0,none⟩ (.int .i64 0)) from by
    have jU:¬Hz (z2 (w.heap.size+2)):=by rw [Fu.zn _ (aM vH.out.2.2.lt uD.out.size),HZ4.out _ HB.out.2.2.lt];exact HY.out.2.2
    have s4:eF (fun i=>¬Hz i) z2 w2 z2 (w2.setCell ⟨w.heap.size+2,0,none⟩ (.int .i64 0)):=⟨((jB.refl (w.heap.size+2) 0 w2).set _).eA.mono fun i hi=>.inl (by rw [hi];exact jU),fun _ _=>rfl⟩
    have s5:eF Hz z w z2 (w2.setCell ⟨w.heap.size+2,0,none⟩ (.int .i64 0)):=by
      have s6:=(HT1.out.trans (eF.dX uD.out Hz z4) fun _ h=>h).trans Fu fun _ h=>h
      refine ⟨?_,s6.zn⟩
      refine s6.eA.trans ((jB.refl (w.heap.size+2) 0 w2).set (.int .i64 0)).eA fun i hi=>.inr (by omega)
    exact ⟨z2,Co.eC s4 (fun i hi h=>h hi),s5⟩)
  clear hm5 Co Fu b2
  go_wp2_with fail
  refine leaves_cons (f:=200) (args:= #[.pointer (some ⟨w.heap.size+2,0,none⟩),.pointer (some ⟨w.heap.size,0,none⟩),.pointer (some ⟨w4.heap.size,0,none⟩),.pointer (some ⟨w.heap.size+1,0,none⟩)]) (by simp) (by simp [go_sem]) ?_
  refine (Kz _ _ _ _ _ ?_).mono ?_
  · exact fP d2
  rintro e u' w3 ⟨rfl,rfl,rfl⟩
  exact ⟨.tuple #[.int .u64 (512:Nat),.int .i64 0],by simp [results,results145,go_sem,fP d2],rfl,HF.out⟩
end
def qT (h:HS) (b:Nat) (x:gN) (ch:Nat):HS:=
  { h with O:=sM.Gv h.O h.S,S:=h.S.tail,sp:=h.sp ++ [(sM.jO h.O h.S,.pointer (some ⟨b,0,none⟩),h.c)],c:=h.c+1,st:=kC h.st b x,
           a:=pC h.a (x.s.base / 8192) (x.s.base / 8192+x.s.dU) ch (sM.jO h.O h.S),dU:=h.dU+x.s.dU }
theorem BB (w:aG):(zeroValue 94).run prog w= .ok (.pointer none) w:=by kernel_rfl
section
variable {z:Nat→Nat} {w:aG} {k:yK} {h:HS}
theorem Gz (b ch:Nat) (x:gN) (h1:eX w z k h) (hs:jL w z b x) (hO:h.O.length<100000) (hid:1≤sM.jO h.O h.S∧sM.jO h.O h.S<200000) (hn:eI h.sp (sM.jO h.O h.S)=none) (hf:∀e∈h.sp,e.2.1≠ .pointer (some ⟨b,0,none⟩))
  (hl:h.a.lf=none∨h.a.lf=some ch) (Jj:h.a.ch.length≤400000) (oX:iF h.a.ch ch (ch+1)=1) (hp:x.s.base % 8192=0) (Mr:0<x.s.dU) (NW:ch*512≤x.s.base / 8192) (DL:x.s.base / 8192+x.s.dU<ch*512+512) (hk:ch<67108864) (hpg:h.dU≤1099511627776):
  aH prog 146 #[.pointer (some ⟨k.hb,0,none⟩),.pointer (some ⟨b,0,none⟩)] w fun r w'=>r= .returned (.int .i64 (sM.jO h.O h.S))∧fQ z w k (qT h b x ch) w':=by
 have c3:=h1.hc.c3
 have hb:=h1.hc.lt
 have HH:=aA h1
 have HSp:=aA hs
 have HT:=aA (Zc h1.fix hO)
 have HN:=aA hn
 have HF:=aA hf
 have HL:=aA hl
 have HC1:=aA oX
 have SN:=aA Jj
 have iO:=hs.is.fit
 have hpb:=iO.dU
 have IT:=iO.base
 have P2:=aA (show qT h b x ch= { h with O:=sM.Gv h.O h.S,S:=h.S.tail,sp:=h.sp ++ [(sM.jO h.O h.S,.pointer (some ⟨b,0,none⟩),h.c)],c:=h.c+1,st:=kC h.st b x,a:=pC h.a (x.s.base / 8192) (x.s.base / 8192+x.s.dU) ch (sM.jO h.O h.S),dU:=h.dU+x.s.dU } from rfl)
 clear h1 hs hn hf hl oX Jj iO
 generalize qT h b x ch=mR at*
 generalize sM.jO h.O h.S=id at*
 obtain ⟨aDz,aX0⟩:=hid
 have yU:(Lit.int .i64 id).wf=true:=jY (by omega) (by omega)
 have HWF:=aA yU
 clear yU
 go_enter func146,ntmps146
 go_wp2_with fail
 refine HT.out.mono ?_
 rintro r w1 ⟨rfl,hT⟩
 obtain ⟨z1,hF1,sF⟩:=hT
 have Ki:=HH.out.aDv hF1 sF
 have AW:=HSp.out.eC sF (by omega)
 obtain ⟨w2,Bs,mI,YP⟩:=Ki.Ab.1.put (x:=id) HWF.out (t:=137) underlying137 (.pointer (some ⟨b,0,none⟩))
 have aJ1:(Instr.mapUpdate 137 (.map (some k.gs)) (.int .i64 id) (.pointer (some ⟨b,0,none⟩))).run prog w1= .ok () w2:=Bs
 obtain ⟨z2,Aq,uE⟩:=Ki.Vr AW HN.out HF.out mI YP
 have g4:=Ki.hc.c4
 have AX:=Ki.hc.lt
 have Es:jL w2 z2 b x:=by
  have h9:=Aq.rM.1 (id,.pointer (some ⟨b,0,none⟩),h.c) (List.mem_append_right _ (List.mem_singleton.2 rfl))
  obtain ⟨b',e1,e2⟩:=h9
  injection e1 with e1;injection e1 with e1;injection e1 with e1
  subst e1
  unfold kC at e2
  dsimp only at e2
  rw [if_pos rfl] at e2
  exact e2
 have HI:=aA (fD.lG b _ x.s x.U x.M w2 Es.is)
 have H2:=aA Aq
 have S2:=aA ((sF.mono (S':=Hz) fun i hi=>.inl (by omega)).trans uE fun _ h=>h)
 clear hF1 sF Ki AW Bs mI YP Aq uE Es
 go_wp2_with fail
 refine HI.out.mono ?_
 rintro r w3 ⟨rfl,hx⟩
 have iA:=aA hx
 have Co:=H2.out.ext hx
 have d2:=Co.hc.c2
 have d70:=Co.hc.cq
 have wK:=Co.hc.lt
 have H3:=aA Co
 clear hx Co
 simp only [fD.kR]
 go_wp2_with fail
 have hxv:Ext w3 ((w3.alloc (.cells #[.int .u64 x.s.base,.int .i64 x.s.dU,.int .i64 x.s.state,.int .i64 x.s.kM,.bool x.s.gJ,.int .i64 x.s.elem,.int .i64 x.s.eO,.int .i64 x.s.used,.bool x.s.eT,.bool x.s.held] 98))).drew:=((Ext.refl w3).alloc _ _).drew
 have Dl:=H3.out.eC (eF.fL hxv (fun _=>False) z2 0) (fun _ _ h=>h)
 have hB4:=(eG.new w3 98 #[.int .u64 x.s.base,.int .i64 x.s.dU,.int .i64 x.s.state,.int .i64 x.s.kM,.bool x.s.gJ,.int .i64 x.s.elem,.int .i64 x.s.eO,.int .i64 x.s.used,.bool x.s.eT,.bool x.s.held]).drew
 have S4:=aA ((S2.out.trans (eF.dX iA.out Hz z2) fun _ h=>h).trans (eF.fL hxv Hz z2 0) fun _ h=>h)
 have HS:=aA (KO (x.s.base / 8192) x.s.dU ch id Dl.ar HL.out (by omega) Mr NW DL hk SN.out HC1.out)
 have H4:=aA Dl
 have B4:=aA hB4
 have hE:=aA (show (x.s.base:Int) / 8192=((x.s.base / 8192:Nat):Int) by omega)
 have hwr:IntKind.u64.wrap (x.s.dU:Int)=(x.s.dU:Int):=by rw [IntKind.wrap_u64];omega
 clear hxv Dl hB4
 refine fC 11 (by kernel_rfl) (by kernel_rfl) ?_
 simp only [aE,aK,aF,aL]
 repeat (go_big_quiet_step (fail))
 refine wpQuiet_nil ?_
 go_wp2_with fail
 rw [hE.out]
 refine HS.out.mono ?_
 rintro r w5 ⟨rfl,hT⟩
 obtain ⟨z5,Qh,KN⟩:=H4.out.Iz hT
 have b5:=B4.out.eA KN.eA (by rw [eQ (aP _)];unfold Hz;omega)
 have v1:w5.cell? ⟨w3.heap.size,1,none⟩=some (.int .i64 x.s.dU):=b5.cell 1
 have q70:=Qh.hc.cq
 have f70:=Qh.hc.fz 70
 have Bw:=Qh.hc.lt
 have hv5:=b5.lt
 have H5:=aA Qh
 have S5:=aA (S4.out.trans KN fun _ h=>h)
 clear hT Qh KN b5
 go_wp2_with fail
 refine fC 10 (by kernel_rfl) (by kernel_rfl) ?_
 simp only [aE,aK,aF,aL]
 repeat (go_big_quiet_step (fail))
 refine wpQuiet_nil ?_
 go_wp2_with fail
 go_returns
 refine ⟨rfl,?_⟩
 have h9:=fQ.trans (S5.out.trans (eF.dX (Ext.refl _).drew Hz z5) fun _ h=>h) ((H5.out.ext (Ext.refl _).drew).Ep (h.dU+x.s.dU))
 rw [P2.out]
 exact h9
end
theorem jL.new {z:Nat→Nat} {w w':aG} {g:Nat} {x:gN} (hg:w.heap.size≤g) (hs:fD.iW w' g (· =g) x.s x.U x.M) (hm:fD.zL x.s):jL w' (lay z w (1000+g)) g x:=by
 obtain ⟨uv,mv,nu,nm,h1,h2⟩:=id hs.at_
 exact ⟨hs.sub (fun k hk=>by have hk:k=g:=hk;subst hk;exact ⟨h1.lt,eQ hg⟩) (fun k hk=>hk.1),hm⟩
def Qi (w:aG) (x:fD.Sp) (r:Ending) (w':aG):Prop:=∃g,r= .returned (.tuple #[.pointer (some ⟨g,0,none⟩),.int .i64 0])∧w.heap.size≤g∧fD.iW w' g (· =g) x (fun _=>false) (fun _=>false)∧Ext w w'
structure JA (h:HS) (x:fD.Sp) (ch:Nat):Prop where
 O:h.O.length<100000
 id:1≤sM.jO h.O h.S∧sM.jO h.O h.S<200000
 no:eI h.sp (sM.jO h.O h.S)=none
 lf:h.a.lf=none∨h.a.lf=some ch
 tT:h.a.ch.length≤400000
 c1:iF h.a.ch ch (ch+1)=1
 p:x.base % 8192=0
 p0:0<x.dU
 k1:ch*512≤x.base / 8192
 k2:x.base / 8192+x.dU<ch*512+512
 k:ch<67108864
 pg:h.dU≤1099511627776
section
variable {z:Nat→Nat} {w:aG} {k:yK} {h h2:HS}
theorem Kv.apart {sp:List (gR Int)} {st:Nat→gN} (hs:Kv w z sp st) {g:Nat} (hg:w.heap.size≤g):∀e∈sp,e.2.1≠ .pointer (some ⟨g,0,none⟩):=fun e he h=>by
 obtain ⟨b,h1,h2⟩:=hs.1 e he
 have:=h2.zb.1
 rw [h1] at h
 injection h with h;injection h with h;injection h with h
 omega
theorem Et (p:Int) (n q c ch:Nat) (np:Bool) (x:Nat→fD.Sp) (h1:eX w z k h) (hq:q+n≤34359738368)
  (HN:∀iG w,iG+n≤34359738368→aH prog 144 #[.int .u64 iG,.int .u64 n,.int .i64 c,.bool np] w (Qi w (x iG)))
  (HF:∀w',Ext w w'→eX w' z k h→aH prog 145 #[.pointer (some ⟨k.hb,0,none⟩),.int .i64 p,.int .u64 n] w' fun r w''=>r= .returned (.tuple #[.int .u64 q,.int .i64 0])∧fQ z w' k h2 w'')
  (hk:JA h2 (x q) ch) (Vv:fD.zL (x q)):
  aH prog 110 #[.pointer (some ⟨k.hb,0,none⟩),.int .i64 p,.int .u64 n,.int .i64 c,.bool np] w fun r w'=>r= .returned (.tuple #[.int .i64 (sM.jO h2.O h2.S),.int .i64 0])∧∃g,w.heap.size≤g∧fQ z w k (qT h2 g ⟨x q,fun _=>false,fun _=>false⟩ ch) w':=by
 have N0:=aA (HN 0 w (by omega))
 have N1:=aA fun w'=>HN q w' hq
 have HH:=aA h1
 have Zi:=aA HF
 have HK:=aA hk
 have HM:=aA Vv
 clear HN HF h1 hk Vv
 go_enter func110,ntmps110
 go_wp2_with fail
 refine N0.out.mono ?_
 rintro r w1 ⟨g0,rfl, -, -,hx⟩
 have HX:=aA hx
 have Gn:=aA (Zi.out w1 hx (HH.out.ext hx))
 clear hx
 go_wp2_with fail
 refine Gn.out.mono ?_
 rintro r w2 ⟨rfl,z2,Aq,uE⟩
 have tR:=aA Aq
 have tM:=aA uE
 clear Aq uE
 go_wp2_with fail
 refine (N1.out _).mono ?_
 rintro r w3 ⟨g,rfl,hg,hs,hx⟩
 have Co:=tR.out.eC (eF.fL hx (fun _=>False) z2 (1000+g)) (fun _ _ h=>h)
 have Dm:jL w3 (lay z2 w2 (1000+g)) g ⟨x q,fun _=>false,fun _=>false⟩:=jL.new hg hs HM.out
 have HKP:=aA (Gz g ch ⟨x q,fun _=>false,fun _=>false⟩ Co Dm HK.out.O HK.out.id HK.out.no (tR.out.rM.apart hg) HK.out.lf HK.out.tT HK.out.c1 HK.out.p HK.out.p0 HK.out.k1 HK.out.k2 HK.out.k HK.out.pg)
 have S3:=aA (((eF.dX HX.out Hz z).trans tM.out fun _ h=>h).trans (eF.fL hx Hz z2 (1000+g)) fun _ h=>h)
 have hgw:w.heap.size≤g:=aN (aN HX.out.size tM.out.size) hg
 clear Co Dm hs hx hg
 go_wp2_with fail
 refine HKP.out.mono ?_
 rintro r w4 ⟨rfl,hT⟩
 have HT:=aA (fQ.trans S3.out hT)
 clear hT
 go_wp2_with fail
 go_returns
 exact ⟨rfl,g,hgw,HT.out⟩
theorem Cq (n q ch elem:Nat) (x:Nat→fD.Sp) (h1:eX w z k h) (hq:q+n≤34359738368)
  (HN:∀iG w,iG+n≤34359738368→aH prog 291 #[.int .u64 iG,.int .u64 n,.int .i64 elem] w (Qi w (x iG)))
  (HF:∀w',Ext w w'→eX w' z k h→aH prog 145 #[.pointer (some ⟨k.hb,0,none⟩),.int .i64 (-1),.int .u64 n] w' fun r w''=>r= .returned (.tuple #[.int .u64 q,.int .i64 0])∧fQ z w' k h2 w'')
  (hk:JA h2 (x q) ch) (Vv:fD.zL (x q)):
  aH prog 272 #[.pointer (some ⟨k.hb,0,none⟩),.int .u64 n,.int .i64 elem] w fun r w'=>r= .returned (.tuple #[.int .i64 (sM.jO h2.O h2.S),.int .i64 0])∧∃g,w.heap.size≤g∧fQ z w k (qT h2 g ⟨x q,fun _=>false,fun _=>false⟩ ch) w':=by
 have N0:=aA (HN 0 w (by omega))
 have N1:=aA fun w'=>HN q w' hq
 have HH:=aA h1
 have Zi:=aA HF
 have HK:=aA hk
 have HM:=aA Vv
 clear HN HF h1 hk Vv
 go_enter func272,ntmps272
 go_wp2_with fail
 refine N0.out.mono ?_
 rintro r w1 ⟨g0,rfl, -, -,hx⟩
 have HX:=aA hx
 have Gn:=aA (Zi.out w1 hx (HH.out.ext hx))
 clear hx
 go_wp2_with fail
 refine Gn.out.mono ?_
 rintro r w2 ⟨rfl,z2,Aq,uE⟩
 have tR:=aA Aq
 have tM:=aA uE
 clear Aq uE
 go_wp2_with fail
 refine (N1.out _).mono ?_
 rintro r w3 ⟨g,rfl,hg,hs,hx⟩
 have Co:=tR.out.eC (eF.fL hx (fun _=>False) z2 (1000+g)) (fun _ _ h=>h)
 have Dm:jL w3 (lay z2 w2 (1000+g)) g ⟨x q,fun _=>false,fun _=>false⟩:=jL.new hg hs HM.out
 have HKP:=aA (Gz g ch ⟨x q,fun _=>false,fun _=>false⟩ Co Dm HK.out.O HK.out.id HK.out.no (tR.out.rM.apart hg) HK.out.lf HK.out.tT HK.out.c1 HK.out.p HK.out.p0 HK.out.k1 HK.out.k2 HK.out.k HK.out.pg)
 have S3:=aA (((eF.dX HX.out Hz z).trans tM.out fun _ h=>h).trans (eF.fL hx Hz z2 (1000+g)) fun _ h=>h)
 have hgw:w.heap.size≤g:=aN (aN HX.out.size tM.out.size) hg
 clear Co Dm hs hx hg
 go_wp2_with fail
 refine HKP.out.mono ?_
 rintro r w4 ⟨rfl,hT⟩
 have HT:=aA (fQ.trans S3.out hT)
 clear hT
 go_wp2_with fail
 go_returns
 exact ⟨rfl,g,hgw,HT.out⟩
theorem OC (id:Int) (h1:eX w z k h) (hid:(Lit.int .i64 id).wf=true) (hl:eI h.sp id=none):
  aH prog 73 #[.pointer (some ⟨k.hb,0,none⟩),.int .i64 id] w fun r w'=>r= .returned (.tuple #[.pointer none,.int .i64 35])∧w=w':=by
 have c4:=h1.hc.c4
 have hb:=h1.hc.lt
 have l1:(Instr.lookup 137 (.map (some k.gs)) (.int .i64 id) true).run prog w= .ok (.tuple #[.pointer none,.bool false]) w:=by
  have:=h1.Ab.1.look_ok (x:=id) hid underlying137 (BB w)
  rw [hl] at this
  exact this
 clear h1 hl
 go_enter func73,ntmps73
 go_wp2_with fail
 go_returns
 exact ⟨rfl,rfl⟩
theorem nT (id:Int) (b:Nat) (h1:eX w z k h) (hid:(Lit.int .i64 id).wf=true) (hl:eI h.sp id=some (.pointer (some ⟨b,0,none⟩))):
  aH prog 73 #[.pointer (some ⟨k.hb,0,none⟩),.int .i64 id] w fun r w'=>r= .returned (.tuple #[.pointer (some ⟨b,0,none⟩),.int .i64 0])∧w=w':=by
 have c4:=h1.hc.c4
 have hb:=h1.hc.lt
 have l1:(Instr.lookup 137 (.map (some k.gs)) (.int .i64 id) true).run prog w= .ok (.tuple #[.pointer (some ⟨b,0,none⟩),.bool true]) w:=by
  have:=h1.Ab.1.look_ok (x:=id) hid underlying137 (BB w)
  rw [hl] at this
  exact this
 clear h1 hl
 go_enter func73,ntmps73
 go_wp2_with fail
 go_returns
 exact ⟨rfl,rfl⟩
theorem Qj (a:Nat) (h1:eX w z k h) (ha:a<18446744073709551616):
  aH prog 182 #[.pointer (some ⟨k.hb,0,none⟩),.int .u64 a] w fun r w'=>r= .returned (.int .i64 (h.a.own (a / 8192)))∧w=w':=by
 have c2:=h1.hc.c2
 have hb:=h1.hc.lt
 have HA:=aA (Yq a h1.ar ha)
 clear h1
 generalize h.a.own (a / 8192)=x at*
 go_enter func182,ntmps182
 go_wp2_with fail
 refine HA.out.mono ?_
 rintro r w1 ⟨rfl,rfl⟩
 go_wp2_with fail
 go_returns
 exact ⟨rfl,rfl⟩
theorem Vw (h1:eX w z k h):
  aH prog 135 #[.pointer (some ⟨k.hb,0,none⟩)] w fun r w'=>r= .returned (.pointer (some ⟨k.mb,0,none⟩))∧w=w':=by
 have c0:=h1.hc.c0
 have hb:=h1.hc.lt
 clear h1
 go_enter func135,ntmps135
 go_wp2_with fail
 go_returns
 exact ⟨rfl,rfl⟩
end
def By (h:HS) (b:Nat) (id:Int) (ch:Nat):HS:=
  { h with st:=kC h.st b ⟨fD.Nn (h.st b).s,fun _=>false,fun _=>false⟩,
           a:=pC h.a ((h.st b).s.base / 8192) ((h.st b).s.base / 8192+(h.st b).s.dU) ch 0,
           t:=QU h.t ((h.st b).s.base / 8192) ((h.st b).s.base / 8192+(h.st b).s.dU),
           O:=sM.Ks h.O id,S:=sM.Kt h.O h.S id,dU:=h.dU-(h.st b).s.dU,sp:=pK h.sp id }
section
variable {z:Nat→Nat} {w:aG} {k:yK} {h:HS}
theorem SO (id:Int) (b ch:Nat) (h1:eX w z k h) (hid:(Lit.int .i64 id).wf=true) (hl:eI h.sp id=some (.pointer (some ⟨b,0,none⟩))) (iD:(h.st b).s.state≠0) (hu:(h.st b).s.used=0)
  (JB:h.a.lf=none∨h.a.lf=some ch) (Jj:h.a.ch.length≤400000) (oX:iF h.a.ch ch (ch+1)=1) (hp:(h.st b).s.base % 8192=0) (Mr:0<(h.st b).s.dU) (NW:ch*512≤(h.st b).s.base / 8192) (DL:(h.st b).s.base / 8192+(h.st b).s.dU<ch*512+512) (hk:ch<67108864)
  (hf:h.t.A1 400000) (DM:qA h.t ((h.st b).s.base / 8192) (h.st b).s.dU false 31=0) (hpg:(h.st b).s.dU≤h.dU) (aX1:h.dU≤1099511627776):
  aH prog 196 #[.pointer (some ⟨k.hb,0,none⟩),.int .i64 id] w fun r w'=>r= .returned (.int .i64 0)∧fQ z w k (By h b id ch) w':=by
 have c4:=h1.hc.c4
 have hb:=h1.hc.lt
 have l1:(Instr.lookup 137 (.map (some k.gs)) (.int .i64 id) true).run prog w= .ok (.tuple #[.pointer (some ⟨b,0,none⟩),.bool true]) w:=by
  have:=h1.Ab.1.look_ok (x:=id) hid underlying137 (BB w)
  rw [hl] at this
  exact this
 have hsb:=h1.rM.at hl
 have HD:=aA (fD.ZH b _ _ _ _ w hsb.is iD hu)
 have hpb:=hsb.is.fit.dU
 have IT:=hsb.is.fit.base
 have HH:=aA h1
 have HSb:=aA hsb
 have P2:=aA (show By h b id ch= { h with st:=kC h.st b ⟨fD.Nn (h.st b).s,fun _=>false,fun _=>false⟩,a:=pC h.a ((h.st b).s.base / 8192) ((h.st b).s.base / 8192+(h.st b).s.dU) ch 0,t:=QU h.t ((h.st b).s.base / 8192) ((h.st b).s.base / 8192+(h.st b).s.dU),O:=sM.Ks h.O id,S:=sM.Kt h.O h.S id,dU:=h.dU-(h.st b).s.dU,sp:=pK h.sp id } from rfl)
 have HL:=aA JB
 have HC1:=aA oX
 have SN:=aA Jj
 have HFw:=aA hf
 have HLK:=aA DM
 have HWF:=aA hid
 clear h1 hl iD hu JB Jj oX hf DM hsb hid
 generalize By h b id ch=mR at*
 go_enter func196,ntmps196
 go_wp2_with fail
 refine HD.out.mono ?_
 rintro r w1 ⟨rfl,hT⟩
 obtain ⟨jT,AW⟩:=HSb.out.Nv hT HSb.out.P1
 obtain ⟨z1,Ki,Qg⟩:=HH.out.Bv HSb.out jT AW
 have aD1:jL w1 (lay z w (1000+b)) b ⟨fD.Nn (h.st b).s,fun _=>false,fun _=>false⟩:=jT
 have HI:=aA (fD.lG b _ (fD.Nn (h.st b).s) (fun _=>false) (fun _=>false) w1 aD1.is)
 have H1:=aA Ki
 have S1:=aA Qg
 clear hT jT AW Ki Qg aD1 HD
 go_wp2_with fail
 refine HI.out.mono ?_
 rintro r w2 ⟨rfl,hx⟩
 have Aq:=H1.out.ext hx
 have S2:=aA (S1.out.trans (eF.dX hx Hz z1) fun _ h=>h)
 have H2:=aA Aq
 clear hx Aq
 simp only [fD.kR,fD.Nn]
 have hwr:IntKind.u64.wrap ((h.st b).s.dU:Int)=((h.st b).s.dU:Int):=by rw [IntKind.wrap_u64];omega
 have hE:=aA (show ((h.st b).s.base:Int) / 8192=(((h.st b).s.base / 8192:Nat):Int) by omega)
 generalize iD:(h.st b).s=s at*
 obtain ⟨base,dU,state,kM,gJ,elem,eO,used,eT,held,nH,look⟩:=s
 dsimp only at*
 go_wp2_with fail
 go_quiet (fail)
 have lL:∀q,Ext w2 ((w2.alloc (.cells #[.int .u64 base,.int .i64 dU,.int .i64 0,.int .i64 kM,.bool gJ,.int .i64 elem,.int .i64 eO,.int .i64 0,.bool eT,.bool held] 98)).drewN q):=fun q=>((Ext.refl w2).alloc _ _).eZ q
 have e2:=H2.out.hc.c2
 have wK:=H2.out.hc.lt
 have iA:=aA lL
 have HS:=aA fun q=>KO (base / 8192) dU ch 0 (H2.out.ext (lL q)).ar HL.out (by omega) Mr NW DL hk SN.out HC1.out
 clear lL
 go_wp2_with fail
 (try rw [hE.out])
 refine (HS.out _).mono ?_
 rintro r w4 ⟨rfl,hT⟩
 obtain ⟨z4,Dl,Uj⟩:=(H2.out.ext (iA.out _)).Iz hT
 have e1:=Dl.hc.c1
 have YO:=Dl.hc.lt
 have HG:=aA (Rk (base / 8192) dU Dl.tree HFw.out Mr (by omega) HLK.out)
 have H4:=aA Dl
 have S4:=aA ((S2.out.trans (eF.dX (iA.out _) Hz z1) fun _ h=>h).trans Uj fun _ h=>h)
 clear hT Dl Uj
 go_wp2_with fail
 (try rw [hE.out])
 refine HG.out.mono ?_
 rintro r w5 ⟨rfl,hT⟩
 obtain ⟨z5,Qh,KN⟩:=H4.out.yL hT
 have e3:=Qh.hc.c3
 have Bw:=Qh.hc.lt
 have HV:=aA (Zd id HWF.out Qh.fix)
 have H5:=aA Qh
 have S5:=aA (S4.out.trans KN fun _ h=>h)
 clear hT Qh KN
 go_wp2_with fail
 refine HV.out.mono ?_
 rintro r w6 ⟨rfl,hT⟩
 obtain ⟨z6,hA6,hS6⟩:=H5.out.Vq hT
 have e70:=hA6.hc.cq
 have e4:=hA6.hc.c4
 have f70:=hA6.hc.fz 70
 have hb6:=hA6.hc.lt
 have Zj:((h.dU:Int)-dU)=((h.dU-dU:Nat):Int):=by omega
 obtain ⟨z7,hA7,hS7⟩:=hA6.Ep (h.dU-dU)
 obtain ⟨w8,Bs,hm8,ht8⟩:=hA7.Ab.1.del (x:=id) HWF.out (t:=137) (ty:=0) underlying137
 have HP:=aA (fQ.trans ((S5.out.trans hS6 fun _ h=>h).trans hS7 fun _ h=>h) (hA7.Vs hm8 ht8))
 have Zk:(Builtin.delete_ #[137,3] 0 #[.map (some k.gs),.int .i64 id]).run prog (w6.setCell ⟨k.hb,70,none⟩ (.int .u64 ((h.dU:Int)-dU)))= .ok (.tuple #[]) w8:=by rw [Zj];exact Bs
 clear hT hA6 hS6 hA7 hS7 hm8 ht8 Zj Bs
 go_wp2_with fail
 go_returns
 rw [P2.out]
 exact ⟨rfl,HP.out⟩
end
theorem xM {P:Program} (w:aG) (b o:Nat):∀(vs:List aR) (i:Nat) (acc:Array aR),(∀j,j<vs.length→w.cell? ⟨b,o+i+j,none⟩=vs[j]?)→(loadCellsFrom ⟨b,o,none⟩ i vs.length acc).run P w= .ok (acc ++ vs.toArray) w
 | [],i,acc,_=>by simp [loadCellsFrom]
 | v::vs,i,acc,h=>by
  have h0:=h 0 (by simp)
  have ih:=xM (P:=P) w b o vs (i+1) (acc.push v) fun j hj=>by
   have:=h (j+1) (by simpa using hj)
   rw [show o+i+(j+1)=o+(i+1)+j by omega] at this
   simpa using this
  have ha:(⟨b,o,none⟩:Addr).add i=⟨b,o+i,none⟩:=Addr.add_lit _ _ _
  simp only [List.length_cons,loadCellsFrom,aJ,ha]
  rw [aQ] at h0
  have hl:(load ⟨b,o+i,none⟩).run P w= .ok v w:=by
   simp only [List.getElem?_cons_zero] at h0
   simp [load,Sem.run,h0]
  rw [hl,aD,ih]
  simp
def BC (k:yK):Array aR:=((List.range 64).map fun p=>aR.pointer (some ⟨k.pc p,0,none⟩)).toArray
theorem HJ (k:yK) {p:Nat} (hp:p<64):(BC k)[p]? =some (.pointer (some ⟨k.pc p,0,none⟩)):=by
 unfold BC
 simp [hp]
theorem Vx {z:Nat→Nat} {w:aG} {k:yK} {hint dU:Nat} (h:AE w z k hint dU):(Instr.loadAt 139 (.pointer (some ⟨k.hb,5,none⟩))).run prog w= .ok (.agg (BC k)) w:=by
 have h1:=xM (P:=prog) w k.hb 5 (BC k).toList 0 #[] fun j hj=>by
  have hj:j<64:=by simpa [BC] using hj
  rw [aQ,h.cp j hj,Array.getElem?_toList,HJ k hj]
 have hl:(BC k).toList.length=64:=by simp [BC]
 rw [hl] at h1
 have ha:(isAgg 139).run prog w= .ok true w:=by kernel_rfl
 have hs:(sizeOf 139).run prog w= .ok 64 w:=by kernel_rfl
 simp only [Instr.loadAt,Instr.sureAddr,aJ,aO,aD,loadVar,ha,hs,if_true,loadCells]
 rw [h1]
 simp
theorem Zl (k:yK) {p:Nat} (hp:p<64) (w:aG):(Instr.index 139 (.agg (BC k)) (.int .i64 p)).run prog w= .ok (.pointer (some ⟨k.pc p,0,none⟩)) w:=by
 have hg:=HJ k hp
 have hs:(sizeOf 138).run prog w= .ok 1 w:=by kernel_rfl
 have hu:=run_underlying (P:=prog) (w:=w) underlying139
 have ha:(isAgg 138).run prog w= .ok false w:=by kernel_rfl
 have LB:((0:Int)≤(p:Int)∧(p:Int)<((64:Nat):Int)):=by omega
 simp only [Instr.index,asIntOf,aJ,aO,aD,hu]
 rw [if_pos LB]
 simp only [aJ,hs,aD,part,ha,Int.toNat_natCast,Nat.mul_one,hg]
 rfl
theorem DQ {P:Program} {ops:Array Oper} {Q:Exit→Act→aG→Prop} {rest:List Oper} {o:Oper} {a:Act} {w:aG} (UI:o.guard=none) (t:TypeId) (x:Operand) (ho:o.op= .load t x) (va v:aR) (hx:a.eval x=va)
  (hr:(Instr.loadAt t va).run P w= .ok v w) (h:wpList P ops Q rest (a.put o.dst v) w):wpList P ops Q (o::rest) a w:=by
 refine wpList_plain UI fun K hK=>?_
 unfold Oper.wp execOp
 simp only [ho,hx,aJ,hr,aD,aO]
 exact hK _ _ h
theorem OD {z:Nat→Nat} {w:aG} {b:Nat} {m:AS} (h:pL w z b m):
  aH prog 88 #[.pointer (some ⟨b,0,none⟩)] w fun r w'=>r= .returned (.int .u64 (jA m.ch))∧w=w':=by
 have HS:=aA (QN 0 b 0 m.ch w h.ch.st)
 have hb:=h.lt
 clear h
 generalize jA m.ch=s at*
 go_enter func88,ntmps88
 go_wp2_with fail
 refine HS.out.mono ?_
 rintro r w1 ⟨rfl,rfl⟩
 go_wp2_with fail
 go_returns
 exact ⟨rfl,rfl⟩
theorem SP {w:aG} {b base x r:Nat} (h:eG w b 233 (Fl base x r)) (hr:r<18446744073709551616):
  aH prog 87 #[.pointer (some ⟨b,0,none⟩)] w fun e w'=>(∃y1 y2 y3:Nat,e= .returned (.tuple #[.int .u64 y1,.int .u64 y2,.int .u64 y3])∧y3<18446744073709551616)∧Ext w w':=by
 rcases Nat.eq_zero_or_pos x with rfl | hx
 ·exact (Na h).mono fun e w' ⟨h1,h2⟩=>⟨⟨0,0,0,h1,by decide⟩,h2▸Ext.refl _⟩
 ·exact (Nb h hx).mono fun e w' ⟨h1,h2⟩=>⟨⟨base,x,r,h1,hr⟩,h2⟩
section
variable {z:Nat→Nat} {w:aG} {k:yK} {h:HS}
theorem OE (h1:eX w z k h) (KE:∀p,p<64→(h.pc p).2<18446744073709551616) (hr:h.t.r.length≤1000000) (hs:jA h.a.ch≤1099511627776):
  aH prog 40 #[.pointer (some ⟨k.hb,0,none⟩)] w fun r w'=>(∃x:Int,r= .returned (.tuple #[.int .u64 (jA h.a.ch*512:Nat),.int .u64 h.dU,.int .u64 x]))∧Ext w w':=by
 have c1:=h1.hc.c1
 have hb:=h1.hc.lt
 have HR:=aA (Fw h1.tree hr)
 have C8:=Vx h1.hc
 have HH:=aA h1
 have HPC:=aA KE
 clear h1 KE
 generalize jA h.t.r=s0 at*
 generalize Vy:jA h.a.ch=sc at*
 have HSC:=aA Vy
 clear Vy
 go_enter func40,ntmps40
 go_wp2_with fail
 refine HR.out.mono ?_
 rintro r w1 ⟨rfl,rfl⟩
 go_wp2_with (first | (refine DQ rfl 139 (.tmp 18) rfl _ _ rfl C8 ?_))
 have Vz:=fun (p:Nat) (hp:p<64) w'=>Zl k hp w'
 have HI:=aA Vz
 clear C8 c1 Vz
 generalize BC k=arr at*
 go_loopw [20,5] (fun i rl wr=>∃(j:Nat) (x:Int),i= .int .i64 j∧rl= .int .u64 x∧j≤64∧Hid (Ext w wr)) (fun i _ _=>64-(intOf i).toNat)
 case atStart=>exact ⟨0,_,rfl,rfl,by omega,aA (Ext.refl _)⟩
 case round=>
  obtain ⟨j,x,rfl,rfl,hj,hX⟩:=hrel
  by_cases fK:j<64
  ·have hix:=HI.out j fK wr
   have HT:=aA (SP ((HH.out.Gw j fK).1.later hX.out) (HPC.out j fK))
   go_wp2_with fail
   refine HT.out.mono ?_
   rintro r w2 ⟨⟨y1,y2,y3,rfl,hy⟩,hx⟩
   have Tt:=aA (hX.out.trans hx)
   clear hx HT
   go_wp2_with fail
   go_loop [5,10] (fun rl r=>∃(x:Int) (y:Nat),rl= .int .u64 x∧r= .int .u64 y∧y<18446744073709551616) (fun _ r=>(intOf r).toNat)
   case atStart=>exact ⟨x,y3,rfl,rfl,hy⟩
   case round=>
    obtain ⟨x2,y,rfl,rfl,hy2⟩:=hrel
    by_cases hy0:0<y
    ·have k0:((y:Int) !=0)=true:=by simp;omega
     have Fx:y &&& (y-1)<y:=Nat.lt_of_le_of_lt Nat.and_le_right (by omega)
     have HA:=aA (vG y (y-1) hy2 (by omega))
     have e1:(y:Int)-1=((y-1:Nat):Int):=by omega
     have E1:=aA e1
     clear e1
     go_wp2_with fail
     rw [E1.out,HA.out]
     refine ⟨⟨_,y &&& (y-1),rfl,rfl,by omega⟩,?_⟩
     simp only [intOf]
     omega
    ·obtain rfl:y=0:=by omega
     go_wp2_with fail
     exact ⟨⟨j+1,x2,by go_num,rfl,by omega,Tt⟩,by simp [intOf];omega⟩
  ·have hA:=HH.out.ext hX.out
   have c2:=hA.hc.c2
   have cq:=hA.hc.cq
   have QI:=hA.hc.lt
   have hC:=fun n=>OD (hA.ext ((Ext.refl wr).eZ n)).ar
   rw [HSC.out] at hC
   have HC:=aA hC
   have mI:((sc:Int)*512)=((sc*512:Nat):Int):=by omega
   have AA:=aA mI
   clear mI hA HR HI hC
   go_wp2_with fail
   go_quiet ((go_at_call 88;exact aH.quiet_of_same ((HC.out _).mono fun _ _ ⟨a,b⟩=>⟨a,b.symm⟩)))
   go_wp2_with fail
   go_returns
   exact ⟨⟨x,by rw [←AA.out];rfl⟩,hX.out.trans (by first | exact (Ext.refl _).eZ _ | exact (Ext.refl _).drew)⟩
end
end Go.Proofs.YtgknoidliabanaaGreatDoor
