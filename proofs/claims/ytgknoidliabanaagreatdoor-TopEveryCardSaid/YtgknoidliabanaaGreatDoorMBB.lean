/- TopEvery holds: MBB. -/
import Derived.Deep.AppendSrc
import Derived.Test.YtgknoidliabanaaGreatDoorMBA
set_option linter.unusedVariables false
set_option linter.unusedSimpArgs false
set_option linter.unusedSectionVars false
set_option maxRecDepth 20000
set_option maxHeartbeats 8000000
namespace Go.Proofs.YtgknoidliabanaaGreatDoor
open Go.RowKit _root_.Go.Proofs.Tryz
open And renaming intro→aA
open Lib renaming hid→aB
open List renaming getElem?_toArray→aC,getElem?_cons_zero→aD,getElem?_cons_succ→aE,setIfInBounds_toArray→aF,getElem?_append_left→aH,getElem?_eq_getElem→aI,nil_append→aJ,drop_succ_cons→aL,take_succ_cons→aM,set_cons_zero→aN,set_cons_succ→aO,cons_append→aP,drop_zero→aR,take_zero→aS
open Nat renaming lt_of_lt_of_le→aG,le_refl→aK,zero_le→aQ,zero_add→aT
structure Wk (m:iU):Prop where
 h:m.h=OU
 s:∃gs,m.s=WY gs
 t:m.t=⟨0,0,0,0⟩
 ca:∀p,m.ca p=⟨fun _=>0,0,0⟩
 ml:m.eK=0
 cy:m.iX=0
section
variable {z z':Nat→Nat} {w w':World}
structure Cv (w:World) (z:Nat→Nat) (k:yK) (sb gi gb gs rb dg Mw:Nat):Prop where
 h:eX w z k OU
 s:fF w z sb gi gb (WY gs)
 sp:tN w z rb
 kX:En w z 15 dg [] 0
 CD:oO w z Mw
theorem U8:(prog.info? 125).map (fun i=>(i.zero,i.size,i.bytes))=some (some (.pointer none),1,8):=by kernel_rfl
def Pz (i:Nat):Prop:=Hz i∨i=7∨i=8∨i=9∨i=15
theorem Cv.eC {S:Nat→Prop} {k:yK} {sb gi gb gs rb dg Mw:Nat} (h:Cv w z k sb gi gb gs rb dg Mw) (s:eF S z w z' w') (hi:∀i,Pz i→¬S i):Cv w' z' k sb gi gb gs rb dg Mw:=
 ⟨h.h.eC s (fun i hh=>hi i (.inl hh)),h.s.eC s (hi _ (by unfold Pz;omega)),h.sp.eC s (hi _ (by unfold Pz;omega)),h.kX.eC s (hi _ (by unfold Pz;omega)),h.CD.eC s (hi _ (by unfold Pz;omega))⟩
theorem Hn {mb o:Nat} {v:Value} {w0:World} {z0:Nat→Nat} (hn:Nw z0 w0 z w) (hm:z mb=14) (hl:w0.heap.size≤mb):Nw z0 w0 z (w.setCell ⟨mb,o,none⟩ v)∧eF (fun i=>i=14) z w z (w.setCell ⟨mb,o,none⟩ v):=by
 have hc:eV (fun j=>j=mb) w (w.setCell ⟨mb,o,none⟩ v):=(eV.refl (fun j=>j=mb) w).setCell (p:=⟨mb,o,none⟩) (.inl rfl) _
 exact ⟨⟨hn.eA.trans hc fun i hi=>.inr (by omega),hn.zn⟩,hc.mono fun i hi=>.inl (by rw [hi];exact hm),fun _ _=>rfl⟩
theorem OZ (z:Nat→Nat) (w:World) (DP:nP w) (jT:z 1=0∧1<w.heap.size):
    Calls prog 18 #[.agg #[.slice none 0 0,.slice none 0 0,.slice none 0 0],.int .i64 2,.int .i64 100] w fun r w'=>∃K z' m,r= .returned (.tuple #[.pointer (some ⟨K.mb,0,none⟩),.int .i64 0])∧Wk m∧m.fresh=true∧eE w' z' K m∧Nw z w z' w':=by
  have m1:∀w:World,(Instr.makeMap 77 none).run prog w= .ok (.map (some w.heap.size)) (w.alloc (.map #[] 0)):=fun _=>by kernel_rfl
  have tI:=aB (show Ext w (w.alloc (.cells #[.slice none 0 0,.slice none 0 0,.slice none 0 0] 30)) from (Ext.refl w).alloc _ _)
  go_enter func18,ntmps18
  go_wp2_with (first
    | (go_at_call 45;refine (Sb z _).mono ?_;rintro r w1 ⟨vb,rfl, -,hm,jE⟩;have HV:=aB (aA hm (aA (Nw.of jE z 1) (tI.out.trans jE)));clear hm jE)
    | (go_at_call 44;refine (LY _ HV.out.1).mono ?_;rintro r w2 ⟨k,z2,rfl,hh,GH⟩;have HH:=aB (aA hh GH);clear hh GH)
    | (go_at_call 46;refine (WZ z2 _).mono ?_;rintro r w3 ⟨rfl,hs,lL⟩;have HS:=aB (aA hs lL);clear hs lL)
    | (go_at_call 47;refine (LR (lay z2 w2 7) _).mono ?_;rintro r w4 ⟨rfl,hp,zN⟩;have HP:=aB (aA hp zN);clear hp zN)
    | (go_at_call 48;refine (LS (lay (lay (lay z2 w2 7) w3 8) w4 15) _).mono ?_;rintro r w5 ⟨rfl,hk,pZ⟩;have HK:=aB (aA hk pZ);clear hk pZ)
    | fail)
  have HPA:=aB (show ∃z6,Cv (w5.alloc (.cells #[.pointer (some ⟨k.hb,0,none⟩),.pointer (some ⟨w2.heap.size+3,0,none⟩),.pointer (some ⟨w3.heap.size,0,none⟩),.pointer none,.slice none 0 0,.pointer none,.map (some w4.heap.size),.pointer (some ⟨w4.heap.size+1,0,none⟩),.int .i64 100,.bool false,.int .u64 0,.int .u64 0] 80)) z6 k (w2.heap.size+3) w2.heap.size (w2.heap.size+1) (w2.heap.size+2) w3.heap.size w4.heap.size (w4.heap.size+1)∧Nw z w z6 (w5.alloc (.cells #[.pointer (some ⟨k.hb,0,none⟩),.pointer (some ⟨w2.heap.size+3,0,none⟩),.pointer (some ⟨w3.heap.size,0,none⟩),.pointer none,.slice none 0 0,.pointer none,.map (some w4.heap.size),.pointer (some ⟨w4.heap.size+1,0,none⟩),.int .i64 100,.bool false,.int .u64 0,.int .u64 0] 80))∧eG (w5.alloc (.cells #[.pointer (some ⟨k.hb,0,none⟩),.pointer (some ⟨w2.heap.size+3,0,none⟩),.pointer (some ⟨w3.heap.size,0,none⟩),.pointer none,.slice none 0 0,.pointer none,.map (some w4.heap.size),.pointer (some ⟨w4.heap.size+1,0,none⟩),.int .i64 100,.bool false,.int .u64 0,.int .u64 0] 80)) w5.heap.size 80 #[.pointer (some ⟨k.hb,0,none⟩),.pointer (some ⟨w2.heap.size+3,0,none⟩),.pointer (some ⟨w3.heap.size,0,none⟩),.pointer none,.slice none 0 0,.pointer none,.map (some w4.heap.size),.pointer (some ⟨w4.heap.size+1,0,none⟩),.int .i64 100,.bool false,.int .u64 0,.int .u64 0]∧z6 w5.heap.size=14∧w.heap.size≤w5.heap.size from by
    have n1:Nw z w _ w1:=(eF.dX tI.out (fun _=>False) z).trans HV.out.2.1 fun _ h=>h
    have n2:=n1.trans HH.out.2 fun _ h=>h
    have n3:=Nw.of HS.out.2 z2 7
    have n4:=Nw.of HP.out.2 (lay z2 w2 7) 8
    have n5:=Nw.of ((Ext.refl w4).allocMap #[] 0) (lay (lay z2 w2 7) w3 8) 15
    have n6:=Nw.of HK.out.2 (lay (lay (lay z2 w2 7) w3 8) w4 15) 9
    have n7:=Nw.of ((Ext.refl w5).alloc #[.pointer (some ⟨k.hb,0,none⟩),.pointer (some ⟨w2.heap.size+3,0,none⟩),.pointer (some ⟨w3.heap.size,0,none⟩),.pointer none,.slice none 0 0,.pointer none,.map (some w4.heap.size),.pointer (some ⟨w4.heap.size+1,0,none⟩),.int .i64 100,.bool false,.int .u64 0,.int .u64 0] 80) (lay (lay (lay (lay z2 w2 7) w3 8) w4 15) (w4.alloc (.map #[] 0)) 9) 14
    have hk:=HK.out.1
    rw [World.size_alloc] at hk
    have hp:Cv w5 (lay (lay (lay (lay z2 w2 7) w3 8) w4 15) (w4.alloc (.map #[] 0)) 9) k (w2.heap.size+3) w2.heap.size (w2.heap.size+1) (w2.heap.size+2) w3.heap.size w4.heap.size (w4.heap.size+1):=
      ⟨(((HH.out.1.eC n3 (fun _ _ h=>h)).eC n4 (fun _ _ h=>h)).eC n5 (fun _ _ h=>h)).eC n6 (fun _ _ h=>h),((HS.out.1.eC n4 (fun h=>h)).eC n5 (fun h=>h)).eC n6 (fun h=>h),(HP.out.1.eC n5 (fun h=>h)).eC n6 (fun h=>h),En.eC (show En _ (lay (lay (lay z2 w2 7) w3 8) w4 15) 15 w4.heap.size [] 0 from ⟨eH.made KI w4,eQ (aK _)⟩) n6 (fun h=>h),hk⟩
    have n8:Nw z w _ w5:=(((n2.trans n3 fun _ h=>h).trans n4 fun _ h=>h).trans n5 fun _ h=>h).trans n6 fun _ h=>h
    exact ⟨_,hp.eC n7 (fun _ _ h=>h),n8.trans n7 (fun _ h=>h),eG.new _ _ _,eQ (aK _),n8.size⟩)
  obtain ⟨z6,hP6,hN6,F5,hZ6,hL6⟩:=HPA.out
  clear HPA HV HH HS HP HK tI
  generalize w5.alloc (.cells #[.pointer (some ⟨k.hb,0,none⟩),.pointer (some ⟨w2.heap.size+3,0,none⟩),.pointer (some ⟨w3.heap.size,0,none⟩),.pointer none,.slice none 0 0,.pointer none,.map (some w4.heap.size),.pointer (some ⟨w4.heap.size+1,0,none⟩),.int .i64 100,.bool false,.int .u64 0,.int .u64 0] 80)=w6 at hP6 hN6 F5 ⊢
  generalize w5.heap.size=mb at F5 hZ6 hL6 ⊢
  have U9:=aB (aA hP6 (aA hN6 (aA F5 hZ6)))
  have c0:=F5.cell 0
  have c1:=F5.cell 1
  have c2:=F5.cell 2
  have bl:=F5.lt
  simp only [aC,aD,aE] at c0 c1 c2
  clear hP6 hN6 F5
  go_region_held3 (fun w'=>w'.cell? ⟨mb,0,none⟩=some (.pointer (some ⟨k.hb,0,none⟩))∧w'.cell? ⟨mb,1,none⟩=some (.pointer (some ⟨w2.heap.size+3,0,none⟩))∧w'.cell? ⟨mb,2,none⟩=some (.pointer (some ⟨w3.heap.size,0,none⟩))) (first | exact ⟨c0,c1,c2⟩ | exact Lj.out | exact ⟨(eD (fT (by decide))).trans Lj.out.1,(eD (fT (by decide))).trans Lj.out.2.1,(eD (fT (by decide))).trans Lj.out.2.2⟩) (first
    | (go_at_call 49;refine (SZ z6 _).mono ?_;rintro r w7 ⟨rfl,F6,hx7⟩;have HW7:=aB (aA F6 ((Ext.refl w6).drew.trans hx7));have D9:=U9.out.2.2.1.later HW7.out.2;have Lj:=aB (aA (D9.cell 0) (aA (D9.cell 1) (D9.cell 2)));have c3:=D9.cell 3;have f3:=D9.frozen 3;have bl7:=D9.lt;clear F6 hx7 D9))
  have UB:=aB (show eG (w7.setCell ⟨mb,3,none⟩ (.pointer (some ⟨w6.heap.size,0,none⟩))) mb 80 #[.pointer (some ⟨k.hb,0,none⟩),.pointer (some ⟨w2.heap.size+3,0,none⟩),.pointer (some ⟨w3.heap.size,0,none⟩),.pointer (some ⟨w6.heap.size,0,none⟩),.slice none 0 0,.pointer none,.map (some w4.heap.size),.pointer (some ⟨w4.heap.size+1,0,none⟩),.int .i64 100,.bool false,.int .u64 0,.int .u64 0] from (U9.out.2.2.1.later HW7.out.2).gG 3 _)
  have Oa:=aB (show (Cv (w7.setCell ⟨mb,3,none⟩ (.pointer (some ⟨w6.heap.size,0,none⟩))) (lay z6 w6 10) k (w2.heap.size+3) w2.heap.size (w2.heap.size+1) (w2.heap.size+2) w3.heap.size w4.heap.size (w4.heap.size+1)∧mG (w7.setCell ⟨mb,3,none⟩ (.pointer (some ⟨w6.heap.size,0,none⟩))) (lay z6 w6 10) w6.heap.size k.hb (w2.heap.size+3) w3.heap.size ⟨0,0,0,0⟩)∧Nw z w (lay z6 w6 10) (w7.setCell ⟨mb,3,none⟩ (.pointer (some ⟨w6.heap.size,0,none⟩)))∧lay z6 w6 10 mb=14 from by
    have n7:=Nw.of HW7.out.2 z6 10
    have hz:lay z6 w6 10 mb=14:=(eR U9.out.2.2.1.lt).trans U9.out.2.2.2
    obtain ⟨n8,s8⟩:=Hn (o:=3) (v:=.pointer (some ⟨w6.heap.size,0,none⟩)) (U9.out.2.1.trans n7 fun _ h=>h) hz hL6
    have tV:=HW7.out.1
    exact ⟨⟨(U9.out.1.eC n7 (fun _ _ h=>h)).eC s8 (fun i hi e=>by unfold Pz Hz at hi;omega),mG.eC (z:=lay z6 w6 10) tV s8 (by omega)⟩,n8,hz⟩)
  generalize w7.setCell ⟨mb,3,none⟩ (.pointer (some ⟨w6.heap.size,0,none⟩))=w8 at UB Oa ⊢
  generalize lay z6 w6 10=z8 at Oa
  clear U9 HW7 Lj c0 c1 c2 c3 f3 bl bl7 hZ6
  generalize w2.heap.size+3=sb at UB Oa
  generalize w2.heap.size+1=gb at Oa
  generalize w2.heap.size+2=gs at Oa
  generalize w2.heap.size=gi at Oa
  generalize w3.heap.size=rb at UB Oa
  generalize w4.heap.size+1=Mw at UB Oa
  generalize w4.heap.size=dg at UB Oa
  generalize w6.heap.size=oC at UB Oa
  have c0:=UB.out.cell 0
  have bl:=UB.out.lt
  simp only [aC,aD,aE] at c0
  go_wp2_with (first
    | (go_at_call 50;refine (JO k.hb z8 _).mono ?_;rintro r w9 ⟨qE,rfl,iD,hx9⟩;have HT9:=aB (aA iD hx9);have F7:=UB.out.later hx9;have c5:=F7.cell 5;have f5:=F7.frozen 5;have bl9:=F7.lt;have c3:=F7.cell 3;clear iD hx9 F7)
    | (go_at_call 51;refine (OX (lay z8 w8 13) _).mono ?_;rintro r pB ⟨rfl,Yh,aE1⟩;have Sh:=aB (aA Yh aE1);clear Yh aE1)
    | fail)
  have Zy:=aB (show eG (w9.setCell ⟨mb,5,none⟩ (.pointer (some ⟨qE,0,none⟩))) mb 80 #[.pointer (some ⟨k.hb,0,none⟩),.pointer (some ⟨sb,0,none⟩),.pointer (some ⟨rb,0,none⟩),.pointer (some ⟨oC,0,none⟩),.slice none 0 0,.pointer (some ⟨qE,0,none⟩),.map (some dg),.pointer (some ⟨Mw,0,none⟩),.int .i64 100,.bool false,.int .u64 0,.int .u64 0] from (UB.out.later HT9.out.2).gG 5 _)
  have Ll:=aB (show (Cv (w9.setCell ⟨mb,5,none⟩ (.pointer (some ⟨qE,0,none⟩))) (lay z8 w8 13) k sb gi gb gs rb dg Mw∧mG (w9.setCell ⟨mb,5,none⟩ (.pointer (some ⟨qE,0,none⟩))) (lay z8 w8 13) oC k.hb sb rb ⟨0,0,0,0⟩∧xP (w9.setCell ⟨mb,5,none⟩ (.pointer (some ⟨qE,0,none⟩))) (lay z8 w8 13) qE k.hb)∧Nw z w (lay z8 w8 13) (w9.setCell ⟨mb,5,none⟩ (.pointer (some ⟨qE,0,none⟩)))∧lay z8 w8 13 mb=14 from by
    have n9:=Nw.of HT9.out.2 z8 13
    have hz:lay z8 w8 13 mb=14:=(eR UB.out.lt).trans Oa.out.2.2
    obtain ⟨n10,AZ⟩:=Hn (o:=5) (v:=.pointer (some ⟨qE,0,none⟩)) (Oa.out.2.1.trans n9 fun _ h=>h) hz hL6
    exact ⟨⟨(Oa.out.1.1.eC n9 (fun _ _ h=>h)).eC AZ (fun i hi e=>by unfold Pz Hz at hi;omega),mG.eC (mG.eC Oa.out.1.2 n9 (fun h=>h)) AZ (by omega),HT9.out.1.eC AZ (by omega)⟩,n10,hz⟩)
  have qJ:=World.size_setCell w9 ⟨mb,5,none⟩ (.pointer (some ⟨qE,0,none⟩))
  generalize w9.setCell ⟨mb,5,none⟩ (.pointer (some ⟨qE,0,none⟩))=wV at Zy Ll Sh qJ ⊢
  generalize lay z8 w8 13=Mx at Ll Sh
  have GI:=aB (show (Cv pB (lay Mx wV 11) k sb gi gb gs rb dg Mw∧mG pB (lay Mx wV 11) oC k.hb sb rb ⟨0,0,0,0⟩∧xP pB (lay Mx wV 11) qE k.hb∧qW pB (lay Mx wV 11) wV.heap.size oC)∧Nw z w (lay Mx wV 11) pB∧lay Mx wV 11 mb=14 from by
    have n11:=Nw.of Sh.out.2 Mx 11
    exact ⟨⟨Ll.out.1.1.eC n11 (fun _ _ h=>h),mG.eC Ll.out.1.2.1 n11 (fun h=>h),Ll.out.1.2.2.eC n11 (fun h=>h),Sh.out.1⟩,Ll.out.2.1.trans n11 fun _ h=>h,(eR Zy.out.lt).trans Ll.out.2.2⟩)
  have Wl:=aB (Zy.out.later Sh.out.2)
  rw [qJ] at GI
  clear qJ
  generalize w9.heap.size=nM at GI ⊢
  generalize lay Mx wV 11=z11 at GI
  clear Zy Ll Sh Oa UB HT9 c0 bl c5 f5 bl9 c3
  obtain ⟨i0,kS,lF,Zz,jU⟩:=info_parts U8
  have c4:=Wl.out.cell 4
  have bl:=Wl.out.lt
  have f4:=Wl.out.frozen 4
  simp only [aC,aD,aE] at c4
  refine wp_loop_rounds 3 ?_
  rw [rounds_succ]
  go_wp2_with fail
  have HS:=aB (show ∀w',Ext pB w'→w'.cell? ⟨mb,4,none⟩=some (.slice none 0 0) from fun w' hx=>(hx.cell _ _ bl).trans c4)
  refine eN (fun w'=>w'.cell? ⟨mb,4,none⟩=some (.slice none 0 0)) [0,1,2,3,4,5,6] [7,8,9,10,11] 12 (by kernel_rfl) (by kernel_rfl) (HS.out _ (Ext.refl _).drew) ?_
  simp only [fX,aL,aR,aM,aS,aP,aJ]
  iterate 7 (refine fI (v:=?_) (by rfl) ?_ ?_;rotate_left;(· (intro u gP;go_simp;(try with_reducible rfl)));(try simp only [Act.put,aF,aN,aO]))
  refine fS ?_
  refine dV ?_
  go_wp2_with (first
    | (go_at_call 52;refine (BN nM 0 z11 _).mono ?_;rintro r zG ⟨rfl,zM,Wm⟩;have Si:=aB (aA zM ((Ext.refl pB).drew.trans Wm));clear zM Wm)
    | fail)
  refine ⟨HS.out _ Si.out.2,?_⟩
  refine dV ?_
  go_wp2_with fail
  refine ⟨HS.out _ (Si.out.2.alloc _ _),?_⟩
  refine dV ?_
  refine dS 0 _ rfl (.tmp 64) (.tmp 68) 75 rfl 125 i0 _ 1 8 underlying75 kS lF Zz jU rfl (by decide) _ _ _ (by rfl) (by exact jQ _ _ _ _) (.slice (some ⟨zG.heap.size,0,none⟩) 1 1) 1 [.pointer (some ⟨pB.heap.size,0,none⟩)] (by rfl) (by exact jF zG [.pointer (some ⟨pB.heap.size,0,none⟩)] _ 1 rfl) (by intro u hu;simp at hu;subst hu;rfl) (by unfold maxLen;omega) (by omega) (aQ _) ?_
  intro v' tJ eP gH kP
  have BO:Ext pB tJ:=eV.ext gH (Si.out.2.alloc _ _) fun i hi=>(by cases hi)
  obtain ⟨p1,vC,rfl,aZa,aZb,aZc⟩:=dZ eP
  have g4:=(BO.frozen ⟨mb,4,none⟩).trans f4
  have gl:=aG bl BO.size
  have g0:=HS.out _ BO
  refine fG ⟨HS.out _ BO,?_⟩
  refine dV ?_
  go_wp2_with fail
  refine ⟨HS.out _ BO,?_⟩
  refine dV ?_
  go_wp2_with fail
  refine ⟨HS.out _ BO,?_⟩
  refine fJ ?_
  go_wp2_with fail
  refine NoPanic.normal ?_
  go_wp2_with fail
  have R0:=Li GI.out.2.1 GI.out.2.2 hL6 Wl.out (by decide) Si.out.2 Si.out.1 ((Ext.refl zG).alloc _ _) gH (fun g hg=>(by cases hg)) eP kP
  have FB:=aB (aA (aA (GI.out.1.1.eC R0.1 (fun i hi e=>by unfold Pz Hz at hi;omega)) (aA (mG.eC GI.out.1.2.1 R0.1 (by omega)) (aA (GI.out.1.2.2.1.eC R0.1 (by omega)) (qW.eC GI.out.1.2.2.2 R0.1 (by omega))))) (aA R0.2.1 (aA R0.2.2.1 (aA R0.2.2.2.1 (aA R0.2.2.2.2.1 R0.2.2.2.2.2.1)))))
  have Wn:=aB (show eG (tJ.setCell ⟨mb,4,none⟩ (.slice p1 1 vC)) mb 80 #[.pointer (some ⟨k.hb,0,none⟩),.pointer (some ⟨sb,0,none⟩),.pointer (some ⟨rb,0,none⟩),.pointer (some ⟨oC,0,none⟩),.slice p1 1 vC,.pointer (some ⟨qE,0,none⟩),.map (some dg),.pointer (some ⟨Mw,0,none⟩),.int .i64 100,.bool false,.int .u64 0,.int .u64 0] from R0.2.2.2.2.2.2)
  clear R0 GI Wl Si gH BO eP kP g4 gl g0 c4 bl f4 HS
  generalize pB.heap.size=cb0 at FB
  generalize lay (lay z11 pB (100+0)) zG 12=z14 at FB
  simp only [aT,aJ] at FB
  generalize tJ.setCell ⟨mb,4,none⟩ (.slice p1 1 vC)=Wo at FB Wn ⊢
  have c4:=Wn.out.cell 4
  have bl:=Wn.out.lt
  have f4:=Wn.out.frozen 4
  simp only [aC,aD,aE] at c4
  rw [rounds_succ]
  go_wp2_with fail
  have aLz:=aB FB.out.2.2.2.2.1
  have HS:=aB (show ∀w',eV (fun j=>(Value.slice p1 1 vC).ownBlock=some j) Wo w'→w'.cell? ⟨mb,4,none⟩=some (.slice p1 1 vC) from fun w' hx=>(hx.cell bl (fun e=>by have:=(FB.out.2.2.2.2.2 mb e).1;have:=FB.out.2.2.1;omega)).trans c4)
  refine eN (fun w'=>w'.cell? ⟨mb,4,none⟩=some (.slice p1 1 vC)) [0,1,2,3,4,5,6] [7,8,9,10,11] 12 (by kernel_rfl) (by kernel_rfl) (HS.out _ (eV.refl _ _).drew) ?_
  simp only [fX,aL,aR,aM,aS,aP,aJ]
  iterate 7 (refine fI (v:=?_) (by rfl) ?_ ?_;rotate_left;(· (intro u gP;go_simp;(try with_reducible rfl)));(try simp only [Act.put,aF,aN,aO]))
  refine fS ?_
  refine dV ?_
  go_wp2_with (first
    | (go_at_call 52;refine (BN nM 1 z14 _).mono ?_;rintro r V0 ⟨rfl,zM,aE2⟩;have Sj:=aB (aA zM ((Ext.refl Wo).drew.trans aE2));clear zM aE2)
    | fail)
  refine ⟨HS.out _ (eV.dX Sj.out.2 _),?_⟩
  refine dV ?_
  go_wp2_with fail
  refine ⟨HS.out _ (eV.dX (Sj.out.2.alloc _ _) _),?_⟩
  refine dV ?_
  refine dS 0 _ rfl (.tmp 64) (.tmp 68) 75 rfl 125 i0 _ 1 8 underlying75 kS lF Zz jU rfl (by decide) _ _ _ (by rfl) (by exact dY aLz.out ((Sj.out.2.alloc _ _).below)) (.slice (some ⟨V0.heap.size,0,none⟩) 1 1) 1 [.pointer (some ⟨Wo.heap.size,0,none⟩)] (by rfl) (by exact jF V0 [.pointer (some ⟨Wo.heap.size,0,none⟩)] _ 1 rfl) (by intro u hu;simp at hu;subst hu;rfl) (by unfold maxLen;omega) (by omega) (aQ _) ?_
  intro v' w16 eP gH kP
  have Sk:eV (fun j=>(Value.slice p1 1 vC).ownBlock=some j) Wo w16:=(eV.dX (Sj.out.2.alloc _ _) _).trans gH fun i hi=>.inl hi
  obtain ⟨p2,Kh,rfl,aL0,aEp,aL1⟩:=dZ eP
  have g4:=(Sk.frozen ⟨mb,4,none⟩).trans f4
  have gl:=aG bl Sk.size
  have g0:=HS.out _ Sk
  refine fG ⟨HS.out _ Sk,?_⟩
  refine dV ?_
  go_wp2_with fail
  refine ⟨HS.out _ Sk,?_⟩
  refine dV ?_
  go_wp2_with fail
  refine ⟨HS.out _ Sk,?_⟩
  refine fJ ?_
  go_wp2_with fail
  refine NoPanic.normal ?_
  go_wp2_with fail
  have R1:=Li FB.out.2.1 FB.out.2.2.1 hL6 Wn.out (by decide) Sj.out.2 Sj.out.1 ((Ext.refl V0).alloc _ _) gH FB.out.2.2.2.2.2 eP kP
  rw [rounds_succ]
  go_wp2_with fail
  go_returns
  obtain ⟨s1,n1,zm,ca1,ow,oz,hB⟩:=R1
  rcases aL1 with e | ⟨g,rfl, -,hg⟩
  · omega
  have ho:=oz g rfl
  obtain ⟨⟨hP,gP,hSt,hCe⟩, -, -,ca0, -, -⟩:=FB.out
  refine ⟨⟨mb,k,sb,gi,gb,rb,oC,nM,g,Kh,fun p=>if p=0 then cb0 else Wo.heap.size,qE,dg,Mw⟩,_,⟨OU,WY gs,⟨0,0,0,0⟩,fun _=>⟨fun _=>0,0,0⟩,true, [],0,0,0⟩,rfl,⟨rfl,⟨gs,rfl⟩,rfl,fun _=>rfl,rfl,rfl⟩,rfl,?_,n1⟩
  have hP2:=hP.eC s1 (fun i hi e=>by unfold Pz Hz at hi;omega)
  refine ⟨by simpa [mT] using hB,zm,hP2.h,hP2.s,hP2.sp,hP2.CD,mG.eC gP s1 (by omega),qW.eC hCe s1 (by omega),fun p hp=>?_,⟨fun p hp=>?_,ho.2.2,ho.1,aL0,aEp⟩,⟨(hSt.eC s1 (by omega)).YV,fun _=>hSt.eC s1 (by omega)⟩,hP2.kX,DP.eC n1 jT.1 (fun h=>h),(n1.zn _ jT.2).trans jT.1,aG jT.2 n1.size⟩
  · rcases (by omega:p=0∨p=1) with rfl | rfl
    · exact ca0.eC s1 (by omega)
    · exact ca1
  · have:=ow.cellAt p (by omega)
    rcases (by omega:p=0∨p=1) with rfl | rfl
    · simpa using this
    · simpa using this
end
def sH (w:World) (z:Nat→Nat) (i:Nat) (v:Value) (l:List Int):Prop:=
 ∃(p:Option Addr) (cap:Nat),v= .slice p l.length cap∧l.length≤cap∧cap≤maxLen∧((p=none∧cap=0)∨∃g o iY,p=some ⟨g,o,none⟩∧eG w g 3 iY∧o+cap≤iY.size∧z g=i∧∀j,j<l.length→iY[o+j]? =some (.int .i64 (l.getD j 0)))
section
variable {S:Nat→Prop} {z z':Nat→Nat} {w w':World} {i:Nat} {v:Value} {l:List Int}
theorem sH.eC (h:sH w z i v l) (s:eF S z w z' w') (hi:¬S i):sH w' z' i v l:=by
 obtain ⟨p,cap,h1,h2,h3,h4⟩:=h
 refine ⟨p,cap,h1,h2,h3,h4.imp id ?_⟩
 rintro ⟨g,o,iY,a1,a2,a3,a4,a5⟩
 exact ⟨g,o,iY,a1,a2.eA s.eA (a4.symm▸hi),a3,(s.zn g a2.lt).trans a4,a5⟩
theorem sH.nil (w:World) (z:Nat→Nat) (i:Nat):sH w z i (.slice none 0 0) []:=⟨none,0,rfl,aK _,aQ _,.inl ⟨rfl,rfl⟩⟩
theorem Wp:∃j,prog.info? 3=some j∧j.zero=some (.int .i64 0)∧j.size=1∧j.bytes=8:=info_parts vM
theorem JP (ty:TypeId) (x:Int) (ga oa:Nat) (c:Nat) (hc:w.cell? ⟨ga,oa,none⟩=some (.int .i64 x)) (h:sH w z i v l) (hn:l.length<1000):
  ∃v' w',(Builtin.append_ #[22,22] ty #[v,.slice (some ⟨ga,oa,none⟩) 1 c]).run prog w= .ok v' w'∧sH w' (lay z w i) i v' (l ++ [x])∧eF (fun k=>k=i) z w (lay z w i) w':=by
 obtain ⟨j,hj,hz,h1,h8⟩:=Wp
 obtain ⟨p,cap,rfl,h2,h3,h4⟩:=h
 have Ft:Go.Src prog j.size 22 (.slice (some ⟨ga,oa,none⟩) 1 c) 1 [.int .i64 x] w:=Go.Src.ofSlice (P:=prog) w underlying22 ⟨ga,oa,none⟩ 1 c [.int .i64 x] (by rw [h1];rfl) (fun k u hu=>by
  cases k with
  | zero=>simp at hu;subst hu;simpa [Addr.add_lit] using hc
  | succ k=>simp at hu) (fun u hu=>by simp at hu;subst hu;rfl)
 by_cases hr:l.length+1≤cap
 ·rcases h4 with ⟨-,e0⟩ | ⟨g,o,iY,rfl,b1,b2,b3,b4⟩
  ·omega
  ·have Bs:=run_append_room_src (P:=prog) w 22 22 ty 3 j underlying22 hj g o l.length cap _ 1 [.int .i64 x] Ft hr (fun k hk=>by
    have hk0:k=0:=by simp at hk;omega
    subst hk0
    rw [h1,b1.cell]
    have:o+l.length*1+0<iY.size:=by omega
    rw [Array.getElem?_eq_getElem this];rfl) (fun k hk=>b1.frozen _)
   rw [h1] at Bs
   refine ⟨_,_,Bs,⟨some ⟨g,o,none⟩,cap,by simp,by simpa using hr,h3,.inr ⟨g,o,iY.setIfInBounds (o+l.length) (.int .i64 x),rfl,?_,by simpa using b2,(eR b1.lt).trans b3,fun k hk=>?_⟩⟩,eF.oI (F:=fun k=>k=g) ?_ (fun k hk=>by rw [hk,b3]) i⟩
   ·simpa [World.setCells] using b1.gG (o+l.length) (.int .i64 x)
   ·simp at hk
    by_cases e:k=l.length
    ·subst e
     have:o+l.length<iY.size:=by omega
     simp [this]
    ·have Ii:k<l.length:=by omega
     rw [Array.getElem?_setIfInBounds_ne (by omega),b4 k Ii]
     simp [List.getD,Ii,aH Ii]
   ·have:=(eV.refl (fun k=>k=g) w).setCell (p:=⟨g,o+l.length,none⟩) (.inl rfl) (.int .i64 x)
    simpa [World.setCells] using this
 ·have xK:cap=l.length:=by omega
  subst xK
  have hold:(Builtin.firstCells j.size l.length (.slice p l.length l.length)).run prog w.drew= .ok (l.map fun y=>Value.int .i64 y).toArray w.drew:=by
   rcases h4 with ⟨rfl,e0⟩ | ⟨g,o,iY,rfl,b1,b2,b3,b4⟩
   ·have:l= []:=List.length_eq_zero_iff.1 e0
    subst this
    rw [h1]
    exact run_firstCells_none (P:=prog) w.drew 1 0 0 0
   ·rw [h1]
    refine run_firstCells_some (P:=prog) w.drew 1 l.length ⟨g,o,none⟩ l.length l.length _ (by simp) fun k u hu=>?_
    have hk:k<l.length:=by
     have:=List.getElem?_eq_some_iff.1 hu
     obtain ⟨h9, -⟩:=this
     simpa using h9
    rw [List.getElem?_map,aI hk] at hu
    simp at hu
    subst hu
    have:=(b1.drew.cell (o+k)).trans (b4 k hk)
    rw [List.getD_eq_getElem?_getD,aI hk] at this
    simpa [Addr.add_lit] using this
  have Bs:=run_append_grow_src (P:=prog) w 22 22 ty 3 j (.int .i64 0) underlying22 hj hz p l.length l.length _ hold _ 1 [.int .i64 x] Ft (by omega) (by omega) (growslice_fits (by omega) (by rw [h8];omega))
  have Ml:=grownCap_ge w (l.length+1) l.length 3
  have hgm:grownCap w (l.length+1) l.length 3≤maxLen:=grownCap_le_maxLen w (l.length+1) l.length 3 (by unfold maxLen;omega)
  refine ⟨_,_,Bs,⟨some ⟨w.heap.size,0,none⟩,_,by simp,by simpa using Ml,hgm,.inr ⟨w.heap.size,0,_,rfl,eG.new w.drew _ _,?_,eQ (aK _),fun k hk=>?_⟩⟩,eF.fL ((Ext.refl w).drew.alloc _ _) _ z i⟩
  ·simp only [Array.size_append,List.size_toArray,List.length_append,List.length_map,List.length_cons,List.length_nil,size_zeroCells]
   have:(Value.int .i64 0).cells.size=1:=rfl
   rw [this]
   omega
  ·simp at hk
   rw [aT,Array.getElem?_append_left (by simp;omega)]
   simp only [aC]
   by_cases e:k=l.length
   ·subst e;simp
   ·have Ii:k<l.length:=by omega
    simp [aH,Ii,List.getD]
end
theorem DX {z:Nat→Nat} {w:World} {i:Nat} {v:Value} {l:List Int} {ops:Array Oper} {rest:List Oper} {o:Oper} {a:Act} {Q:Exit→Act→World→Prop} (UI:o.guard=none) (s x:Operand)
  (ho:o.op= .call { callee:=.builtin .append,args:= #[s,x],argTypes:= #[22,22] }) (hs:a.eval s=v) (h:sH w z i v l) (hn:l.length<1000)
  (y:Int) (ga oa c:Nat) (hx:a.eval x= .slice (some ⟨ga,oa,none⟩) 1 c) (hc:w.cell? ⟨ga,oa,none⟩=some (.int .i64 y))
  (hk:∀v' w',sH w' (lay z w i) i v' (l ++ [y])→eF (fun k=>k=i) z w (lay z w i) w'→wpList prog ops Q rest (a.put o.dst v') w'):wpList prog ops Q (o::rest) a w:=by
 refine wpList_plain UI fun K hK=>?_
 obtain ⟨v',w',hr,h2,h3⟩:=JP o.type y ga oa c hc h hn
 unfold Oper.wp execOp
 simp only [ho,resolve,invoke,builtin,Sem.run_bind,Sem.run_pure,Result.andThen_ok,List.map_toArray,List.map_cons,List.map_nil,hs,hx,hr]
 exact hK _ _ (hk v' w' h2 h3)
end Go.Proofs.YtgknoidliabanaaGreatDoor
