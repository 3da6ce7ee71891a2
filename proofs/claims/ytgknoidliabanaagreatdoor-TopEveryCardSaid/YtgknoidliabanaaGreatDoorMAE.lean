/- TopEvery holds: MAE. -/
import Derived.Deep.Cut
import Derived.Test.YtgknoidliabanaaGreatDoorMAD
set_option linter.unusedVariables false
set_option linter.unusedSimpArgs false
set_option linter.unusedSectionVars false
set_option maxRecDepth 20000
set_option maxHeartbeats 8000000
namespace Go.Proofs.YtgknoidliabanaaGreatDoor
open Go.RowKit _root_.Go.Proofs.Tryz
open Lib renaming hid→aA
open List renaming setIfInBounds_toArray→aB,set_cons_zero→aD,set_cons_succ→aE,getElem?_eq_getElem→aF,length_append→aH,length_cons→aK,length_take→aL,length_drop→aM
open World renaming size_alloc→aC
open Act renaming put→aG
open Nat renaming lt_of_lt_of_le→aI,add_sub_cancel→aJ,zero_add→aN
def NO:Code→Code
 | .seq _ y=>NO y
 | c=>c
theorem oH (B b o gx:Nat) (m:List (Nat×Nat)) (ii kk aa cc:Nat) {w3:World} {K:Exit→Act→World→Prop} {s1 s2 s3 s4 s5 s9 AZ Tu Ra s13 s14 s15 s16 s17 s18 s19 s20 s21 s22 s23 s24 s25 s26 s27 s28 s29 s30 s31 s32 s33 s34 s35 s36 s37 s38 s39 s40 s41 s42 s43 s44 s45 s46 s47 s48 s49 s50 s51 s52 s53 s54 s55 s56 s57 s58 s59 s60 s61 s62 s63 s64 s65 s66 s67 s68 s69 s70 s71 s72 s73 s74 s75 s76 s77 s78 s79 s80 s81 s82 s83 s84 s85 s86 s87 s88 s89 s90 s91 s92 s93 s94 s95 s96 s97 s98 s99 aJh aJi aJj aJk aJl aJm aJn aJo aJp aJq:Value}
  (hs:nY w3 B b o m) (Ga:∀k,w3.frozen? ⟨b,k,none⟩=false) (hn:m.length≤1000000) (hii:ii≤m.length) (W_:kk≤m.length)
  (mD:w3.cell? ⟨gx,0,none⟩=some (.int .u64 aa)) (jE:w3.cell? ⟨gx,1,none⟩=some (.int .u64 cc)) (yE:gx<w3.heap.size)
  (hK:∀(a':Act) (w5:World) (v:Value) (n:Nat),a'.defers= []→Ext w3 w5→w5.ownsRow w3.heap.size 288 2 v n (iP (m.take ii ++ (aa,cc)::m.drop kk))→n=(m.take ii ++ (aa,cc)::m.drop kk).length→(∃u0,w5.cell? ⟨b,o,none⟩=some u0)→K .normal a' (w5.setCell ⟨b,o,none⟩ v)):
  (NO (f263.body.getD .skip)).wp prog K { tmps:= #[.pointer (some ⟨b,o,none⟩),s1,s2,s3,s4,s5,.int .i64 (ii:Nat),.pointer (some ⟨gx,0,none⟩),.int .i64 (kk:Nat),s9,AZ,Tu,Ra,s13,s14,s15,s16,s17,s18,s19,s20,s21,s22,s23,s24,s25,s26,s27,s28,s29,s30,s31,s32,s33,s34,s35,s36,s37,s38,s39,s40,s41,s42,s43,s44,s45,s46,s47,s48,s49,s50,s51,s52,s53,s54,s55,s56,s57,s58,s59,s60,s61,s62,s63,s64,s65,s66,s67,s68,s69,s70,s71,s72,s73,s74,s75,s76,s77,s78,s79,s80,s81,s82,s83,s84,s85,s86,s87,s88,s89,s90,s91,s92,s93,s94,s95,s96,s97,s98,s99,aJh,aJi,aJj,aJk,aJl,aJm,aJn,aJo,aJp,aJq],defers:= [] } w3:=by
 obtain ⟨i0,kS,lF,jT,jU⟩:=info_parts IZ
 obtain ⟨p,cap,c0,oX,sP,hg⟩:=hs.open_
 obtain ⟨vv,h1,lI, -⟩:=hs.row
 obtain rfl:=Option.some.inj (h1.symm.trans c0)
 have hb:=hs.lt
 have hic:ii≤cap:=by omega
 have hf0:=Ga o
 clear h1 hg
 simp only [NO,f263,Option.getD_some]
 refine qL (fun w'=>w'.cell? ⟨b,o,none⟩=some (.slice p m.length cap)∧w'.cell? ⟨gx,0,none⟩=some (.int .u64 aa)∧w'.cell? ⟨gx,1,none⟩=some (.int .u64 cc)) [0,2,3,4,5,6,7,9,12,13,14,15,16,17] 21 (by kernel_rfl) (by kernel_rfl) ⟨c0,mD,jE⟩ ?_
 simp only [fX,List.drop_succ_cons,List.drop_zero,List.take_succ_cons,List.take_zero,List.cons_append,List.nil_append]
 iterate 14 (refine fI (v:=?_) (by rfl) ?_ ?_;rotate_left;(· (intro u gP;(try dsimp only at gP);go_simp;(try with_reducible rfl)));(try simp only [aG,aB,aD,aE]))
 refine fS ?_
 have L3:=aA fun w' h=>EJ (w:=w') (B:=B) (p:=p) (cap:=cap) (l:=m) h W_
 generalize (if cap=kk then p else Option.map (fun x=>x.add (kk*2)) p)=pd at*
 refine lQ (i:=1) (j:=10) (by kernel_rfl) rfl rfl (by decide) ?_ ?_
 ·go_wp2_with fail
  have uD:=aA (((Ext.refl w3).alloc #[] 288).drew)
  have QK:=aA (show (w3.alloc (.cells #[] 288)).drew.ownsRow w3.heap.size 288 2 (.slice (some ⟨w3.heap.size,0,none⟩) 0 0) 0 [] from dY (iZ w3 w3.heap.size 288 2 (Nat.le_refl _)) ((Ext.refl _).drew).below)
  refine ⟨⟨(uD.out.cell _ _ hb).trans c0,(uD.out.cell _ _ yE).trans mD,(uD.out.cell _ _ yE).trans jE⟩,?_⟩
  refine lQ (i:=8) (j:=10) (by kernel_rfl) rfl rfl (by decide) ?_ ?_
  ·refine dS w3.heap.size _ rfl (.tmp 90) (.tmp 96) 176 rfl 288 i0 _ 2 16 underlying176 kS lF jT jU rfl (by decide) (.slice (some ⟨w3.heap.size,0,none⟩) 0 0) (0) [] (by rfl) (QK.out) (.slice p ii cap) (ii) (iP (m.take ii)) (by rfl) (uC (dY lI uD.out.below) hii) (jX _) (by unfold maxLen;omega) (by omega) (uD.out.size) ?_
   intro v1 pB gA kQ _
   have gX:=aA (show Ext w3 pB from kQ.ext uD.out fun g hg=>(eB (QK.out) g hg).1)
   refine fG ⟨⟨(gX.out.cell _ _ hb).trans c0,(gX.out.cell _ _ yE).trans mD,(gX.out.cell _ _ yE).trans jE⟩,?_⟩
   simp only [aG,aB,aD,aE]
   refine eW (i:=10) (by kernel_rfl) rfl (by decide) ?_
   go_wp2_with fail
   have vD:=aA (gX.out.alloc #[.int .u64 (aa:Nat),.int .u64 (cc:Nat)] 288)
   refine ⟨⟨(vD.out.cell _ _ hb).trans c0,(vD.out.cell _ _ yE).trans mD,(vD.out.cell _ _ yE).trans jE⟩,?_⟩
   refine eW (i:=11) (by kernel_rfl) rfl (by decide) ?_
   refine dS w3.heap.size _ rfl (.tmp 97) (.tmp 99) 176 rfl 288 i0 _ 2 16 underlying176 kS lF jT jU rfl (by decide) (v1) (0+ii) ([] ++ iP (m.take ii)) (by rfl) (dY gA ((Ext.refl _).alloc _ _).below) (.slice (some ⟨pB.heap.size,0,none⟩) 1 1) (1) ([.int .u64 (aa:Nat),.int .u64 (cc:Nat)]) (by rfl) (NN pB [.int .u64 (aa:Nat),.int .u64 (cc:Nat)] _ rfl) (by intro u hu;simp at hu;rcases hu with rfl | rfl<;>rfl) (by unfold maxLen;omega) (by omega) (vD.out.size) ?_
   intro v2 zG iC nG _
   have gY:=aA (show Ext w3 zG from nG.ext vD.out fun g hg=>(eB gA g hg).1)
   refine fG ⟨⟨(gY.out.cell _ _ hb).trans c0,(gY.out.cell _ _ yE).trans mD,(gY.out.cell _ _ yE).trans jE⟩,?_⟩
   simp only [aG,aB,aD,aE]
   refine eW (i:=18) (by kernel_rfl) rfl (by decide) ?_
   refine dS w3.heap.size _ rfl (.tmp 100) (.tmp 106) 176 rfl 288 i0 _ 2 16 underlying176 kS lF jT jU rfl (by decide) (v2) (0+ii+1) ([] ++ iP (m.take ii) ++ [.int .u64 (aa:Nat),.int .u64 (cc:Nat)]) (by rfl) (iC) (.slice pd (m.length-kk) (cap-kk)) (m.length-kk) (iP (m.drop kk)) (by rfl) (L3.out _ (dY lI gY.out.below)) (jX _) (by unfold maxLen;omega) (by omega) (gY.out.size) ?_
   intro v3 tJ oG An _
   have iA:=aA (show Ext w3 tJ from An.ext gY.out fun g hg=>(eB iC g hg).1)
   refine fG ⟨⟨(iA.out.cell _ _ hb).trans c0,(iA.out.cell _ _ yE).trans mD,(iA.out.cell _ _ yE).trans jE⟩,?_⟩
   simp only [aG,aB,aD,aE]
   have mR:=fun a' hd=>hK a' tJ v3 _ hd iA.out (by have h1:=oG;rw [kO,nX];simpa using h1) (by rw [aH,aK,aL,aM];omega) ⟨_,(iA.out.cell _ _ hb).trans c0⟩
   have c3:tJ.cell? ⟨b,o,none⟩=some (.slice p m.length cap):=(iA.out.cell _ _ hb).trans c0
   have f3:tJ.frozen? ⟨b,o,none⟩=false:=(iA.out.frozen _).trans hf0
   have l3:b<tJ.heap.size:=aI hb iA.out.size
   have Cg:=aA (show tJ.cell? ⟨b,o,none⟩=some (.slice p m.length cap)∧tJ.cell? ⟨gx,0,none⟩=some (.int .u64 aa)∧tJ.cell? ⟨gx,1,none⟩=some (.int .u64 cc) from ⟨(iA.out.cell _ _ hb).trans c0,(iA.out.cell _ _ yE).trans mD,(iA.out.cell _ _ yE).trans jE⟩)
   obtain ⟨p3,yS,rfl, -, -, -⟩:=dZ oG
   clear gA iC oG kQ nG An
   have sQ:=aA mR
   clear mR
   refine eW (i:=19) (by kernel_rfl) rfl (by decide) ?_
   go_wp2_with fail
   refine ⟨Cg.out,?_⟩
   refine eW (i:=20) (by kernel_rfl) rfl (by decide) ?_
   go_wp2_with fail
   refine ⟨Cg.out,?_⟩
   refine iM (by kernel_rfl) rfl (by kernel_rfl) ?_
   go_wp2_with fail
   refine NoPanic.normal ?_
   have h9:=sQ.out
   simp only [aN] at h9
   exact h9 _ rfl
  ·go_wp2_with fail
   have vD:=aA ((((Ext.refl w3).alloc #[] 288).alloc #[.int .u64 (aa:Nat),.int .u64 (cc:Nat)] 288).drew)
   refine ⟨⟨(vD.out.cell _ _ hb).trans c0,(vD.out.cell _ _ yE).trans mD,(vD.out.cell _ _ yE).trans jE⟩,?_⟩
   have KF:=aA (show _ from (dY (w1:=((w3.alloc (.cells #[] 288)).alloc (.cells #[.int .u64 (aa:Nat),.int .u64 (cc:Nat)] 288)).drew) (iZ w3 w3.heap.size 288 2 (Nat.le_refl _)) (((Ext.refl _).alloc _ _).drew).below))
   have sL:=aA (show _ from (by have h:=eG.new (w3.alloc (.cells #[] 288)) 288 #[.int .u64 (aa:Nat),.int .u64 (cc:Nat)];rw [aC] at h;exact h.drew:eG (((w3.alloc (.cells #[] 288)).alloc (.cells #[.int .u64 (aa:Nat),.int .u64 (cc:Nat)] 288)).drew) (w3.heap.size+1) 288 #[.int .u64 (aa:Nat),.int .u64 (cc:Nat)]))
   refine eW (i:=8) (by kernel_rfl) rfl (by decide) ?_
   refine dS w3.heap.size _ rfl (.tmp 90) (.tmp 96) 176 rfl 288 i0 _ 2 16 underlying176 kS lF jT jU rfl (by decide) (.slice (some ⟨w3.heap.size,0,none⟩) 0 0) (0) [] (by rfl) (KF.out) (.slice p ii cap) (ii) (iP (m.take ii)) (by rfl) (uC (dY lI vD.out.below) hii) (jX _) (by unfold maxLen;omega) (by omega) (vD.out.size) ?_
   intro v1 pB gA kQ _
   have gX:=aA (show Ext w3 pB from kQ.ext vD.out fun g hg=>(eB KF.out g hg).1)
   have EM:=aA (sL.out.eA kQ (fun e=>by have e2:=Option.some.inj e;simp at e2))
   refine fG ⟨⟨(gX.out.cell _ _ hb).trans c0,(gX.out.cell _ _ yE).trans mD,(gX.out.cell _ _ yE).trans jE⟩,?_⟩
   simp only [aG,aB,aD,aE]
   refine eW (i:=11) (by kernel_rfl) rfl (by decide) ?_
   refine dS w3.heap.size _ rfl (.tmp 97) (.tmp 99) 176 rfl 288 i0 _ 2 16 underlying176 kS lF jT jU rfl (by decide) (v1) (0+ii) ([] ++ iP (m.take ii)) (by rfl) (gA) (.slice (some ⟨w3.heap.size+1,0,none⟩) 1 1) (1) ([.int .u64 (aa:Nat),.int .u64 (cc:Nat)]) (by rfl) (yD EM.out rfl) (by intro u hu;simp at hu;rcases hu with rfl | rfl<;>rfl) (by unfold maxLen;omega) (by omega) (gX.out.size) ?_
   intro v2 zG iC nG _
   have gY:=aA (show Ext w3 zG from nG.ext gX.out fun g hg=>(eB gA g hg).1)
   refine fG ⟨⟨(gY.out.cell _ _ hb).trans c0,(gY.out.cell _ _ yE).trans mD,(gY.out.cell _ _ yE).trans jE⟩,?_⟩
   simp only [aG,aB,aD,aE]
   refine eW (i:=18) (by kernel_rfl) rfl (by decide) ?_
   refine dS w3.heap.size _ rfl (.tmp 100) (.tmp 106) 176 rfl 288 i0 _ 2 16 underlying176 kS lF jT jU rfl (by decide) (v2) (0+ii+1) ([] ++ iP (m.take ii) ++ [.int .u64 (aa:Nat),.int .u64 (cc:Nat)]) (by rfl) (iC) (.slice pd (m.length-kk) (cap-kk)) (m.length-kk) (iP (m.drop kk)) (by rfl) (L3.out _ (dY lI gY.out.below)) (jX _) (by unfold maxLen;omega) (by omega) (gY.out.size) ?_
   intro v3 tJ oG An _
   have iA:=aA (show Ext w3 tJ from An.ext gY.out fun g hg=>(eB iC g hg).1)
   refine fG ⟨⟨(iA.out.cell _ _ hb).trans c0,(iA.out.cell _ _ yE).trans mD,(iA.out.cell _ _ yE).trans jE⟩,?_⟩
   simp only [aG,aB,aD,aE]
   have mR:=fun a' hd=>hK a' tJ v3 _ hd iA.out (by have h1:=oG;rw [kO,nX];simpa using h1) (by rw [aH,aK,aL,aM];omega) ⟨_,(iA.out.cell _ _ hb).trans c0⟩
   have c3:tJ.cell? ⟨b,o,none⟩=some (.slice p m.length cap):=(iA.out.cell _ _ hb).trans c0
   have f3:tJ.frozen? ⟨b,o,none⟩=false:=(iA.out.frozen _).trans hf0
   have l3:b<tJ.heap.size:=aI hb iA.out.size
   have Cg:=aA (show tJ.cell? ⟨b,o,none⟩=some (.slice p m.length cap)∧tJ.cell? ⟨gx,0,none⟩=some (.int .u64 aa)∧tJ.cell? ⟨gx,1,none⟩=some (.int .u64 cc) from ⟨(iA.out.cell _ _ hb).trans c0,(iA.out.cell _ _ yE).trans mD,(iA.out.cell _ _ yE).trans jE⟩)
   obtain ⟨p3,yS,rfl, -, -, -⟩:=dZ oG
   clear gA iC oG kQ nG An
   have sQ:=aA mR
   clear mR
   refine eW (i:=19) (by kernel_rfl) rfl (by decide) ?_
   go_wp2_with fail
   refine ⟨Cg.out,?_⟩
   refine eW (i:=20) (by kernel_rfl) rfl (by decide) ?_
   go_wp2_with fail
   refine ⟨Cg.out,?_⟩
   refine iM (by kernel_rfl) rfl (by kernel_rfl) ?_
   go_wp2_with fail
   refine NoPanic.normal ?_
   have h9:=sQ.out
   simp only [aN] at h9
   exact h9 _ rfl
 ·go_wp2_with fail
  have uD:=aA (((Ext.refl w3).alloc #[.int .u64 (aa:Nat),.int .u64 (cc:Nat)] 288).drew)
  refine ⟨⟨(uD.out.cell _ _ hb).trans c0,(uD.out.cell _ _ yE).trans mD,(uD.out.cell _ _ yE).trans jE⟩,?_⟩
  refine eW (i:=1) (by kernel_rfl) rfl (by decide) ?_
  go_wp2_with fail
  have vD:=aA ((((Ext.refl w3).alloc #[.int .u64 (aa:Nat),.int .u64 (cc:Nat)] 288).alloc #[] 288).drew)
  refine ⟨⟨(vD.out.cell _ _ hb).trans c0,(vD.out.cell _ _ yE).trans mD,(vD.out.cell _ _ yE).trans jE⟩,?_⟩
  have KF:=aA (show _ from (by have h:=iZ (w3.alloc (.cells #[.int .u64 (aa:Nat),.int .u64 (cc:Nat)] 288)) w3.heap.size 288 2 (by rw [aC];omega);rw [aC] at h;exact dY h ((Ext.refl _).drew).below:(((w3.alloc (.cells #[.int .u64 (aa:Nat),.int .u64 (cc:Nat)] 288)).alloc (.cells #[] 288)).drew).ownsRow w3.heap.size 288 2 (.slice (some ⟨w3.heap.size+1,0,none⟩) 0 0) 0 []))
  have sL:=aA (show _ from (((eG.new w3 288 #[.int .u64 (aa:Nat),.int .u64 (cc:Nat)]).alloc (.cells #[] 288)).drew:eG (((w3.alloc (.cells #[.int .u64 (aa:Nat),.int .u64 (cc:Nat)] 288)).alloc (.cells #[] 288)).drew) w3.heap.size 288 #[.int .u64 (aa:Nat),.int .u64 (cc:Nat)]))
  refine eW (i:=8) (by kernel_rfl) rfl (by decide) ?_
  refine dS w3.heap.size _ rfl (.tmp 90) (.tmp 96) 176 rfl 288 i0 _ 2 16 underlying176 kS lF jT jU rfl (by decide) (.slice (some ⟨w3.heap.size+1,0,none⟩) 0 0) (0) [] (by rfl) (KF.out) (.slice p ii cap) (ii) (iP (m.take ii)) (by rfl) (uC (dY lI vD.out.below) hii) (jX _) (by unfold maxLen;omega) (by omega) (vD.out.size) ?_
  intro v1 pB gA kQ _
  have gX:=aA (show Ext w3 pB from kQ.ext vD.out fun g hg=>(eB KF.out g hg).1)
  have EM:=aA (sL.out.eA kQ (fun e=>by have e2:=Option.some.inj e;simp at e2))
  refine fG ⟨⟨(gX.out.cell _ _ hb).trans c0,(gX.out.cell _ _ yE).trans mD,(gX.out.cell _ _ yE).trans jE⟩,?_⟩
  simp only [aG,aB,aD,aE]
  refine eW (i:=11) (by kernel_rfl) rfl (by decide) ?_
  refine dS w3.heap.size _ rfl (.tmp 97) (.tmp 99) 176 rfl 288 i0 _ 2 16 underlying176 kS lF jT jU rfl (by decide) (v1) (0+ii) ([] ++ iP (m.take ii)) (by rfl) (gA) (.slice (some ⟨w3.heap.size,0,none⟩) 1 1) (1) ([.int .u64 (aa:Nat),.int .u64 (cc:Nat)]) (by rfl) (yD EM.out rfl) (by intro u hu;simp at hu;rcases hu with rfl | rfl<;>rfl) (by unfold maxLen;omega) (by omega) (gX.out.size) ?_
  intro v2 zG iC nG _
  have gY:=aA (show Ext w3 zG from nG.ext gX.out fun g hg=>(eB gA g hg).1)
  refine fG ⟨⟨(gY.out.cell _ _ hb).trans c0,(gY.out.cell _ _ yE).trans mD,(gY.out.cell _ _ yE).trans jE⟩,?_⟩
  simp only [aG,aB,aD,aE]
  refine eW (i:=18) (by kernel_rfl) rfl (by decide) ?_
  refine dS w3.heap.size _ rfl (.tmp 100) (.tmp 106) 176 rfl 288 i0 _ 2 16 underlying176 kS lF jT jU rfl (by decide) (v2) (0+ii+1) ([] ++ iP (m.take ii) ++ [.int .u64 (aa:Nat),.int .u64 (cc:Nat)]) (by rfl) (iC) (.slice pd (m.length-kk) (cap-kk)) (m.length-kk) (iP (m.drop kk)) (by rfl) (L3.out _ (dY lI gY.out.below)) (jX _) (by unfold maxLen;omega) (by omega) (gY.out.size) ?_
  intro v3 tJ oG An _
  have iA:=aA (show Ext w3 tJ from An.ext gY.out fun g hg=>(eB iC g hg).1)
  refine fG ⟨⟨(iA.out.cell _ _ hb).trans c0,(iA.out.cell _ _ yE).trans mD,(iA.out.cell _ _ yE).trans jE⟩,?_⟩
  simp only [aG,aB,aD,aE]
  have mR:=fun a' hd=>hK a' tJ v3 _ hd iA.out (by have h1:=oG;rw [kO,nX];simpa using h1) (by rw [aH,aK,aL,aM];omega) ⟨_,(iA.out.cell _ _ hb).trans c0⟩
  have c3:tJ.cell? ⟨b,o,none⟩=some (.slice p m.length cap):=(iA.out.cell _ _ hb).trans c0
  have f3:tJ.frozen? ⟨b,o,none⟩=false:=(iA.out.frozen _).trans hf0
  have l3:b<tJ.heap.size:=aI hb iA.out.size
  have Cg:=aA (show tJ.cell? ⟨b,o,none⟩=some (.slice p m.length cap)∧tJ.cell? ⟨gx,0,none⟩=some (.int .u64 aa)∧tJ.cell? ⟨gx,1,none⟩=some (.int .u64 cc) from ⟨(iA.out.cell _ _ hb).trans c0,(iA.out.cell _ _ yE).trans mD,(iA.out.cell _ _ yE).trans jE⟩)
  obtain ⟨p3,yS,rfl, -, -, -⟩:=dZ oG
  clear gA iC oG kQ nG An
  have sQ:=aA mR
  clear mR
  refine eW (i:=19) (by kernel_rfl) rfl (by decide) ?_
  go_wp2_with fail
  refine ⟨Cg.out,?_⟩
  refine eW (i:=20) (by kernel_rfl) rfl (by decide) ?_
  go_wp2_with fail
  refine ⟨Cg.out,?_⟩
  refine iM (by kernel_rfl) rfl (by kernel_rfl) ?_
  go_wp2_with fail
  refine NoPanic.normal ?_
  have h9:=sQ.out
  simp only [aN] at h9
  exact h9 _ rfl
theorem jB.aJt {w w1:World} {b o:Nat} (h:jB b o w w1) (u:Value):jB b o w (w1.setCell ⟨b,o+1,none⟩ u):=
 ⟨h.eA.setCell (p:=⟨b,o+1,none⟩) (.inl rfl) u,fun j h1 h2=>(eD (fT (Ne.symm h2))).trans (h.rest j h1 h2)⟩
theorem UY {m:List (Nat×Nat)} {i t:Nat} (h:i<m.length) (e:m[i].1=t):Gc m i t=true∧m.getD i (0,0)=m[i]:=⟨by unfold Gc;rw [nK h,decide_eq_true h,decide_eq_true e];rfl,nK h⟩
theorem UZ {m:List (Nat×Nat)} {i t:Nat} (h:i<m.length) (e:¬m[i].1=t):Gc m i t=false:=by unfold Gc;rw [nK h,decide_eq_false e,Bool.and_false]
theorem Ua {m:List (Nat×Nat)} {i t:Nat} (h:¬i<m.length):Gc m i t=false:=by unfold Gc;rw [decide_eq_false h,Bool.false_and]
theorem Ub {m:List (Nat×Nat)} {j f:Nat} (h:j<m.length) (e:m[j].2=f):Jk m (j+1) f=true∧m.getD (j+1-1) (0,0)=m[j]:=⟨by unfold Jk;rw [aJ,nK h,decide_eq_true (by omega),decide_eq_true e];rfl,by rw [aJ];exact nK h⟩
theorem Uc {m:List (Nat×Nat)} {j f:Nat} (h:j<m.length) (e:¬m[j].2=f):Jk m (j+1) f=false:=by unfold Jk;rw [aJ,nK h,decide_eq_false e,Bool.and_false]
theorem Ud {m:List (Nat×Nat)} {f:Nat} :Jk m 0 f=false:=rfl
theorem QL (B b o:Nat) (l:List (Nat×Nat)) (f t:Nat) (w:World) (h:rV w B b o l) (hB:B≤w.heap.size) (hn:l.length≤400000) (mW:f<t) (htt:t<1099511627776):
    Calls prog 263 #[.pointer (some ⟨b,o,none⟩),.int .u64 f,.int .u64 t] w fun r w'=>r= .returned (.tuple #[])∧rV w' w.heap.size b o (tK l f t)∧jB b o w w':=by
  have HC:=aA (show Calls prog 262 #[.pointer (some ⟨b,o,none⟩),.int .u64 f,.int .u64 t] w fun r w'=>r= .returned (.tuple #[])∧rV w' B b o (jS l f t)∧jB b o w w' from (QH B b o l f t w h hB (by omega) mW).mono fun r w' h=>⟨h.1,h.2.1.low hB,h.2.2⟩)
  have L1:=aA h.fz
  have HG:=aA (Yk h.r.up mW)
  have hb:=h.r.lt
  have vZ:=QG l f t
  have hms:=IX (h.r.up.cut mW)
  have hkf:decide (t≤f)=false:=decide_eq_false (by omega)
  clear h
  unfold tK
  generalize UO:zV (jS l f t) (pX (jS l f t) f) f t=Ue
  have HF:=aA UO.symm
  clear UO
  generalize jS l f t=m at*
  have kP:=Bn m f
  generalize hsg:jA m=s at*
  have HSG:=aA hsg
  clear hsg
  go_enter func263,ntmps263
  go_upto_region 5 with (first
    | (go_at_call 262;refine HC.out.mono ?_;rintro r w1 ⟨rfl,AW,vA⟩;have NP:=aA AW;have HT1:=aA vA;have c1:=AW.sum;rw [HSG.out] at c1;have fz1:=AW.fz (o+1);have AX:=AW.r.lt;clear AW vA)
    | (go_at_call 238;refine (IW B b o m f _ (NP.out.r.set (by omega) _) (by omega)).mono ?_;rintro r w3 ⟨rfl,hx⟩;have iA:=aA hx;clear hx))
  have Mn:=aA ((NP.out.r.set (j:=o+1) (by omega) _).later iA.out)
  have QJ:=aA (Mn.out.later ((Ext.refl w3).alloc #[.int .u64 (f:Nat),.int .u64 (t:Nat)] 288))
  obtain ⟨p,cap,c0,oX,sP,hg⟩:=Mn.out.open_
  have wK:=Mn.out.lt
  have HT2:=aA (HT1.out.aJt (.int .u64 ((s:Int)+((t:Int)-(f:Int)))))
  have Mm:=aA (fP (v:=.int .u64 ((s:Int)+((t:Int)-(f:Int)))) c1)
  have QM:=aA fun k=>(iA.out.frozen ⟨b,k,none⟩).trans ((HT2.out.eA.frozen _).trans (L1.out k))
  have HSM:=aA (HG.out.sum mW)
  have HUP:=aA (HG.out.rising mW htt)
  rw [←HF.out,HSG.out] at HSM
  rw [←HF.out] at HUP
  have sQ:=aA fun (w5:World) (v:Value) (n:Nat) (L:List (Nat×Nat)) (u0:Value) (hx:Ext w3 w5) (eP:w5.ownsRow (w3.heap.size+1) 288 2 v n (iP L)) (hn:n=L.length) (hL:Ue=L) (c9:w5.cell? ⟨b,o,none⟩=some u0) (_:True)=>Ib (B:=B) (l':=Ue) HT2.out hb L1.out Mm.out (iA.out.trans hx) c9 eP (by have:=HT2.out.eA.size;have:=iA.out.size;omega) hB (by rw [hL];exact hn) (by rw [hL]) (by have:=HSM.out;omega) HUP.out
  generalize pX m f=i at*
  rcases Nat.eq_zero_or_pos i with h0 | h0
  · subst h0
    by_cases fK:0<m.length
    · by_cases hH:m[0].1=t
      · obtain ⟨g,rfl,wH,rW,c5,c6⟩:=hg 0 fK
        have hy:=UY (m:=m) (t:=t) fK hH
        have hz:=Ud (m:=m) (f:=f)
        have HA:=aA (show Ue=m.take 0 ++ (f,m[0].2)::m.drop (0+1) from by rw [HF.out];unfold zV;simp [hy,hz,aF fK])
        clear hy hz
        rw [hH] at c5
        generalize m[0].2=y at*
        clear hg
        go_wp2_with fail
        have lW:Ext w3 (w3.alloc (.cells #[.int .u64 (f:Nat),.int .u64 (y:Nat)] 288)):=(Ext.refl w3).alloc _ _
        refine oH B b o w3.heap.size m (0) ((0+1)) (f) (y) (Mn.out.later lW) (fun k=>(lW.frozen _).trans (QM.out k)) (by omega) (by omega) (by omega) ((eG.new w3 288 #[.int .u64 (f:Nat),.int .u64 (y:Nat)]).cell 0) ((eG.new w3 288 #[.int .u64 (f:Nat),.int .u64 (y:Nat)]).cell 1) (eG.new w3 288 #[.int .u64 (f:Nat),.int .u64 (y:Nat)]).lt (fun a' w5 v n hd pZ eP KG hu=>?_)
        obtain ⟨u0,c9⟩:=hu
        rw [aC] at eP
        exact ⟨hd,.tuple #[],(by simp [results,results263,go_sem]),rfl,sQ.out w5 v n _ u0 (lW.trans pZ) eP KG HA.out c9 trivial⟩
      · obtain ⟨g,rfl,wH,rW,c5,c6⟩:=hg 0 fK
        have hy:=UZ (m:=m) (t:=t) fK hH
        have hz:=Ud (m:=m) (f:=f)
        have HA:=aA (show Ue=m.take 0 ++ (f,t)::m.drop 0 from by rw [HF.out];unfold zV;simp [hy,hz])
        clear hy hz
        have kH:¬((m[0].1:Nat):Int)=(t:Int):=fun e=>hH (by omega)
        generalize m[0].1=xx at*
        clear hg
        go_wp2_with fail
        have lW:Ext w3 (w3.alloc (.cells #[.int .u64 (f:Nat),.int .u64 (t:Nat)] 288)):=(Ext.refl w3).alloc _ _
        refine oH B b o w3.heap.size m (0) (0) (f) (t) (Mn.out.later lW) (fun k=>(lW.frozen _).trans (QM.out k)) (by omega) (by omega) (by omega) ((eG.new w3 288 #[.int .u64 (f:Nat),.int .u64 (t:Nat)]).cell 0) ((eG.new w3 288 #[.int .u64 (f:Nat),.int .u64 (t:Nat)]).cell 1) (eG.new w3 288 #[.int .u64 (f:Nat),.int .u64 (t:Nat)]).lt (fun a' w5 v n hd pZ eP KG hu=>?_)
        obtain ⟨u0,c9⟩:=hu
        rw [aC] at eP
        exact ⟨hd,.tuple #[],(by simp [results,results263,go_sem]),rfl,sQ.out w5 v n _ u0 (lW.trans pZ) eP KG HA.out c9 trivial⟩
    · have hy:=Ua (m:=m) (t:=t) fK
      have hz:=Ud (m:=m) (f:=f)
      have HA:=aA (show Ue=m.take 0 ++ (f,t)::m.drop 0 from by rw [HF.out];unfold zV;simp [hy,hz])
      clear hy hz
      have kh3:decide (0<m.length)=false:=decide_eq_false fK
      have hle:m.length≤0:=by omega
      clear fK
      clear hg
      go_wp2_with fail
      have lW:Ext w3 (w3.alloc (.cells #[.int .u64 (f:Nat),.int .u64 (t:Nat)] 288)):=(Ext.refl w3).alloc _ _
      refine oH B b o w3.heap.size m (0) (0) (f) (t) (Mn.out.later lW) (fun k=>(lW.frozen _).trans (QM.out k)) (by omega) (by omega) (by omega) ((eG.new w3 288 #[.int .u64 (f:Nat),.int .u64 (t:Nat)]).cell 0) ((eG.new w3 288 #[.int .u64 (f:Nat),.int .u64 (t:Nat)]).cell 1) (eG.new w3 288 #[.int .u64 (f:Nat),.int .u64 (t:Nat)]).lt (fun a' w5 v n hd pZ eP KG hu=>?_)
      obtain ⟨u0,c9⟩:=hu
      rw [aC] at eP
      exact ⟨hd,.tuple #[],(by simp [results,results263,go_sem]),rfl,sQ.out w5 v n _ u0 (lW.trans pZ) eP KG HA.out c9 trivial⟩
  · obtain ⟨j,rfl⟩:∃j,i=j+1:=⟨i-1,by omega⟩
    have hjm:j<m.length:=by omega
    by_cases hL:m[j].2=f
    · by_cases fK:j+1<m.length
      · by_cases hH:m[j+1].1=t
        · obtain ⟨g,rfl,wH,rW,c5,c6⟩:=hg (j+1) fK
          obtain ⟨g',e, -, -,c7,c8⟩:=hg j (by omega)
          obtain rfl:g=g':=by simpa using e
          have hy:=UY (m:=m) (t:=t) fK hH
          have hz:=Ub (m:=m) (f:=f) (by omega) hL
          have HA:=aA (show Ue=m.take j ++ (m[j].1,m[(j+1)].2)::m.drop ((j+1)+1) from by rw [HF.out];unfold zV;simp [hy,hz,aF fK,aF hjm])
          clear hy hz
          rw [hH] at c5
          generalize m[(j+1)].2=y at*
          rw [hL] at c8
          generalize m[j].1=xl at*
          clear hg
          go_wp2_with fail
          have lW:Ext w3 (w3.alloc (.cells #[.int .u64 (xl:Nat),.int .u64 (y:Nat)] 288)):=(Ext.refl w3).alloc _ _
          refine oH B b o w3.heap.size m (j) (((j+1)+1)) (xl) (y) (Mn.out.later lW) (fun k=>(lW.frozen _).trans (QM.out k)) (by omega) (by omega) (by omega) ((eG.new w3 288 #[.int .u64 (xl:Nat),.int .u64 (y:Nat)]).cell 0) ((eG.new w3 288 #[.int .u64 (xl:Nat),.int .u64 (y:Nat)]).cell 1) (eG.new w3 288 #[.int .u64 (xl:Nat),.int .u64 (y:Nat)]).lt (fun a' w5 v n hd pZ eP KG hu=>?_)
          obtain ⟨u0,c9⟩:=hu
          rw [aC] at eP
          exact ⟨hd,.tuple #[],(by simp [results,results263,go_sem]),rfl,sQ.out w5 v n _ u0 (lW.trans pZ) eP KG HA.out c9 trivial⟩
        · obtain ⟨g,rfl,wH,rW,c5,c6⟩:=hg (j+1) fK
          obtain ⟨g',e, -, -,c7,c8⟩:=hg j (by omega)
          obtain rfl:g=g':=by simpa using e
          have hy:=UZ (m:=m) (t:=t) fK hH
          have hz:=Ub (m:=m) (f:=f) (by omega) hL
          have HA:=aA (show Ue=m.take j ++ (m[j].1,t)::m.drop (j+1) from by rw [HF.out];unfold zV;simp [hy,hz,aF hjm])
          clear hy hz
          have kH:¬((m[(j+1)].1:Nat):Int)=(t:Int):=fun e=>hH (by omega)
          generalize m[(j+1)].1=xx at*
          rw [hL] at c8
          generalize m[j].1=xl at*
          clear hg
          go_wp2_with fail
          have lW:Ext w3 (w3.alloc (.cells #[.int .u64 (xl:Nat),.int .u64 (t:Nat)] 288)):=(Ext.refl w3).alloc _ _
          refine oH B b o w3.heap.size m (j) ((j+1)) (xl) (t) (Mn.out.later lW) (fun k=>(lW.frozen _).trans (QM.out k)) (by omega) (by omega) (by omega) ((eG.new w3 288 #[.int .u64 (xl:Nat),.int .u64 (t:Nat)]).cell 0) ((eG.new w3 288 #[.int .u64 (xl:Nat),.int .u64 (t:Nat)]).cell 1) (eG.new w3 288 #[.int .u64 (xl:Nat),.int .u64 (t:Nat)]).lt (fun a' w5 v n hd pZ eP KG hu=>?_)
          obtain ⟨u0,c9⟩:=hu
          rw [aC] at eP
          exact ⟨hd,.tuple #[],(by simp [results,results263,go_sem]),rfl,sQ.out w5 v n _ u0 (lW.trans pZ) eP KG HA.out c9 trivial⟩
      · obtain ⟨g,rfl,wH,rW,c7,c8⟩:=hg j (by omega)
        have hy:=Ua (m:=m) (t:=t) fK
        have hz:=Ub (m:=m) (f:=f) (by omega) hL
        have HA:=aA (show Ue=m.take j ++ (m[j].1,t)::m.drop (j+1) from by rw [HF.out];unfold zV;simp [hy,hz,aF hjm])
        clear hy hz
        rw [hL] at c8
        generalize m[j].1=xl at*
        have kh3:decide ((j+1)<m.length)=false:=decide_eq_false fK
        have hle:m.length≤(j+1):=by omega
        clear fK
        clear hg
        go_wp2_with fail
        have lW:Ext w3 (w3.alloc (.cells #[.int .u64 (xl:Nat),.int .u64 (t:Nat)] 288)):=(Ext.refl w3).alloc _ _
        refine oH B b o w3.heap.size m (j) ((j+1)) (xl) (t) (Mn.out.later lW) (fun k=>(lW.frozen _).trans (QM.out k)) (by omega) (by omega) (by omega) ((eG.new w3 288 #[.int .u64 (xl:Nat),.int .u64 (t:Nat)]).cell 0) ((eG.new w3 288 #[.int .u64 (xl:Nat),.int .u64 (t:Nat)]).cell 1) (eG.new w3 288 #[.int .u64 (xl:Nat),.int .u64 (t:Nat)]).lt (fun a' w5 v n hd pZ eP KG hu=>?_)
        obtain ⟨u0,c9⟩:=hu
        rw [aC] at eP
        exact ⟨hd,.tuple #[],(by simp [results,results263,go_sem]),rfl,sQ.out w5 v n _ u0 (lW.trans pZ) eP KG HA.out c9 trivial⟩
    · by_cases fK:j+1<m.length
      · by_cases hH:m[j+1].1=t
        · obtain ⟨g,rfl,wH,rW,c5,c6⟩:=hg (j+1) fK
          obtain ⟨g',e, -, -,c7,c8⟩:=hg j (by omega)
          obtain rfl:g=g':=by simpa using e
          have hy:=UY (m:=m) (t:=t) fK hH
          have hz:=Uc (m:=m) (f:=f) (by omega) hL
          have HA:=aA (show Ue=m.take (j+1) ++ (f,m[(j+1)].2)::m.drop ((j+1)+1) from by rw [HF.out];unfold zV;simp [hy,hz,aF fK])
          clear hy hz
          rw [hH] at c5
          generalize m[(j+1)].2=y at*
          have kL:¬((m[j].2:Nat):Int)=(f:Int):=fun e=>hL (by omega)
          generalize m[j].2=yl at*
          clear hg
          go_wp2_with fail
          have lW:Ext w3 (w3.alloc (.cells #[.int .u64 (f:Nat),.int .u64 (y:Nat)] 288)):=(Ext.refl w3).alloc _ _
          refine oH B b o w3.heap.size m ((j+1)) (((j+1)+1)) (f) (y) (Mn.out.later lW) (fun k=>(lW.frozen _).trans (QM.out k)) (by omega) (by omega) (by omega) ((eG.new w3 288 #[.int .u64 (f:Nat),.int .u64 (y:Nat)]).cell 0) ((eG.new w3 288 #[.int .u64 (f:Nat),.int .u64 (y:Nat)]).cell 1) (eG.new w3 288 #[.int .u64 (f:Nat),.int .u64 (y:Nat)]).lt (fun a' w5 v n hd pZ eP KG hu=>?_)
          obtain ⟨u0,c9⟩:=hu
          rw [aC] at eP
          exact ⟨hd,.tuple #[],(by simp [results,results263,go_sem]),rfl,sQ.out w5 v n _ u0 (lW.trans pZ) eP KG HA.out c9 trivial⟩
        · obtain ⟨g,rfl,wH,rW,c5,c6⟩:=hg (j+1) fK
          obtain ⟨g',e, -, -,c7,c8⟩:=hg j (by omega)
          obtain rfl:g=g':=by simpa using e
          have hy:=UZ (m:=m) (t:=t) fK hH
          have hz:=Uc (m:=m) (f:=f) (by omega) hL
          have HA:=aA (show Ue=m.take (j+1) ++ (f,t)::m.drop (j+1) from by rw [HF.out];unfold zV;simp [hy,hz])
          clear hy hz
          have kH:¬((m[(j+1)].1:Nat):Int)=(t:Int):=fun e=>hH (by omega)
          generalize m[(j+1)].1=xx at*
          have kL:¬((m[j].2:Nat):Int)=(f:Int):=fun e=>hL (by omega)
          generalize m[j].2=yl at*
          clear hg
          go_wp2_with fail
          have lW:Ext w3 (w3.alloc (.cells #[.int .u64 (f:Nat),.int .u64 (t:Nat)] 288)):=(Ext.refl w3).alloc _ _
          refine oH B b o w3.heap.size m ((j+1)) ((j+1)) (f) (t) (Mn.out.later lW) (fun k=>(lW.frozen _).trans (QM.out k)) (by omega) (by omega) (by omega) ((eG.new w3 288 #[.int .u64 (f:Nat),.int .u64 (t:Nat)]).cell 0) ((eG.new w3 288 #[.int .u64 (f:Nat),.int .u64 (t:Nat)]).cell 1) (eG.new w3 288 #[.int .u64 (f:Nat),.int .u64 (t:Nat)]).lt (fun a' w5 v n hd pZ eP KG hu=>?_)
          obtain ⟨u0,c9⟩:=hu
          rw [aC] at eP
          exact ⟨hd,.tuple #[],(by simp [results,results263,go_sem]),rfl,sQ.out w5 v n _ u0 (lW.trans pZ) eP KG HA.out c9 trivial⟩
      · obtain ⟨g,rfl,wH,rW,c7,c8⟩:=hg j (by omega)
        have hy:=Ua (m:=m) (t:=t) fK
        have hz:=Uc (m:=m) (f:=f) (by omega) hL
        have HA:=aA (show Ue=m.take (j+1) ++ (f,t)::m.drop (j+1) from by rw [HF.out];unfold zV;simp [hy,hz])
        clear hy hz
        have kL:¬((m[j].2:Nat):Int)=(f:Int):=fun e=>hL (by omega)
        generalize m[j].2=yl at*
        have kh3:decide ((j+1)<m.length)=false:=decide_eq_false fK
        have hle:m.length≤(j+1):=by omega
        clear fK
        clear hg
        go_wp2_with fail
        have lW:Ext w3 (w3.alloc (.cells #[.int .u64 (f:Nat),.int .u64 (t:Nat)] 288)):=(Ext.refl w3).alloc _ _
        refine oH B b o w3.heap.size m ((j+1)) ((j+1)) (f) (t) (Mn.out.later lW) (fun k=>(lW.frozen _).trans (QM.out k)) (by omega) (by omega) (by omega) ((eG.new w3 288 #[.int .u64 (f:Nat),.int .u64 (t:Nat)]).cell 0) ((eG.new w3 288 #[.int .u64 (f:Nat),.int .u64 (t:Nat)]).cell 1) (eG.new w3 288 #[.int .u64 (f:Nat),.int .u64 (t:Nat)]).lt (fun a' w5 v n hd pZ eP KG hu=>?_)
        obtain ⟨u0,c9⟩:=hu
        rw [aC] at eP
        exact ⟨hd,.tuple #[],(by simp [results,results263,go_sem]),rfl,sQ.out w5 v n _ u0 (lW.trans pZ) eP KG HA.out c9 trivial⟩
end Go.Proofs.YtgknoidliabanaaGreatDoor
