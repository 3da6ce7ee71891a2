/- TopEvery holds: MCA. -/
import Derived.Test.YtgknoidliabanaaGreatDoorMBZ
import Derived.Test.YtgknoidliabanaaGreatDoorMBU
set_option linter.unusedVariables false
set_option linter.unusedSimpArgs false
set_option linter.unusedSectionVars false
set_option maxRecDepth 20000
set_option maxHeartbeats 8000000
namespace Go.Proofs.YtgknoidliabanaaGreatDoor
open Go.RowKit _root_.Go.Proofs.Tryz
open List renaming getElem_cons_zero→aA,getElem_cons_succ→aB,getElem_toArray→aC,setIfInBounds_toArray→aD,set_cons_zero→aE,set_cons_succ→aF
open Act renaming put→aG
open Lib renaming hid→aH
open Or renaming inl→aI
open And renaming intro→aJ
open AllReadyH renaming cons→aK,nil→aM
open Nat renaming le_refl→aL
theorem DH {P:Program} {ops:Array Oper} {Q:Exit→Act→World→Prop} {md:Region.Mode} {S S':World→Prop} (h:∀w,S w→S' w):∀(fuel:Nat) (listed:Array Bool) (a:Act) (w:World),wpAnyH P md ops Q S fuel listed a w→wpAnyH P md ops Q S' fuel listed a w
 | 0,_,_,_,hw=>hw
 | fuel+1,_,_,_,hw=>⟨hw.1,fun i hi=>wpOp_mono (fun a' w' h'=>⟨h w' h'.1,DH h fuel _ a' w' h'.2⟩) (hw.2 i hi)⟩
theorem Mk {w:World} {z:Nat→Nat} {K:jD} {r:iL} (h:dW w z K r) (i:Nat) (ra rn:Int) (hl:i<r.asks.length) (hd:(eJ r i).done=true) (hc:(eJ r i).rc=0) (h1:((eJ r i).ra:Int)=ra) (h2:((eJ r i).rn:Int)=rn):
  Calls prog 9 #[.pointer (some ⟨K.rb,0,none⟩),.int .i64 (i:Nat)] w fun e w'=>e= .returned (.tuple #[.agg #[.int .u64 ra,.int .u64 rn,.int .i64 0],.bool true])∧Ext w w':=by
 subst h1
 subst h2
 rw [oQ hl] at hd hc ⊢
 have:=Bc i hl h hd
 rw [hc] at this
 exact this
theorem I_ {L:Nat} (h:L≤10000000):IntKind.u64.wrap ((L:Int)+5000)=((L+5000:Nat):Int):=by rw [IntKind.wrap_u64];omega
theorem aA0 {w4 W6:World} {z4:Nat→Nat} {K:jD} {r4:iL} (L:Nat) (h:dW w4 z4 K r4) (Ad:Ext w4 W6) (hlen:r4.asks.length=2) (hq:r4.q 0= []):
  Calls prog 7 #[.pointer (some ⟨K.rb,0,none⟩),.agg #[.int .i64 6,.int .i64 0,.int .u64 0,.int .u64 0,.int .i64 0,.int .u64 0,.bool false,.int .i64 0,.slice none 0 0,.slice (some ⟨W6.heap.size,0,none⟩) 1 1]] (W6.alloc (.cells #[.int .u64 ((L:Int)+5000)] 34)) fun e w8=>
   e= .returned (.tuple #[.int .i64 (r4.asks.length:Nat),.int .i64 0])∧∃b2 ga sc z8,dW w8 z8 K (asked r4 b2 6 0 0 (some ⟨ga,0,none⟩) 1 sc)∧eF Rz z4 w4 z8 w8∧(∀A:wG,A.ga=ga→A.sc=sc→A.bL=L→AwG A z8 w8)∧∀b T cs,w4.heap.size≤b→eG W6 b T cs→eG w8 b T cs∧z8 b=20:=by
 have hx:Ext w4 (W6.alloc (.cells #[.int .u64 ((L:Int)+5000)] 34)):=Ad.alloc _ _
 have h7:=h.eC (eF.fL hx (fun _=>False) z4 20) (fun _ _ h=>h) (fun h=>h)
 have hc:∀w',Ext (W6.alloc (.cells #[.int .u64 ((L:Int)+5000)] 34)) w'→w'.cell? ⟨W6.heap.size,0,none⟩=some (.int .u64 ((L:Int)+5000))∧W6.heap.size<w'.heap.size:=fun w' O7=>by
  have B:=(eG.new W6 34 #[.int .u64 ((L:Int)+5000)]).later O7
  exact ⟨B.cell 0,B.lt⟩
 refine (u_ ((L:Int)+5000) 6 0 0 (some ⟨W6.heap.size,0,none⟩) 1 1 h7 (by rw [hlen];decide) (by decide) (by decide) (by decide) (by rw [hq];decide) (fun w' O7=>Tq _ 1 _ w' (hc w' O7).1 (hc w' O7).2 (by decide) (by unfold maxLen;decide))).mono ?_
 rintro e w8 ⟨rfl,b2,ga,sc,z8,h8,s8,g1,g2,g3,g4,g5⟩
 refine ⟨rfl,b2,ga,sc,z8,h8,(eF.fL hx Rz z4 20).trans s8 fun _ h=>h,fun A e1 e2 e3=>?_,fun b T cs hb hB=>?_⟩
 ·unfold AwG
  rw [e1,e2,e3]
  exact ⟨g1,g2,g3,g4,g5⟩
 ·have k5:lay z4 w4 20 b=20:=eQ hb
  have sR:eG (W6.alloc (.cells #[.int .u64 ((L:Int)+5000)] 34)) b T cs:=hB.alloc _
  exact ⟨sR.eA s8.eA (by rw [k5];exact AU),(s8.zn _ sR.lt).trans k5⟩
theorem Py {w:World} {z:Nat→Nat} {K:jD} {r:iL} {A:wG} {L:Nat} (hL:A.bL=L) (h:dW w z K r) (hP:yZ A 0 r):∀w',Ext w w'→Calls prog 11 #[.pointer (some ⟨K.m.mb,0,none⟩)] w' fun e w''=>∃g cap,e= .returned (.slice (some ⟨g,0,none⟩) 1 cap)∧Ext w' w''∧w'.heap.size≤g∧g<w''.heap.size∧1≤cap∧cap≤maxLen∧w''.cell? ⟨g,0,none⟩=some (.int .u64 (L:Nat)):=fun w' hx=>by
 have hm:=hP.m
 unfold Db at hm
 rw [if_pos (by omega)] at hm
 rw [←hL]
 exact Px (h.ext hx).m hm
theorem Tr (w:World) (DP:nP w):
  Calls prog 12 #[] w fun e w'=>e= .returned (.bool true)∧Below w.heap.size w w':=by
 have vH:=aH DP.1
 have MY:=aH (Pf w.heap.size vH.out w DP)
 have uQ:=aH fun w'=>(Dp w').mono (R':=fun e w''=>e= .returned (.slice none 0 0)∧Ext w' w'') fun e w'' ⟨h1,h2⟩=>⟨h1,h2▸Ext.refl _⟩
 have HE0:=aH (Ya.FZ (Below.refl w.heap.size w))
 clear DP
 go_enter func12,ntmps12
 go_wp2_with (first
  | (go_at_call 5;refine MY.out.mono ?_;rintro e w1 ⟨K,z1,r0,rfl,hN,hf,hR,hs⟩;have HN:=aH (aJ hN hf);have H1:=aH (aJ hR (hs.mono (S':=Rz) fun i (h:False)=>h.elim));clear hN hf hR hs;clear MY)
  | (go_at_call 7;refine (vV 1 1 100000 none none 0 0 0 0 H2.out.1 (by rw [Xk.out.2];decide) (by decide) (by decide) (by decide) (by rw [Xk.out.1];decide) (fun w' _=>uQ.out w')).mono ?_;rintro e w3 ⟨rfl,b1,z3,h3,s3⟩;have H3:=aH (aJ h3 (H2.out.2.trans s3 fun _ h=>h));have HI3:=aH (show GN (qP 40 cL) 12 (asked (asked r0 b0 1 0 40 none 0 0) b1 1 1 100000 none 0 0) from ⟨fun _=>0,CU HN.out.1 HN.out.2 aGv aGw,rfl⟩);clear h3 s3;clear H2)
  | (go_at_call 7;refine (vV 1 0 40 none none 0 0 0 0 H1.out.1 (by rw [HN.out.1.asks];decide) (by decide) (by decide) (by decide) (by rw [HN.out.1.q];decide) (fun w' _=>uQ.out w')).mono ?_;rintro e w2 ⟨rfl,b0,z2,h2,s2⟩;have H2:=aH (aJ h2 (H1.out.2.trans s2 fun _ h=>h));have Xk:=aH (show (asked r0 b0 1 0 40 none 0 0).q 1= []∧(asked r0 b0 1 0 40 none 0 0).asks.length=1 from ⟨by simp [asked,JS,HN.out.1.q],by simp [asked,HN.out.1.asks]⟩);clear h2 s2;clear H1)
  | (go_at_call 8;refine (PZ (GN.ends (qP 40 cL) K) HI3.out (by decide) H3.out.1).mono ?_;rintro e w4 ⟨rfl,r4,hI4,z4,h4,s4⟩;have H4:=aH (aJ h4 (H3.out.2.trans s4 fun _ h=>h));have HI4:=aH hI4;clear hI4 h4 s4 HI3 H3)
  | fail)
 obtain ⟨sf,gS,gL,hA⟩:=YJ H4.out.1 HI4.out
 have HA:=aH hA
 obtain ⟨L,hL⟩:∃L,lU sf*8192=L:=⟨_,rfl⟩
 have hL9:L≤10000000:=by
  obtain ⟨-,q, -⟩:=IN sf
  omega
 have HLL:=aH hL
 have fw:=I_ hL9
 obtain ⟨X,hX⟩:∃X,(eJ r4 0).ra=X:=⟨_,rfl⟩
 have I1:=aH (Mk H4.out.1 0 (X:Nat) 48 (by rw [(hA 0 0).len];decide) (hA 0 0).d0.1 (hA 0 0).d0.2.1 (by rw [hX]) (by rw [(hA 0 0).d0.2.2];rfl))
 have rG:=aH fun w' (hx:Ext w4 w')=>Mk (H4.out.1.ext hx) 1 (L:Nat) 106496 (by rw [(hA 0 0).len];decide) (hA 0 0).d1.1 (hA 0 0).d1.2.1 (by rw [(hA 0 0).d1.2.2.2, ←hL];rfl) (by rw [(hA 0 0).d1.2.2.1];rfl)
 clear hA hL hX
 clear HN HI4 Xk
 go_wp2_with (first
  | (go_at_call 9;refine (rG.out _ (kJ.out.alloc _ _)).mono ?_;rintro e w6 ⟨rfl,hx⟩;have sZ:=aH (aJ ((kJ.out.alloc #[.int .u64 (X:Nat),.int .u64 48,.int .i64 0] 41).trans hx) (eG.later (eG.new w5 41 #[.int .u64 (X:Nat),.int .u64 48,.int .i64 0]) hx));clear hx;clear rG)
  | (go_at_call 9;refine I1.out.mono ?_;rintro e w5 ⟨rfl,hx⟩;have kJ:=aH hx;clear hx;clear I1)
  | fail)
 obtain ⟨W6,hW6⟩:∃W,w6.alloc (.cells #[.int .u64 (L:Nat),.int .u64 106496,.int .i64 0] 41)=W:=⟨_,rfl⟩
 have HW6:=aH (show Ext w4 W6∧eG W6 w5.heap.size 41 #[.int .u64 (X:Nat),.int .u64 48,.int .i64 0]∧eG W6 w6.heap.size 41 #[.int .u64 (L:Nat),.int .u64 106496,.int .i64 0]∧W6.heap.size=w6.heap.size+1∧w4.heap.size≤w5.heap.size from by
  rw [←hW6]
  exact ⟨sZ.out.1.alloc _ _,sZ.out.2.alloc _,eG.new _ _ _,by simp,kJ.out.size⟩)
 have PO:w6.heap.size+1=W6.heap.size:=HW6.out.2.2.2.1.symm
 rw [hW6,PO]
 clear hW6 sZ kJ
 have QJ:=aH (show r4.asks.length=2∧r4.q 0= [] from ⟨(HA.out 0 0).len,(HA.out 0 0).q 0 (by omega)⟩)
 have aG8:=aH (aA0 L H4.out.1 HW6.out.1 QJ.out.1 QJ.out.2)
 go_wp2_with (first
  | (go_at_call 7;refine (vV 7 0 9 none none 0 0 0 0 H8.out.1 (by rw [HQ8.out.1];decide) (by decide) (by decide) (by decide) (by rw [HQ8.out.2];decide) (fun w' _=>uQ.out w')).mono ?_;rintro e w9 ⟨rfl,b3,z9,h9,s9⟩;have H9:=aH (aJ h9 s9);have c09:=h9.cells.c0;have cl9:=h9.cells.lt;clear h9 s9)
  | (go_at_call 11;refine (Pw (A:=⟨sf,gS,gL,ga,sc⟩) H9.out.1.m (HA.out ga sc).m.1).mono ?_;rintro e wV ⟨p10,aT4,rfl,aG9⟩;have Ja:=aH aG9;clear aG9)
  | (go_at_call 7;refine aG8.out.mono ?_;rintro e w8 ⟨rfl,b2,ga,sc,z8,h8,s8,Ty,hb8⟩;have H8:=aH (aJ h8 (aJ s8 (aJ Ty hb8)));have HQ8:=aH (show (asked r4 b2 6 0 0 (some ⟨ga,0,none⟩) 1 sc).asks.length=3∧((asked r4 b2 6 0 0 (some ⟨ga,0,none⟩) 1 sc).q 0).length=1 from ⟨by simp [asked,QJ.out.1],by simp [asked,JS,QJ.out.2]⟩);clear h8 s8 Ty hb8;clear aG8)
  | fail)
 have zW:(⟨sf,gS,gL,ga,sc⟩:wG).bL=L:=HLL.out
 have HP:=aH ((HA.out ga sc).begin b2 b3)
 have aOl:=aH (((H8.out.2.2.1 ⟨sf,gS,gL,ga,sc⟩ rfl rfl zW).eC H9.out.2).eC (eF.dX Ja.out Rz z9))
 have aA1:=aH (show ∀z' w',eF Rz z9 wV z' w'→w'.cell? ⟨w5.heap.size,1,none⟩=some (.int .u64 48)∧w'.cell? ⟨w6.heap.size,1,none⟩=some (.int .u64 106496)∧w'.cell? ⟨w6.heap.size,0,none⟩=some (.int .u64 (L:Nat)) from fun z' w' s'=>by
  obtain ⟨a1,a2,a3,a4,a5⟩:=HW6.out
  have Bw:=H8.out.2.2.2 _ _ _ a5 a2
  have hb6:=H8.out.2.2.2 w6.heap.size _ _ (by have:=a2.lt;have:=a1.size;omega) a3
  have s9:eF Rz z8 w8 z' w':=(H9.out.2.trans (eF.dX Ja.out Rz z9) fun _ h=>h).trans s' fun _ h=>h
  have k5:=Bw.1.eA s9.eA (by rw [Bw.2];exact AU)
  have k6:=hb6.1.eA s9.eA (by rw [hb6.2];exact AU)
  exact ⟨k5.cell 1,k6.cell 1,k6.cell 0⟩)
 have aHa:=aH (H9.out.1.ext Ja.out)
 have HS:=aH (show ∀z' w' r',dW w' z' K r'→eF Rz z9 wV z' w'→w'.cell? ⟨w5.heap.size,1,none⟩=some (.int .u64 48)∧w'.cell? ⟨w6.heap.size,1,none⟩=some (.int .u64 106496)∧w'.cell? ⟨w6.heap.size,0,none⟩=some (.int .u64 (L:Nat))∧w'.cell? ⟨K.rb,0,none⟩=some (.pointer (some ⟨K.m.mb,0,none⟩)) from fun z' w' r' hr s'=>⟨(aA1.out z' w' s').1,(aA1.out z' w' s').2.1,(aA1.out z' w' s').2.2,hr.cells.c0⟩)
 refine wp_region_noPanic ?_
 refine wp_region_held_drew (S:=(fun w'=>w'.cell? ⟨w5.heap.size,1,none⟩=some (.int .u64 48)∧w'.cell? ⟨w6.heap.size,1,none⟩=some (.int .u64 106496)∧w'.cell? ⟨w6.heap.size,0,none⟩=some (.int .u64 (L:Nat))∧w'.cell? ⟨K.rb,0,none⟩=some (.pointer (some ⟨K.m.mb,0,none⟩)))) (by kernel_rfl) (HS.out _ _ _ (aHa.out.ext (Ext.refl _).drew) (eF.dX (Ext.refl _).drew _ _)) (fun aHb=>?_)
 refine wpAnyH_take (i:=0) (oi:=_) (v:=?_) rfl (by kernel_rfl) (by kernel_rfl) (by kernel_rfl) (fun _ _ _ h=>h) (aI ⟨by rfl,?_⟩) (by assumption) ?_;rotate_left;(· (try simp only [aC,aA,aB]);(intro u gP;(try dsimp only at gP);go_simp;(try with_reducible rfl)));(try simp only [aC,aA,aB,aG,aD,aE,aF])
 refine wpAnyH_take (i:=1) (oi:=_) (v:=?_) rfl (by kernel_rfl) (by kernel_rfl) (by kernel_rfl) (fun _ _ _ h=>h) (aI ⟨by rfl,?_⟩) (by assumption) ?_;rotate_left;(· (try simp only [aC,aA,aB]);(intro u gP;(try dsimp only at gP);go_simp;(try with_reducible rfl)));(try simp only [aC,aA,aB,aG,aD,aE,aF])
 refine wpAnyH_take (i:=2) (oi:=_) (v:=?_) rfl (by kernel_rfl) (by kernel_rfl) (by kernel_rfl) (fun _ _ _ h=>h) (aI ⟨by rfl,?_⟩) (by assumption) ?_;rotate_left;(· (try simp only [aC,aA,aB]);(intro u gP;(try dsimp only at gP);go_simp;(try with_reducible rfl)));(try simp only [aC,aA,aB,aG,aD,aE,aF])
 refine wpAnyH_take (i:=3) (oi:=_) (v:=?_) rfl (by kernel_rfl) (by kernel_rfl) (by kernel_rfl) (fun _ _ _ h=>h) (aI ⟨by rfl,?_⟩) (by assumption) ?_;rotate_left;(· (try simp only [aC,aA,aB]);(intro u gP;(try dsimp only at gP);go_simp;(try with_reducible rfl)));(try simp only [aC,aA,aB,aG,aD,aE,aF])
 refine wpAnyH_take (i:=4) (oi:=_) (v:=?_) rfl (by kernel_rfl) (by kernel_rfl) (by kernel_rfl) (fun _ _ _ h=>h) (aI ⟨by rfl,?_⟩) (by assumption) ?_;rotate_left;(· (try simp only [aC,aA,aB]);(intro u gP;(try dsimp only at gP);go_simp;(try with_reducible rfl)));(try simp only [aC,aA,aB,aG,aD,aE,aF])
 refine wpAnyH_take (i:=5) (oi:=_) (v:=?_) rfl (by kernel_rfl) (by kernel_rfl) (by kernel_rfl) (fun _ _ _ h=>h) (aI ⟨by rfl,?_⟩) (by assumption) ?_;rotate_left;(· (try simp only [aC,aA,aB]);(intro u gP;(try dsimp only at gP);go_simp;(try with_reducible rfl)));(try simp only [aC,aA,aB,aG,aD,aE,aF])
 refine wpAnyH_take (i:=6) (oi:=_) (v:=?_) rfl (by kernel_rfl) (by kernel_rfl) (by kernel_rfl) (fun _ _ _ h=>h) (aI ⟨by rfl,?_⟩) (by assumption) ?_;rotate_left;(· (try simp only [aC,aA,aB]);(intro u gP;(try dsimp only at gP);go_simp;(try with_reducible rfl)));(try simp only [aC,aA,aB,aG,aD,aE,aF])
 refine wpAnyH_take (i:=7) (oi:=_) (v:=?_) rfl (by kernel_rfl) (by kernel_rfl) (by kernel_rfl) (fun _ _ _ h=>h) (aI ⟨by rfl,?_⟩) (by assumption) ?_;rotate_left;(· (try simp only [aC,aA,aB]);(intro u gP;(try dsimp only at gP);go_simp;(try with_reducible rfl)));(try simp only [aC,aA,aB,aG,aD,aE,aF])
 refine wpAnyH_take (i:=8) (oi:=_) (v:=?_) rfl (by kernel_rfl) (by kernel_rfl) (by kernel_rfl) (fun _ _ _ h=>h) (aI ⟨by rfl,?_⟩) (by assumption) ?_;rotate_left;(· (try simp only [aC,aA,aB]);(intro u gP;(try dsimp only at gP);go_simp;(try with_reducible rfl)));(try simp only [aC,aA,aB,aG,aD,aE,aF])
 refine wpAnyH_take (i:=9) (oi:=_) (v:=?_) rfl (by kernel_rfl) (by kernel_rfl) (by kernel_rfl) (fun _ _ _ h=>h) (aI ⟨by rfl,?_⟩) (by assumption) ?_;rotate_left;(· (try simp only [aC,aA,aB]);(intro u gP;(try dsimp only at gP);go_simp;(try with_reducible rfl)));(try simp only [aC,aA,aB,aG,aD,aE,aF])
 refine wpAnyH_take (i:=10) (oi:=_) (v:=?_) rfl (by kernel_rfl) (by kernel_rfl) (by kernel_rfl) (fun _ _ _ h=>h) (aI ⟨by rfl,?_⟩) (by assumption) ?_;rotate_left;(· (try simp only [aC,aA,aB]);(intro u gP;(try dsimp only at gP);go_simp;(try with_reducible rfl)));(try simp only [aC,aA,aB,aG,aD,aE,aF])
 refine wpAnyH_take (i:=11) (oi:=_) (v:=?_) rfl (by kernel_rfl) (by kernel_rfl) (by kernel_rfl) (fun _ _ _ h=>h) (aI ⟨by rfl,?_⟩) (by assumption) ?_;rotate_left;(· (try simp only [aC,aA,aB]);(intro u gP;(try dsimp only at gP);go_simp;(try with_reducible rfl)));(try simp only [aC,aA,aB,aG,aD,aE,aF])
 refine wpAnyH_take (i:=12) (oi:=_) (v:=?_) rfl (by kernel_rfl) (by kernel_rfl) (by kernel_rfl) (fun _ _ _ h=>h) (aI ⟨by rfl,?_⟩) (by assumption) ?_;rotate_left;(· (try simp only [aC,aA,aB]);(intro u gP;(try dsimp only at gP);go_simp;(try with_reducible rfl)));(try simp only [aC,aA,aB,aG,aD,aE,aF])
 refine wpAnyH_take (i:=13) (oi:=_) (v:=?_) rfl (by kernel_rfl) (by kernel_rfl) (by kernel_rfl) (fun _ _ _ h=>h) (aI ⟨by rfl,?_⟩) (by assumption) ?_;rotate_left;(· (try simp only [aC,aA,aB]);(intro u gP;(try dsimp only at gP);go_simp;(try with_reducible rfl)));(try simp only [aC,aA,aB,aG,aD,aE,aF])
 refine wpAnyH_take (i:=14) (oi:=_) (v:=?_) rfl (by kernel_rfl) (by kernel_rfl) (by kernel_rfl) (fun _ _ _ h=>h) (aI ⟨by rfl,?_⟩) (by assumption) ?_;rotate_left;(· (try simp only [aC,aA,aB]);(intro u gP;(try dsimp only at gP);go_simp;(try with_reducible rfl)));(try simp only [aC,aA,aB,aG,aD,aE,aF])
 refine wpAnyH_take (i:=15) (oi:=_) (v:=?_) rfl (by kernel_rfl) (by kernel_rfl) (by kernel_rfl) (fun _ _ _ h=>h) (aI ⟨by rfl,?_⟩) (by assumption) ?_;rotate_left;(· (try simp only [aC,aA,aB]);(intro u gP;(try dsimp only at gP);go_simp;(try with_reducible rfl)));(try simp only [aC,aA,aB,aG,aD,aE,aF])
 refine wpAnyH_take (i:=16) (oi:=_) (v:=?_) rfl (by kernel_rfl) (by kernel_rfl) (by kernel_rfl) (fun _ _ _ h=>h) (aI ⟨by rfl,?_⟩) (by assumption) ?_;rotate_left;(· (try simp only [aC,aA,aB]);(intro u gP;(try dsimp only at gP);go_simp;(try with_reducible rfl)));(try simp only [aC,aA,aB,aG,aD,aE,aF])
 refine wpAnyH_take (i:=17) (oi:=_) (v:=?_) rfl (by kernel_rfl) (by kernel_rfl) (by kernel_rfl) (fun _ _ _ h=>h) (aI ⟨by rfl,?_⟩) (by assumption) ?_;rotate_left;(· (try simp only [aC,aA,aB]);(intro u gP;(try dsimp only at gP);go_simp;(try with_reducible rfl)));(try simp only [aC,aA,aB,aG,aD,aE,aF])
 refine wpAnyH_take (i:=18) (oi:=_) (v:=?_) rfl (by kernel_rfl) (by kernel_rfl) (by kernel_rfl) (fun _ _ _ h=>h) (aI ⟨by rfl,?_⟩) (by assumption) ?_;rotate_left;(· (try simp only [aC,aA,aB]);(intro u gP;(try dsimp only at gP);go_simp;(try with_reducible rfl)));(try simp only [aC,aA,aB,aG,aD,aE,aF])
 refine wpAnyH_take (i:=19) (oi:=_) (v:=?_) rfl (by kernel_rfl) (by kernel_rfl) (by kernel_rfl) (fun _ _ _ h=>h) (aI ⟨by rfl,?_⟩) (by assumption) ?_;rotate_left;(· (try simp only [aC,aA,aB]);(intro u gP;(try dsimp only at gP);go_simp;(try with_reducible rfl)));(try simp only [aC,aA,aB,aG,aD,aE,aF])
 refine wpAnyH_take (i:=20) (oi:=_) (v:=?_) rfl (by kernel_rfl) (by kernel_rfl) (by kernel_rfl) (fun _ _ _ h=>h) (aI ⟨by rfl,?_⟩) (by assumption) ?_;rotate_left;(· (try simp only [aC,aA,aB]);(intro u gP;(try dsimp only at gP);go_simp;(try with_reducible rfl)));(try simp only [aC,aA,aB,aG,aD,aE,aF])
 refine wpAnyH_ready (rs:= [21]) (by kernel_rfl) (by simp) (aK (o:=_) rfl (fun KK hK=>?_) aM)
 (try simp only [aC,aA,aB])
 go_simp
 refine (Mg (F_ ⟨sf,gS,gL,ga,sc⟩ K) (aOl.out.eC (eF.dX (Ext.refl _).drew Rz z9)) HP.out (by decide) (aHa.out.ext (Ext.refl _).drew)).mono ?_;rintro e pB ⟨rfl,r11,J_,z11,Tv,Tu⟩;have UF:=aH (aJ Tv (aJ (show eF Rz z9 wV z11 pB from (eF.dX (Ext.refl _).drew Rz z9).trans Tu fun _ h=>h) J_));have HBE:=aH (Py zW Tv J_);have HQE:=aH fun w' (hx:Ext pB w')=>Mi (Tv.ext hx) J_;clear Tv Tu J_
 refine hK.out _ _ (HS.out _ _ _ UF.out.1 UF.out.2.1) (fun aA2=>?_)
 clear hK KK
 (try simp only [aG,aD,aE,aF])
 clear aHb
 refine wpAnyH_take (i:=22) (oi:=_) (v:=?_) rfl (by kernel_rfl) (by kernel_rfl) (by kernel_rfl) (fun _ _ _ h=>h) (aI ⟨by rfl,?_⟩) (by assumption) ?_;rotate_left;(· (try simp only [aC,aA,aB]);(intro u gP;(try dsimp only at gP);go_simp;(try with_reducible rfl)));(try simp only [aC,aA,aB,aG,aD,aE,aF])
 refine wpAnyH_take (i:=23) (oi:=_) (v:=?_) rfl (by kernel_rfl) (by kernel_rfl) (by kernel_rfl) (fun _ _ _ h=>h) (aI ⟨by rfl,?_⟩) (by assumption) ?_;rotate_left;(· (try simp only [aC,aA,aB]);(intro u gP;(try dsimp only at gP);go_simp;(try with_reducible rfl)));(try simp only [aC,aA,aB,aG,aD,aE,aF])
 refine wpAnyH_take (i:=24) (oi:=_) (v:=?_) rfl (by kernel_rfl) (by kernel_rfl) (by kernel_rfl) (fun _ _ _ h=>h) (aI ⟨by rfl,?_⟩) (by assumption) ?_;rotate_left;(· (try simp only [aC,aA,aB]);(intro u gP;(try dsimp only at gP);go_simp;(try with_reducible rfl)));(try simp only [aC,aA,aB,aG,aD,aE,aF])
 refine wpAnyH_take (i:=25) (oi:=_) (v:=?_) rfl (by kernel_rfl) (by kernel_rfl) (by kernel_rfl) (fun _ _ _ h=>h) (aI ⟨by rfl,?_⟩) (by assumption) ?_;rotate_left;(· (try simp only [aC,aA,aB]);(intro u gP;(try dsimp only at gP);go_simp;(try with_reducible rfl)));(try simp only [aC,aA,aB,aG,aD,aE,aF])
 refine wpAnyH_take (i:=26) (oi:=_) (v:=?_) rfl (by kernel_rfl) (by kernel_rfl) (by kernel_rfl) (fun _ _ _ h=>h) (aI ⟨by rfl,?_⟩) (by assumption) ?_;rotate_left;(· (try simp only [aC,aA,aB]);(intro u gP;(try dsimp only at gP);go_simp;(try with_reducible rfl)));(try simp only [aC,aA,aB,aG,aD,aE,aF])
 refine wpAnyH_take (i:=27) (oi:=_) (v:=?_) rfl (by kernel_rfl) (by kernel_rfl) (by kernel_rfl) (fun _ _ _ h=>h) (aI ⟨by rfl,?_⟩) (by assumption) ?_;rotate_left;(· (try simp only [aC,aA,aB]);(intro u gP;(try dsimp only at gP);go_simp;(try with_reducible rfl)));(try simp only [aC,aA,aB,aG,aD,aE,aF])
 refine wpAnyH_ready (rs:= [28]) (by kernel_rfl) (by simp) (aK (o:=_) rfl (fun KK hK=>?_) aM)
 (try simp only [aC,aA,aB])
 go_simp
 refine (HBE.out _ (Ext.refl _)).mono ?_;rintro e zG ⟨g12,aT7,rfl,Wm, -, -, -, -, -⟩;have K_:=aH (show Ext pB zG from Wm);have H12:=aH (aJ (UF.out.1.ext K_.out) (UF.out.2.1.trans (eF.dX K_.out Rz z11) fun _ h=>h));clear Wm
 refine hK.out _ _ (HS.out _ _ _ H12.out.1 H12.out.2) (fun aA3=>?_)
 clear hK KK
 (try simp only [aG,aD,aE,aF])
 clear aA2
 refine wpAnyH_take (i:=29) (oi:=_) (v:=?_) rfl (by kernel_rfl) (by kernel_rfl) (by kernel_rfl) (fun _ _ _ h=>h) (aI ⟨by rfl,?_⟩) (by assumption) ?_;rotate_left;(· (try simp only [aC,aA,aB]);(intro u gP;(try dsimp only at gP);go_simp;(try with_reducible rfl)));(try simp only [aC,aA,aB,aG,aD,aE,aF])
 refine wpAnyH_take (i:=30) (oi:=_) (v:=?_) rfl (by kernel_rfl) (by kernel_rfl) (by kernel_rfl) (fun _ _ _ h=>h) (aI ⟨by rfl,?_⟩) (by assumption) ?_;rotate_left;(· (try simp only [aC,aA,aB]);(intro u gP;(try dsimp only at gP);go_simp;(try with_reducible rfl)));(try simp only [aC,aA,aB,aG,aD,aE,aF])
 refine wpAnyH_take (i:=31) (oi:=_) (v:=?_) rfl (by kernel_rfl) (by kernel_rfl) (by kernel_rfl) (fun _ _ _ h=>h) (aI ⟨by rfl,?_⟩) (by assumption) ?_;rotate_left;(· (try simp only [aC,aA,aB]);(intro u gP;(try dsimp only at gP);go_simp;(try with_reducible rfl)));(try simp only [aC,aA,aB,aG,aD,aE,aF])
 refine wpAnyH_take (i:=32) (oi:=_) (v:=?_) rfl (by kernel_rfl) (by kernel_rfl) (by kernel_rfl) (fun _ _ _ h=>h) (aI ⟨by rfl,?_⟩) (by assumption) ?_;rotate_left;(· (try simp only [aC,aA,aB]);(intro u gP;(try dsimp only at gP);go_simp;(try with_reducible rfl)));(try simp only [aC,aA,aB,aG,aD,aE,aF])
 refine wpAnyH_take (i:=33) (oi:=_) (v:=?_) rfl (by kernel_rfl) (by kernel_rfl) (by kernel_rfl) (fun _ _ _ h=>h) (aI ⟨by rfl,?_⟩) (by assumption) ?_;rotate_left;(· (try simp only [aC,aA,aB]);(intro u gP;(try dsimp only at gP);go_simp;(try with_reducible rfl)));(try simp only [aC,aA,aB,aG,aD,aE,aF])
 refine wpAnyH_take (i:=34) (oi:=_) (v:=?_) rfl (by kernel_rfl) (by kernel_rfl) (by kernel_rfl) (fun _ _ _ h=>h) (aI ⟨by rfl,?_⟩) (by assumption) ?_;rotate_left;(· (try simp only [aC,aA,aB]);(intro u gP;(try dsimp only at gP);go_simp;(try with_reducible rfl)));(try simp only [aC,aA,aB,aG,aD,aE,aF])
 refine wpAnyH_take (i:=35) (oi:=_) (v:=?_) rfl (by kernel_rfl) (by kernel_rfl) (by kernel_rfl) (fun _ _ _ h=>h) (aI ⟨by rfl,?_⟩) (by assumption) ?_;rotate_left;(· (try simp only [aC,aA,aB]);(intro u gP;(try dsimp only at gP);go_simp;(try with_reducible rfl)));(try simp only [aC,aA,aB,aG,aD,aE,aF])
 refine wpAnyH_take (i:=36) (oi:=_) (v:=?_) rfl (by kernel_rfl) (by kernel_rfl) (by kernel_rfl) (fun _ _ _ h=>h) (aI ⟨by rfl,?_⟩) (by assumption) ?_;rotate_left;(· (try simp only [aC,aA,aB]);(intro u gP;(try dsimp only at gP);go_simp;(try with_reducible rfl)));(try simp only [aC,aA,aB,aG,aD,aE,aF])
 refine wpAnyH_take (i:=40) (oi:=_) (v:=?_) rfl (by kernel_rfl) (by kernel_rfl) (by kernel_rfl) (fun _ _ _ h=>h) (aI ⟨by rfl,?_⟩) (by assumption) ?_;rotate_left;(· (try simp only [aC,aA,aB]);(intro u gP;(try dsimp only at gP);go_simp;(try with_reducible rfl)));(try simp only [aC,aA,aB,aG,aD,aE,aF])
 refine wpAnyH_take (i:=41) (oi:=_) (v:=?_) rfl (by kernel_rfl) (by kernel_rfl) (by kernel_rfl) (fun _ _ _ h=>h) (aI ⟨by rfl,?_⟩) (by assumption) ?_;rotate_left;(· (try simp only [aC,aA,aB]);(intro u gP;(try dsimp only at gP);go_simp;(try with_reducible rfl)));(try simp only [aC,aA,aB,aG,aD,aE,aF])
 refine wpAnyH_ready (rs:= [37]) (by kernel_rfl) (by simp) (aK (o:=_) rfl (fun KK hK=>?_) aM)
 (try simp only [aC,aA,aB])
 go_simp
 refine (HBE.out _ K_.out).mono ?_;rintro e tJ ⟨g13,aT9,rfl,BO,k1,k2,k3,k4,c13⟩;have aA4:=aH (K_.out.trans BO);have H13:=aH (aJ (UF.out.1.ext aA4.out) (UF.out.2.1.trans (eF.dX aA4.out Rz z11) fun _ h=>h));clear BO
 refine hK.out _ _ (HS.out _ _ _ H13.out.1 H13.out.2) (fun QA=>?_)
 clear hK KK
 (try simp only [aG,aD,aE,aF])
 clear aA3
 refine DH (S:=(fun w'=>(w'.cell? ⟨w5.heap.size,1,none⟩=some (.int .u64 48)∧w'.cell? ⟨w6.heap.size,1,none⟩=some (.int .u64 106496)∧w'.cell? ⟨w6.heap.size,0,none⟩=some (.int .u64 (L:Nat))∧w'.cell? ⟨K.rb,0,none⟩=some (.pointer (some ⟨K.m.mb,0,none⟩)))∧w'.cell? ⟨g13,0,none⟩=some (.int .u64 (L:Nat)))) (fun _ h=>h.1) _ _ _ _ ?_
 replace QA:=aJ QA c13
 refine wpAnyH_take (i:=38) (oi:=_) (v:=?_) rfl (by kernel_rfl) (by kernel_rfl) (by kernel_rfl) (fun _ _ _ h=>h) (aI ⟨by rfl,?_⟩) (by assumption) ?_;rotate_left;(· (try simp only [aC,aA,aB]);(intro u gP;(try dsimp only at gP);go_simp;(try with_reducible rfl)));(try simp only [aC,aA,aB,aG,aD,aE,aF])
 refine wpAnyH_take (i:=39) (oi:=_) (v:=?_) rfl (by kernel_rfl) (by kernel_rfl) (by kernel_rfl) (fun _ _ _ h=>h) (aI ⟨by rfl,?_⟩) (by assumption) ?_;rotate_left;(· (try simp only [aC,aA,aB]);(intro u gP;(try dsimp only at gP);go_simp;(try with_reducible rfl)));(try simp only [aC,aA,aB,aG,aD,aE,aF])
 refine wpAnyH_take (i:=42) (oi:=_) (v:=?_) rfl (by kernel_rfl) (by kernel_rfl) (by kernel_rfl) (fun _ _ _ h=>h) (aI ⟨by rfl,?_⟩) (by assumption) ?_;rotate_left;(· (try simp only [aC,aA,aB]);(intro u gP;(try dsimp only at gP);go_simp;(try with_reducible rfl)));(try simp only [aC,aA,aB,aG,aD,aE,aF])
 refine wpAnyH_take (i:=43) (oi:=_) (v:=?_) rfl (by kernel_rfl) (by kernel_rfl) (by kernel_rfl) (fun _ _ _ h=>h) (aI ⟨by rfl,?_⟩) (by assumption) ?_;rotate_left;(· (try simp only [aC,aA,aB]);(intro u gP;(try dsimp only at gP);go_simp;(try with_reducible rfl)));(try simp only [aC,aA,aB,aG,aD,aE,aF])
 refine wpAnyH_take (i:=44) (oi:=_) (v:=?_) rfl (by kernel_rfl) (by kernel_rfl) (by kernel_rfl) (fun _ _ _ h=>h) (aI ⟨by rfl,?_⟩) (by assumption) ?_;rotate_left;(· (try simp only [aC,aA,aB]);(intro u gP;(try dsimp only at gP);go_simp;(try with_reducible rfl)));(try simp only [aC,aA,aB,aG,aD,aE,aF])
 refine wpAnyH_take (i:=45) (oi:=_) (v:=?_) rfl (by kernel_rfl) (by kernel_rfl) (by kernel_rfl) (fun _ _ _ h=>h) (aI ⟨by rfl,?_⟩) (by assumption) ?_;rotate_left;(· (try simp only [aC,aA,aB]);(intro u gP;(try dsimp only at gP);go_simp;(try with_reducible rfl)));(try simp only [aC,aA,aB,aG,aD,aE,aF])
 refine wpAnyH_ready (rs:= [46]) (by kernel_rfl) (by simp) (aK (o:=_) rfl (fun KK hK=>?_) aM)
 (try simp only [aC,aA,aB])
 go_simp
 refine (HQE.out _ aA4.out).mono ?_;rintro e Wo ⟨rfl,rfl⟩
 refine hK.out _ _ (QA) (fun aOn=>?_)
 clear hK KK
 (try simp only [aG,aD,aE,aF])
 refine wpAnyH_take (i:=47) (oi:=_) (v:=?_) rfl (by kernel_rfl) (by kernel_rfl) (by kernel_rfl) (fun _ _ _ h=>h) (aI ⟨by rfl,?_⟩) (by assumption) ?_;rotate_left;(· (try simp only [aC,aA,aB]);(intro u gP;(try dsimp only at gP);go_simp;(try with_reducible rfl)));(try simp only [aC,aA,aB,aG,aD,aE,aF])
 refine wpAnyH_take (i:=48) (oi:=_) (v:=?_) rfl (by kernel_rfl) (by kernel_rfl) (by kernel_rfl) (fun _ _ _ h=>h) (aI ⟨by rfl,?_⟩) (by assumption) ?_;rotate_left;(· (try simp only [aC,aA,aB]);(intro u gP;(try dsimp only at gP);go_simp;(try with_reducible rfl)));(try simp only [aC,aA,aB,aG,aD,aE,aF])
 refine wpAnyH_done (by kernel_rfl) ?_ _
 refine NoPanic.normal ?_
 go_wp2_with fail
 go_returns
 have r0:¬Rz 0:=fun h=>h.1 rfl
 have e4:=HE0.out.eC (aL _) H4.out.2 r0
 have e8:=e4.eC (aL _) H8.out.2.1 r0
 have e9:=e8.eC (aL _) H9.out.2 r0
 have WK:=e9.eC (aL _) (eF.dX Ja.out Rz z9) r0
 have e13:=WK.eC (aL _) H13.out.2 r0
 exact ⟨rfl,e13.lo⟩
theorem Ts (a b:Int) (s:Bool) (w:World) (h:a<1∨100000<a∨b<1∨100000<b):
  Calls prog 4 #[.int .u64 a,.int .u64 b,.bool s] w fun e w'=>e= .returned (.bool true)∧Below w.heap.size w w':=by
 have hx:decide (a<1)=true∨(decide (a<1)=false∧decide (100000<a)=true)∨(decide (a<1)=false∧decide (100000<a)=false∧decide (b<1)=true)∨(decide (a<1)=false∧decide (100000<a)=false∧decide (b<1)=false∧decide (100000<b)=true):=by
  by_cases h1:a<1
  ·exact .inl (decide_eq_true h1)
  ·by_cases h2:100000<a
   ·exact .inr (.inl ⟨decide_eq_false h1,decide_eq_true h2⟩)
   ·by_cases h3:b<1
    ·exact .inr (.inr (.inl ⟨decide_eq_false h1,decide_eq_false h2,decide_eq_true h3⟩))
    ·exact .inr (.inr (.inr ⟨decide_eq_false h1,decide_eq_false h2,decide_eq_false h3,decide_eq_true (by omega)⟩))
 have HB:=aH (Below.refl w.heap.size w)
 clear h
 rcases hx with k1 | ⟨k1,k2⟩ | ⟨k1,k2,k3⟩ | ⟨k1,k2,k3,k4⟩
 ·go_enter func4,ntmps4
  go_wp2_with fail
  go_returns
  exact ⟨rfl,HB.out⟩
 ·go_enter func4,ntmps4
  go_wp2_with fail
  go_returns
  exact ⟨rfl,HB.out⟩
 ·go_enter func4,ntmps4
  go_wp2_with fail
  go_returns
  exact ⟨rfl,HB.out⟩
 ·go_enter func4,ntmps4
  go_wp2_with fail
  go_returns
  exact ⟨rfl,HB.out⟩
theorem GS (a b:Int) (s:Bool) (w:World) (DP:nP w):
  Calls prog 4 #[.int .u64 a,.int .u64 b,.bool s] w fun e w'=>e= .returned (.bool true)∧Below w.heap.size w w':=by
 by_cases h:a<1∨100000<a∨b<1∨100000<b
 ·exact Ts a b s w h
 ·obtain ⟨m,rfl⟩:=Int.eq_ofNat_of_zero_le (show 0≤a by omega)
  obtain ⟨n,rfl⟩:=Int.eq_ofNat_of_zero_le (show 0≤b by omega)
  have HA:∀w',Below w.heap.size w w'→Calls prog 12 #[] w' fun e w''=>e= .returned (.bool true)∧Below w'.heap.size w' w'':=fun w' hb=>Tr w' (Pe DP hb)
  cases s with
  | false=>exact Tc m n (by omega) (by omega) w DP HA
  | true=>exact Tg m n (by omega) (by omega) w DP HA
end Go.Proofs.YtgknoidliabanaaGreatDoor
