/- TopEvery holds: MAX. -/
import Derived.Deep.MidRow
import Derived.Deep.Upon
import Derived.Test.YtgknoidliabanaaGreatDoorMAW
set_option linter.unusedVariables false
set_option linter.unusedSimpArgs false
set_option linter.unusedSectionVars false
set_option maxRecDepth 20000
set_option maxHeartbeats 8000000
namespace Go.Proofs.YtgknoidliabanaaGreatDoor
open Go.RowKit _root_.Go.Proofs.Tryz
open List renaming setIfInBounds_toArray→aA,set_cons_zero→aC,set_cons_succ→aD,drop_succ_cons→aF,take_succ_cons→aG,cons_append→aJ,nil_append→aK,drop_zero→aL,take_zero→aM
open Lib renaming hid→aB
open Go renaming World→aE,Value→aH,Calls→aI
def tN (w:aE) (z:Nat→Nat) (b:Nat):Prop:=eG w b 188 #[.pointer none,.int .i64 0]∧z b=8
section
variable {S:Nat→Prop} {z z':Nat→Nat} {w w':aE} {b:Nat}
theorem tN.eC (h:tN w z b) (s:eF S z w z' w') (hi:¬S 8):tN w' z' b:=⟨h.1.eA s.eA (h.2.symm▸hi),(s.zn b h.1.lt).trans h.2⟩
theorem LR (z:Nat→Nat) (w:aE):aI prog 47 #[] w fun r w'=>r= .returned (.pointer (some ⟨w.heap.size,0,none⟩))∧tN w' (lay z w 8) w.heap.size∧Ext w w':=by
 have HF:=aB (And.intro (show tN (w.alloc (.cells #[.pointer none,.int .i64 0] 188)) (lay z w 8) w.heap.size from ⟨eG.new _ _ _,eQ (Nat.le_refl _)⟩) ((Ext.refl w).alloc #[.pointer none,.int .i64 0] 188))
 go_enter func47,ntmps47
 go_wp2_with fail
 go_returns
 exact ⟨rfl,HF.out⟩
theorem Wb (a:Int) (h:tN w z b):aI prog 219 #[.pointer (some ⟨b,0,none⟩),.int .u64 a,.int .i64 0] w fun r w'=>r= .returned (.pointer (some ⟨b,0,none⟩))∧w=w':=by
 have c0:=h.1.cell 0
 simp at c0
 have hb:=h.1.lt
 clear h
 go_enter func219,ntmps219
 go_wp2_with fail
 refine wp_loop_rounds 1 ?_
 rw [rounds_succ]
 go_wp2_with fail
 go_returns
 exact ⟨rfl,rfl⟩
theorem GC (a c:Int) (h:tN w z b):aI prog 243 #[.pointer (some ⟨b,0,none⟩),.int .u64 a,.int .u64 c] w fun r w'=>r= .returned (.slice none 0 0)∧w=w':=by
 have c0:=h.1.cell 0
 simp at c0
 have hb:=h.1.lt
 have HA:=aB (Wb a h)
 clear h
 go_enter func243,ntmps243
 go_wp2_with (first | (go_at_call 219;refine HA.out.mono ?_;rintro r w1 ⟨rfl,rfl⟩) | fail)
 refine wp_loop_rounds 1 ?_
 rw [rounds_succ]
 go_wp2_with fail
 go_returns
 exact ⟨rfl,rfl⟩
end
def oO (w:aE) (z:Nat→Nat) (b:Nat):Prop:=∃p cap,eG w b 191 #[.slice p 0 cap]∧z b=9∧cap≤maxLen
section
variable {S:Nat→Prop} {z z':Nat→Nat} {w w':aE} {b:Nat}
theorem oO.eC (h:oO w z b) (s:eF S z w z' w') (hi:¬S 9):oO w' z' b:=by
 obtain ⟨p,cap,h1,h2,h3⟩:=h
 exact ⟨p,cap,h1.eA s.eA (h2.symm▸hi),(s.zn b h1.lt).trans h2,h3⟩
theorem LS (z:Nat→Nat) (w:aE):aI prog 48 #[] w fun r w'=>r= .returned (.pointer (some ⟨w.heap.size,0,none⟩))∧oO w' (lay z w 9) w.heap.size∧Ext w w':=by
 have HF:=aB (And.intro (show oO (w.alloc (.cells #[.slice none 0 0] 191)) (lay z w 9) w.heap.size from ⟨none,0,eG.new _ _ _,eQ (Nat.le_refl _),Nat.zero_le _⟩) ((Ext.refl w).alloc #[.slice none 0 0] 191))
 go_enter func48,ntmps48
 go_wp2_with fail
 go_returns
 exact ⟨rfl,HF.out⟩
theorem JI (cs:Array aH) (w:aE):aI prog 176 #[.int .i64 0,.func (.func 278) #[] cs] w fun r w'=>r= .returned (.int .i64 0)∧w=w':=by
 go_enter func176,ntmps176
 go_wp2_with fail
 refine wp_loop_rounds 1 ?_
 rw [rounds_succ]
 go_wp2_with fail
 go_returns
 exact ⟨rfl,rfl⟩
theorem Ex (a:Nat) (p:Option Addr) (cap:Nat) (h:eG w b 191 #[.slice p 0 cap]):aI prog 240 #[.pointer (some ⟨b,0,none⟩),.int .u64 a] w fun r w'=>r= .returned (.int .i64 0)∧Ext w w':=by
 have c0:=h.cell 0
 simp at c0
 have hb:=h.lt
 have HX:=aB (((Ext.refl w).alloc #[.pointer (some ⟨b,0,none⟩)] 78).alloc #[.int .u64 a] 34)
 clear h
 go_enter func240,ntmps240
 go_wp2_with (first | (go_at_call 176;refine (JI _ _).mono ?_;rintro r w1 ⟨rfl,rfl⟩) | fail)
 go_returns
 exact ⟨rfl,HX.out⟩
theorem SW (a n:Nat) (h1:a % 8=0) (h2:n % 8=0) (h3:0<n) (h4:n≤1099511627776) (h5:a+n≤281474976710656):aI prog 188 #[.int .u64 a,.int .u64 n] w fun r w'=>r= .returned (.bool true)∧w=w':=by
 have d1:decide ((a:Int) % 8=0)=true:=decide_eq_true (by omega)
 have d2:decide ((n:Int) % 8=0)=true:=decide_eq_true (by omega)
 have d3:decide ((n:Int)=0)=false:=decide_eq_false (by omega)
 have d4:decide ((n:Int)≤1099511627776)=true:=decide_eq_true (by omega)
 have d5:decide ((a:Int)≤281474976710656)=true:=decide_eq_true (by omega)
 have d6:decide ((n:Int)≤281474976710656-(a:Int))=true:=decide_eq_true (by omega)
 go_enter func188,ntmps188
 go_wp2_with fail
 go_returns
 refine ⟨?_,rfl⟩
 show Ending.returned (aH.bool ((n:Int) !=0))=_
 rw [show ((n:Int) !=0)=true by simp;omega]
theorem SX:(prog.info? 345).map (fun i=>(i.zero,i.size,i.bytes))=some (some (.agg #[.int .u64 0,.int .u64 0,.int .u64 0,.nilIface]),4,40):=by kernel_rfl
theorem Wc (a c:Nat) (cap:Nat) (h:eG w b 191 #[.slice none 0 cap]) (hz:z b=9):aI prog 189 #[.pointer (some ⟨b,0,none⟩),.int .u64 a,.int .u64 c,.iface 300 (.agg #[])] w fun r w'=>r= .returned (.tuple #[])∧oO w' (lay z w 0) b∧eF (fun i=>i=9) z w (lay z w 0) w':=by
 have HA:=aB (Ex a none cap h)
 have c0:=h.cell 0
 simp at c0
 have hb:=h.lt
 have HH:=aB h
 have hta:∀w:aE,(Instr.typeAssert (.iface 300 (.agg #[])) 302 300 true).run prog w= .ok (.tuple #[.agg #[],.bool true]) w:=fun _=>by kernel_rfl
 clear h
 go_enter func189,ntmps189
 go_wp2_with (first | (go_at_call 240;refine HA.out.mono ?_;rintro r w1 ⟨rfl,jE⟩;have c1:=(jE.cell b 0 hb).trans c0;have AX:=Nat.lt_of_lt_of_le hb jE.size;have f1:=(HH.out.later jE).frozen 0) | fail)
 refine wp_loop_rounds 1 ?_
 rw [rounds_succ]
 go_wp2_with fail
 have c2:((w1.alloc (.cells #[] 345)).alloc (.cells #[] 300)).drew.cell? ⟨b,0,none⟩=some (.slice none 0 cap):=(((((Ext.refl w1).alloc #[] 345).alloc #[] 300).drew).cell b 0 AX).trans c1
 refine eN (fun w'=>w'.cell? ⟨b,0,none⟩=some (.slice none 0 cap)) [0,1,2,4,5,6,7,8,9] [3,10,11,12] 13 (by kernel_rfl) (by kernel_rfl) c2 ?_
 simp only [fX,aF,aL,aG,aM,aJ,aK]
 iterate 9 (refine fI (v:=?_) (by rfl) ?_ ?_;rotate_left;(· (intro u gP;(try dsimp only at gP);go_simp;(try with_reducible rfl)));(try simp only [Act.put,aA,aC,aD]))
 refine fS ?_
 iterate 4 (refine dV ?_;go_wp2_with fail;refine ⟨c2,?_⟩)
 refine fJ ?_
 go_wp2_with fail
 refine NoPanic.normal ?_
 go_returns
 have b9:eG (((w1.setCell ⟨b,0,none⟩ (.slice (some ⟨w1.heap.size,0,none⟩) 0 0)).alloc (.cells #[] 345)).alloc (.cells #[] 300)).drew b 191 #[.slice (some ⟨w1.heap.size,0,none⟩) 0 0]:=((((HH.out.later jE).gG 0 _).alloc _).alloc _).drew
 have hc:eV (fun k=>k=b) w (((w1.setCell ⟨b,0,none⟩ (.slice (some ⟨w1.heap.size,0,none⟩) 0 0)).alloc (.cells #[] 345)).alloc (.cells #[] 300)).drew:=((((eV.dX jE (fun k=>k=b)).setCell (p:=⟨b,0,none⟩) (.inl rfl) _).alloc _ _).alloc _ _).drew
 exact ⟨rfl,⟨_,_,b9,(eR hb).trans hz,Nat.zero_le _⟩,eF.oI hc (fun k hk=>by rw [hk,hz]) 0⟩
theorem Wd {w:aE} {B g:Nat} {e:TypeId} (h:eG w g e #[]) (hB:B≤g):w.ownsRow B e 4 (.slice (some ⟨g,0,none⟩) 0 0) 0 []:=⟨rfl,.inr ⟨g,0, #[],rfl,hB,h,Nat.le_refl _,Nat.zero_le _,rfl,rfl⟩⟩
theorem Hd {w w':aE} {b B:Nat} {ad:Addr} {cap pJ:Nat} {p':Option Addr} (ho:w.ownsRow B 345 4 (.slice p' 0 pJ) 0 []) (hb:eG w b 191 #[.slice (some ad) 0 cap]) (hc:eV (fun k=>(aH.slice p' 0 pJ).ownBlock=some k) w w'):eG w' b 191 #[.slice (some ad) 0 cap]:=hb.eA hc (fZ ho hb (by decide))
theorem We (a c:Nat) (cap:Nat) (ad:Addr) (sO:cap≤maxLen) (h:eG w b 191 #[.slice (some ad) 0 cap]) (hz:z b=9):aI prog 189 #[.pointer (some ⟨b,0,none⟩),.int .u64 a,.int .u64 c,.iface 300 (.agg #[])] w fun r w'=>r= .returned (.tuple #[])∧oO w' (lay z w 0) b∧eF (fun i=>i=9) z w (lay z w 0) w':=by
 have HA:=aB (Ex a (some ad) cap h)
 have c0:=h.cell 0
 simp at c0
 have hb:=h.lt
 obtain ⟨iT,kS,lF,jT,jU⟩:=info_parts SX
 have HH:=aB h
 have hta:∀w:aE,(Instr.typeAssert (.iface 300 (.agg #[])) 302 300 true).run prog w= .ok (.tuple #[.agg #[],.bool true]) w:=fun _=>by kernel_rfl
 clear h
 go_enter func189,ntmps189
 go_wp2_with (first | (go_at_call 240;refine HA.out.mono ?_;rintro r w1 ⟨rfl,jE⟩;have c1:=(jE.cell b 0 hb).trans c0;have AX:=Nat.lt_of_lt_of_le hb jE.size;have f1:=(HH.out.later jE).frozen 0) | (at_builtin;refine dS w.heap.size _ rfl (.tmp 19) (.tmp 25) 189 rfl 345 iT _ 4 40 underlying189 kS lF jT jU rfl (by decide) (.slice (some ⟨w1.heap.size,0,none⟩) 0 0) 0 [] (by rfl) (by exact Wd (eG.new w1 _ _) jE.size) (.slice (some ad) 0 cap) 0 [] (by rfl) (.inr ⟨ad,cap,rfl,by simp,fun j u hj=>by simp at hj⟩) (by simp) (by unfold maxLen;omega) (by omega) (by rw [aE.size_alloc];exact Nat.le_succ_of_le jE.size) ?_) | fail)
 intro v2 w2 iC F1 aLe
 obtain ⟨p2,Kh,rfl, -,aEp, -⟩:=dZ iC
 have lV:Ext w1 w2:=F1.ext ((Ext.refl w1).alloc #[] 345) fun i hi=>by
  have:w1.heap.size=i:=by simpa [aH.ownBlock] using hi
  omega
 have b2:=(HH.out.later jE).later lV
 have c2:=b2.cell 0
 have f2:=b2.frozen 0
 have l2:=b2.lt
 simp at c2
 have HO2:=aB iC
 have He:=aB b2
 have gY:=aB (jE.trans lV)
 clear iC F1 aLe lV b2 c1 AX f1 jE
 go_wp2_with fail
 refine wp_loop_rounds 1 ?_
 rw [rounds_succ]
 go_wp2_with fail
 have c3:(w2.alloc (.cells #[] 300)).drew.cell? ⟨b,0,none⟩=some (.slice (some ad) 0 cap):=((((Ext.refl w2).alloc #[] 300).drew).cell b 0 l2).trans c2
 refine eN (fun w'=>w'.cell? ⟨b,0,none⟩=some (.slice (some ad) 0 cap)) [0,1,2,4,5,6,7,8,9] [3,10,11,12] 13 (by kernel_rfl) (by kernel_rfl) c3 ?_
 simp only [fX,aF,aL,aG,aM,aJ,aK]
 iterate 9 (refine fI (v:=?_) (by rfl) ?_ ?_;rotate_left;(· (intro u gP;(try dsimp only at gP);go_simp;(try with_reducible rfl)));(try simp only [Act.put,aA,aC,aD]))
 refine fS ?_
 have wK:eG (w2.alloc (.cells #[] 300)).drew b 191 #[.slice (some ad) 0 cap]:=(He.out.alloc _).drew
 have Mu:(w2.alloc (.cells #[] 300)).drew.ownsRow w.heap.size 345 4 (.slice p2 0 Kh) 0 []:=dY HO2.out ((Ext.refl w2).alloc _ _).drew.below
 refine dV ?_
 refine dS w.heap.size _ rfl (.tmp 101) (.tmp 102) 189 rfl 345 iT _ 4 40 underlying189 kS lF jT jU rfl (by decide) (.slice p2 0 Kh) 0 [] (by rfl) Mu (.slice none 0 0) 0 [] (by rfl) (.inl ⟨rfl,rfl,rfl⟩) (by simp) (by unfold maxLen;omega) (by omega) (by have:=gY.out.size;rw [show ((w2.alloc (.cells #[] 300)).drew).heap.size=w2.heap.size+1 from aE.size_alloc w2 _];omega) ?_
 intro v4 w4 OS hc4 _
 obtain ⟨p4,T8,rfl, -,aYy, -⟩:=dZ OS
 have YO:=Hd Mu wK hc4
 refine fG ⟨by have:=YO.cell 0;simpa using this,?_⟩
 refine dV ?_
 refine dS w.heap.size _ rfl (.tmp 103) (.tmp 109) 189 rfl 345 iT _ 4 40 underlying189 kS lF jT jU rfl (by decide) (.slice p4 0 T8) 0 [] (by rfl) OS (.slice (some ad) 0 cap) 0 [] (by rfl) (.inr ⟨ad,cap,rfl,by simp,fun j u hj=>by simp at hj⟩) (by simp) (by unfold maxLen;omega) (by omega) (by have:=gY.out.size;have h9:=hc4.size;rw [show ((w2.alloc (.cells #[] 300)).drew).heap.size=w2.heap.size+1 from aE.size_alloc w2 _] at h9;omega) ?_
 intro v5 w5 WJ Fm _
 obtain ⟨p5,aLf,rfl, -,aLg,hp5⟩:=dZ WJ
 have Bw:=Hd OS YO Fm
 have c5:=Bw.cell 0
 have f5:=Bw.frozen 0
 have l5:=Bw.lt
 simp at c5
 have HO5:=aB WJ
 have HC5:=aB (show eV (fun k=>k=b) w w5 from ((eV.dX ((gY.out.alloc _ _).drew) (fun k=>k=b)).trans hc4 fun i hi=>.inr (eB Mu i hi).1).trans Fm fun i hi=>.inr (eB OS i hi).1)
 have Qr:=aB Bw
 clear Mu OS WJ hc4 Fm wK YO Bw hp5
 refine fG ⟨c5,?_⟩
 refine dV ?_
 go_wp2_with fail
 refine ⟨c5,?_⟩
 refine dV ?_
 go_wp2_with fail
 refine ⟨c5,?_⟩
 refine fJ ?_
 go_wp2_with fail
 refine NoPanic.normal ?_
 go_returns
 exact ⟨rfl,⟨p5,aLf,Qr.out.gG 0 _,(eR hb).trans hz,aLg⟩,eF.oI (HC5.out.setCell (p:=⟨b,0,none⟩) (.inl rfl) _) (fun k hk=>by rw [hk,hz]) 0⟩
theorem SY (a n:Nat) (h:oO w z b) (h1:a % 8=0) (h2:n % 8=0) (h3:0<n) (h4:n≤1099511627776) (h5:a+n≤281474976710656):
  aI prog 137 #[.pointer (some ⟨b,0,none⟩),.int .u64 a,.int .u64 n] w fun r w'=>r= .returned (.int .i64 0)∧oO w' (lay z w 0) b∧eF (fun i=>i=9) z w (lay z w 0) w':=by
 obtain ⟨p,cap,hb,hz,hc⟩:=h
 have HR:=aB (SW (w:=w) a n h1 h2 h3 h4 h5)
 have HP:∀x y:Nat,aI prog 189 #[.pointer (some ⟨b,0,none⟩),.int .u64 x,.int .u64 y,.iface 300 (.agg #[])] w fun r w'=>r= .returned (.tuple #[])∧oO w' (lay z w 0) b∧eF (fun i=>i=9) z w (lay z w 0) w':=fun x y=>by
  cases p with
  | none=>exact Wc x y cap hb hz
  | some ad=>exact We x y cap ad hc hb hz
 have HP:=aB HP
 have e1:(a:Int) / 8=((a / 8:Nat):Int):=by omega
 have e2:((a:Int)+(n:Int)) / 8=(((a+n) / 8:Nat):Int):=by omega
 have HE:=aB (And.intro e1 e2)
 clear e1 e2 hb
 go_enter func137,ntmps137
 go_wp2_with (first | (go_at_call 188;refine HR.out.mono ?_;rintro r w1 ⟨rfl,rfl⟩) | (rw [HE.out.1,HE.out.2];go_at_call 189;refine (HP.out _ _).mono ?_;rintro r w1 ⟨rfl,hq⟩) | fail)
 go_returns
 exact ⟨rfl,hq⟩
end
def tD (iY:Array aH) (o:Nat):List aH→Array aH
 | []=>iY
 | v::vs=>tD (iY.setIfInBounds o v) (o+1) vs
theorem BH:∀(vs:List aH) (iY:Array aH) (o:Nat),(tD iY o vs).size=iY.size
 | [],_,_=>rfl
 | v::vs,iY,o=>by unfold tD;rw [BH vs];simp
theorem Ct:∀(vs:List aH) (iY:Array aH) (o i:Nat),i<iY.size→(tD iY o vs)[i]? =if o≤i∧i<o+vs.length then vs[i-o]? else iY[i]?
 | [],iY,o,i,h=>by unfold tD;rw [if_neg (by simp)]
 | v::vs,iY,o,i,h=>by
  unfold tD
  rw [Ct vs _ _ i (by simpa using h)]
  by_cases e:i=o
  ·subst e
   rw [if_neg (by omega),if_pos (by simp)]
   simp [h]
  ·by_cases h2:o+1≤i∧i<o+1+vs.length
   ·rw [if_pos h2,if_pos (by simp;omega)]
    have:i-o=(i-(o+1))+1:=by omega
    rw [this,List.getElem?_cons_succ]
   ·rw [if_neg h2,if_neg (by simp;omega),Array.getElem?_setIfInBounds_ne (Ne.symm e)]
theorem JJ (vs iY:Array aH) (h:iY.size=vs.size):tD iY 0 vs.toList=vs:=by
 apply Array.ext_getElem?
 intro i
 by_cases hi:i<iY.size
 ·rw [Ct _ _ _ _ hi,if_pos (by simp;omega)];simp
 ·rw [Array.getElem?_eq_none (by rw [BH];omega),Array.getElem?_eq_none (by omega)]
section
variable {w:aE} {g:Nat} {t:TypeId}
theorem BI:∀(vs:List aH) (iY:Array aH) (o:Nat) (w:aE),eG w g t iY→eG (w.setCells g o vs) g t (tD iY o vs)
 | [],_,_,_,h=>h
 | v::vs,iY,o,w,h=>BI vs _ (o+1) _ (h.gG o v)
theorem JK (vs:List aH):∀(o:Nat) (w:aE),eV (fun k=>k=g) w (w.setCells g o vs):=by
 induction vs with
 | nil=>exact fun o w=>eV.refl _ _
 | cons v vs ih=>exact fun o w=>((eV.refl (fun k=>k=g) w).setCell (p:=⟨g,o,none⟩) (.inl rfl) v).trans (ih (o+1) _) fun i hi=>.inl hi
theorem iN {P:Program} {ops:Array Oper} {rest:List Oper} {op:Oper} {a:Act} {w:aE} {Q:Exit→Act→aE→Prop} (UI:op.guard=none) (ty:TypeId) (x y:Operand) (ho:op.op= .store ty x y)
  (g:Nat) (old cells:Array aH) (hx:a.eval x= .pointer (some ⟨g,0,none⟩)) (hy:a.eval y= .agg cells) (hb:eG w g t old) (hs:old.size=cells.size)
  (hi:(P.info? ty).map (·.size)=some cells.size) (h1:cells.all (·.oneCell')=true)
  (h:∀w',eG w' g t cells→eV (fun k=>k=g) w w'→wpList P ops Q rest (a.put op.dst undef) w'):wpList P ops Q (op::rest) a w:=by
 refine wpList_store_mid UI ty x y ho g 0 cells hx hy (fun j hj=>?_) hi h1 (h _ ?_ (JK _ _ _))
 ·rw [Nat.zero_add]
  exact ⟨by rw [hb.cell,Array.getElem?_eq_getElem (by omega)];rfl,hb.frozen j⟩
 ·have:=BI cells.toList old 0 w hb
  rw [JJ _ _ hs] at this
  exact this
theorem GD {P:Program} {op:Oper} {a:Act} {w:aE} (ty:TypeId) (x:Operand) (ho:op.op= .load ty x) (g:Nat) (cells:Array aH) (d:TypeDesc) (hx:a.eval x= .pointer (some ⟨g,0,none⟩)) (hb:eG w g t cells)
  (hu:P.underlying ty=some d) (hd:d.isRow=true) (hi:(P.info? ty).map (·.size)=some cells.size):(execOp a.eval op).run P w= .ok (.value (.agg cells)) w:=by
 have hr:w.rangeAt g 0 cells.toList:=fun j v hv=>by rw [Nat.zero_add,hb.cell];simpa using hv
 unfold execOp
 simp only [ho,hx,Instr.loadAt,Instr.sureAddr,Sem.run_bind,Sem.run_pure,Result.andThen_ok,run_loadVar_mid w g 0 ty cells.toList d hr hu hd (by simpa using hi)]
end
structure DV where
 gD:Nat
 pQ:Nat
 fV:Nat
 fO:Nat
def YS (hb sb rb:Nat) (t:DV):Array aH:= #[.pointer (some ⟨hb,0,none⟩),.pointer (some ⟨sb,0,none⟩),.pointer (some ⟨rb,0,none⟩),.slice none 0 0,.int .u64 (t.gD:Nat),.int .u64 (t.pQ:Nat),.int .u64 (t.fV:Nat),.int .u64 (t.fO:Nat)]
def mG (w:aE) (z:Nat→Nat) (b hb sb rb:Nat) (t:DV):Prop:=eG w b 133 (YS hb sb rb t)∧z b=10
section
variable {S:Nat→Prop} {z z':Nat→Nat} {w w':aE} {b hb sb rb:Nat} {t:DV} {k:yK} {h:HS}
theorem mG.eC (h:mG w z b hb sb rb t) (s:eF S z w z' w') (hi:¬S 10):mG w' z' b hb sb rb t:=⟨h.1.eA s.eA (h.2.symm▸hi),(s.zn b h.1.lt).trans h.2⟩
theorem mG.ext (h:mG w z b hb sb rb t) (hx:Ext w w'):mG w' z b hb sb rb t:=⟨h.1.later hx,h.2⟩
theorem SZ (z:Nat→Nat) (w:aE):aI prog 49 #[.pointer (some ⟨hb,0,none⟩),.pointer (some ⟨sb,0,none⟩),.pointer (some ⟨rb,0,none⟩)] w fun r w'=>r= .returned (.pointer (some ⟨w.heap.size,0,none⟩))∧mG w' (lay z w 10) w.heap.size hb sb rb ⟨0,0,0,0⟩∧Ext w w':=by
 have HF:=aB (And.intro (show mG (w.alloc (.cells (YS hb sb rb ⟨0,0,0,0⟩) 133)) (lay z w 10) w.heap.size hb sb rb ⟨0,0,0,0⟩ from ⟨eG.new _ _ _,eQ (Nat.le_refl _)⟩) ((Ext.refl w).alloc (YS hb sb rb ⟨0,0,0,0⟩) 133))
 go_enter func49,ntmps49
 go_wp2_with fail
 go_returns
 exact ⟨rfl,HF.out⟩
theorem Ey (h:mG w z b hb sb rb t):aI prog 131 #[.pointer (some ⟨b,0,none⟩)] w fun r w'=>r= .returned (.pointer (some ⟨hb,0,none⟩))∧w=w':=by
 have c0:w.cell? ⟨b,0,none⟩=some (.pointer (some ⟨hb,0,none⟩)):=h.1.cell 0
 have hl:=h.1.lt
 clear h
 go_enter func131,ntmps131
 go_wp2_with fail
 go_returns
 exact ⟨rfl,rfl⟩
theorem LU (h:mG w z b hb sb rb t):aI prog 41 #[.pointer (some ⟨b,0,none⟩)] w fun r w'=>r= .returned (.int .u64 (t.gD:Nat))∧w=w':=by
 have c0:w.cell? ⟨b,4,none⟩=some (.int .u64 (t.gD:Nat)):=h.1.cell 4
 have hl:=h.1.lt
 clear h
 go_enter func41,ntmps41
 go_wp2_with fail
 go_returns
 exact ⟨rfl,rfl⟩
theorem JL (id:Int) (q:Nat) (h1:mG w z b k.hb sb rb t) (h2:eX w z k h) (hid:(Lit.int .i64 id).wf=true) (hl:eI h.sp id=some (.pointer (some ⟨q,0,none⟩))) (iD:(h.st q).s.state=1):
  aI prog 192 #[.pointer (some ⟨b,0,none⟩),.int .i64 id] w fun r w'=>r= .returned (.tuple #[.pointer (some ⟨q,0,none⟩),.agg (fD.kR (h.st q).s).toArray,.int .i64 0])∧Ext w w':=by
 have c0:w.cell? ⟨b,0,none⟩=some (.pointer (some ⟨k.hb,0,none⟩)):=h1.1.cell 0
 have zW:=h1.1.lt
 have HS:=aB fun w' (hx:Ext w w')=>nT id q (h2.ext hx) hid hl
 have HI:=aB fun w' (hx:Ext w w')=>fD.lG q _ _ _ _ w' ((h2.rM.at hl).is.later hx)
 clear h1 h2 hl
 generalize (h.st q).s=s1 at*
 obtain ⟨jM,gV,AF,mY,iH,jZ,iE,iS,iK,kA,oN,tC⟩:=s1
 dsimp only at iD
 subst iD
 simp only [fD.kR] at HI ⊢
 go_enter func192,ntmps192
 go_wp2_with (first | (go_at_call 73;refine (HS.out _ ((Ext.refl w).alloc _ _)).mono ?_;rintro r w1 ⟨rfl,rfl⟩) | (go_at_call 28;refine (HI.out _ ((Ext.refl w).alloc _ _)).mono ?_;rintro r w2 ⟨rfl,lV⟩) | fail)
 have jU:eG w2 w.heap.size 98 #[.int .u64 0,.int .i64 0,.int .i64 0,.int .i64 0,.bool false,.int .i64 0,.int .i64 0,.int .i64 0,.bool false,.bool false]:=(eG.new w _ _).later lV
 have wU:(prog.info? 98).map (·.size)=some 10:=by kernel_rfl
 have hz3:eG (w2.alloc (.cells #[.int .u64 (jM:Nat),.int .i64 (gV:Nat),.int .i64 1,.int .i64 (mY:Nat),.bool iH,.int .i64 (jZ:Nat),.int .i64 (iE:Nat),.int .i64 (iS:Nat),.bool iK,.bool kA] 98)).drew w.heap.size 98 #[.int .u64 0,.int .i64 0,.int .i64 0,.int .i64 0,.bool false,.int .i64 0,.int .i64 0,.int .i64 0,.bool false,.bool false]:=(jU.alloc _).drew
 have lL:Ext w (w2.alloc (.cells #[.int .u64 (jM:Nat),.int .i64 (gV:Nat),.int .i64 1,.int .i64 (mY:Nat),.bool iH,.int .i64 (jZ:Nat),.int .i64 (iE:Nat),.int .i64 (iS:Nat),.bool iK,.bool kA] 98)).drew:=((((Ext.refl w).alloc _ _).trans lV).alloc _ _).drew
 have wK:eG (w2.alloc (.cells #[.int .u64 (jM:Nat),.int .i64 (gV:Nat),.int .i64 1,.int .i64 (mY:Nat),.bool iH,.int .i64 (jZ:Nat),.int .i64 (iE:Nat),.int .i64 (iS:Nat),.bool iK,.bool kA] 98)).drew w2.heap.size 98 #[.int .u64 (jM:Nat),.int .i64 (gV:Nat),.int .i64 1,.int .i64 (mY:Nat),.bool iH,.int .i64 (jZ:Nat),.int .i64 (iE:Nat),.int .i64 (iS:Nat),.bool iK,.bool kA]:=(eG.new w2 _ _).drew
 have gO:w.heap.size≠w2.heap.size:=by have:=jU.lt;omega
 generalize aEr:(#[.int .u64 (jM:Nat),.int .i64 (gV:Nat),.int .i64 1,.int .i64 (mY:Nat),.bool iH,.int .i64 (jZ:Nat),.int .i64 (iE:Nat),.int .i64 (iS:Nat),.bool iK,.bool kA]:Array aH)=arr at*
 have tM:arr.size=10∧arr.all (·.oneCell')=true:=by subst aEr;exact ⟨rfl,by simp [aH.oneCell']⟩
 generalize hW3:(w2.alloc (.cells arr 98))=W3 at*
 refine eN (fun w'=>eG w' w2.heap.size 98 arr) [0,1,2] [3] 4 (by kernel_rfl) (by kernel_rfl) wK ?_
 simp only [fX,aF,aL,aG,aM,aJ,aK]
 refine fI (v:=?_) (by rfl) ?_ ?_;rotate_left;(· (intro u gP;go_simp;(try with_reducible rfl)));(try simp only [Act.put,aA,aC,aD])
 refine fI (v:=.agg arr) (by rfl) (fun u gP=>GD 98 _ rfl w2.heap.size arr _ (by rfl) gP underlying98 rfl (by rw [tM.1];exact wU)) ?_
 simp only [Act.put,aA,aC,aD]
 refine fI (v:=?_) (by rfl) ?_ ?_;rotate_left;(· (intro u gP;go_simp;(try with_reducible rfl)));(try simp only [Act.put,aA,aC,aD])
 refine fS ?_
 refine dV ?_
 refine iN rfl 98 _ _ rfl w.heap.size #[.int .u64 0,.int .i64 0,.int .i64 0,.int .i64 0,.bool false,.int .i64 0,.int .i64 0,.int .i64 0,.bool false,.bool false] arr (by rfl) (by rfl) hz3 (by rw [tM.1];rfl) (by rw [tM.1];exact wU) tM.2 ?_
 intro w5 Bw Fm
 refine fG ⟨wK.eA Fm (fun e=>gO e.symm),?_⟩
 have kJ:=aB (Fm.ext lL fun i hi=>by omega)
 subst aEr
 have d0:w5.cell? ⟨w.heap.size,0,none⟩=some (.int .u64 (jM:Nat)):=Bw.cell 0
 have d1:w5.cell? ⟨w.heap.size,1,none⟩=some (.int .i64 (gV:Nat)):=Bw.cell 1
 have d2:w5.cell? ⟨w.heap.size,2,none⟩=some (.int .i64 1):=Bw.cell 2
 have d3:w5.cell? ⟨w.heap.size,3,none⟩=some (.int .i64 (mY:Nat)):=Bw.cell 3
 have d4:w5.cell? ⟨w.heap.size,4,none⟩=some (.bool iH):=Bw.cell 4
 have d5:w5.cell? ⟨w.heap.size,5,none⟩=some (.int .i64 (jZ:Nat)):=Bw.cell 5
 have d6:w5.cell? ⟨w.heap.size,6,none⟩=some (.int .i64 (iE:Nat)):=Bw.cell 6
 have d7:w5.cell? ⟨w.heap.size,7,none⟩=some (.int .i64 (iS:Nat)):=Bw.cell 7
 have d8:w5.cell? ⟨w.heap.size,8,none⟩=some (.bool iK):=Bw.cell 8
 have d9:w5.cell? ⟨w.heap.size,9,none⟩=some (.bool kA):=Bw.cell 9
 have hl5:=Bw.lt
 clear jU hz3 wK Bw Fm tM
 refine fJ ?_
 go_wp2_with fail
 refine NoPanic.normal ?_
 go_wp2_with fail
 refine bodyPost_ret (v:=.tuple #[.pointer (some ⟨q,0,none⟩),.agg #[.int .u64 (jM:Nat),.int .i64 (gV:Nat),.int .i64 1,.int .i64 (mY:Nat),.bool iH,.int .i64 (jZ:Nat),.int .i64 (iE:Nat),.int .i64 (iS:Nat),.bool iK,.bool kA],.int .i64 0]) (by simp [results,results192,go_sem,d0,d1,d2,d3,d4,d5,d6,d7,d8,d9]) rfl ⟨rfl,kJ.out⟩
end
theorem xN (x y:Int) (hx:0≤x) (hy:0≤y) (h:x+y≤18446744073709551615) (w:aE):(callFunc 140 #[.int .u64 x,.int .u64 y,.int .u64 0]).run prog w= .ok (.value (.tuple #[.int .u64 (x+y),.int .u64 0])) w:=by
 rw [run_callFunc_extern func140 (by kernel_rfl) (by kernel_rfl) (by kernel_rfl) (e:=add64Entry) (by kernel_rfl),run_add64 x y 0 hx hy (by omega) (by omega)]
 rw [show (x+y+0) % 18446744073709551616=x+y by omega,show (x+y+0) / 18446744073709551616=0 by omega]
 rfl
theorem LV (x y:Int) (hx:0≤x) (hy:0≤y) (h:18446744073709551615<x+y) (h2:x+y<36893488147419103232) (w:aE):(callFunc 140 #[.int .u64 x,.int .u64 y,.int .u64 0]).run prog w= .ok (.value (.tuple #[.int .u64 (x+y-18446744073709551616),.int .u64 1])) w:=by
 rw [run_callFunc_extern func140 (by kernel_rfl) (by kernel_rfl) (by kernel_rfl) (e:=add64Entry) (by kernel_rfl),run_add64 x y 0 hx hy (by omega) (by omega)]
 rw [show (x+y+0) % 18446744073709551616=x+y-18446744073709551616 by omega,show (x+y+0) / 18446744073709551616=1 by omega]
 rfl
end Go.Proofs.YtgknoidliabanaaGreatDoor
