/- TopEvery holds: MAS. -/
import Derived.Test.YtgknoidliabanaaGreatDoorMAQ
import Derived.Test.YtgknoidliabanaaGreatDoorMAR
set_option linter.unusedVariables false
set_option linter.unusedSimpArgs false
set_option linter.unusedSectionVars false
set_option maxRecDepth 20000
set_option maxHeartbeats 8000000
namespace Go.Proofs.YtgknoidliabanaaGreatDoor
open Go.RowKit _root_.Go.Proofs.Tryz
open Lib renaming hid→aA
open List renaming take_succ_cons→aB,drop_succ_cons→aC,take_zero→aE,drop_zero→aF,setIfInBounds_toArray→aI,set_cons_zero→aK,set_cons_succ→aL,cons_append→aM,nil_append→aN
open Nat renaming lt_of_lt_of_le→aD
open Go renaming World→aG,Calls→aJ,Value→aO
open Instr renaming lookup→aH,field→aP
structure LD (w:aG) (g n:Nat) (L:Nat→Int):Prop where
 cell:∀i,i<n→w.cell? ⟨g,i,none⟩=some (.int .i64 (L i))
 fz:∀i,w.frozen? ⟨g,i,none⟩=false
 lt:g<w.heap.size
theorem LD.later {w w':aG} {g n:Nat} {L:Nat→Int} (h:LD w g n L) (hx:Ext w w'):LD w' g n L:=
 ⟨fun i hi=>(hx.cell _ _ h.lt).trans (h.cell i hi),fun i=>(hx.frozen _).trans (h.fz i),aD h.lt hx.size⟩
def Zn (j i:Nat):Nat:=if i=j then j-1 else if i=j-1 then j else i
theorem OF {j i n:Nat} (h2:j<n) (hi:i<n):Zn j i<n:=by
 unfold Zn
 by_cases e:i=j
 ·rw [if_pos e];omega
 ·rw [if_neg e]
  by_cases e2:i=j-1
  ·rw [if_pos e2];exact h2
  ·rw [if_neg e2];exact hi
theorem Qk {j i:Nat} (h:0<j):Zn j (Zn j i)=i:=by
 unfold Zn
 by_cases e:i=j
 ·rw [if_pos e,if_neg (by omega),if_pos rfl];exact e.symm
 ·rw [if_neg e]
  by_cases e2:i=j-1
  ·rw [if_pos e2,if_pos rfl];exact e2.symm
  ·rw [if_neg e2,if_neg e,if_neg e2]
def swp (L:Nat→Int) (j:Nat):Nat→Int:=fun i=>L (Zn j i)
theorem OG (L:Nat→Int) (j:Nat):swp L j j=L (j-1):=by unfold swp Zn;rw [if_pos rfl]
theorem OH (L:Nat→Int) {j:Nat} (h:0<j):swp L j (j-1)=L j:=by unfold swp Zn;rw [if_neg (by omega),if_pos rfl]
theorem JC (L:Nat→Int) {j i:Nat} (h1:i≠j) (h2:i≠j-1):swp L j i=L i:=by unfold swp Zn;rw [if_neg h1,if_neg h2]
structure Same (n:Nat) (L0 L:Nat→Int):Prop where
 mem:∀i,i<n→∃k,k<n∧L i=L0 k
 inj:∀i j,i<n→j<n→L i=L j→i=j
theorem Same.swp {n:Nat} {L0 L:Nat→Int} (h:Same n L0 L) {j:Nat} (h1:0<j) (h2:j<n):Same n L0 (swp L j):=
 ⟨fun i hi=>h.mem _ (OF h2 hi),fun i k hi hk e=>by
  have:=h.inj _ _ (OF h2 hi) (OF h2 hk) e
  rw [←Qk (i:=i) h1, ←Qk (i:=k) h1,this]⟩
def Way (key:Int→Nat) (L:Nat→Int) (i j:Nat):Prop:=∀p q,p<q→q≤i→q≠j→key (L p)<key (L q)
theorem Way.step {key:Int→Nat} {L:Nat→Int} {i j:Nat} (h:Way key L i j) (h1:0<j) (hj:j≤i) (fK:key (L j)<key (L (j-1))):Way key (swp L j) i (j-1):=by
 intro p q Zo hq gO
 by_cases e1:q=j
 ·subst e1
  rw [OG]
  by_cases e2:p=q-1
  ·subst e2;rw [OH L h1];exact fK
  ·rw [JC L (by omega) e2];exact h p (q-1) (by omega) (by omega) (by omega)
 ·rw [JC L e1 gO]
  by_cases e2:p=j
  ·subst e2;rw [OG];exact h (p-1) q (by omega) hq e1
  ·by_cases e3:p=j-1
   ·subst e3;rw [OH L h1];exact h j q (by omega) hq e1
   ·rw [JC L e2 e3];exact h p q Zo hq e1
theorem Way.done {key:Int→Nat} {L:Nat→Int} {i j:Nat} (h:Way key L i j) (hd:j=0∨key (L (j-1))<key (L j)):Way key L i (i+1):=by
 intro p q Zo hq gO
 by_cases e:q=j
 ·subst e
  rcases hd with h0 | hd
  ·omega
  ·by_cases e2:p=q-1
   ·subst e2;exact hd
   ·exact Nat.lt_trans (h p (q-1) (by omega) (by omega) (by omega)) hd
 ·exact h p q Zo hq e
structure BD (W:aG) (g n:Nat) (L0:Nat→Int) (wr:aG) (L:Nat→Int):Prop where
 row:LD wr g n L
 same:Same n L0 L
 eA:eV (fun k=>k=g) W wr
theorem GB (g n cap:Nat) (cs:Array aO) (key:Int→Nat) (L0:Nat→Int) (w:aG) (h:LD w g n L0) (hn:n≤12) (Fk:n≤cap) (xK:cap≤maxLen) (h0:Same n L0 L0) (hk:∀i j,i<n→j<n→key (L0 i)=key (L0 j)→i=j)
  (HC:∀w' a b,eV (fun k=>k=g) w w'→a<n→b<n→aJ prog 71 (#[.int .i64 (L0 a),.int .i64 (L0 b)] ++ cs) w' fun r w''=>r= .returned (.int .i64 (if key (L0 a)<key (L0 b) then-1 else if key (L0 b)<key (L0 a) then 1 else 0))∧Ext w' w''):
  aJ prog 164 #[.slice (some ⟨g,0,none⟩) n cap,.int .i64 0,.int .i64 n,.func (.func 71) #[] cs] w fun r w'=>r= .returned (.tuple #[])∧∃L,BD w g n L0 w' L∧∀p q,p<q→q<n→key (L p)<key (L q):=by
 have HCC:=aA HC
 have HK:=aA hk
 have HM0:=aA (show BD w g n L0 w L0 from ⟨h,h0,eV.refl _ _⟩)
 clear HC hk h h0
 go_enter func164,ntmps164
 go_wp2_with fail
 go_loopw [8] (fun iv wr=>∃(i:Nat) (L:Nat→Int),iv= .int .i64 ((i:Int)+1)∧(i<n∨i=0)∧Hid (BD w g n L0 wr L∧Way key L i (i+1))) (fun iv _=>n-(intOf iv).toNat)
 case atStart=>exact ⟨0,L0,rfl,.inr rfl,aA ⟨HM0.out,fun p q Zo hq=>by omega⟩⟩
 case round=>
  obtain ⟨i,L,rfl,hi,hM⟩:=hrel
  clear HM0
  by_cases fK:i+1<n
  ·have Zp:Way key L (i+1) (i+1):=fun p q Zo hq gO=>hM.out.2 p q Zo (by omega) (by omega)
   have HW0:=aA (And.intro hM.out.1 Zp)
   clear hM Zp
   have kk:decide ((i:Int)+1<(n:Int))=true:=decide_eq_true (by omega)
   go_wp2_with fail
   go_loopw [9] (fun jv wr=>∃(j:Nat) (L:Nat→Int),jv= .int .i64 j∧j≤i+1∧Hid (BD w g n L0 wr L∧Way key L (i+1) j)) (fun jv _=>(intOf jv).toNat)
   case atStart=>exact ⟨i+1,L,by go_num,by omega,HW0⟩
   case round=>
    obtain ⟨j,L2,rfl,hj,hM⟩:=hrel
    clear HW0
    by_cases hj0:0<j
    ·have c1:=hM.out.1.row.cell j (by omega)
     have c2:=hM.out.1.row.cell (j-1) (by omega)
     have fz1:=hM.out.1.row.fz j
     have fz2:=hM.out.1.row.fz (j-1)
     have wS:=hM.out.1.row.lt
     have e1:(j:Int)-1=((j-1:Nat):Int):=by omega
     obtain ⟨ka,hka,ea⟩:=hM.out.1.same.mem j (by omega)
     obtain ⟨kb,hkb,eb⟩:=hM.out.1.same.mem (j-1) (by omega)
     have hC:=HCC.out wr.drew ka kb (eV.trans hM.out.1.eA ((eV.refl (fun k=>k=g) wr).drew) fun i hi=>.inl hi) hka hkb
     rw [←ea, ←eb] at hC
     have Mm:=aA hC
     have E1:=aA e1
     have HWR:=aA (show IntKind.i64.wrap ((j:Int)-1)=(j:Int)-1 from IntWalk.i64_in _ (by omega))
     have k0:decide ((0:Int)<(j:Int))=true:=decide_eq_true (by omega)
     have k00:decide (0<j)=true:=decide_eq_true hj0
     have hjn:j-1<n:=by omega
     have hjc:j-1<cap:=by omega
     have aX6:j<n:=by omega
     have aX7:j<cap:=by omega
     have HD:=aA (show ¬key (L2 j)<key (L2 (j-1))→key (L2 (j-1))<key (L2 j) from fun h9=>by
      rcases Nat.lt_or_eq_of_le (Nat.le_of_not_lt h9) with h8 | h8
      ·exact h8
      ·rw [ea,eb] at h8
       have h7:=HK.out _ _ hkb hka h8
       have h6:=hM.out.1.same.inj (j-1) j (by omega) (by omega) (by rw [ea,eb,h7])
       omega)
     clear hC ea eb e1
     generalize hx:L2 j=x at*
     generalize hy:L2 (j-1)=y at*
     have HX:=aA hx
     have HY:=aA hy
     clear hx hy
     by_cases Fx:key x<key y
     ·rw [if_pos Fx] at Mm
      have HWS:=aA (hM.out.2.step hj0 hj (by rw [HX.out,HY.out];exact Fx))
      go_wp2_with fail
      refine fC 14 (by kernel_rfl) (by kernel_rfl) ?_
      simp only [aB,aE,aC,aF]
      repeat (go_big_quiet_step (fail))
      refine wpQuiet_nil ?_
      go_wp2_with fail
      refine Mm.out.mono ?_
      rintro r w2 ⟨rfl,hx⟩
      have mD:Ext wr w2:=((Ext.refl wr).drew).trans hx
      have d1:=(mD.cell g j wS).trans c1
      have d2:=(mD.cell g (j-1) wS).trans c2
      have g1:=(mD.frozen ⟨g,j,none⟩).trans fz1
      have g2:=(mD.frozen ⟨g,j-1,none⟩).trans fz2
      have rW:=aD wS mD.size
      have tI:=aA mD
      clear hx mD Mm c1 c2 fz1 fz2
      go_wp2_with fail
      refine ED [0,1,2,3,4,5,6,7,10,11] [8,9,12,13] 14 [15,16,17] (by kernel_rfl) (by kernel_rfl) ?_
      simp only [fX,aC,aF,aB,aE,aM,aN]
      iterate 10 (refine KA (v:=?_) (by rfl) ?_ ?_;rotate_left;(· (intro u;go_simp;(try with_reducible rfl)));(try simp only [Act.put,aI,aK,aL]))
      simp only [HWR.out]
      refine NG ?_
      repeat (go_big_quiet_step (fail))
      refine wpQuiet_nil ?_
      go_wp2_with fail
      refine NoPanic.normal ?_
      have P3:=aA (show BD w g n L0 (((w2.setCell ⟨g,j,none⟩ (.int .i64 y)).setCell ⟨g,j-1,none⟩ (.int .i64 x)).drew) (swp L2 j) from by
       have T_:eV (fun k=>k=g) w2 ((w2.setCell ⟨g,j,none⟩ (.int .i64 y)).setCell ⟨g,j-1,none⟩ (.int .i64 x)):=((eV.refl (fun k=>k=g) w2).setCell (p:=⟨g,j,none⟩) (.inl rfl) _).setCell (p:=⟨g,j-1,none⟩) (.inl rfl) _
       have hr:=hM.out.1.row.later tI.out
       refine ⟨⟨fun i' Yp=>?_,fun i'=>(T_.frozen _).trans (hr.fz i'),by rw [show (((w2.setCell ⟨g,j,none⟩ (.int .i64 y)).setCell ⟨g,j-1,none⟩ (.int .i64 x)).drew).heap.size=w2.heap.size from by simp];exact hr.lt⟩,hM.out.1.same.swp hj0 (by omega),(hM.out.1.eA.trans (eV.dX tI.out (fun k=>k=g)) fun i hi=>.inl hi).trans T_.drew fun i hi=>.inl hi⟩
       show ((w2.setCell ⟨g,j,none⟩ (.int .i64 y)).setCell ⟨g,j-1,none⟩ (.int .i64 x)).cell? ⟨g,i',none⟩=_
       by_cases e3:i'=j-1
       ·subst e3
        rw [OH L2 hj0,HX.out]
        exact fP ((eD (fT (by omega))).trans d2)
       ·rw [eD (fT (Ne.symm e3))]
        by_cases e4:i'=j
        ·subst e4
         rw [OG,HY.out]
         exact fP d1
        ·rw [eD (fT (Ne.symm e4)),JC L2 e4 e3]
         exact hr.cell i' Yp)
      go_wp2_with fail
      go_roundw
      case rel=>exact ⟨j-1,swp L2 j,by rw [E1.out],by omega,aA ⟨P3.out,HWS.out⟩⟩
      case measure=>simp [intOf];omega
     ·rw [if_neg Fx,if_pos (HD.out Fx)] at Mm
      have HWS:=aA (hM.out.2.done (.inr (by rw [HX.out,HY.out];exact HD.out Fx)))
      go_wp2_with fail
      refine fC 14 (by kernel_rfl) (by kernel_rfl) ?_
      simp only [aB,aE,aC,aF]
      repeat (go_big_quiet_step (fail))
      refine wpQuiet_nil ?_
      go_wp2_with fail
      refine Mm.out.mono ?_
      rintro r w2 ⟨rfl,hx⟩
      have mD:Ext wr w2:=((Ext.refl wr).drew).trans hx
      have P3:=aA (show BD w g n L0 w2 L2 from ⟨hM.out.1.row.later mD,hM.out.1.same,hM.out.1.eA.trans (eV.dX mD (fun k=>k=g)) fun i hi=>.inl hi⟩)
      clear hx mD Mm
      go_wp2_with fail
      exact ⟨⟨i+1,L2,by go_num,.inl fK,aA ⟨P3.out,HWS.out⟩⟩,by simp [intOf];omega⟩
    ·obtain rfl:j=0:=by omega
     have HWS:=aA (hM.out.2.done (.inl rfl))
     have k0:decide ((0:Int)<((0:Nat):Int))=false:=rfl
     have P3:=aA (show BD w g n L0 wr.drew L2 from ⟨hM.out.1.row.later (Ext.refl _).drew,hM.out.1.same,hM.out.1.eA.trans ((eV.refl (fun k=>k=g) wr).drew) fun i hi=>.inl hi⟩)
     go_wp2_with fail
     refine fC 14 (by kernel_rfl) (by kernel_rfl) ?_
     simp only [aB,aE,aC,aF]
     repeat (go_big_quiet_step (fail))
     refine wpQuiet_nil ?_
     go_wp2_with fail
     exact ⟨⟨i+1,L2,by go_num,.inl fK,aA ⟨P3.out,HWS.out⟩⟩,by simp [intOf];omega⟩
  ·go_wp2_with fail
   go_returns
   refine ⟨rfl,L,hM.out.1,fun p q Zo hq=>hM.out.2 p q Zo (by omega) (by omega)⟩
theorem JD (g n cap:Nat) (cs:Array aO) (key:Int→Nat) (L0:Nat→Int) (w:aG) (h:LD w g n L0) (hn:n≤12) (Fk:n≤cap) (xK:cap≤maxLen) (h0:Same n L0 L0) (hk:∀i j,i<n→j<n→key (L0 i)=key (L0 j)→i=j)
  (HC:∀w' a b,eV (fun k=>k=g) w w'→a<n→b<n→aJ prog 71 (#[.int .i64 (L0 a),.int .i64 (L0 b)] ++ cs) w' fun r w''=>r= .returned (.int .i64 (if key (L0 a)<key (L0 b) then-1 else if key (L0 b)<key (L0 a) then 1 else 0))∧Ext w' w''):
  aJ prog 70 #[.slice (some ⟨g,0,none⟩) n cap,.func (.func 71) #[] cs] w fun r w'=>r= .returned (.tuple #[])∧∃L,BD w g n L0 w' L∧∀p q,p<q→q<n→key (L p)<key (L q):=by
 have HI:=aA (GB g n cap cs key L0 w h hn Fk xK h0 hk HC)
 have k12:decide ((n:Int)≤12)=true:=decide_eq_true (by omega)
 have HL6:=aA (Tryz.bits_Len64 (n:Int) w (by omega) (by omega))
 have HL:=aA (show aJ prog 116 #[.int .u64 n] w fun r w'=>(∃v:Int,r= .returned (.int .i64 v))∧w=w' from by
  go_enter func116,ntmps116
  go_wp2_with fail
  refine HL6.out.mono ?_
  rintro r w1 ⟨rfl,rfl⟩
  go_wp2_with fail
  go_returns
  exact ⟨⟨_,rfl⟩,rfl⟩)
 have hwr:IntKind.u64.wrap (n:Int)=(n:Int):=by rw [IntKind.wrap_u64];omega
 clear HC h h0 hk
 have HP:=aA (show ∀v:Int,aJ prog 115 #[.slice (some ⟨g,0,none⟩) n cap,.int .i64 0,.int .i64 n,.int .i64 v,.func (.func 71) #[] cs] w fun r w'=>r= .returned (.tuple #[])∧∃L,BD w g n L0 w' L∧∀p q,p<q→q<n→key (L p)<key (L q) from fun v=>by
  go_enter func115,ntmps115
  go_wp2_with fail
  refine wp_loop_rounds 1 ?_
  rw [rounds_succ]
  go_wp2_with fail
  refine HI.out.mono ?_
  rintro r w1 ⟨rfl,hp⟩
  have P4:=aA hp
  clear hp
  go_wp2_with fail
  go_returns
  exact ⟨rfl,P4.out⟩)
 go_enter func70,ntmps70
 go_wp2_with fail
 refine HL.out.mono ?_
 rintro r w1 ⟨⟨v,rfl⟩,rfl⟩
 go_wp2_with fail
 refine (HP.out v).mono ?_
 rintro r w1 ⟨rfl,hp⟩
 have P4:=aA hp
 clear hp
 go_wp2_with fail
 go_returns
 exact ⟨rfl,P4.out⟩
theorem JE (cs:Array aO) (n k:Nat) (w:aG) (hn:n≤1099511627776) (hk:k≤n)
  (H:∀i:Nat,i<n→∀w',Ext w w'→aJ prog 241 (#[.int .i64 i] ++ cs) w' fun r w''=>r= .returned (.bool (decide (k≤i)))∧Ext w' w''):
  aJ prog 176 #[.int .i64 n,.func (.func 241) #[] cs] w fun r w'=>r= .returned (.int .i64 k)∧Ext w w':=by
 have HC:=aA H
 clear H
 go_enter func176,ntmps176
 go_wp2_with fail
 go_loopw [5,6] (fun i j wr=>∃a c:Nat,i= .int .i64 a∧j= .int .i64 c∧a≤k∧k≤c∧c≤n∧Hid (Ext w wr)) (fun i j _=>(intOf j).toNat-(intOf i).toNat)
 case atStart=>exact ⟨0,n,rfl,rfl,by omega,hk,by omega,aA (Ext.refl _)⟩
 case round=>
  obtain ⟨a,c,rfl,rfl,LF,C9,Yh,hX⟩:=hrel
  by_cases fK:a<c
  ·obtain ⟨m,qR,mI,em⟩:∃m:Nat,a≤m∧m<c∧((a:Int)+(c:Int)) / 2=(m:Int):=⟨(a+c) / 2,by omega,by omega,by omega⟩
   have HM:=aA em
   have HD:=aA (HC.out m (by omega) wr hX.out)
   clear em
   by_cases hz:k≤m
   ·have HD:=HD.out
    rw [decide_eq_true hz] at HD
    have K4:=aA HD
    clear HD
    go_wp2_with (first | (rw [HM.out];go_at_call 241;refine K4.out.mono ?_;rintro r w5 ⟨rfl,hx⟩;have kJ:=aA (hX.out.trans hx);clear hx))
    go_roundw
    case rel=>exact ⟨a,m,rfl,rfl,LF,hz,by omega,kJ⟩
    case measure=>simp [intOf];omega
   ·have HD:=HD.out
    rw [decide_eq_false hz] at HD
    have K4:=aA HD
    clear HD
    go_wp2_with (first | (rw [HM.out];go_at_call 241;refine K4.out.mono ?_;rintro r w5 ⟨rfl,hx⟩;have kJ:=aA (hX.out.trans hx);clear hx))
    go_roundw
    case rel=>exact ⟨m+1,c,by go_num,rfl,by omega,C9,Yh,kJ⟩
    case measure=>simp [intOf];omega
  ·go_wp2_with fail
   go_ret
   obtain rfl:a=k:=by omega
   exact ⟨rfl,hX.out⟩
structure It where
 id:Int
 base:Nat
 kd:Kd
def Bh (x:It):Array aO:= #[.int .i64 x.id,.int .u64 x.base,.int .i64 (x.kd.kM:Nat),.bool x.kd.gJ,.bool x.kd.full,.bool x.kd.eT]
def mS (ps:List Nat):List aO:=ps.map fun q=>.pointer (some ⟨q,0,none⟩)
theorem WA (ps:List Nat):(mS ps).length=ps.length:=List.length_map ..
theorem WB {ps:List Nat} {i:Nat} (h:i<ps.length):(mS ps)[i]? =some (.pointer (some ⟨ps.getD i 0,0,none⟩)):=by
 unfold mS;simp [h,List.getD]
def rowOf (l:List (gR Kd)) (k:Kd):aO:=(eI l k).getD (.slice none 0 0)
theorem BE (w:aG):(zeroValue 225).run prog w= .ok (.slice none 0 0) w:=by kernel_rfl
theorem uM (w:aG):(zeroValue 222).run prog w= .ok (.pointer none) w:=by kernel_rfl
theorem Eu {w:aG} {B n:Nat} {e:TypeId} {p:Option Addr} {cap:Nat} {ps:List Nat} (h:w.ownsRow B e 1 (.slice p n cap) ps.length (mS ps)) {i:Nat} (hi:i<ps.length):
  ∃g,p=some ⟨g,0,none⟩∧n=ps.length∧n≤cap∧cap≤maxLen∧w.cell? ⟨g,i,none⟩=some (.pointer (some ⟨ps.getD i 0,0,none⟩))∧g<w.heap.size:=by
 obtain ⟨p',pJ,hv,h1,h2,h0 | ⟨g,rfl, -,h3⟩⟩:=dZ h
 ·omega
 ·cases hv
  exact ⟨g,rfl,rfl,h1,h2,(h.cellAt i (by omega)).trans (WB hi),h3⟩
theorem OI (q1 q2 base n cap j:Nat) (p:Option Addr) (it:Nat→It) (ps:List Nat) (w:aG) (h:w.ownsRow 0 222 1 (.slice p n cap) ps.length (mS ps))
  (hj:j<ps.length) (hi:∀q∈ps,eG w q 227 (Bh (it q)))
  (c1:w.cell? ⟨q1,0,none⟩=some (.slice p n cap)) (c2:w.cell? ⟨q2,0,none⟩=some (.int .u64 base)) (l1:q1<w.heap.size) (l2:q2<w.heap.size):
  aJ prog 241 #[.int .i64 j,.pointer (some ⟨q1,0,none⟩),.pointer (some ⟨q2,0,none⟩)] w fun r w'=>r= .returned (.bool (decide (base≤(it (ps.getD j 0)).base)))∧Ext w w':=by
 obtain ⟨g,rfl,hn,oX,sP,hc,hg⟩:=Eu h hj
 have hjn:j<n:=by omega
 have hb:=hi (ps.getD j 0) (by rw [List.getD_eq_getElem?_getD,List.getElem?_eq_getElem hj];exact List.getElem_mem _)
 have hq:w.cell? ⟨ps.getD j 0,1,none⟩=some (.int .u64 (it (ps.getD j 0)).base):=hb.cell 1
 have hql:=hb.lt
 clear h hi hb
 generalize ps.getD j 0=q at*
 generalize (it q).base=bb at*
 go_enter func241,ntmps241
 go_wp2_with fail
 go_quiet (fail)
 go_wp2
 go_ret
 exact ⟨rfl,by first | exact (Ext.refl _).eZ _ | exact (Ext.refl _).drew⟩
theorem Ha (b gk base i:Nat) (k:Kd) (l:List (gR Kd)) (c:Nat) (it:Nat→It) (ps:List Nat) (w:aG) (cb:w.cell? ⟨b,2,none⟩=some (.map (some gk))) (lb:b<w.heap.size) (hm:eH KK w gk l c) (hk:k.kM<68)
  (h:w.ownsRow 0 222 1 (rowOf l k) ps.length (mS ps)) (hn:ps.length≤1000) (hi:∀q∈ps,eG w q 227 (Bh (it q))) (wU:i≤ps.length) (hp:∀j,j<ps.length→decide (base≤(it (ps.getD j 0)).base)=decide (i≤j)):
  aJ prog 191 #[.pointer (some ⟨b,0,none⟩),k.v,.int .u64 base] w fun r w'=>r= .returned (.int .i64 i)∧Ext w w':=by
 have DM:∀x:gF w,(aH 183 (.map (some gk)) k.v false).run prog x.w= .ok (rowOf l k) x.w:=fun x=>(hm.ext x.ext).look hk underlying183 (BE x.w)
 obtain ⟨p,cap,hv, -, -, -⟩:=dZ h
 rw [hv] at h DM
 have HS:=aA fun (w':aG) (hx:Ext w w') (q1 q2:Nat) (c1:w'.cell? ⟨q1,0,none⟩=some (.slice p ps.length cap)) (c2:w'.cell? ⟨q2,0,none⟩=some (.int .u64 base)) (l1:q1<w'.heap.size) (l2:q2<w'.heap.size)=>
  JE #[.pointer (some ⟨q1,0,none⟩),.pointer (some ⟨q2,0,none⟩)] ps.length i w' (by omega) wU fun j hj w2 lV=>by
   have:=OI q1 q2 base ps.length cap j p it ps w2 (dY h (hx.trans lV).below) hj (fun q hq=>(hi q hq).later (hx.trans lV)) ((lV.cell _ _ l1).trans c1) ((lV.cell _ _ l2).trans c2) (aD l1 lV.size) (aD l2 lV.size)
   rw [hp j hj] at this
   exact this
 have OJ:k.v= .agg #[.int .i64 (k.kM:Nat),.bool k.gJ,.bool k.full,.bool k.eT]:=rfl
 rw [OJ] at DM ⊢
 clear h hi hp hv hm
 obtain ⟨k1,k2,k3,k4⟩:=k
 dsimp only at*
 generalize ps.length=n at*
 have jE:Ext w (w.alloc (.cells #[.int .i64 (k1:Nat),.bool k2,.bool k3,.bool k4] 224)):=(Ext.refl w).alloc _ _
 have lV:=jE.alloc #[.int .u64 (base:Nat)] 34
 have lL:=(lV.drew).alloc #[.slice none 0 0] 225
 have B1:eG ((w.alloc (.cells #[.int .i64 (k1:Nat),.bool k2,.bool k3,.bool k4] 224)).alloc (.cells #[.int .u64 (base:Nat)] 34)) w.heap.size 224 #[.int .i64 (k1:Nat),.bool k2,.bool k3,.bool k4]:=(eG.new w _ _).alloc _
 have B2:=eG.new (w.alloc (.cells #[.int .i64 (k1:Nat),.bool k2,.bool k3,.bool k4] 224)) 34 #[.int .u64 (base:Nat)]
 rw [aG.size_alloc] at B2
 have HX:=aA lV
 have qJ:((w.alloc (.cells #[.int .i64 (k1:Nat),.bool k2,.bool k3,.bool k4] 224)).alloc (.cells #[.int .u64 (base:Nat)] 34)).heap.size=w.heap.size+2:=by rw [aG.size_alloc,aG.size_alloc]
 have S0:∀w',Ext ((w.alloc (.cells #[.int .i64 (k1:Nat),.bool k2,.bool k3,.bool k4] 224)).alloc (.cells #[.int .u64 (base:Nat)] 34)) w'→w'.cell? ⟨b,2,none⟩=some (.map (some gk))∧w'.cell? ⟨w.heap.size,0,none⟩=some (.int .i64 (k1:Nat))∧w'.cell? ⟨w.heap.size,1,none⟩=some (.bool k2)∧w'.cell? ⟨w.heap.size,2,none⟩=some (.bool k3)∧w'.cell? ⟨w.heap.size,3,none⟩=some (.bool k4)∧
   (aH 183 (.map (some gk)) (.agg #[.int .i64 (k1:Nat),.bool k2,.bool k3,.bool k4]) false).run prog w'= .ok (.slice p n cap) w':=fun w' hx=>⟨((HX.out.trans hx).cell _ _ lb).trans cb,(B1.later hx).cell 0,(B1.later hx).cell 1,(B1.later hx).cell 2,(B1.later hx).cell 3,DM ⟨w',HX.out.trans hx⟩⟩
 have Vu:=aA S0
 clear DM jE lV lL S0 cb B1
 go_enter func191,ntmps191
 go_wp2_with fail
 refine eN (fun w'=>w'.cell? ⟨b,2,none⟩=some (.map (some gk))∧w'.cell? ⟨w.heap.size,0,none⟩=some (.int .i64 (k1:Nat))∧w'.cell? ⟨w.heap.size,1,none⟩=some (.bool k2)∧w'.cell? ⟨w.heap.size,2,none⟩=some (.bool k3)∧w'.cell? ⟨w.heap.size,3,none⟩=some (.bool k4)∧
   (aH 183 (.map (some gk)) (.agg #[.int .i64 (k1:Nat),.bool k2,.bool k3,.bool k4]) false).run prog w'= .ok (.slice p n cap) w') [0,1,2,3,4,5] [6] 7 (by kernel_rfl) (by kernel_rfl) (Vu.out _ (Ext.refl _).drew) ?_
 simp only [fX,aC,aF,aB,aE,aM,aN]
 iterate 6 (refine fI (v:=?_) (by rfl) ?_ ?_;rotate_left;(· (intro u gP;obtain ⟨hSa,hSb,hSc,hSd,hSe,hSf⟩:=gP;go_simp;(try with_reducible rfl)));(try simp only [Act.put,aI,aK,aL]))
 refine fS ?_
 refine dV ?_
 go_wp2_with fail
 refine ⟨Vu.out _ ((Ext.refl _).drew.alloc _ _),?_⟩
 refine fJ ?_
 go_wp2_with fail
 refine NoPanic.normal ?_
 have B4:=eG.new ((w.alloc (.cells #[.int .i64 (k1:Nat),.bool k2,.bool k3,.bool k4] 224)).alloc (.cells #[.int .u64 (base:Nat)] 34)) 225 #[.slice p n cap]
 rw [qJ] at B4
 have pF:=aA (HX.out.alloc #[.slice p n cap] 225).drew
 have HC:=aA (HS.out _ pF.out (w.heap.size+2) (w.heap.size+1) ((Ext.refl _).drew.cell _ _ B4.lt |>.trans (B4.cell 0)) ((Ext.refl _).drew.cell _ _ (B2.alloc _).lt |>.trans ((B2.alloc _).cell 0)) B4.lt (B2.alloc _).lt)
 go_wp2_with (first | (go_at_call 176;refine HC.out.mono ?_;rintro r w5 ⟨rfl,hx⟩;have kJ:=aA (pF.out.trans hx);clear hx))
 go_returns
 exact ⟨rfl,kJ.out⟩
def LG (a b:Nat):Int:=if a<b then-1 else if b<a then 1 else 0
theorem LH (a b:Nat) (w:aG):aJ prog 72 #[.int .u64 a,.int .u64 b] w fun r w'=>r= .returned (.int .i64 (LG a b))∧w=w':=by
 have HN:=aA fun (x:Nat)=>show aJ prog 117 #[.int .u64 x] w fun r w'=>r= .returned (.bool false)∧w=w' from by
  go_enter func117,ntmps117
  go_wp2_with fail
  go_returns
  exact ⟨by simp,rfl⟩
 by_cases h1:a<b
 ·have HR:=aA (show LG a b= -1 by unfold LG;rw [if_pos h1])
  go_enter func72,ntmps72
  go_wp2_with (first | (go_at_call 117;refine (HN.out _).mono ?_;rintro r w1 ⟨rfl,rfl⟩))
  go_returns
  exact ⟨by rw [HR.out];rfl,rfl⟩
 ·by_cases h2:b<a
  ·have HR:=aA (show LG a b=1 by unfold LG;rw [if_neg h1,if_pos h2])
   go_enter func72,ntmps72
   go_wp2_with (first | (go_at_call 117;refine (HN.out _).mono ?_;rintro r w1 ⟨rfl,rfl⟩))
   go_returns
   exact ⟨by rw [HR.out];rfl,rfl⟩
  ·have HR:=aA (show LG a b=0 by unfold LG;rw [if_neg h1,if_neg h2])
   have k1:decide (a<b)=false:=decide_eq_false h1
   have k2:decide (b<a)=false:=decide_eq_false h2
   go_enter func72,ntmps72
   go_wp2_with (first | (go_at_call 117;refine (HN.out _).mono ?_;rintro r w1 ⟨rfl,rfl⟩))
   go_returns
   exact ⟨by rw [HR.out];rfl,rfl⟩
def jP (h:HS) (id:Int):Nat:=match eI h.sp id with
 | some (.pointer (some a))=>(h.st a.block).s.base
 | _=>0
section
variable {z:Nat→Nat} {w:aG} {k:yK} {h:HS}
theorem rN {id:Int} {b:Nat} (hl:eI h.sp id=some (.pointer (some ⟨b,0,none⟩))):jP h id=(h.st b).s.base:=by
 unfold jP;rw [hl]
theorem OK (a b ba bb q:Nat) (ia ib:Int) (h1:eX w z k h) (ha:(Lit.int .i64 ia).wf=true) (hb:(Lit.int .i64 ib).wf=true) (la:eI h.sp ia=some (.pointer (some ⟨ba,0,none⟩))) (lb:eI h.sp ib=some (.pointer (some ⟨bb,0,none⟩)))
  (cq:w.cell? ⟨q,0,none⟩=some (.pointer (some ⟨k.hb,0,none⟩))) (lq:q<w.heap.size):
  aJ prog 71 #[.int .i64 ia,.int .i64 ib,.pointer (some ⟨q,0,none⟩)] w fun r w'=>r= .returned (.int .i64 (LG (jP h ia) (jP h ib)))∧Ext w w':=by
 rw [rN la,rN lb]
 have sa:=h1.rM.at la
 have sb:=h1.rM.at lb
 have c1:=kU cq lq
 have c2:=kU h1.hc.c4 h1.hc.lt
 have HI1:=aA fun x:gF w=>kT (fD.lG ba _ _ _ _ x.w (sa.is.later x.ext))
 have HI2:=aA fun x:gF w=>kT (fD.lG bb _ _ _ _ x.w (sb.is.later x.ext))
 have l1:∀x:gF w,(aH 137 (.map (some k.gs)) (.int .i64 ia) false).run prog x.w= .ok (.pointer (some ⟨ba,0,none⟩)) x.w:=fun x=>by
  have:=(h1.Ab.1.ext x.ext).look (x:=ia) ha underlying137 (BB x.w)
  rw [la] at this
  exact this
 have l2:∀x:gF w,(aH 137 (.map (some k.gs)) (.int .i64 ib) false).run prog x.w= .ok (.pointer (some ⟨bb,0,none⟩)) x.w:=fun x=>by
  have:=(h1.Ab.1.ext x.ext).look (x:=ib) hb underlying137 (BB x.w)
  rw [lb] at this
  exact this
 have HC:=aA fun (x:gF w)=>NF (LH (h.st ba).s.base (h.st bb).s.base x.w)
 clear h1 la lb sa sb cq
 generalize (h.st ba).s=s1 at*
 generalize (h.st bb).s=s2 at*
 obtain ⟨jM,gV,AF,mY,iH,jZ,iE,iS,iK,kA,oN,tC⟩:=s1
 obtain ⟨D0,P5,P6,aKv,P7,aD5,P8,aD6,P9,aD7,aKw,aPx⟩:=s2
 simp only [fD.kR] at HI1 HI2
 dsimp only at*
 have hf1:∀w:aG,(aP 98 (.agg #[.int .u64 jM,.int .i64 gV,.int .i64 AF,.int .i64 mY,.bool iH,.int .i64 jZ,.int .i64 iE,.int .i64 iS,.bool iK,.bool kA]) 0).run prog w= .ok (.int .u64 jM) w:=fun _=>by kernel_rfl
 have hf2:∀w:aG,(aP 98 (.agg #[.int .u64 D0,.int .i64 P5,.int .i64 P6,.int .i64 aKv,.bool P7,.int .i64 aD5,.int .i64 P8,.int .i64 aD6,.bool P9,.bool aD7]) 0).run prog w= .ok (.int .u64 D0) w:=fun _=>by kernel_rfl
 go_enter func71,ntmps71
 go_wp2_with fail
 refine gE w (by kernel_rfl) (by kernel_rfl) (Ext.refl _) ?_
 repeat (go_big_quiet_step (first | (go_at_call 28;first | (with_reducible exact HI1.out _) | (with_reducible exact HI2.out _)) | (go_at_call 72;exact HC.out _)))
 refine wpQuiet_nil ?_
 rintro ⟨w7,D1⟩
 dsimp only
 go_wp2_with fail
 go_returns
 exact ⟨rfl,D1⟩
end
end Go.Proofs.YtgknoidliabanaaGreatDoor
