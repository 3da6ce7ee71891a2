/- TopEvery holds: MAM. -/
import Derived.Test.YtgknoidliabanaaGreatDoorMAL
set_option linter.unusedVariables false
set_option linter.unusedSimpArgs false
set_option linter.unusedSectionVars false
set_option maxRecDepth 20000
set_option maxHeartbeats 8000000
namespace Go.Proofs.YtgknoidliabanaaGreatDoor
open Go.RowKit _root_.Go.Proofs.Tryz
open Lib renaming hid→aA,ctz→aB
open Bool renaming and_eq_true→aC
open Nat renaming lt_of_lt_of_le→aD,and_lt_two_pow→aF,zero_testBit→aG,testBit_and→aH,pow_succ→aI,le_trans→aJ
open World renaming size_setCell→aE
namespace fD
def zB (U M:Nat→Bool):Nat→Bool:=fun j=>M j && !U j
theorem AB (f g:Nat→Bool) (k:Nat):word f k &&& (18446744073709551615-word g k)=word (fun j=>f j && !g j) k:=by
 refine qZ (aF _ (by omega)) fun j hj=>?_
 have hm:=word_lt g k
 rw [aH,jR f k j hj,show 18446744073709551615-word g k=2 ^ 64-(word g k+1) by omega,Nat.testBit_two_pow_sub_succ hm,jR g k j hj]
 rw [show decide (j<64)=true by simpa using hj,Bool.true_and]
theorem vI {f:Nat→Bool} {k:Nat} (h:word f k=0) (j:Nat) (hj:j / 64=k):f j=false:=by
 have:=jR f k (j % 64) (by omega)
 rw [h,aG,show 64*k+j % 64=j by omega] at this
 exact this.symm
theorem Av {f:Nat→Bool} {k:Nat} (h:word f k≠0):∃j,f j=true:=by
 refine Classical.byContradiction fun hn=>h ?_
 refine (qZ (x:=0) (by decide) fun j _=>?_).symm
 rw [aG]
 cases e:f (64*k+j)
 ·rfl
 ·exact absurd ⟨_,e⟩ hn
theorem Rr (b:Nat) (s:Sp) (uv mv:Value) (nu nm:Nat) (U M:Nat→Bool) (w:World) (h:jN w b s uv mv nu nm U M):
  Calls prog 242 #[.pointer (some ⟨b,0,none⟩)] w fun r w'=>∃z:Bool,r= .returned (.bool z)∧(z=false→∀j,zB U M j=false)∧(z=true→∃j,zB U M j=true)∧w=w':=by
 obtain ⟨pm,Rs,rfl,qR,mI,Gp⟩:=h.sS.form
 obtain ⟨pu,Ir,rfl,hu1,hu2,hu3⟩:=h.oK.form
 have YQ:w.cell? ⟨b,11,none⟩=some (.slice pu nu Ir):=h.cells 11 (by omega)
 have c12:w.cell? ⟨b,12,none⟩=some (.slice pm nm Rs):=h.cells 12 (by omega)
 have hmf:=h.sS.tT
 have huf:=h.oK.tT
 have B3:=aA h.sS.clear
 have O2:=aA h.oK.clear
 have HU:=aA hu3
 have HM:=aA Gp
 clear h hu3 Gp
 go_enter func242,ntmps242
 go_wp2_with fail
 go_loopw [10] (fun vi wr=>∃k:Nat,k≤nm∧vi= .int .i64 k∧wr=w∧Hid (∀j,j<64*k→zB U M j=false)) (fun vi _=>nm-(intOf vi).toNat)
 case atStart=>exact ⟨0,by omega,rfl,rfl,aA (fun j hj=>by omega)⟩
 case round=>
  obtain ⟨k,hk,rfl,rfl,hZ⟩:=hrel
  by_cases fK:k<nm
  ·have Gp:=HM.out
   rcases Gp with Gp | ⟨gm,rfl, -, -, -,sO, -⟩
   ·omega
   have oX:=sO k fK
   clear sO HM
   have K2:(k:Int)<nm:=by omega
   by_cases hku:k<nu
   ·have hu3:=HU.out
    rcases hu3 with hu3 | ⟨gu,rfl, -, -, -,ZJ, -⟩
    ·omega
    have sP:=ZJ k hku
    clear ZJ HU
    have aKd:(k:Int)<nu:=by omega
    have HA:=aA (u64_andNot_nat (word M k) (word U k) (word_lt _ _) (word_lt _ _))
    have HW:=aA (AB M U k)
    generalize word M k=x at*
    generalize word U k=y at*
    by_cases hz:x &&& (18446744073709551615-y)=0
    ·have HN:=aA (show ∀j,j<64*(k+1)→zB U M j=false from fun j hj=>by
      by_cases hj':j<64*k
      ·exact hZ.out j hj'
      ·have:=HW.out
       rw [hz] at this
       exact vI this.symm j (by omega))
     have hA:=HA.out
     rw [hz] at hA
     clear HA HW B3 O2
     go_wp2_with fail
     go_roundw
     case rel=>exact ⟨k+1,fK,by go_num,trivial,HN⟩
     case measure=>simp [intOf];omega
    ·have HN:=aA (show ∃j,zB U M j=true from Av (f:=zB U M) (k:=k) (by rw [show word (zB U M) k=x &&& (18446744073709551615-y) from HW.out.symm];exact hz))
     have hA:=HA.out
     generalize x &&& (18446744073709551615-y)=z at*
     have k1:((z:Int)==0)=false:=beq_eq_false_iff_ne.2 (by omega)
     clear HA HW B3 O2
     go_wp2_with fail
     go_ret
     exact ⟨true,rfl,(by simp),fun _=>HN.out,rfl⟩
   ·have HW:=aA (show word M k=word (zB U M) k from lO fun j hj=>by
     unfold zB
     rw [O2.out (64*k+j) (by omega)];simp)
    generalize word M k=x at*
    have aKd:decide ((k:Int)<nu)=false:=decide_eq_false (by omega)
    by_cases hz:x=0
    ·have HN:=aA (show ∀j,j<64*(k+1)→zB U M j=false from fun j hj=>by
      by_cases hj':j<64*k
      ·exact hZ.out j hj'
      ·have:=HW.out
       rw [hz] at this
       exact vI this.symm j (by omega))
     subst hz
     clear HW B3 O2
     go_wp2_with fail
     go_roundw
     case rel=>exact ⟨k+1,fK,by go_num,trivial,HN⟩
     case measure=>simp [intOf];omega
    ·have HN:=aA (show ∃j,zB U M j=true from Av (f:=zB U M) (k:=k) (by rw [←HW.out];exact hz))
     have k1:((x:Int)==0)=false:=beq_eq_false_iff_ne.2 (by omega)
     clear HW B3 O2
     go_wp2_with fail
     go_ret
     exact ⟨true,rfl,(by simp),fun _=>HN.out,rfl⟩
  ·obtain rfl:k=nm:=by omega
   have HN:=aA (show ∀j,zB U M j=false from fun j=>by
    by_cases hj:j<64*k
    ·exact hZ.out j hj
    ·unfold zB;rw [B3.out j (by omega)];rfl)
   clear B3 O2
   go_wp2_with fail
   go_ret
   exact ⟨false,rfl,fun _=>HN.out,(by simp),rfl⟩
theorem Gq (b:Nat) (s:Sp) (uv mv:Value) (nu nm:Nat) (U M:Nat→Bool) (w:World) (h:jN w b s uv mv nu nm U M) (hz:∀j,zB U M j=false):
  Calls prog 242 #[.pointer (some ⟨b,0,none⟩)] w fun r w'=>r= .returned (.bool false)∧w=w':=by
 refine (Rr b s uv mv nu nm U M w h).mono ?_
 rintro r w' ⟨z,rfl,h1,h2,rfl⟩
 cases z
 ·exact ⟨rfl,rfl⟩
 ·obtain ⟨j,hj⟩:=h2 rfl
  rw [hz j] at hj;cases hj
def kR (s:Sp):List Value:= [.int .u64 s.base,.int .i64 s.dU,.int .i64 s.state,.int .i64 s.kM,.bool s.gJ,.int .i64 s.elem,.int .i64 s.eO,.int .i64 s.used,.bool s.eT,.bool s.held]
theorem lG (b:Nat) (F:Nat→Prop) (s:Sp) (U M:Nat→Bool) (w:World) (h:iW w b F s U M):
  Calls prog 28 #[.pointer (some ⟨b,0,none⟩)] w fun r w'=>r= .returned (.agg (kR s).toArray)∧Ext w w':=by
 obtain ⟨uv,mv,nu,nm,h1,h2⟩:=h.at_
 have c0:w.cell? ⟨b,0,none⟩=some (.int .u64 s.base):=h1.cells 0 (by omega)
 have c1:w.cell? ⟨b,1,none⟩=some (.int .i64 s.dU):=h1.cells 1 (by omega)
 have c2:w.cell? ⟨b,2,none⟩=some (.int .i64 s.state):=h1.cells 2 (by omega)
 have c3:w.cell? ⟨b,3,none⟩=some (.int .i64 s.kM):=h1.cells 3 (by omega)
 have c4:w.cell? ⟨b,4,none⟩=some (.bool s.gJ):=h1.cells 4 (by omega)
 have c5:w.cell? ⟨b,5,none⟩=some (.int .i64 s.elem):=h1.cells 5 (by omega)
 have c6:w.cell? ⟨b,6,none⟩=some (.int .i64 s.eO):=h1.cells 6 (by omega)
 have c7:w.cell? ⟨b,7,none⟩=some (.int .i64 s.used):=h1.cells 7 (by omega)
 have c8:w.cell? ⟨b,8,none⟩=some (.bool s.eT):=h1.cells 8 (by omega)
 have c9:w.cell? ⟨b,9,none⟩=some (.bool s.held):=h1.cells 9 (by omega)
 have fK:=h1.lt
 have gO:b≠w.heap.size:=by omega
 have VS:w.heap.size≠b:=by omega
 have f9:=h1.fz
 clear h h1 h2
 go_enter func28,ntmps28
 go_wp2_with fail
 refine bodyPost_ret (v:=.agg (kR s).toArray) ?c1 ?c2 ?c3
 case c1=>simp [results,results28,go_sem,kR]
 case c2=>rfl
 case c3=>
  exact ⟨rfl,(Ext.refl _).alloc _ _⟩
end fD
namespace fD
def Bu (g:Nat→Bool) (c:Nat):List Nat:=(List.range c).filter g
theorem Is (g:Nat→Bool) (c:Nat):(Bu g c).length≤c:=by
 have:=List.length_filter_le g (List.range c)
 rwa [List.length_range] at this
theorem xG (g:Nat→Bool) (c:Nat):∀d,(∀i,c≤i→i<c+d→g i=false)→Bu g (c+d)=Bu g c
 | 0,_=>rfl
 | d+1,h=>by
  have ih:=xG g c d (fun i h1 h2=>h i h1 (by omega))
  unfold Bu at ih ⊢
  rw [show c+(d+1)=(c+d)+1 by omega,List.range_succ,List.filter_append,ih]
  simp [h (c+d) (by omega) (by omega)]
theorem VT (g:Nat→Bool) (c j:Nat) (hc:c≤j) (hj:g j=true) (h:∀i,c≤i→i<j→g i=false):Bu g (j+1)=Bu g c ++ [j]:=by
 have e:=xG g c (j-c) (fun i h1 h2=>h i h1 (by omega))
 rw [show c+(j-c)=j by omega] at e
 rw [←e]
 unfold Bu
 rw [List.range_succ,List.filter_append]
 simp [hj]
theorem Ru (x:Nat) (hx:x<18446744073709551616) (h0:x≠0) (i:Nat):(x &&& (x-1)).testBit i=(x.testBit i && !decide (i=aB 64 x)):=by
 have e:aB 64 x=Lib.ctzFrom 64 x:=by unfold aB;rw [if_neg h0]
 rw [e]
 obtain ⟨m,hm,fK⟩:=Lib.ctzFrom_spec 64 x (by omega) (by simpa using hx)
 generalize Lib.ctzFrom 64 x=c at*
 have hp:0<2 ^ c:=Nat.two_pow_pos c
 have e1:x=2 ^ (c+1)*m+2 ^ c:=by rw [hm,aI,Nat.mul_add,Nat.mul_one,Nat.mul_assoc]
 have e2:x-1=2 ^ (c+1)*m+(2 ^ c-1):=by omega
 have l1:2 ^ c<2 ^ (c+1):=by rw [aI];omega
 rw [aH,e2,e1,Nat.testBit_two_pow_mul_add m l1,Nat.testBit_two_pow_mul_add m (show 2 ^ c-1<2 ^ (c+1) by omega)]
 by_cases h1:i<c+1
 ·rw [if_pos h1,if_pos h1,Nat.testBit_two_pow_sub_one,Nat.testBit_two_pow]
  by_cases h2:i=c
  ·subst h2;simp
  ·simp [h2,Ne.symm h2]
 ·rw [if_neg h1,if_neg h1]
  rw [decide_eq_false (show ¬i=c by omega)]
  simp
def oL (g:Nat→Bool) (c k:Nat):Nat:=word (fun j=>g j && decide (c≤j)) k
theorem rB (g:Nat→Bool) (c k:Nat):oL g c k<18446744073709551616:=word_lt _ _
theorem uB (g:Nat→Bool) (k:Nat):word g k=oL g (64*k) k:=lO fun j hj=>by simp
theorem Aw (g:Nat→Bool) (c k:Nat) (h:oL g c k=0) (i:Nat) (h1:c≤i) (h2:i / 64=k):g i=false:=by
 have:=vI h i h2
 simpa [h1] using this
theorem Kg (g:Nat→Bool) (c k:Nat) (h:oL g c k≠0):aB 64 (oL g c k)<64∧c≤64*k+aB 64 (oL g c k)∧g (64*k+aB 64 (oL g c k))=true∧(∀i,64*k≤i→c≤i→i<64*k+aB 64 (oL g c k)→g i=false)∧oL g c k &&& (oL g c k-1)=oL g (64*k+aB 64 (oL g c k)+1) k:=by
 obtain ⟨a1,a2,a3⟩:=Ar _ (rB g c k) h
 have hl:=Ru _ (rB g c k) h
 have hb:∀j,j<64→(oL g c k).testBit j=(g (64*k+j) && decide (c≤64*k+j)):=fun j hj=>jR _ k j hj
 have Up:=rB g c k
 generalize hx:oL g c k=x at*
 generalize aB 64 x=t at*
 rw [hb t a1] at a2
 simp only [aC,decide_eq_true_eq] at a2
 have hz:∀i,64*k≤i→c≤i→i<64*k+t→g i=false:=fun i h1 h2 h3=>by
  have:=a3 (i-64*k) (by omega)
  rw [hb _ (by omega),show 64*k+(i-64*k)=i by omega] at this
  simpa [h2] using this
 refine ⟨a1,a2.2,a2.1,hz,?_⟩
 refine qZ (aF _ (by omega)) fun j hj=>?_
 rw [hl j,hb j hj]
 by_cases h1:j=t
 ·subst h1
  rw [decide_eq_true rfl,decide_eq_false (show ¬64*k+j+1≤64*k+j by omega)];simp
 ·rw [decide_eq_false h1]
  by_cases h2:j<t
  ·rw [decide_eq_false (show ¬64*k+t+1≤64*k+j by omega)]
   by_cases h3:c≤64*k+j
   ·rw [hz (64*k+j) (by omega) h3 (by omega)];rfl
   ·rw [decide_eq_false h3];simp
  ·rw [decide_eq_true (show 64*k+t+1≤64*k+j by omega),decide_eq_true (show c≤64*k+j by omega)];simp
theorem xH (x:Nat) (hx:x<18446744073709551616) (h0:x≠0):bits .and .u64 (x:Int) ((x:Int)-1)=((x &&& (x-1):Nat):Int):=by
 rw [show (x:Int)-1=((x-1:Nat):Int) by omega]
 exact u64_and_nat x (x-1) hx (by omega)
end fD
namespace fD
theorem Fz:(prog.info? 3).map (fun i=>(i.zero,i.size,i.bytes))=some (some (.int .i64 0),1,8):=by kernel_rfl
def gB (U M:Nat→Bool):Nat→Bool:=fun j=>U j && !M j
def sU (U M:Nat→Bool) (k:Nat):Nat→Bool:=fun j=>U j && (M j || decide (64*k≤j))
def ints (l:List Nat):List Value:=l.map fun j=>.int .i64 (j:Nat)
theorem Rv (l:List Nat) (j:Nat):ints (l ++ [j])=ints l ++ [.int .i64 (j:Nat)]:=by unfold ints;simp
theorem ZK (U M:Nat→Bool) (k:Nat):word (sU U M k) k=word U k:=lO fun j hj=>by unfold sU;simp
theorem VU (U M:Nat→Bool) (k:Nat):word U k &&& (18446744073709551615-word (gB U M) k)=word (sU U M (k+1)) k:=by
 rw [AB]
 refine lO fun j hj=>?_
 unfold gB sU
 rw [decide_eq_false (show ¬64*(k+1)≤64*k+j by omega)]
 cases U (64*k+j)<;>cases M (64*k+j)<;>rfl
structure qS (w wr:World) (b:Nat) (F:Nat→Prop) (s:Sp) (uv mv:Value) (nu nm:Nat) (U M:Nat→Bool) (v:Value) (k c:Nat):Prop where
 span:jN wr b s uv mv nu nm (sU U M k) M
 row:wr.ownsRow w.heap.size 3 1 v (Bu (gB U M) c).length (ints (Bu (gB U M) c))
 eA:eV F w wr
section
variable {w wr w1:World} {b:Nat} {F:Nat→Prop} {s:Sp} {uv mv v v':Value} {nu nm:Nat} {U M:Nat→Bool} {k c:Nat}
theorem qS.start (h:jN w b s uv mv nu nm U M):qS w w b F s uv mv nu nm U M (.slice none 0 0) 0 (64*0):=by
 refine ⟨?_,jQ _ _ _ _,eV.refl _ _⟩
 have:sU U M 0=U:=by funext j;unfold sU;simp
 rw [this];exact h
theorem qS.clear (h:qS w wr b F s uv mv nu nm U M v k c) (hF:∀g,uv.ownBlock=some g→F g) (fK:∀i,F i→i<w.heap.size) {g Ir:Nat} (hu:uv= .slice (some ⟨g,0,none⟩) nu Ir) (hk:k<nu) (x:Nat) (hx:word (sU U M (k+1)) k=x):qS w (wr.setCell ⟨g,k,none⟩ (.int .u64 (x:Nat))) b F s uv mv nu nm U M v (k+1) c:=by
 have hg:uv.ownBlock=some g:=by subst hu;rfl
 have hc:eV (fun i=>uv.ownBlock=some i) wr (wr.setCell ⟨g,k,none⟩ (.int .u64 (x:Nat))):=(eV.refl (fun i=>uv.ownBlock=some i) wr).setCell (p:=⟨g,k,none⟩) (.inl hg) _
 have hub:¬uv.ownBlock=some b:=fun e=>by have:=(eB h.span.oK.own b e).1;omega
 have lI:oB (wr.setCell ⟨g,k,none⟩ (.int .u64 (x:Nat))) (b+1) uv nu (sU U M (k+1)):=by
  have h0:=h.span.oK
  subst hu
  refine h0.O0 k hk x hx fun j hj=>?_
  unfold sU
  rw [show decide (64*(k+1)≤j)=decide (64*k≤j) from decide_eq_decide.2 (by omega)]
 refine ⟨⟨fun i hi=>(hc.cell h.span.lt hub).trans (h.span.cells i hi),fun i=>(hc.frozen _).trans (h.span.fz i),aD h.span.lt hc.size,lI,h.span.sS.eA hc fun i hi e=>h.span.apart i e hi,h.span.apart⟩,fR h.row hc fun i hi e=>?_,h.eA.trans hc fun i hi=>.inl (hF i hi)⟩
 have h1:=(eB h.row i hi).1
 have h2:=fK i (hF i e)
 omega
theorem qS.skip (h:qS w wr b F s uv mv nu nm U M v k c) {d:Nat} (hcd:c≤d) (hz:∀i,c≤i→i<d→gB U M i=false):qS w wr b F s uv mv nu nm U M v k d:=by
 have e:=xG (gB U M) c (d-c) (fun i h1 h2=>hz i h1 (by omega))
 rw [show c+(d-c)=d by omega] at e
 refine ⟨h.span,?_,h.eA⟩
 rw [e];exact h.row
theorem qS.grown (h:qS w wr b F s uv mv nu nm U M v k c) (hF:∀g,(g=b∨uv.ownBlock=some g∨mv.ownBlock=some g)→F g) (fK:∀i,F i→i<w.heap.size) {cs:Array Value} {t:TypeId} {j:Nat} (hcj:c≤j) (hj:gB U M j=true) (hz:∀i,c≤i→i<j→gB U M i=false)
  (eP:w1.ownsRow w.heap.size 3 1 v' ((Bu (gB U M) c).length+1) (ints (Bu (gB U M) c) ++ [.int .i64 (j:Nat)])) (hc:eV (fun i=>v.ownBlock=some i) (wr.alloc (.cells cs t)) w1):qS w w1 b F s uv mv nu nm U M v' k (j+1):=by
 have hx:eV (fun i=>v.ownBlock=some i) wr w1:=((eV.refl (fun i=>v.ownBlock=some i) wr).alloc _ _).trans hc (fun i hi=>.inl hi)
 have hv:∀g,F g→¬v.ownBlock=some g:=fun g hg e=>by
  have h1:=(eB h.row g e).1
  have h2:=fK g hg
  omega
 refine ⟨⟨fun i hi=>(hx.cell h.span.lt (hv b (hF b (.inl rfl)))).trans (h.span.cells i hi),fun i=>(hx.frozen _).trans (h.span.fz i),aD h.span.lt hx.size,h.span.oK.eA hx fun g hg=>hv g (hF g (.inr (.inl hg))),h.span.sS.eA hx fun g hg=>hv g (hF g (.inr (.inr hg))),h.span.apart⟩,?_,h.eA.trans hx fun i hi=>.inr (eB h.row i hi).1⟩
 rw [VT (gB U M) c j hcj hj hz,Rv,List.length_append]
 exact eP
end
theorem VV (b:Nat) (F:Nat→Prop) (s:Sp) (uv mv:Value) (nu nm:Nat) (U M:Nat→Bool) (w:World) (h:jN w b s uv mv nu nm U M) (hF:∀g,(g=b∨uv.ownBlock=some g∨mv.ownBlock=some g)→F g) (fK:∀i,F i→i<w.heap.size) (h0:¬F 1) (hf:Fit s) (hd:s.state=1) (hz:∀j,zB U M j=false) (B5:∀j,U j=true→j<s.eO) (ht:nP w):
  Calls prog 195 #[.pointer (some ⟨b,0,none⟩)] w fun r w'=>∃v wr,r= .returned (.tuple #[v,.int .i64 0])∧qS w wr b F s uv mv nu nm U M v nu (64*nu)∧w'=((wr.setCell ⟨b,7,none⟩ (.int .i64 ((s.used:Int)-(Bu (gB U M) (64*nu)).length))).setCell ⟨b,12,none⟩ (.slice none 0 0)).setCell ⟨b,13,none⟩ (.int .i64 0):=by
 obtain ⟨i0,kS,lF,jT,jU⟩:=info_parts Fz
 have HZ:=aA (Gq b s uv mv nu nm U M w h hz)
 have HS:=aA (qS.start (F:=F) h)
 have c2:w.cell? ⟨b,2,none⟩=some (.int .i64 s.state):=h.cells 2 (by omega)
 rw [hd] at c2
 obtain ⟨pm,Rs,rfl,qR,mI, -⟩:=h.sS.form
 obtain ⟨pu,Ir,rfl,hu1,hu2, -⟩:=h.oK.form
 have YQ:w.cell? ⟨b,11,none⟩=some (.slice pu nu Ir):=h.cells 11 (by omega)
 have hmf:=h.sS.tT
 have huf:=h.oK.tT
 have B3:=aA h.sS.clear
 have O2:=aA h.oK.clear
 have EK:=hf.eO
 have hus:=hf.used
 have HF:=aA hF
 have HL:=aA fK
 have HUS:=aA B5
 have B6:=aA ht
 clear h hz hF fK B5 hf ht
 go_enter func195,ntmps195
 go_wp2_with (go_at_call 242;refine HZ.out.mono ?_;rintro r w1 ⟨rfl,rfl⟩)
 go_loopw [4,22] (fun v i wr=>∃k:Nat,k≤nu∧i= .int .i64 k∧Hid (qS w wr b F s (.slice pu nu Ir) (.slice pm nm Rs) nu nm U M v k (64*k))) (fun _ i _=>nu-(intOf i).toNat)
 case atStart=>exact ⟨0,by omega,rfl,HS⟩
 case round=>
  obtain ⟨k,hk,rfl,hR⟩:=hrel
  clear HS HZ c2 YQ
  have d7:wr.cell? ⟨b,7,none⟩=some (.int .i64 s.used):=hR.out.span.cells 7 (by omega)
  have d11:wr.cell? ⟨b,11,none⟩=some (.slice pu nu Ir):=hR.out.span.cells 11 (by omega)
  have d12:wr.cell? ⟨b,12,none⟩=some (.slice pm nm Rs):=hR.out.span.cells 12 (by omega)
  have d13:wr.cell? ⟨b,13,none⟩=some (.int .i64 s.look):=hR.out.span.cells 13 (by omega)
  have fb:=hR.out.span.fz
  by_cases hku:k<nu
  ·obtain ⟨p',pJ,he, -, -,hp⟩:=hR.out.span.oK.form
   cases he
   rcases hp with hp | ⟨gu,rfl, -, -, -,ZJ,hfu⟩
   ·omega
   have e11:=ZJ k hku
   rw [ZK] at e11
   have f11:=hfu k
   clear ZJ hfu
   have HN:=aA (hR.out.clear (fun g hg=>HF.out g (.inr (.inl hg))) HL.out rfl hku _ rfl)
   have K2:(k:Int)<nu:=by omega
   have tR:=aA (u64_andNot_nat (word U k) (word (gB U M) k) (word_lt _ _) (word_lt _ _))
   rw [VU,uB (gB U M) k] at tR
   obtain ⟨g,O3⟩:∃g,Hid (g=oL (gB U M) (64*k) k):=⟨_,aA rfl⟩
   rw [←O3.out] at tR
   by_cases hkm:k<nm
   ·obtain ⟨p2,Kh,he, -, -,hp⟩:=hR.out.span.sS.form
    cases he
    rcases hp with hp | ⟨gm,rfl, -, -, -,sO, -⟩
    ·omega
    have e12:=sO k hkm
    clear sO
    have aKe:(k:Int)<nm:=by omega
    have O4:=aA (u64_andNot_nat (word U k) (word M k) (word_lt _ _) (word_lt _ _))
    rw [show word U k &&& (18446744073709551615-word M k)=word (gB U M) k from AB U M k,uB (gB U M) k, ←O3.out] at O4
    generalize word U k=x at*
    generalize word M k=y at*
    generalize word (sU U M (k+1)) k=n at*
    have Ki:=O4.out
    have Aq:=tR.out
    clear O4 tR hR
    go_wp2_with fail
    go_loopg [4,6] (64*(k+1)-64*k) (fun gk v x wr=>∃c:Nat,64*k≤c∧c≤64*(k+1)∧gk=64*(k+1)-c∧x= .int .u64 (oL (gB U M) c k:Nat)∧Hid (qS w wr b F s (.slice (some ⟨gu,0,none⟩) nu Ir) (.slice (some ⟨gm,0,none⟩) nm Rs) nu nm U M v (k+1) c))
    case atStart=>exact ⟨64*k,Nat.le_refl _,by omega,rfl,by rw [O3.out],HN⟩
    case round=>
     obtain ⟨c,oX,sP,rfl,rfl,hI⟩:=hrel
     clear HN O3
     by_cases mD:oL (gB U M) c k=0
     ·have HN2:=aA (hI.out.skip (d:=64*(k+1)) sP (fun i h1 h2=>Aw _ c k mD i h1 (by omega)))
      rw [mD]
      clear mD hI
      go_wp2_with fail
      go_roundw
      case rel=>exact ⟨k+1,by omega,by go_num,HN2⟩
      case measure=>simp [intOf];omega
     ·obtain ⟨t1,t2,t3,t4,t5⟩:=Kg _ c k mD
      have HT:=aA (Bl (oL (gB U M) c k) wr (rB _ _ _) mD (B6.out.eA hI.out.eA h0))
      have hA:=xH _ (rB (gB U M) c k) mD
      rw [t5] at hA
      have hjs:64*k+aB 64 (oL (gB U M) c k)<s.eO:=HUS.out _ (by unfold gB at t3;simp only [aC] at t3;exact t3.1)
      have hlen:=Is (gB U M) c
      have Up:=rB (gB U M) c k
      have k1:((oL (gB U M) c k:Int)==0)=false:=beq_eq_false_iff_ne.2 (by omega)
      have T3:=aA t3
      have T4:=aA t4
      clear t3 t4 t5
      generalize oL (gB U M) c k=x at*
      generalize aB 64 x=t at*
      obtain ⟨x',HX⟩:∃x',Hid (x'=oL (gB U M) (64*k+t+1) k):=⟨_,aA rfl⟩
      rw [←HX.out] at hA
      obtain ⟨pv,VW,rfl, -, -, -⟩:=dZ hI.out.row
      generalize hm:(Bu (gB U M) c).length=m at*
      have HM:=aA hm
      clear hm
      go_wp2_with (first | (go_at_call 235;refine HT.out.mono ?_;rintro r w1 ⟨rfl,rfl⟩) | (at_builtin;refine dS w.heap.size _ rfl (.tmp 64) (.tmp 70) 22 rfl 3 i0 _ 1 8 underlying22 kS lF jT jU rfl (by decide) _ _ _ (by rfl) (by exact dY hI.out.row (((Ext.refl _).alloc _ _).below)) (.slice (some ⟨wr.heap.size,0,none⟩) 1 1) 1 [.int .i64 ((k:Int)*64+t)] (by rfl) (by exact jF wr [.int .i64 ((k:Int)*64+t)] _ 1 rfl) (by intro u hu;simp at hu;subst hu;rfl) (by rw [HM.out];unfold maxLen;omega) (by rw [HM.out];omega) (by have:=hI.out.eA.size;simp;omega) ?_) | fail)
      intro v' w1 eP gH kP
      have ej:(k:Int)*64+(t:Int)=((64*k+t:Nat):Int):=by omega
      rw [ej] at eP gH
      have HN:=aA (hI.out.grown HF.out HL.out (j:=64*k+t) t2 T3.out (fun i h1 h2=>T4.out i (by omega) h1 h2) eP gH)
      obtain ⟨p1,vC,rfl, -, -, -⟩:=dZ eP
      clear eP gH kP hI ej
      go_wp2_with fail
      go_roundg (64*(k+1)-(64*k+t+1))
      case measure=>omega
      case rel=>exact ⟨64*k+t+1,by omega,by omega,rfl,by rw [HX.out],HN⟩
   ·have hxg:word U k=g:=by
     rw [O3.out, ←uB (gB U M) k]
     refine lO fun j hj=>?_
     unfold gB
     rw [B3.out (64*k+j) (by omega)];simp
    rw [hxg] at tR e11
    clear hxg
    have aKe:decide ((k:Int)<nm)=false:=decide_eq_false (by omega)
    generalize word (sU U M (k+1)) k=n at*
    have Aq:=tR.out
    clear tR hR
    go_wp2_with fail
    go_loopg [4,6] (64*(k+1)-64*k) (fun gk v x wr=>∃c:Nat,64*k≤c∧c≤64*(k+1)∧gk=64*(k+1)-c∧x= .int .u64 (oL (gB U M) c k:Nat)∧Hid (qS w wr b F s (.slice (some ⟨gu,0,none⟩) nu Ir) (.slice pm nm Rs) nu nm U M v (k+1) c))
    case atStart=>exact ⟨64*k,Nat.le_refl _,by omega,rfl,by rw [O3.out],HN⟩
    case round=>
     obtain ⟨c,oX,sP,rfl,rfl,hI⟩:=hrel
     clear HN O3
     by_cases mD:oL (gB U M) c k=0
     ·have HN2:=aA (hI.out.skip (d:=64*(k+1)) sP (fun i h1 h2=>Aw _ c k mD i h1 (by omega)))
      rw [mD]
      clear mD hI
      go_wp2_with fail
      go_roundw
      case rel=>exact ⟨k+1,by omega,by go_num,HN2⟩
      case measure=>simp [intOf];omega
     ·obtain ⟨t1,t2,t3,t4,t5⟩:=Kg _ c k mD
      have HT:=aA (Bl (oL (gB U M) c k) wr (rB _ _ _) mD (B6.out.eA hI.out.eA h0))
      have hA:=xH _ (rB (gB U M) c k) mD
      rw [t5] at hA
      have hjs:64*k+aB 64 (oL (gB U M) c k)<s.eO:=HUS.out _ (by unfold gB at t3;simp only [aC] at t3;exact t3.1)
      have hlen:=Is (gB U M) c
      have Up:=rB (gB U M) c k
      have k1:((oL (gB U M) c k:Int)==0)=false:=beq_eq_false_iff_ne.2 (by omega)
      have T3:=aA t3
      have T4:=aA t4
      clear t3 t4 t5
      generalize oL (gB U M) c k=x at*
      generalize aB 64 x=t at*
      obtain ⟨x',HX⟩:∃x',Hid (x'=oL (gB U M) (64*k+t+1) k):=⟨_,aA rfl⟩
      rw [←HX.out] at hA
      obtain ⟨pv,VW,rfl, -, -, -⟩:=dZ hI.out.row
      generalize hm:(Bu (gB U M) c).length=m at*
      have HM:=aA hm
      clear hm
      go_wp2_with (first | (go_at_call 235;refine HT.out.mono ?_;rintro r w1 ⟨rfl,rfl⟩) | (at_builtin;refine dS w.heap.size _ rfl (.tmp 64) (.tmp 70) 22 rfl 3 i0 _ 1 8 underlying22 kS lF jT jU rfl (by decide) _ _ _ (by rfl) (by exact dY hI.out.row (((Ext.refl _).alloc _ _).below)) (.slice (some ⟨wr.heap.size,0,none⟩) 1 1) 1 [.int .i64 ((k:Int)*64+t)] (by rfl) (by exact jF wr [.int .i64 ((k:Int)*64+t)] _ 1 rfl) (by intro u hu;simp at hu;subst hu;rfl) (by rw [HM.out];unfold maxLen;omega) (by rw [HM.out];omega) (by have:=hI.out.eA.size;simp;omega) ?_) | fail)
      intro v' w1 eP gH kP
      have ej:(k:Int)*64+(t:Int)=((64*k+t:Nat):Int):=by omega
      rw [ej] at eP gH
      have HN:=aA (hI.out.grown HF.out HL.out (j:=64*k+t) t2 T3.out (fun i h1 h2=>T4.out i (by omega) h1 h2) eP gH)
      obtain ⟨p1,vC,rfl, -, -, -⟩:=dZ eP
      clear eP gH kP hI ej
      go_wp2_with fail
      go_roundg (64*(k+1)-(64*k+t+1))
      case measure=>omega
      case rel=>exact ⟨64*k+t+1,by omega,by omega,rfl,by rw [HX.out],HN⟩
  ·obtain rfl:k=nu:=by omega
   obtain ⟨pv,VW,rfl, -, -, -⟩:=dZ hR.out.row
   have hlen:=Is (gB U M) (64*k)
   go_wp2_with fail
   go_ret2
   exact ⟨_,_,rfl,hR.out,rfl⟩
end fD
namespace fD
theorem iW.sub {w:World} {b:Nat} {F F':Nat→Prop} {s:Sp} {U M:Nat→Bool} (h:iW w b F s U M) (hs:∀k,F k→F' k) (hl:∀k,F' k→k<w.heap.size):iW w b F' s U M:=by
 obtain ⟨⟨uv,mv,nu,nm,h1,h2⟩,h3,h4⟩:=h
 exact ⟨⟨uv,mv,nu,nm,h1,fun k hk=>hs k (h2 k hk)⟩,hl,h4⟩
def mX (s:Sp) (m:Nat):Sp:= { s with used:=s.used-m,look:=0 }
theorem O5 (g:Nat→Bool) (c d:Nat) (h:∀i,g i=true→i<c∧i<d):Bu g c=Bu g d:=by
 have hf:∀i,¬(i<c∧i<d)→g i=false:=fun i hi=>by
  cases e:g i
  ·rfl
  ·exact absurd (h i e) hi
 rcases Nat.le_total c d with hcd | hcd
 ·have:=xG g c (d-c) (fun i h1 h2=>hf i (by omega))
  rw [show c+(d-c)=d by omega] at this
  exact this.symm
 ·have:=xG g d (c-d) (fun i h1 h2=>hf i (by omega))
  rw [show d+(c-d)=c by omega] at this
  exact this
theorem Rw (b:Nat) (F:Nat→Prop) (s:Sp) (U M:Nat→Bool) (w:World) (h:iW w b F s U M) (h0:¬F 1) (hd:s.state=1) (hz:∀j,zB U M j=false) (B5:∀j,U j=true→j<s.eO) (ht:nP w) (hc:(Bu (gB U M) s.eO).length≤s.used):
  Calls prog 195 #[.pointer (some ⟨b,0,none⟩)] w fun r w'=>∃v,r= .returned (.tuple #[v,.int .i64 0])∧w'.ownsRow w.heap.size 3 1 v (Bu (gB U M) s.eO).length (ints (Bu (gB U M) s.eO))∧iW w' b F (mX s (Bu (gB U M) s.eO).length) M (fun _=>false)∧eV F w w':=by
 obtain ⟨uv,mv,nu,nm,h1,h2⟩:=h.at_
 have hb:F b:=h2 b (.inl rfl)
 refine (VV b F s uv mv nu nm U M w h1 h2 h.lt h0 h.fit hd hz B5 ht).mono ?_
 rintro r w' ⟨v,wr,rfl,hR,rfl⟩
 have hg:∀i,gB U M i=true→U i=true:=fun i hi=>by
  unfold gB at hi;simp only [aC] at hi;exact hi.1
 have hUn:∀i,U i=true→i<64*nu:=fun i hi=>Nat.lt_of_not_le fun hc=>by
  rw [h1.oK.clear i hc] at hi;cases hi
 have eL:Bu (gB U M) (64*nu)=Bu (gB U M) s.eO:=O5 _ _ _ fun i hi=>⟨hUn i (hg i hi),B5 i (hg i hi)⟩
 have eU:sU U M nu=M:=by
  funext j
  have hzj:=hz j
  have hn:=hUn j
  unfold zB at hzj
  unfold sU
  cases eU:U j<;>cases eM:M j<;>simp [eU,eM] at hzj hn ⊢
  omega
 obtain ⟨hs,hr,T_⟩:=hR
 rw [eL] at hr ⊢
 rw [eU] at hs
 generalize Bu (gB U M) s.eO=L at*
 have fK:=h.lt
 have hf:=h.fit
 have hS:iW wr b F s M M:=⟨⟨uv,mv,nu,nm,hs,h2⟩,fun k hk=>aD (fK k hk) T_.size,hf⟩
 have e1:(s.used:Int)-(L.length:Int)=((s.used-L.length:Nat):Int):=by omega
 have hT:=mJ (Au (mJ (At hS) 7 (by omega) (.int .i64 ((s.used:Int)-(L.length:Int))) (s':= { s with used:=s.used-L.length }) (fun _ _=>by rw [e1];rfl) ⟨hf.base,hf.dU,hf.kM,hf.wD,hf.elem,hf.eO,aJ (Nat.sub_le _ _) hf.used,hf.look,hf.nH,hf.state,hf.bytes⟩ hb) hb) 13 (by omega) (.int .i64 0) (s':=mX s L.length) (fun _ _=>rfl) ⟨hf.base,hf.dU,hf.kM,hf.wD,hf.elem,hf.eO,aJ (Nat.sub_le _ _) hf.used,Nat.zero_le _,hf.nH,hf.state,hf.bytes⟩ hb
 have hv:∀g,v.ownBlock=some g→¬F g:=fun g hg hF=>by
  have a1:=(eB hr g hg).1
  have a2:=fK g hF
  omega
 have he:(((wr.setCell ⟨b,7,none⟩ (.int .i64 ((s.used:Int)-(L.length:Int)))).setCell ⟨b,12,none⟩ (.slice none 0 0)).setCell ⟨b,13,none⟩ (.int .i64 0)).heap.size=wr.heap.size:=by rw [aE,aE,aE]
 generalize ((wr.setCell ⟨b,7,none⟩ (.int .i64 ((s.used:Int)-(L.length:Int)))).setCell ⟨b,12,none⟩ (.slice none 0 0)).setCell ⟨b,13,none⟩ (.int .i64 0)=w' at*
 obtain ⟨vA,wB⟩:=hT
 have hcw:eV F w w':=T_.trans wB fun i hi=>.inl hi
 refine ⟨v,rfl,fR hr wB hv,?_,hcw⟩
 exact vA.sub (fun k hk=>hk.elim id fun h=>by omega) (fun k hk=>by have:=fK k hk;have:=hcw.size;omega)
end fD
def B7 (n:Nat):Bool:= !(n==0) && (n &&& (n-1))==0
def Ed (n:Int):Bool:=B7 n.toNat
theorem VX (n:Int) (h0:1≤n) (h1:n≤18446744073709551615):(bits .and .u64 n (n-1)==0)=Ed n:=by
 rw [u64_and n (n-1) (by omega) (by omega) (by omega) (by omega)]
 unfold Ed B7
 have h2:(n.toNat==0)=false:=by simp;omega
 rw [h2,show (n-1).toNat=n.toNat-1 by omega]
 generalize n.toNat &&& (n.toNat-1)=x
 rw [Bool.eq_iff_iff];simp
def oM (d:Int):Int:=if d<2 then 0 else 4294967295 / d+1
def Kj (x m:Int):Int:=x*m / 4294967296
end Go.Proofs.YtgknoidliabanaaGreatDoor
