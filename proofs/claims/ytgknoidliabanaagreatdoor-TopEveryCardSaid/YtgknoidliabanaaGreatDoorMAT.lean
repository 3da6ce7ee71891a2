/- TopEvery holds: MAT. -/
import Derived.Test.YtgknoidliabanaaGreatDoorMAS
set_option linter.unusedVariables false
set_option linter.unusedSimpArgs false
set_option linter.unusedSectionVars false
set_option maxRecDepth 20000
set_option maxHeartbeats 8000000
namespace Go.Proofs.YtgknoidliabanaaGreatDoor
open Go.RowKit _root_.Go.Proofs.Tryz
open List renaming mem_append→aA,pairwise_append→aB,pairwise_iff_getElem→aD,getElem_of_mem→aH,findIdx?_cons→aI,pairwise_map→aJ,mem_map→aK,map_cons→aL
open Value renaming ownBlock→aC
open Lib renaming hid→aE
open Go renaming World→aF,Value→aG
section
variable {α:Type} [DecidableEq α] {E:zX α} {w w':aF} {g b:Nat} {l s:List (gR α)} {c:Nat}
theorem gC.entry {e:gR α} (h:gC w b g l c (s ++ [e])) (hm:eH E w g l c):(Instr.entry (.pointer (some ⟨b,0,none⟩))).run prog w= .ok (.tuple #[E.enc e.1,e.2.1]) w:=by
 have hr:w.heap[b]? =some (.mapIter (some g) c ((s.map fun e=>e.2.2).toArray.push (kY E e).born) c):=by
  rw [h.is];simp [kY]
 exact run_entry_at w b g c _ _ c (kY E e) hr hm.is (List.mem_map_of_mem (h.sub e (by simp))) (by
  have:((l.map (kY E)).map (·.born))=l.map fun e=>e.2.2:=by rw [List.map_map];rfl
  show ((l.map (kY E)).map (·.born)).Nodup
  rw [this]
  exact aJ.2 hm.nb)
theorem gC.eA {F:Nat→Prop} (h:gC w b g l c s) (hc:eV F w w') (hF:¬F b):gC w' b g l c s:=h.same (hc.block b h.lt hF)
theorem gC.Ql {base n size:Nat} {e:TypeId} {v:aG} {xs:List aG} (h:gC w b g l c s) (ho:w.ownsRow base e size v n xs):v.ownBlock≠some b:=by
 rcases ho.2 with ⟨rfl, -⟩ | ⟨x,cap,iY,rfl, -,hh, -⟩
 ·simp [aC]
 ·intro e
  have:x=b:=by simpa [aC] using e
  subst this
  rw [h.is] at hh;cases hh
theorem BF (h:gC w b g l c s) {e:gR α} (he:e∈uG l s) (h':gC w' b g l c (s ++ [e])):s.length<l.length:=by
 have:=h'.len
 simp at this
 omega
end
def nth (s:List (gR Int)) (i:Nat):Int:=((s[i]?).map fun e=>e.1).getD 0
theorem BG {s:List (gR Int)} {i:Nat} (h:i<s.length):∃e∈s,nth s i=e.1:=⟨s[i],List.getElem_mem _,by unfold nth;simp [h]⟩
structure Q3 (w:aF) (k:yK) (l:List (gR Int)) (c it:Nat) (s:List (gR Int)) (v:aG) (wr:aF):Prop where
 ext:Ext w wr
 iter:gC wr it k.gs l c s
 own:wr.ownsRow w.heap.size 3 1 v s.length (s.map fun e=>.int .i64 e.1)
 box:eG wr w.heap.size 71 #[.pointer (some ⟨k.hb,0,none⟩)]
 itn:w.heap.size<it
theorem vM:(prog.info? 3).map (fun i=>(i.zero,i.size,i.bytes))=some (some (.int .i64 0),1,8):=by kernel_rfl
structure Q4 (w w':aF) (h:HS) (g cap:Nat) (R:Nat→Int):Prop where
 ext:Ext w w'
 new:w.heap.size≤g
 row:LD w' g h.sp.length R
 cap:h.sp.length≤cap∧cap≤maxLen
 mem:∀i,i<h.sp.length→∃e∈h.sp,e.1=R i
 inj:∀i j,i<h.sp.length→j<h.sp.length→R i=R j→i=j
 up:∀p q,p<q→q<h.sp.length→jP h (R p)<jP h (R q)
theorem Q3.next {w w2 w3:aF} {k:yK} {l s:List (gR Int)} {c it:Nat} {v v':aG} {e:gR Int} {oc:Array aG} {ot:TypeId} (qM:it<w2.heap.size) (hn:w.heap.size<it) (hX:Ext w w2) (hB:eG w2 w.heap.size 71 #[.pointer (some ⟨k.hb,0,none⟩)])
  (hI:gC w2 it k.gs l c (s ++ [e])) (hO:w2.ownsRow w.heap.size 3 1 v s.length (s.map fun e=>.int .i64 e.1))
  (eP:w3.ownsRow w.heap.size 3 1 v' (s.length+1) ((s.map fun e=>.int .i64 e.1) ++ [.int .i64 e.1])) (gH:eV (fun b=>v.ownBlock=some b) (w2.alloc (.cells oc ot)) w3):Q3 w k l c it (s ++ [e]) v' w3:=by
 have lV:Ext w2 (w2.alloc (.cells oc ot)):=(Ext.refl w2).alloc _ _
 have hx:Ext w (w2.alloc (.cells oc ot)):=hX.alloc _ _
 refine ⟨gH.ext hx fun i hi=>(eB hO i hi).1,(hI.ext lV).eA gH (hI.Ql hO),?_,(hB.later lV).eA gH (fZ hO hB (by decide)),hn⟩
 simpa using eP
theorem Q3.done {w wr:aF} {k:yK} {l s:List (gR Int)} {c it n cap:Nat} {p:Option Addr} (hM:Q3 w k l c it s (.slice p n cap) wr) (hn:s.length=n) (Aa:0<n):∃g,p=some ⟨g,0,none⟩∧w.heap.size<g∧g<wr.heap.size∧LD wr g n (nth s):=by
 subst hn
 have hg0:=fZ hM.own hM.box (by decide)
 obtain ⟨p',pJ,hv, -, -,h0 | ⟨g,rfl,h1,h2⟩⟩:=dZ hM.own
 ·omega
 ·cases hv
  refine ⟨g,rfl,?_,h2,fun i hi=>?_,fun i=>aF.ownsRow.frozenAt hM.own i,h2⟩
  ·have:w.heap.size≠g:=fun e=>hg0 (by rw [e];rfl)
   omega
  ·refine (hM.own.cellAt i (by omega)).trans ?_
   simp [nth,List.getD,hi]
section
variable {z:Nat→Nat} {w:aF} {k:yK} {h:HS}
theorem rO {α:Type} [DecidableEq α] {l:List (gR α)} {e:gR α} (hp:l.Pairwise fun a b=>a.1≠b.1) (he:e∈l):eI l e.1=some e.2.1:=by
 obtain ⟨i,hi⟩:=List.getElem?_of_mem he
 exact uF hp hi rfl
theorem kW {α:Type} [DecidableEq α] {l:List (gR α)} {x:α} {v:aG} (h:eI l x=some v):∃e∈l,e.1=x∧e.2.1=v:=by
 unfold eI at h
 obtain ⟨e,he,h2⟩:=Option.map_eq_some_iff.1 h
 exact ⟨e,List.mem_of_find?_eq_some he,by simpa using List.find?_some he,h2⟩
theorem SQ {wr:aF} {g:Nat} {s:List (gR Int)} (h1:eX w z k h) (hx:Ext w wr) (hb:eG wr w.heap.size 71 #[.pointer (some ⟨k.hb,0,none⟩)]) (hg:w.heap.size<g) (hp:s.Perm h.sp):
  ∀w' a b,eV (fun k=>k=g) wr w'→a<s.length→b<s.length→Calls prog 71 (#[.int .i64 (nth s a),.int .i64 (nth s b)] ++ #[.pointer (some ⟨w.heap.size,0,none⟩)]) w' fun r w''=>r= .returned (.int .i64 (if jP h (nth s a)<jP h (nth s b) then-1 else if jP h (nth s b)<jP h (nth s a) then 1 else 0))∧Ext w' w'':=by
 intro w' a b hc ha hb'
 have O7:Ext w w':=hc.ext hx fun i hi=>by subst hi;omega
 obtain ⟨e,he,ea⟩:=BG ha
 obtain ⟨f,hf,eb⟩:=BG hb'
 have hle:=rO h1.Ab.1.nd (hp.mem_iff.1 he)
 have JB:=rO h1.Ab.1.nd (hp.mem_iff.1 hf)
 obtain ⟨be,e1, -⟩:=h1.rM.1 e (hp.mem_iff.1 he)
 obtain ⟨bf,f1, -⟩:=h1.rM.1 f (hp.mem_iff.1 hf)
 rw [e1] at hle
 rw [f1] at JB
 rw [ea,eb]
 exact OK be bf be bf w.heap.size e.1 f.1 (h1.ext O7) (h1.Ab.1.ok e (hp.mem_iff.1 he)) (h1.Ab.1.ok f (hp.mem_iff.1 hf)) hle JB ((hc.cell hb.lt (by omega)).trans ((hb.cell 0).trans rfl)) (Nat.lt_of_lt_of_le hb.lt hc.size)
theorem OL {s:List (gR Int)} (hn:h.sp.Pairwise fun a b=>a.1≠b.1) (hd:∀e∈h.sp,∀f∈h.sp,jP h e.1=jP h f.1→e.1=f.1) (hp:s.Perm h.sp):
  Same s.length (nth s) (nth s)∧∀i j,i<s.length→j<s.length→jP h (nth s i)=jP h (nth s j)→i=j:=by
 have Qa:s.Pairwise fun a b=>a.1≠b.1:=hp.symm.pairwise hn fun h e=>h e.symm
 have Q5:∀i j,i<s.length→j<s.length→nth s i=nth s j→i=j:=by
  intro i j hi hj e
  unfold nth at e
  simp [hi,hj] at e
  rcases Nat.lt_trichotomy i j with h1 | h1 | h1
  ·exact absurd e (aD.1 Qa i j hi hj h1)
  ·exact h1
  ·exact absurd e.symm (aD.1 Qa j i hj hi h1)
 refine ⟨⟨fun i hi=>⟨i,hi,rfl⟩,Q5⟩,fun i j hi hj e=>Q5 i j hi hj ?_⟩
 obtain ⟨x,hx,ex⟩:=BG hi
 obtain ⟨y,hy,ey⟩:=BG hj
 rw [ex,ey] at e ⊢
 exact hd x (hp.mem_iff.1 hx) y (hp.mem_iff.1 hy) e
theorem AG (h1:eX w z k h) (hn:h.sp.length≤12) (Aa:0<h.sp.length) (hd:∀e∈h.sp,∀f∈h.sp,jP h e.1=jP h f.1→e.1=f.1):
  Calls prog 26 #[.pointer (some ⟨k.hb,0,none⟩)] w fun r w'=>∃g cap R,r= .returned (.slice (some ⟨g,0,none⟩) h.sp.length cap)∧Q4 w w' h g cap R:=by
 obtain ⟨i0,kS,lF,jT,jU⟩:=info_parts vM
 have c4:=h1.hc.c4
 have hb:=h1.hc.lt
 have WC:Ext w (w.alloc (.cells #[.pointer (some ⟨k.hb,0,none⟩)] 71)):=(Ext.refl w).alloc _ _
 have qR:=h1.Ab.1.ext WC
 have xE:=qR.range (t:=137) underlying137
 rw [aF.size_alloc] at xE
 have qM:=gC.made (w.alloc (.cells #[.pointer (some ⟨k.hb,0,none⟩)] 71)) k.gs h.sp h.c
 rw [aF.size_alloc] at qM
 have H0:=aE (show Q3 w k h.sp h.c (w.heap.size+1) [] (.slice none 0 0) ((w.alloc (.cells #[.pointer (some ⟨k.hb,0,none⟩)] 71)).alloc (.mapIter (some k.gs) h.c #[] h.c)) from
  ⟨WC.lX _ _ _ _,qM,jQ _ _ _ _,(eG.new w _ _).alloc _,by omega⟩)
 have HH:=aE h1
 have HD:=aE hd
 clear h1 hd WC qR qM
 generalize hl:h.sp=l at*
 have HL:=aE hl
 clear hl
 generalize D2:l.length=n at*
 have HN9:=aE D2
 clear D2
 go_enter func26,ntmps26
 go_wp2_with fail
 go_loopg [3] n (fun gk v3 wr=>∃(s:List (gR Int)) (v:aG),v3=v∧gk=n-s.length∧Hid (Q3 w k l h.c (w.heap.size+1) s v wr))
 case atStart=>exact ⟨[],_,rfl,by simp,H0⟩
 case round=>
  obtain ⟨s,v,rfl,rfl,hM⟩:=hrel
  clear H0 xE
  have HF:=aE (dZ hM.out.own)
  obtain ⟨p,cap,hv,Fk,sO,hp⟩:=HF.out
  clear HF
  subst hv
  have HP:=aE (And.intro Fk (And.intro sO hp))
  clear Fk sO hp
  have AH:eH KI wr k.gs l h.c:=by have:=HH.out.Ab.1.ext hM.out.ext;rw [HL.out] at this;exact this
  have hq:=hM.out.box.cell 0
  have hql:=hM.out.box.lt
  rcases hM.out.iter.next AH 0 with ⟨JB,yF⟩ | ⟨e,w2,he,yF,pP,Bz⟩
  ·have pD:∀ty,(Instr.next (.pointer (some ⟨w.heap.size+1,0,none⟩)) false ty).run prog wr= .ok (.tuple #[.bool false]) wr:=fun _=>yF
   have pA:=hM.out.iter.all AH JB
   have Q6:=aE pA
   have EK:s.length=n:=pA.length_eq.trans HN9.out
   subst EK
   have e8:=HL.out
   subst e8
   clear yF JB AH pA
   have HD2:=aE (hM.out.done rfl Aa)
   obtain ⟨g,rfl,wH,rW,lI⟩:=HD2.out
   clear HD2
   have HS:=aE (OL HH.out.Ab.1.nd HD.out Q6.out)
   have HC:=aE (SQ HH.out hM.out.ext hM.out.box wH (s:=s) Q6.out)
   have aKy:=aE lI
   have Vy:s.length≤cap∧cap≤maxLen:=⟨HP.out.1,HP.out.2.1⟩
   clear lI
   go_wp2_with (first | (go_at_call 70;refine (JD g s.length cap #[.pointer (some ⟨w.heap.size,0,none⟩)] (jP h) _ wr aKy.out hn Vy.1 Vy.2 HS.out.1 HS.out.2 HC.out).mono ?_;rintro r w1 ⟨rfl,L,hL,hup⟩) | fail)
   go_returns
   have Qm:=hM.out.ext
   refine ⟨g,cap,L,rfl,hL.eA.ext Qm fun i hi=>by subst hi;omega,Nat.le_of_lt wH,?_,?_,?_,?_,?_⟩
   all_goals rw [show h.sp.length=s.length from HN9.out]
   ·exact hL.row
   ·exact Vy
   ·intro i hi
    obtain ⟨q,Vg,WD⟩:=hL.same.mem i hi
    obtain ⟨e,he,e2⟩:=BG Vg
    exact ⟨e,Q6.out.mem_iff.1 he,by rw [WD,e2]⟩
   ·exact hL.same.inj
   ·exact hup
  ·have pD:∀ty,(Instr.next (.pointer (some ⟨w.heap.size+1,0,none⟩)) false ty).run prog wr= .ok (.tuple #[.bool true,.int .i64 e.1,e.2.1]) w2:=fun _=>yF
   have Dn:(Instr.entry (.pointer (some ⟨w.heap.size+1,0,none⟩))).run prog w2= .ok (.tuple #[.int .i64 e.1,e.2.1]) w2:=pP.entry (AH.eA Bz.eA (fun e'=>by have:=hM.out.iter.is;have h9:=AH.is;rw [e'] at h9;rw [this] at h9;cases h9))
   have B9:s.length<n:=by have:=BF hM.out.iter he pP;rw [HN9.out] at this;exact this
   have HX:=aE (show Ext w w2 from eV.ext Bz.eA hM.out.ext fun i hi=>by omega)
   have HO:=aE (fR hM.out.own Bz.eA fun g hg e'=>hM.out.iter.Ql hM.out.own (e'▸hg))
   have HB:=aE (hM.out.box.eA Bz.eA (by omega))
   have HI:=aE pP
   clear yF he pP AH
   go_wp2_with (first | (at_builtin;refine dS w.heap.size _ rfl (.tmp 14) (.tmp 16) 22 rfl 3 i0 _ 1 8 underlying22 kS lF jT jU rfl (by decide) _ _ _ (by rfl) (by exact dY HO.out (((Ext.refl w2).alloc _ _).below)) (.slice (some ⟨w2.heap.size,0,none⟩) 1 1) 1 [.int .i64 e.1] (by rfl) (by exact jF w2 [.int .i64 e.1] _ 1 rfl) (by intro u hu;simp at hu;subst hu;rfl) (by unfold maxLen;omega) (by omega) (by have:=HX.out.size;simp;omega) ?_) | fail)
   intro v' w3 eP gH kP
   have qM:=HI.out.lt
   have HN:=aE (Q3.next qM hM.out.itn HX.out HB.out HI.out HO.out eP gH)
   clear eP gH kP hM
   go_wp2_with fail
   go_roundg (n-(s.length+1))
   case measure=>omega
   case rel=>exact ⟨s ++ [e],v',rfl,by simp,HN⟩
end
structure oA where
 gk:Nat
 ids:List (gR Int)
 ci:Nat
 Ac:List (gR Nat)
 cb:Nat
 set:List (gR Kd)
 ck:Nat
 it:Nat→It
 rw:Kd→List Nat
def qU (w:aF) (z:Nat→Nat) (q:Nat) (x:It):Prop:=eG w q 227 (Bh x)∧z q=7
structure fF (w:aF) (z:Nat→Nat) (b gi gb:Nat) (s:oA):Prop where
 hd:eG w b 185 #[.map (some gi),.map (some gb),.map (some s.gk)]
 zb:z b=7
 mi:eH KI w gi s.ids s.ci
 mb:eH KU w gb s.Ac s.cb
 mc:eH KK w s.gk s.set s.ck
 zi:z gi=7∧z gb=7∧z s.gk=7
 ne:gi≠gb∧gi≠s.gk∧gb≠s.gk
 ai:∀e∈s.ids,∃q,e.2.1= .pointer (some ⟨q,0,none⟩)∧qU w z q (s.it q)∧(s.it q).id=e.1
 ab:∀e∈s.Ac,∃q,e.2.1= .pointer (some ⟨q,0,none⟩)∧qU w z q (s.it q)∧(s.it q).base=e.1
 ak:∀e∈s.set,w.ownsRow 0 222 1 e.2.1 (s.rw e.1).length (mS (s.rw e.1))∧∀g,e.2.1.ownBlock=some g→z g=7
 ar:∀e∈s.set,∀q∈s.rw e.1,qU w z q (s.it q)∧(s.it q).kd=e.1
 rn:∀k,eI s.set k=none→s.rw k= []
 ap:s.set.Pairwise fun a c=>∀g,a.2.1.ownBlock=some g→c.2.1.ownBlock≠some g
def WE (z:Nat→Nat) (w:aF) (b gi gb:Nat) (s:oA) (w':aF):Prop:=∃z',fF w' z' b gi gb s∧eF (fun i=>i=7) z w z' w'
theorem rP {α:Type} [DecidableEq α] {l:List (gR α)} {x:α} (h:eI l x=none):∀e∈l,e.1≠x:=fun e he e1=>by
 unfold eI at h
 rw [Option.map_eq_none_iff] at h
 have:=List.find?_eq_none.1 h e he
 simp [e1] at this
section
variable {S:Nat→Prop} {z z':Nat→Nat} {w w':aF} {b gi gb q:Nat} {s:oA} {x:It}
theorem qU.eC (h:qU w z q x) (t:eF S z w z' w') (h7:¬S 7):qU w' z' q x:=⟨h.1.eA t.eA (by rw [h.2];exact h7),(t.zn q h.1.lt).trans h.2⟩
theorem fF.eC (h:fF w z b gi gb s) (t:eF S z w z' w') (h7:¬S 7):fF w' z' b gi gb s:=by
 obtain ⟨z1,z2,z3⟩:=h.zi
 refine ⟨h.hd.eA t.eA (by rw [h.zb];exact h7),(t.zn b h.hd.lt).trans h.zb,h.mi.eC t (by rw [z1];exact h7),h.mb.eC t (by rw [z2];exact h7),h.mc.eC t (by rw [z3];exact h7),
  ⟨(t.zn _ h.mi.lt).trans z1,(t.zn _ h.mb.lt).trans z2,(t.zn _ h.mc.lt).trans z3⟩,h.ne,fun e he=>?_,fun e he=>?_,fun e he=>?_,fun e he q hq=>?_,h.rn,h.ap⟩
 ·obtain ⟨q,h1,h2,h3⟩:=h.ai e he
  exact ⟨q,h1,h2.eC t h7,h3⟩
 ·obtain ⟨q,h1,h2,h3⟩:=h.ab e he
  exact ⟨q,h1,h2.eC t h7,h3⟩
 ·obtain ⟨h1,h2⟩:=h.ak e he
  exact ⟨fR h1 t.eA fun g hg=>by rw [h2 g hg];exact h7,fun g hg=>(t.zn g (eB h1 g hg).2).trans (h2 g hg)⟩
 ·obtain ⟨h1,h2⟩:=h.ar e he q hq
  exact ⟨h1.eC t h7,h2⟩
theorem fF.ext (h:fF w z b gi gb s) (hx:Ext w w'):fF w' z b gi gb s:=h.eC (eF.dX hx (fun _=>False) z) (fun h=>h)
theorem fF.to (h:fF w z b gi gb s) (hx:Ext w w'):WE z w b gi gb s w':=⟨z,h.ext hx,eF.dX hx _ z⟩
theorem fF.row (h:fF w z b gi gb s) (k:Kd):w.ownsRow 0 222 1 (rowOf s.set k) (s.rw k).length (mS (s.rw k))∧(∀g,(rowOf s.set k).ownBlock=some g→z g=7)∧∀q∈s.rw k,qU w z q (s.it q)∧(s.it q).kd=k:=by
 unfold rowOf
 cases hl:eI s.set k with
 | none=>rw [h.rn k hl];exact ⟨jQ _ _ _ _,fun g hg=>by simp [aC] at hg,fun q hq=>absurd hq List.not_mem_nil⟩
 | some v=>
  obtain ⟨e,he,h1,h2⟩:=kW hl
  subst h1;subst h2
  exact ⟨(h.ak e he).1,(h.ak e he).2,h.ar e he⟩
def sE (ps:List Nat) (i q:Nat):List Nat:=ps.take i ++ q::ps.drop i
theorem SR {ps:List Nat} {i q:Nat} (h:i≤ps.length):(sE ps i q).length=ps.length+1:=by unfold sE;simp;omega
theorem SS {ps:List Nat} {i q r:Nat} (h:r∈sE ps i q):r=q∨r∈ps:=by
 unfold sE at h
 rcases aA.1 h with h | h
 ·exact .inr (List.mem_of_mem_take h)
 ·rcases List.mem_cons.1 h with h | h
  ·exact .inl h
  ·exact .inr (List.mem_of_mem_drop h)
def uN (s:oA) (x:It) (q i:Nat) (v:aG):oA:=
  { s with ids:=s.ids ++ [(x.id,.pointer (some ⟨q,0,none⟩),s.ci)],ci:=s.ci+1,Ac:=s.Ac ++ [(x.base,.pointer (some ⟨q,0,none⟩),s.cb)],cb:=s.cb+1,
           set:=mE s.set x.kd v s.ck,ck:=zY s.set x.kd s.ck,it:=fun k=>if k=q then x else s.it k,rw:=fun k=>if k=x.kd then sE (s.rw k) i q else s.rw k }
theorem fF.put (h:fF w z b gi gb s) {i:Nat} {v:aG} (wU:i≤(s.rw x.kd).length)
  (hc:eV (fun k=>k=gi∨k=gb∨k=s.gk∨(rowOf s.set x.kd).ownBlock=some k) w w')
  (hi:eH KI w' gi (s.ids ++ [(x.id,.pointer (some ⟨w.heap.size,0,none⟩),s.ci)]) (s.ci+1)) (hb:eH KU w' gb (s.Ac ++ [(x.base,.pointer (some ⟨w.heap.size,0,none⟩),s.cb)]) (s.cb+1))
  (hk:eH KK w' s.gk (mE s.set x.kd v s.ck) (zY s.set x.kd s.ck)) (hq:eG w' w.heap.size 227 (Bh x))
  (hr:w'.ownsRow 0 222 1 v ((s.rw x.kd).length+1) (mS (sE (s.rw x.kd) i w.heap.size)))
  (hv:v.ownBlock=(rowOf s.set x.kd).ownBlock∨∃g,v.ownBlock=some g∧w.heap.size≤g):
  fF w' (lay z w 7) b gi gb (uN s x w.heap.size i v)∧eF (fun i=>i=7) z w (lay z w 7) w':=by
 obtain ⟨z1,z2,z3⟩:=h.zi
 obtain ⟨r1,r2,r3⟩:=h.row x.kd
 have li:=h.mi.lt
 have lb:=h.mb.lt
 have lk:=h.mc.lt
 have hF:∀k,(k=gi∨k=gb∨k=s.gk∨(rowOf s.set x.kd).ownBlock=some k)→z k=7:=by
  rintro k (rfl | rfl | rfl | hk)
  ·exact z1
  ·exact z2
  ·exact z3
  ·exact r2 k hk
 have lD:∀ {q t cs},eG w q t cs→t≠222→¬(q=gi∨q=gb∨q=s.gk∨(rowOf s.set x.kd).ownBlock=some q):=by
  rintro q t cs Bg ht (rfl | rfl | rfl | hk)
  ·have:=h.mi.is;unfold eG at Bg;rw [Bg] at this;cases this
  ·have:=h.mb.is;unfold eG at Bg;rw [Bg] at this;cases this
  ·have:=h.mc.is;unfold eG at Bg;rw [Bg] at this;cases this
  ·exact fZ r1 Bg (fun e=>ht e.symm) hk
 have qM:∀q,qU w z q (s.it q)→qU w' (lay z w 7) q ((uN s x w.heap.size i v).it q):=fun q hq=>by
  have fK:=hq.1.lt
  have e:(uN s x w.heap.size i v).it q=s.it q:=if_neg (by omega)
  rw [e]
  exact ⟨hq.1.eA hc (lD hq.1 (by decide)),(eR fK).trans hq.2⟩
 have Kl:qU w' (lay z w 7) w.heap.size ((uN s x w.heap.size i v).it w.heap.size):=by
  have e:(uN s x w.heap.size i v).it w.heap.size=x:=if_pos rfl
  rw [e]
  exact ⟨hq,eQ (Nat.le_refl _)⟩
 have hzv:∀g,v.ownBlock=some g→lay z w 7 g=7:=fun g hg=>by
  rcases hv with hv | ⟨g',hv,Ml⟩
  ·rw [hv] at hg
   exact (eR (eB r1 g hg).2).trans (r2 g hg)
  ·obtain rfl:g'=g:=Option.some.inj (hv.symm.trans hg)
   exact eQ Ml
 have qC:∀e,e∈mE s.set x.kd v s.ck→(e.1=x.kd∧e.2.1=v)∨(e.1≠x.kd∧e∈s.set):=fun e he=>by
  unfold mE at he
  split at he
  ·obtain ⟨e',Ch,rfl⟩:=aK.1 he
   by_cases h4:e'.1=x.kd
   ·rw [if_pos h4];exact .inl ⟨rfl,rfl⟩
   ·rw [if_neg h4];exact .inr ⟨h4,Ch⟩
  ·rename_i hl
   rcases aA.1 he with he | he
   ·by_cases h4:e.1=x.kd
    ·have:=rO h.mc.nd he
     rw [h4,hl] at this;cases this
    ·exact .inr ⟨h4,he⟩
   ·simp at he;subst he;exact .inl ⟨rfl,rfl⟩
 have Ev:∀e∈s.set,e.1≠x.kd→∀g,e.2.1.ownBlock=some g→(rowOf s.set x.kd).ownBlock≠some g:=fun e he gO g hg rW=>by
  unfold rowOf at rW
  cases hl:eI s.set x.kd with
  | none=>rw [hl] at rW;simp [aC] at rW
  | some u=>
   rw [hl] at rW
   obtain ⟨f,hf,h1,h2⟩:=kW hl
   have VS:e≠f:=fun e'=>gO (e'▸h1)
   have h3:f.2.1.ownBlock=some g:=by rw [h2];exact rW
   obtain ⟨i1,Jn,e1⟩:=aH he
   obtain ⟨i2,yH,e2⟩:=aH hf
   rcases Nat.lt_trichotomy i1 i2 with fK | NJ | fK
   ·exact aD.1 h.ap i1 i2 Jn yH fK g (by rw [e1];exact hg) (by rw [e2];exact h3)
   ·subst NJ;exact VS (e1.symm.trans e2)
   ·exact aD.1 h.ap i2 i1 yH Jn fK g (by rw [e2];exact h3) (by rw [e1];exact hg)
 have eP:∀e∈s.set,e.1≠x.kd→w'.ownsRow 0 222 1 e.2.1 (s.rw e.1).length (mS (s.rw e.1)):=fun e he gO=>by
  have h1:=(h.ak e he).1
  refine fR h1 hc fun g hg=>?_
  rintro (rfl | rfl | rfl | hk)
  ·rcases h1.2 with ⟨e1, -⟩ | ⟨x,cap,iY,e1, -,hh, -⟩
   ·rw [e1] at hg;simp [aC] at hg
   ·rw [e1] at hg
    have:x=g:=by simpa [aC] using hg
    subst this
    rw [h.mi.is] at hh;cases hh
  ·rcases h1.2 with ⟨e1, -⟩ | ⟨x,cap,iY,e1, -,hh, -⟩
   ·rw [e1] at hg;simp [aC] at hg
   ·rw [e1] at hg
    have:x=g:=by simpa [aC] using hg
    subst this
    rw [h.mb.is] at hh;cases hh
  ·rcases h1.2 with ⟨e1, -⟩ | ⟨x,cap,iY,e1, -,hh, -⟩
   ·rw [e1] at hg;simp [aC] at hg
   ·rw [e1] at hg
    have:x=s.gk:=by simpa [aC] using hg
    subst this
    rw [h.mc.is] at hh;cases hh
  ·exact Ev e he gO g hg hk
 have WG:(uN s x w.heap.size i v).rw x.kd=sE (s.rw x.kd) i w.heap.size:=if_pos rfl
 have OM:∀k,k≠x.kd→(uN s x w.heap.size i v).rw k=s.rw k:=fun k hk=>if_neg hk
 have Q7:∀e∈s.set,e.1≠x.kd→∀g,e.2.1.ownBlock=some g→v.ownBlock≠some g:=fun e he gO g hg=>by
  rcases hv with hv | ⟨g',hv,Ml⟩
  ·rw [hv];exact Ev e he gO g hg
  ·rw [hv]
   intro e'
   have:=(eB (h.ak e he).1 g hg).2
   have:g'=g:=Option.some.inj e'
   omega
 refine ⟨⟨h.hd.eA hc (lD h.hd (by decide)),(eR h.hd.lt).trans h.zb,hi,hb,hk,⟨(eR li).trans z1,(eR lb).trans z2,(eR lk).trans z3⟩,h.ne,fun e he=>?_,fun e he=>?_,fun e he=>?_,fun e he q hq=>?_,fun k hk=>?_,?_⟩,eF.oI hc hF 7⟩
 ·rcases aA.1 he with he | he
  ·obtain ⟨q,h1,h2,h3⟩:=h.ai e he
   refine ⟨q,h1,qM q h2,?_⟩
   have:=h2.1.lt
   show (if q=w.heap.size then x else s.it q).id=e.1
   rw [if_neg (by omega)];exact h3
  ·simp at he;subst he
   exact ⟨_,rfl,Kl,by show (if w.heap.size=w.heap.size then x else _).id=_;rw [if_pos rfl]⟩
 ·rcases aA.1 he with he | he
  ·obtain ⟨q,h1,h2,h3⟩:=h.ab e he
   refine ⟨q,h1,qM q h2,?_⟩
   have:=h2.1.lt
   show (if q=w.heap.size then x else s.it q).base=e.1
   rw [if_neg (by omega)];exact h3
  ·simp at he;subst he
   exact ⟨_,rfl,Kl,by show (if w.heap.size=w.heap.size then x else _).base=_;rw [if_pos rfl]⟩
 ·rcases qC e he with ⟨h1,h2⟩ | ⟨h1,h2⟩
  ·rw [h1,h2,WG,SR wU];exact ⟨hr,hzv⟩
  ·rw [OM _ h1]
   exact ⟨eP e h2 h1,fun g hg=>(eR (eB (h.ak e h2).1 g hg).2).trans ((h.ak e h2).2 g hg)⟩
 ·rcases qC e he with ⟨h1,h2⟩ | ⟨h1,h2⟩
  ·rw [h1,WG] at hq
   rcases SS hq with rfl | hq
   ·exact ⟨Kl,by show (if w.heap.size=w.heap.size then x else _).kd=_;rw [if_pos rfl,h1]⟩
   ·obtain ⟨h3,h4⟩:=r3 q hq
    refine ⟨qM q h3,?_⟩
    have:=h3.1.lt
    show (if q=w.heap.size then x else s.it q).kd=e.1
    rw [if_neg (by omega),h4,h1]
  ·rw [OM _ h1] at hq
   obtain ⟨h3,h4⟩:=h.ar e h2 q hq
   refine ⟨qM q h3,?_⟩
   have:=h3.1.lt
   show (if q=w.heap.size then x else s.it q).kd=e.1
   rw [if_neg (by omega),h4]
 ·have tY:=rP hk
  have gO:k≠x.kd:=by
   rintro rfl
   have hm:∃e∈mE s.set x.kd v s.ck,e.1=x.kd:=by
    unfold mE
    cases hl:eI s.set x.kd with
    | none=>exact ⟨(x.kd,v,s.ck),by simp,rfl⟩
    | some u=>
     obtain ⟨e,he,h1,h2⟩:=kW hl
     exact ⟨(x.kd,v,e.2.2),aK.2 ⟨e,he,if_pos h1⟩,rfl⟩
   obtain ⟨e,he,h1⟩:=hm
   exact tY e he h1
  rw [OM k gO]
  refine h.rn k (kV fun e he e1=>?_)
  have h2:∃e'∈mE s.set x.kd v s.ck,e'.1=k:=by
   unfold mE
   split
   ·exact ⟨e,aK.2 ⟨e,he,if_neg (by rw [e1];exact gO)⟩,e1⟩
   ·exact ⟨e,aA.2 (.inl he),e1⟩
  obtain ⟨e',Ch,e2⟩:=h2
  exact tY e' Ch e2
 ·show (mE s.set x.kd v s.ck).Pairwise _
  unfold mE
  split
  ·refine aJ.2 ?_
   refine List.Pairwise.imp_of_mem (R:=fun a c=>a.1≠c.1∧∀g,a.2.1.ownBlock=some g→c.2.1.ownBlock≠some g) (fun {a c} ha hc S_=>?_) (h.mc.nd.and h.ap)
   by_cases h4:a.1=x.kd<;>by_cases h5:c.1=x.kd<;>simp only [h4,h5,if_true,if_false]
   ·exact absurd (h4.trans h5.symm) S_.1
   ·exact fun g hg rW=>Q7 c hc h5 g rW hg
   ·exact fun g hg=>Q7 a ha h4 g hg
   ·exact S_.2
  ·rename_i hl
   refine aB.2 ⟨h.ap,by simp,fun a ha c hc=>?_⟩
   simp at hc;subst hc
   exact Q7 a ha (rP hl a ha)
end
section
variable {α:Type} [DecidableEq α] {E:zX α} {w:aF} {g:Nat} {l:List (gR α)} {c s:Nat} {x:α}
theorem eH.Hb (h:eH E w g l c) (hx:E.ok x) (hn:eI l x=none) {t e:TypeId} (ht:prog.underlying t=some (.map E.kt e)) {z:aG} (hz:(zeroValue e).run prog w= .ok z w):
  ∃w',(Instr.mapEntry t (.map (some g)) (E.enc x)).run prog w= .ok (.tuple #[z,.int .i64 c]) w'∧eH E w' g (l ++ [(x,z,c)]) (c+1)∧Ci g w w':=by
 rcases h.find hx with ⟨h1,h2⟩ | ⟨j,e0,h1,h2,h3⟩
 ·obtain ⟨s1,s2⟩:=rK h.is ((l ++ [(x,z,c)]).map (kY E)).toArray (c+1)
  refine ⟨_,?_,⟨s2,fun e he=>?_,?_,?_,fun e he=>?_⟩,s1⟩
  ·simp [Instr.mapEntry,run_underlying ht,MapKept.run_getObj_map h.is,eH.check E w _ hx,h1,hz,MapKept.run_setObj_map _ h.is,Result.andThen,kY,goInt]
  ·rcases aA.1 he with he | he
   ·exact h.ok e he
   ·simp at he;subst he;exact hx
  ·refine aB.2 ⟨h.nd,by simp,fun a ha b hb=>?_⟩
   simp at hb;subst hb;exact h2 a ha
  ·refine aB.2 ⟨h.nb,by simp,fun a ha b hb=>?_⟩
   simp at hb;subst hb;have:=h.bc a ha;dsimp only;omega
  ·rcases aA.1 he with he | he
   ·have:=h.bc e he;omega
   ·simp at he;subst he;simp
 ·rw [uF h.nd h2 h3] at hn;cases hn
theorem ON {l:List (gR α)} {x:α} {z:aG} {s:Nat} (h:∀e∈l,e.2.2≠s):((l ++ [(x,z,s)]).map (kY E)).toArray.findIdx? (fun e=>(e.born:Int)==(s:Int))=some l.length:=by
 simp only [List.findIdx?_toArray]
 induction l with
 | nil=>simp [kY,aI]
 | cons a l ih=>
  have h1:=h a (by simp)
  have h2:=ih fun e he=>h e (by simp [he])
  simp only [List.cons_append,aL,aI]
  have:(((kY E a).born:Int)==(s:Int))=false:=by simp [kY];omega
  rw [this,h2];rfl
theorem Cr {β:Type} (f:β→β) (a:β):∀l:List β,(l ++ [a]).modify l.length f=l ++ [f a]
 | []=>by simp
 | b::l=>by simp [Cr f a l]
theorem eH.Cs {z:aG} (h:eH E w g (l ++ [(x,z,s)]) c) (t:TypeId) (v:aG):
  ∃w',(Instr.entryStore t (.map (some g)) (.int .i64 (s:Nat)) v).run prog w= .ok () w'∧eH E w' g (l ++ [(x,v,s)]) c∧Ci g w w':=by
 obtain ⟨n1,n2,n3⟩:=aB.1 h.nb
 have hf:=ON (E:=E) (x:=x) (z:=z) (s:=s) (l:=l) fun e he=>n3 e he (x,z,s) (by simp)
 obtain ⟨s1,s2⟩:=rK h.is ((l ++ [(x,v,s)]).map (kY E)).toArray c
 have hm:((l ++ [(x,z,s)]).map (kY E)).toArray.modify l.length (fun e=> { e with val:=v })=((l ++ [(x,v,s)]).map (kY E)).toArray:=by
  apply Array.ext'
  rw [Array.toList_modify]
  simp only [List.map_append,aL,List.map_nil]
  have:=Cr (fun e:MapEntry=> { e with val:=v }) (kY E (x,z,s)) (l.map (kY E))
  rw [List.length_map] at this
  exact this
 refine ⟨_,?_,⟨s2,fun e he=>?_,?_,?_,fun e he=>?_⟩,s1⟩
 ·have ha:(asInt (aG.int .i64 (s:Int))).run prog w= .ok (s:Int) w:=by simp [asInt,asIntOf,Result.andThen]
  simp only [Instr.entryStore,Sem.run_bind,MapKept.run_getObj_map h.is,Result.andThen,ha,hf,hm,MapKept.run_setObj_map _ h.is]
 ·rcases aA.1 he with he | he
  ·exact h.ok e (aA.2 (.inl he))
  ·simp at he;subst he;exact h.ok (x,z,s) (by simp)
 ·obtain ⟨m1,m2,m3⟩:=aB.1 h.nd
  refine aB.2 ⟨m1,by simp,fun a ha b hb=>?_⟩
  simp at hb;subst hb;exact m3 a ha (x,z,s) (by simp)
 ·refine aB.2 ⟨n1,by simp,fun a ha b hb=>?_⟩
  simp at hb;subst hb;exact n3 a ha (x,z,s) (by simp)
 ·rcases aA.1 he with he | he
  ·exact h.bc e (aA.2 (.inl he))
  ·simp at he;subst he;exact h.bc (x,z,s) (by simp)
end
end Go.Proofs.YtgknoidliabanaaGreatDoor
