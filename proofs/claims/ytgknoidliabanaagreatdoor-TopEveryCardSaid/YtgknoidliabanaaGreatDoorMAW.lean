/- TopEvery holds: MAW. -/
import Derived.Test.YtgknoidliabanaaGreatDoorMAV
set_option linter.unusedVariables false
set_option linter.unusedSimpArgs false
set_option linter.unusedSectionVars false
set_option maxRecDepth 20000
set_option maxHeartbeats 8000000
namespace Go.Proofs.YtgknoidliabanaaGreatDoor
open Go.RowKit _root_.Go.Proofs.Tryz
open List renaming pairwise_iff_getElem→aA,getElem_of_mem→aB,not_mem_nil→aD,getD_eq_getElem?_getD→aE,getElem?_eq_getElem→aG,eq_nil_of_length_eq_zero→aJ,mem_append→aL,getElem_mem→aN,take→aO
open Lib renaming hid→aC
open World renaming size_alloc→aF
open Go renaming World→aH
open Instr renaming makeMap→aI,next→aP
open Nat renaming lt_trichotomy→aK,lt_of_lt_of_le→aM
def pH (k:Kd):Kd:= { k with eT:=false }
def Mv (x:It):It:= { x with kd:=pH x.kd }
def LM (s:oA) (L:List (gR Kd)) (e:gR Kd):List (gR Kd):=if s.rw e.1= [] then L else L ++ [(pH e.1,e.2.1,L.length)]
def CB (s:oA) (l:List (gR Kd)):List (gR Kd):=l.foldl (LM s) []
theorem Qo (s:oA) (l:List (gR Kd)) (e:gR Kd):CB s (l ++ [e])=LM s (CB s l) e:=by unfold CB;rw [List.foldl_append];rfl
def mN (s:oA) (q:Nat):Prop:=∃e∈s.set,q∈s.rw e.1
structure OR (w:aH) (s:oA) (gt it:Nat) (sh:List (gR Kd)) (done:List Nat) (wr:aH):Prop where
 eA:eV (mN s) w wr
 iter:gC wr it s.gk s.set s.ck sh
 map:eH KK wr gt (CB s sh) (CB s sh).length
 item:∀q,mN s q→eG wr q 227 (Bh (if q∈done then Mv (s.it q) else s.it q))
 lt:w.heap.size≤gt∧gt<it
section
variable {z:Nat→Nat} {w w':aH} {b gi gb:Nat} {s:oA}
theorem fF.AL (h:fF w z b gi gb s) {q:Nat} (hq:mN s q):qU w z q (s.it q):=by
 obtain ⟨e,he,h1⟩:=hq
 exact (h.ar e he q h1).1
theorem fF.aEm (h:fF w z b gi gb s) (hc:eV (mN s) w w'):eH KK w' s.gk s.set s.ck:=h.mc.eA hc fun hq=>by
 have h1:=(h.AL hq).1
 have:=h.mc.is
 unfold eG at h1;rw [h1] at this;cases this
theorem fF.Qp (h:fF w z b gi gb s) (hc:eV (mN s) w w'):eG w' b 185 #[.map (some gi),.map (some gb),.map (some s.gk)]:=h.hd.eA hc fun hq=>by
 have h1:=(h.AL hq).1
 exact absurd (h1.same h.hd).2 (by decide)
theorem OR.start {w1:aH} (h:fF w z b gi gb s) (hx:Ext w w1):OR w s w1.heap.size (w1.heap.size+1) [] (([]:List (gR Kd)).flatMap fun e=>s.rw e.1) ((w1.alloc (.map #[] 0)).alloc (.mapIter (some s.gk) s.ck #[] s.ck)):=by
 have lV:Ext w ((w1.alloc (.map #[] 0)).alloc (.mapIter (some s.gk) s.ck #[] s.ck)):=(hx.allocMap _ _).lX _ _ _ _
 have qM:=gC.made (w1.alloc (.map #[] 0)) s.gk s.set s.ck
 rw [aF] at qM
 exact ⟨eV.dX lV _,qM,(eH.made KK w1).ext ((Ext.refl _).lX _ _ _ _),fun q hq=>(h.AL hq).1.later lV,hx.size,Nat.lt_succ_self _⟩
theorem OR.begin {w1:aH} (h:fF w z b gi gb s) (jE:Ext w w1):∃wm,(aI 183 none).run prog w1= .ok (.map (some w1.heap.size)) wm∧
  (Instr.range 183 (.map (some s.gk))).run prog wm= .ok (.pointer (some ⟨w1.heap.size+1,0,none⟩)) (wm.alloc (.mapIter (some s.gk) s.ck #[] s.ck))∧wm.cell? ⟨b,2,none⟩=some (.map (some s.gk))∧
  OR w s w1.heap.size (w1.heap.size+1) [] (([]:List (gR Kd)).flatMap fun e=>s.rw e.1) (wm.alloc (.mapIter (some s.gk) s.ck #[] s.ck)):=by
 have hmk:(aI 183 none).run prog w1= .ok (.map (some w1.heap.size)) (w1.alloc (.map #[] 0)):=by kernel_rfl
 have xE:=((h.mc.ext jE).ext ((Ext.refl w1).allocMap #[] 0)).range (t:=183) underlying183
 rw [aF] at xE
 exact ⟨_,hmk,xE,(((Ext.refl w1).allocMap #[] 0).cell b 2 (aM h.hd.lt jE.size)).trans ((jE.cell b 2 h.hd.lt).trans (h.hd.cell 2)),OR.start h jE⟩
theorem OR.next {wr w2:aH} {gt it:Nat} {sh:List (gR Kd)} {done:List Nat} {e:gR Kd} (h:OR w s gt it sh done wr) (Bz:Um it wr w2) (qM:gC w2 it s.gk s.set s.ck (sh ++ [e])):
  eV (mN s) w w2∧gC w2 it s.gk s.set s.ck (sh ++ [e])∧eH KK w2 gt (CB s sh) (CB s sh).length∧(∀q,mN s q→eG w2 q 227 (Bh (if q∈done then Mv (s.it q) else s.it q)))∧w.heap.size≤gt∧gt<it:=by
 have gO:∀ {q t cs},eG wr q t cs→¬q=it:=fun hb e=>by
  have:=h.iter.is;unfold eG at hb;rw [e,this] at hb;cases hb
 exact ⟨h.eA.trans Bz.eA fun i hi=>.inr (by have:=h.lt;omega),qM,h.map.eA Bz.eA (by have:=h.lt;omega),fun q hq=>(h.item q hq).eA Bz.eA (gO (h.item q hq)),h.lt⟩
structure Tz (s:oA) (bx:Nat) (bc:Array Value) (W2:aH) (done ps:List Nat) (j:Nat) (wr:aH):Prop where
 eA:eV (fun k=>k∈ps) W2 wr
 item:∀q,mN s q→eG wr q 227 (Bh (if q∈done ++ ps.take j then Mv (s.it q) else s.it q))
 box:eG wr bx 224 bc
theorem Tz.start (h:fF w z b gi gb s) {w2:aH} {gt it:Nat} {sh':List (gR Kd)} {done:List Nat} {l:List (gR Kd)} {k:Kd}
  (hM:eV (mN s) w w2∧gC w2 it s.gk s.set s.ck sh'∧eH KK w2 gt l l.length∧(∀q,mN s q→eG w2 q 227 (Bh (if q∈done then Mv (s.it q) else s.it q)))∧w.heap.size≤gt∧gt<it) (bc:Array Value):
  Tz s w2.heap.size bc (w2.alloc (.cells bc 224)) done (s.rw k) 0 (w2.alloc (.cells bc 224)):=
 ⟨eV.refl _ _,fun q hq=>by simpa using (hM.2.2.2.1 q hq).alloc _,eG.new _ _ _⟩
theorem Tz.cell (h:fF w z b gi gb s) {e:gR Kd} (he:e∈s.set) {p:Option Addr} {cap n j gt it:Nat} {sh' l:List (gR Kd)} {done ps:List Nat} {w2 wr:aH} {bc:Array Value} (ho:w.ownsRow 0 222 1 (.slice p n cap) n (mS ps))
  (hM:eV (mN s) w w2∧gC w2 it s.gk s.set s.ck sh'∧eH KK w2 gt l l.length∧(∀q,mN s q→eG w2 q 227 (Bh (if q∈done then Mv (s.it q) else s.it q)))∧w.heap.size≤gt∧gt<it)
  (Fo:s.rw e.1=ps) (hn:ps.length=n) {bx:Nat} (hI:Tz s bx bc (w2.alloc (.cells bc 224)) done ps j wr) (hj:j<n):
  ∃g,p=some ⟨g,0,none⟩∧wr.cell? ⟨g,j,none⟩=some (.pointer (some ⟨ps.getD j 0,0,none⟩))∧g<wr.heap.size∧n≤cap∧cap≤maxLen:=by
 subst hn
 have o2:w2.ownsRow 0 222 1 (.slice p ps.length cap) ps.length (mS ps):=fR ho hM.1 fun g hg hq=>fZ ho (h.AL hq).1 (by decide) hg
 have o3:=dY o2 ((Ext.refl w2).alloc bc 224).below
 have o4:=fR o3 hI.eA fun g hg hq=>by
  have h1:=hM.2.2.2.1 g ⟨e,he,by rw [Fo];exact hq⟩
  exact fZ o3 (h1.alloc _) (by decide) hg
 obtain ⟨g,h1,h2,h3,h4,h5,h6⟩:=Eu o4 hj
 exact ⟨g,h1,h5,h6,h3,h4⟩
def Zs (w:aH) (q:Nat) (k:Kd):aH:=(((w.setCell ⟨q,2,none⟩ (.int .i64 (k.kM:Nat))).setCell ⟨q,3,none⟩ (.bool k.gJ)).setCell ⟨q,4,none⟩ (.bool k.full)).setCell ⟨q,5,none⟩ (.bool k.eT)
theorem WV {w:aH} {q:Nat} {x:It} (h:eG w q 227 (Bh x)) (k:Kd):eG (Zs w q k) q 227 (Bh { x with kd:=k }):=by
 have:=((((h.gG 2 (.int .i64 (k.kM:Nat))).gG 3 (.bool k.gJ)).gG 4 (.bool k.full)).gG 5 (.bool k.eT))
 exact this
theorem Ew (w:aH) (q:Nat) (k:Kd):eV (fun i=>i=q) w (Zs w q k):=by
 have h0:=eV.refl (fun i=>i=q) w
 have h1:=h0.setCell (p:=⟨q,2,none⟩) (.inl rfl) (.int .i64 (k.kM:Nat))
 have h2:=h1.setCell (p:=⟨q,3,none⟩) (.inl rfl) (.bool k.gJ)
 have h3:=h2.setCell (p:=⟨q,4,none⟩) (.inl rfl) (.bool k.full)
 exact h3.setCell (p:=⟨q,5,none⟩) (.inl rfl) (.bool k.eT)
theorem Tz.step (h:fF w z b gi gb s) {e:gR Kd} (he:e∈s.set) {j bx:Nat} {done ps:List Nat} {W2 wr:aH} {bc:Array Value} (Fo:s.rw e.1=ps) (hI:Tz s bx bc W2 done ps j wr) (hj:j<ps.length):
  Tz s bx bc W2 done ps (j+1) (Zs wr (ps.getD j 0) (pH e.1)):=by
 have T5:ps.getD j 0∈ps:=by rw [aE,aG hj];exact aN _
 have htk:ps.take (j+1)=ps.take j ++ [ps.getD j 0]:=by rw [List.take_succ_eq_append_getElem hj,aE,aG hj];rfl
 have hkd:(s.it (ps.getD j 0)).kd=e.1:=(h.ar e he _ (by rw [Fo];exact T5)).2
 have hq:=hI.item (ps.getD j 0) ⟨e,he,by rw [Fo];exact T5⟩
 generalize ps.getD j 0=q at*
 refine ⟨hI.eA.trans (Ew wr q _) fun i hi=>.inl (by rw [hi];exact T5),fun r hr=>?_,hI.box.eA (Ew wr q _) fun e1=>?_⟩
 ·by_cases hrq:r=q
  ·subst hrq
   rw [htk,if_pos (by simp)]
   have h1:=WV hq (pH e.1)
   have h2: { (if r∈done ++ aO j ps then Mv (s.it r) else s.it r) with kd:=pH e.1 } =Mv (s.it r):=by
    split<;> · unfold Mv;rw [hkd]
   rw [h2] at h1
   exact h1
  ·have h1:=(hI.item r hr).eA (Ew wr q (pH e.1)) hrq
   have h2:(r∈done ++ aO (j+1) ps)↔(r∈done ++ aO j ps):=by rw [htk];simp [hrq]
   simp only [h2]
   exact h1
 ·subst e1
  exact absurd (hI.box.same hq).2 (by decide)
theorem LN {x:gR Kd} :∀(l L:List (gR Kd)),x∈l.foldl (LM s) L→x∈L∨∃e∈l,x.1=pH e.1∧s.rw e.1≠ []
 | [],L,h=>.inl h
 | e::l,L,h=>by
  rcases LN l (LM s L e) h with h | ⟨f,hf,h1⟩
  ·unfold LM at h
   by_cases h0:s.rw e.1= []
   ·rw [if_pos h0] at h;exact .inl h
   ·rw [if_neg h0] at h
    rcases aL.1 h with h | h
    ·exact .inl h
    ·simp at h;subst h;exact .inr ⟨e,by simp,rfl,h0⟩
  ·exact .inr ⟨f,by simp [hf],h1⟩
theorem Zt {l:List (gR Kd)} {x:gR Kd} (h:x∈CB s l):∃e∈l,x.1=pH e.1∧s.rw e.1≠ []:=(LN l [] h).resolve_left aD
theorem CC (h0:kE s false s.set=0) {e:gR Kd} (he:e∈s.set) (hn:s.rw e.1≠ []):e.1.eT=true:=by
 by_cases hs:e.1.eT=false
 ·have h1:=qN (fun e:gR Kd=>if e.1.eT=false then (s.rw e.1).length else 0) [e] s.set (by simp) (fun x hx=>by simp at hx;subst hx;exact he)
  simp [hs] at h1
  unfold kE at h0
  have:(s.rw e.1).length≠0:=fun e1=>hn (aJ e1)
  omega
 ·simpa using hs
theorem OR.done (h:fF w z b gi gb s) {e:gR Kd} (he:e∈s.set) {gt it bx:Nat} {sh:List (gR Kd)} {ps:List Nat} {w2 wr:aH} {bc:Array Value}
  (hM:eV (mN s) w w2∧gC w2 it s.gk s.set s.ck (sh ++ [e])∧eH KK w2 gt (CB s sh) (CB s sh).length∧(∀q,mN s q→eG w2 q 227 (Bh (if q∈sh.flatMap (fun e=>s.rw e.1) then Mv (s.it q) else s.it q)))∧w.heap.size≤gt∧gt<it)
  (Fo:s.rw e.1=ps) (hI:Tz s bx bc (w2.alloc (.cells bc 224)) (sh.flatMap fun e=>s.rw e.1) ps ps.length wr):
  (ps= []→OR w s gt it (sh ++ [e]) ((sh ++ [e]).flatMap fun e=>s.rw e.1) wr)∧
  (kE s false s.set=0→ps≠ []→∀v,∃w9,(Instr.mapUpdate 183 (.map (some gt)) (.agg #[.int .i64 (e.1.kM:Nat),.bool e.1.gJ,.bool e.1.full,.bool false]) v).run prog wr= .ok () w9∧(v=e.2.1→OR w s gt it (sh ++ [e]) ((sh ++ [e]).flatMap fun e=>s.rw e.1) w9)):=by
 obtain ⟨hc,qM,hm,hi,l1,l2⟩:=hM
 have wU:∀q,q∈ps→mN s q:=fun q hq=>⟨e,he,by rw [Fo];exact hq⟩
 have hcw:eV (mN s) w wr:=(hc.alloc _ _).trans hI.eA fun i hi=>.inl (wU i hi)
 have hfl:(sh ++ [e]).flatMap (fun e=>s.rw e.1)=sh.flatMap (fun e=>s.rw e.1) ++ ps:=by rw [List.flatMap_append];simp [Fo]
 have hx:Ext w2 (w2.alloc (.cells bc 224)):=(Ext.refl w2).alloc _ _
 have aEn:∀ {q:Nat} {o:Obj},w2.heap[q]? =some o→(∀cs t f,o≠ .cells cs t f)→wr.heap[q]? =some o:=fun {q o} ho tY=>by
  have fK:q<w2.heap.size:=(Array.getElem?_eq_some_iff.1 ho).1
  have h1:(w2.alloc (.cells bc 224)).heap[q]? =some o:=(hx.below.block q fK).trans ho
  refine (hI.eA.block q (aM fK hx.size) fun hq=>?_).trans h1
  have h2:=hi q (wU q hq)
  unfold eG at h2
  rw [ho] at h2
  exact tY _ _ _ (Option.some.inj h2)
 have aEo:gC wr it s.gk s.set s.ck (sh ++ [e]):=⟨aEn qM.is (fun _ _ _ h=>nomatch h),qM.sub,qM.nd⟩
 have JH:eH KK wr gt (CB s sh) (CB s sh).length:=hm.same ((aEn hm.is (fun _ _ _ h=>nomatch h)).trans hm.is.symm)
 have WW:∀q,mN s q→eG wr q 227 (Bh (if q∈(sh ++ [e]).flatMap (fun e=>s.rw e.1) then Mv (s.it q) else s.it q)):=fun q hq=>by
  rw [hfl]
  have:=hI.item q hq
  rw [List.take_length] at this
  exact this
 refine ⟨fun Mr=>⟨hcw,aEo,?_,WW,l1,l2⟩,fun h0 Mr v=>?_⟩
 ·have:CB s (sh ++ [e])=CB s sh:=by rw [Qo];unfold LM;rw [if_pos (Fo.trans Mr)]
  rw [this];exact JH
 ·obtain ⟨w9,e9,m9,t9⟩:=JH.put (x:=pH e.1) (h.mc.ok e he) (t:=183) underlying183 v
  refine ⟨w9,e9,fun hv=>?_⟩
  subst hv
  have E9:eI (CB s sh) (pH e.1)=none:=kV fun x hx A3=>by
   obtain ⟨f,hf,h1,h2⟩:=Zt hx
   have hfs:f∈s.set:=qM.sub f (by simp [hf])
   have a1:=CC h0 hfs h2
   have a2:=CC h0 he (by rw [Fo];exact Mr)
   have hk:f.1=e.1:=by
    have h3:pH f.1=pH e.1:=h1.symm.trans A3
    unfold pH at h3
    obtain ⟨⟨f1,f2,f3,f4⟩,fr⟩:=f
    obtain ⟨⟨e1,e2,e3,e4⟩,er⟩:=e
    simp at h3 a1 a2 ⊢
    exact ⟨h3.1,h3.2.1,h3.2.2,a1.trans a2.symm⟩
   have hfe:f=e:=by
    have q1:=rO h.mc.nd hfs
    obtain ⟨i1,Jn,e1⟩:=aB hfs
    obtain ⟨i2,yH,e2⟩:=aB he
    rcases aK i1 i2 with fK | NJ | fK
    ·exact absurd (by rw [e1,e2];exact hk) (aA.1 h.mc.nd i1 i2 Jn yH fK)
    ·subst NJ;exact e1.symm.trans e2
    ·exact absurd (by rw [e1,e2];exact hk.symm) (aA.1 h.mc.nd i2 i1 yH Jn fK)
   subst hfe
   exact (List.pairwise_append.1 qM.nd).2.2 f hf f (by simp) rfl
  have hp:mE (CB s sh) (pH e.1) e.2.1 (CB s sh).length=CB s (sh ++ [e]):=by
   rw [Qo]
   unfold LM mE
   rw [E9,if_neg (by rw [Fo];exact Mr)]
  have hck:zY (CB s sh) (pH e.1) (CB s sh).length=(CB s (sh ++ [e])).length:=by
   rw [←hp]
   unfold zY mE
   rw [E9];simp
  rw [hp,hck] at m9
  have hgt:∀ {q t cs},eG wr q t cs→¬q=gt:=fun hb e=>by
   have:=JH.is;unfold eG at hb;rw [e,this] at hb;cases hb
  refine ⟨hcw.trans t9.eA fun i hi=>.inr (by omega),aEo.eA t9.eA (by omega),m9,fun q hq=>(WW q hq).eA t9.eA (hgt (WW q hq)),l1,l2⟩
theorem SV (h:fF w z b gi gb s) (h0:kE s false s.set=0):
  Calls prog 224 #[.pointer (some ⟨b,0,none⟩)] w fun r w'=>r= .returned (.int .i64 0)∧∃sh gt wr,sh.Perm s.set∧OR w s gt (gt+1) sh (sh.flatMap fun e=>s.rw e.1) wr∧w'=wr.setCell ⟨b,2,none⟩ (.map (some gt)):=by
 have F0:=aC (AJ false h (by rw [h0];omega))
 rw [h0] at F0
 have c2:=h.hd.cell 2
 simp at c2
 have zW:=h.hd.lt
 have HH:=aC h
 clear h
 go_enter func224,ntmps224
 go_wp2_with (first | (go_at_call 163;refine F0.out.mono ?_;rintro r w1 ⟨rfl,jE⟩;obtain ⟨wm,aYu,xE,c2m,h0⟩:=OR.begin HH.out jE;have H0:=aC h0;clear h0) | fail)
 go_loopg [] s.set.length (fun gk wr=>∃(sh:List (gR Kd)),gk=s.set.length-sh.length∧Hid (OR w s w1.heap.size (w1.heap.size+1) sh (sh.flatMap fun e=>s.rw e.1) wr))
 case atStart=>exact ⟨[],rfl,H0⟩
 case round=>
  obtain ⟨sh,rfl,hM⟩:=hrel
  clear H0 xE
  have AH:=HH.out.aEm hM.out.eA
  rcases hM.out.iter.next AH 0 with ⟨JB,yF⟩ | ⟨e,w2,he,yF,pP,Bz⟩
  ·have pD:∀ty,(aP (.pointer (some ⟨w1.heap.size+1,0,none⟩)) false ty).run prog wr= .ok (.tuple #[.bool false]) wr:=fun _=>yF
   have pA:=hM.out.iter.all AH JB
   have HC:=aC pA
   have QI:wr.cell? ⟨b,2,none⟩=some (.map (some s.gk)):=(HH.out.Qp hM.out.eA).cell 2
   have wK:=(HH.out.Qp hM.out.eA).frozen 2
   have YO:=(HH.out.Qp hM.out.eA).lt
   clear yF JB AH pA
   go_wp2_with fail
   go_returns
   exact ⟨rfl,sh,_,wr,HC.out,hM.out,rfl⟩
  ·have zS:e∈s.set:=(List.mem_filter.1 he).1
   have Dn:(Instr.entry (.pointer (some ⟨w1.heap.size+1,0,none⟩))).run prog w2= .ok (.tuple #[e.1.v,e.2.1]) w2:=pP.entry (AH.eA Bz.eA (fun e'=>by have:=hM.out.iter.is;have h9:=AH.is;rw [e'] at h9;rw [this] at h9;cases h9))
   have B9:=BF hM.out.iter he pP
   have eP:=(HH.out.ak e zS).1
   obtain ⟨p,cap,hv,Zu,sO,hp⟩:=dZ eP
   have pD:∀ty,(aP (.pointer (some ⟨w1.heap.size+1,0,none⟩)) false ty).run prog wr= .ok (.tuple #[.bool true,e.1.v,e.2.1]) w2:=fun _=>yF
   rw [hv] at Dn pD eP
   have HO:=aC eP
   have HP:=aC (And.intro Zu (And.intro sO hp))
   have AA:=aC (hM.out.next Bz pP)
   have HEL:=aC zS
   have HEV:=aC hv
   clear yF he pP AH zS hv hM Bz eP Zu sO hp
   obtain ⟨⟨q1,q2,q3,q4⟩,ev,eb⟩:=e
   have OJ:(Kd.mk q1 q2 q3 q4).v= .agg #[.int .i64 (q1:Nat),.bool q2,.bool q3,.bool q4]:=rfl
   dsimp only at Dn pD
   rw [OJ] at Dn pD
   go_wp2_with fail
   have HI0:=aC (Tz.start HH.out AA.out (k:=⟨q1,q2,q3,q4⟩) (#[.int .i64 (q1:Nat),.bool q2,.bool q3,.bool false]))
   generalize Fo:s.rw ⟨q1,q2,q3,q4⟩=ps at*
   generalize WT:ps.length=n at*
   have UA:=aC (And.intro Fo WT)
   clear Fo WT
   go_loopw [25] (fun i wr=>∃j:Nat,i= .int .i64 j∧j≤n∧Hid (Tz s w2.heap.size (#[.int .i64 (q1:Nat),.bool q2,.bool q3,.bool false]) (w2.alloc (.cells #[.int .i64 (q1:Nat),.bool q2,.bool q3,.bool false] 224)) (sh.flatMap fun e=>s.rw e.1) ps j wr)) (fun i _=>n-(intOf i).toNat)
   case atStart=>exact ⟨0,rfl,Nat.zero_le _,HI0⟩
   case round=>
    obtain ⟨j,rfl,hjn,hI⟩:=hrel
    by_cases fK:j<n
    ·obtain ⟨g,rfl,wH,rW,hg4,hg3⟩:=Tz.cell HH.out HEL.out HO.out AA.out UA.out.1 UA.out.2 hI.out fK
     have hq:=hI.out.item (ps.getD j 0) ⟨_,HEL.out,by rw [UA.out.1];rw [aE,aG (by rw [UA.out.2];exact fK)];exact aN _⟩
     have DT:=hI.out.box
     have b0:wr.cell? ⟨w2.heap.size,0,none⟩=some (.int .i64 (q1:Nat)):=DT.cell 0
     have b1:wr.cell? ⟨w2.heap.size,1,none⟩=some (.bool q2):=DT.cell 1
     have b2:wr.cell? ⟨w2.heap.size,2,none⟩=some (.bool q3):=DT.cell 2
     have b3:wr.cell? ⟨w2.heap.size,3,none⟩=some (.bool false):=DT.cell 3
     have hql:=hq.lt
     obtain ⟨v2,WD⟩:∃v,wr.cell? ⟨ps.getD j 0,2,none⟩=some v:=⟨_,hq.cell 2⟩
     obtain ⟨v3,hq3⟩:∃v,wr.cell? ⟨ps.getD j 0,3,none⟩=some v:=⟨_,hq.cell 3⟩
     obtain ⟨v4,hq4⟩:∃v,wr.cell? ⟨ps.getD j 0,4,none⟩=some v:=⟨_,hq.cell 4⟩
     obtain ⟨v5,hq5⟩:∃v,wr.cell? ⟨ps.getD j 0,5,none⟩=some v:=⟨_,hq.cell 5⟩
     have Qq:=Tz.step HH.out HEL.out UA.out.1 hI.out (by rw [UA.out.2];exact fK)
     unfold Zs pH at Qq
     dsimp only at Qq
     have f2:=hq.frozen 2
     have f3:=hq.frozen 3
     have f4:=hq.frozen 4
     have f5:=hq.frozen 5
     have HQ:=aC hq
     clear hq DT
     have aYw:n≤9223372036854775807:=by have:=hg3;have:=hg3;unfold maxLen at*;omega
     generalize ps.getD j 0=q at*
     have HN:=aC Qq
     clear Qq HQ
     go_wp2_with fail
     go_roundw
     case rel=>exact ⟨j+1,by go_num,fK,HN⟩
     case measure=>simp [intOf];omega
    ·obtain rfl:j=n:=by omega
     clear HI0
     have HF:=aC (OR.done HH.out HEL.out AA.out UA.out.1 (by rw [UA.out.2];exact hI.out))
     by_cases Aa:j=0
     ·have HN:=aC (HF.out.1 (by rw [←UA.out.2] at Aa;exact aJ Aa))
      subst Aa
      clear HF hI
      go_wp2_with fail
      go_roundg (s.set.length-(sh.length+1))
      case measure=>omega
      case rel=>exact ⟨sh ++ [_],by simp,HN⟩
     ·obtain ⟨w9,e9,h9⟩:=HF.out.2 h0 (fun e=>Aa (by rw [←UA.out.2,e];rfl)) (.slice p j cap)
      have HN:=aC (h9 HEV.out.symm)
      have hj0:decide ((0:Int)<(j:Int))=true:=decide_eq_true (by omega)
      have DT:=hI.out.box
      have b0:wr.cell? ⟨w2.heap.size,0,none⟩=some (.int .i64 (q1:Nat)):=DT.cell 0
      have b1:wr.cell? ⟨w2.heap.size,1,none⟩=some (.bool q2):=DT.cell 1
      have b2:wr.cell? ⟨w2.heap.size,2,none⟩=some (.bool q3):=DT.cell 2
      have b3:wr.cell? ⟨w2.heap.size,3,none⟩=some (.bool false):=DT.cell 3
      have bl:=DT.lt
      clear HF hI h9 DT
      go_wp2_with fail
      go_roundg (s.set.length-(sh.length+1))
      case measure=>omega
      case rel=>exact ⟨sh ++ [_],by simp,HN⟩
end
def qV (s:oA) (gt:Nat) (sh:List (gR Kd)):oA:=
 { s with gk:=gt,set:=CB s sh,ck:=(CB s sh).length,it:=fun q=>if q∈sh.flatMap (fun e=>s.rw e.1) then Mv (s.it q) else s.it q,rw:=fun k=>if k.eT=false then s.rw { k with eT:=true } else [] }
section
variable {z:Nat→Nat} {w w' wr:aH} {b gi gb gt it:Nat} {s:oA} {sh:List (gR Kd)}
theorem LO {x:gR Kd} :∀(l L:List (gR Kd)),x∈l.foldl (LM s) L→x∈L∨∃e∈l,x.1=pH e.1∧x.2.1=e.2.1∧s.rw e.1≠ []
 | [],L,h=>.inl h
 | e::l,L,h=>by
  rcases LO l (LM s L e) h with h | ⟨f,hf,h1⟩
  ·unfold LM at h
   by_cases h0:s.rw e.1= []
   ·rw [if_pos h0] at h;exact .inl h
   ·rw [if_neg h0] at h
    rcases aL.1 h with h | h
    ·exact .inl h
    ·simp at h;subst h;exact .inr ⟨e,by simp,rfl,rfl,h0⟩
  ·exact .inr ⟨f,by simp [hf],h1⟩
theorem LP {x:gR Kd} :∀(l L:List (gR Kd)),x∈L→x∈l.foldl (LM s) L
 | [],L,h=>h
 | e::l,L,h=>LP l _ (by
  unfold LM
  split
  ·exact h
  ·exact aL.2 (.inl h))
theorem LQ:∀(l L:List (gR Kd)) (e:gR Kd),e∈l→s.rw e.1≠ []→∃x∈l.foldl (LM s) L,x.1=pH e.1
 | f::l,L,e,h,h0=>by
  rcases List.mem_cons.1 h with h | h
  ·subst h
   refine ⟨(pH e.1,e.2.1,L.length),LP l _ ?_,rfl⟩
   unfold LM
   rw [if_neg h0];simp
  ·exact LQ l _ e h h0
theorem fF.flip (h:fF w z b gi gb s) (h0:kE s false s.set=0) (hp:sh.Perm s.set) (hM:OR w s gt it sh (sh.flatMap fun e=>s.rw e.1) wr):
  fF (wr.setCell ⟨b,2,none⟩ (.map (some gt))) (lay z w 7) b gi gb (qV s gt sh)∧eF (fun i=>i=7) z w (lay z w 7) (wr.setCell ⟨b,2,none⟩ (.map (some gt))):=by
 obtain ⟨z1,z2,z3⟩:=h.zi
 have hb:=h.Qp hM.eA
 have hc:eV (fun k=>mN s k∨k=b) w (wr.setCell ⟨b,2,none⟩ (.map (some gt))):=(hM.eA.mono (F':=fun k=>mN s k∨k=b) fun i hi=>.inl (Or.inl hi)).setCell (p:=⟨b,2,none⟩) (.inl (Or.inr rfl)) _
 have hF:∀k,(mN s k∨k=b)→z k=7:=by
  rintro k (hk | rfl)
  ·exact (h.AL hk).2
  ·exact h.zb
 have zW:=h.hd.lt
 have VQ:∀ {q t cs},eG wr q t cs→t≠185→eG (wr.setCell ⟨b,2,none⟩ (.map (some gt))) q t cs:=fun hq ht=>hq.zR (fun e=>by subst e;exact ht (hq.same hb).2) _
 have tY:∀ {q:Nat} {o:Obj},w.heap[q]? =some o→(∀cs t f,o≠ .cells cs t f)→¬(mN s q∨q=b):=fun {q o} ho hn hq=>by
  have:∃t cs,eG w q t cs:=by
   rcases hq with hq | rfl
   ·exact ⟨_,_,(h.AL hq).1⟩
   ·exact ⟨_,_,h.hd⟩
  obtain ⟨t,cs,h2⟩:=this
  unfold eG at h2
  rw [ho] at h2
  exact hn _ _ _ (Option.some.inj h2)
 have NV:∀ {α:Type} [DecidableEq α] {E:zX α} {g:Nat} {l:List (gR α)} {c:Nat},eH E w g l c→eH E (wr.setCell ⟨b,2,none⟩ (.map (some gt))) g l c:=fun hm=>hm.eA hc (tY hm.is fun _ _ _ h=>nomatch h)
 have hgt:eH KK (wr.setCell ⟨b,2,none⟩ (.map (some gt))) gt (CB s sh) (CB s sh).length:=hM.map.same (Below.heap_setCell wr ⟨b,2,none⟩ _ gt (fun e:gt=b=>by have:=hM.lt;omega))
 have GW:∀q,q∈sh.flatMap (fun e=>s.rw e.1)↔mN s q:=fun q=>by
  rw [List.mem_flatMap]
  exact ⟨fun ⟨e,he,hq⟩=>⟨e,hp.mem_iff.1 he,hq⟩,fun ⟨e,he,hq⟩=>⟨e,hp.mem_iff.2 he,hq⟩⟩
 have qM:∀q,qU w z q (s.it q)→qU (wr.setCell ⟨b,2,none⟩ (.map (some gt))) (lay z w 7) q ((qV s gt sh).it q):=fun q hq=>by
  have hz:lay z w 7 q=7:=(eR hq.1.lt).trans hq.2
  by_cases hr:mN s q
  ·exact ⟨VQ (hM.item q hr) (by decide),hz⟩
  ·have e:(qV s gt sh).it q=s.it q:=if_neg fun h=>hr ((GW q).1 h)
   rw [e]
   exact ⟨VQ (hq.1.eA hM.eA hr) (by decide),hz⟩
 have hid:∀q,((qV s gt sh).it q).id=(s.it q).id∧((qV s gt sh).it q).base=(s.it q).base:=fun q=>by
  show (if q∈sh.flatMap (fun e=>s.rw e.1) then Mv (s.it q) else s.it q).id=_∧(if q∈sh.flatMap (fun e=>s.rw e.1) then Mv (s.it q) else s.it q).base=_
  split<;>exact ⟨rfl,rfl⟩
 have Zv:∀x∈CB s sh,∃e∈s.set,x.1=pH e.1∧x.2.1=e.2.1∧e.1.eT=true∧(qV s gt sh).rw x.1=s.rw e.1:=fun x hx=>by
  obtain ⟨e,he,h1,h2,h3⟩:=(LO sh [] hx).resolve_left aD
  have he:=hp.mem_iff.1 he
  have hs:=CC h0 he h3
  refine ⟨e,he,h1,h2,hs,?_⟩
  rw [h1]
  show (if (pH e.1).eT=false then s.rw { pH e.1 with eT:=true } else [])=s.rw e.1
  rw [if_pos (show (pH e.1).eT=false from rfl)]
  congr 1
  obtain ⟨⟨e1,e2,e3,e4⟩,er⟩:=e
  simp [pH] at hs ⊢
  exact hs
 have Q5:∀(e f:gR Kd),e∈s.set→f∈s.set→e.1=f.1→e=f:=fun e f he hf hk=>by
  obtain ⟨i1,Jn,e1⟩:=aB he
  obtain ⟨i2,yH,e2⟩:=aB hf
  rcases aK i1 i2 with fK | NJ | fK
  ·exact absurd (by rw [e1,e2];exact hk) (aA.1 h.mc.nd i1 i2 Jn yH fK)
  ·subst NJ;exact e1.symm.trans e2
  ·exact absurd (by rw [e1,e2];exact hk.symm) (aA.1 h.mc.nd i2 i1 yH Jn fK)
 have DU:∀(e f:gR Kd),e∈s.set→f∈s.set→e≠f→∀g,e.2.1.ownBlock=some g→f.2.1.ownBlock≠some g:=fun e f he hf gO g hg rW=>by
  obtain ⟨i1,Jn,e1⟩:=aB he
  obtain ⟨i2,yH,e2⟩:=aB hf
  rcases aK i1 i2 with fK | NJ | fK
  ·exact aA.1 h.ap i1 i2 Jn yH fK g (by rw [e1];exact hg) (by rw [e2];exact rW)
  ·subst NJ;exact gO (e1.symm.trans e2)
  ·exact aA.1 h.ap i2 i1 yH Jn fK g (by rw [e2];exact rW) (by rw [e1];exact hg)
 refine ⟨⟨(hb.gG 2 (.map (some gt))),(eR zW).trans h.zb,NV h.mi,NV h.mb,hgt,⟨(eR h.mi.lt).trans z1,(eR h.mb.lt).trans z2,eQ hM.lt.1⟩,⟨h.ne.1,by have:=h.mi.lt;have:=hM.lt;show gi≠gt;omega,by have:=h.mb.lt;have:=hM.lt;show gb≠gt;omega⟩,fun e he=>?_,fun e he=>?_,fun x hx=>?_,fun x hx q hq=>?_,fun k hk=>?_,?_⟩,eF.oI hc hF 7⟩
 ·obtain ⟨q,h1,h2,h3⟩:=h.ai e he
  exact ⟨q,h1,qM q h2,(hid q).1.trans h3⟩
 ·obtain ⟨q,h1,h2,h3⟩:=h.ab e he
  exact ⟨q,h1,qM q h2,(hid q).2.trans h3⟩
 ·obtain ⟨e,he,h1,h2,h3,h4⟩:=Zv x hx
  obtain ⟨a1,a2⟩:=h.ak e he
  rw [h2,h4]
  refine ⟨fR a1 hc fun g hg=>?_,fun g hg=>(eR (eB a1 g hg).2).trans (a2 g hg)⟩
  rintro (hq | rfl)
  ·exact fZ a1 (h.AL hq).1 (by decide) hg
  ·exact fZ a1 h.hd (by decide) hg
 ·obtain ⟨e,he,h1,h2,h3,h4⟩:=Zv x hx
  rw [h4] at hq
  obtain ⟨a1,a2⟩:=h.ar e he q hq
  refine ⟨qM q a1,?_⟩
  show (if q∈sh.flatMap (fun e=>s.rw e.1) then Mv (s.it q) else s.it q).kd=x.1
  rw [if_pos ((GW q).2 ⟨e,he,hq⟩),h1]
  unfold Mv
  rw [a2]
 ·show (if k.eT=false then s.rw { k with eT:=true } else [])= []
  by_cases DL:k.eT=false
  ·rw [if_pos DL]
   by_cases hem:s.rw { k with eT:=true } = []
   ·exact hem
   ·exfalso
    cases hl:eI s.set { k with eT:=true } with
    | none=>exact hem (h.rn _ hl)
    | some v=>
     obtain ⟨e,he,h1, -⟩:=kW hl
     obtain ⟨x,hx,h2⟩:=LQ sh [] e (hp.mem_iff.2 he) (by rw [h1];exact hem)
     refine rP hk x hx (h2.trans ?_)
     rw [h1]
     obtain ⟨k1,k2,k3,k4⟩:=k
     simp [pH] at DL ⊢
     exact DL
  ·rw [if_neg DL]
 ·show (CB s sh).Pairwise _
  refine List.Pairwise.imp_of_mem (fun {x y} hx hy T7=>?_) hgt.nd
  obtain ⟨e,he,h1,h2,h3,h4⟩:=Zv x hx
  obtain ⟨f,hf,g1,g2,g3,g4⟩:=Zv y hy
  rw [h2,g2]
  refine DU e f he hf fun ef=>T7 ?_
  rw [h1,g1,ef]
end
def WY (gk:Nat):oA:= { gk:=gk,ids:= [],ci:=0,Ac:= [],cb:=0,set:= [],ck:=0,it:=fun _=>⟨0,0,⟨0,false,false,false⟩⟩,rw:=fun _=> [] }
theorem WZ (z:Nat→Nat) (w:aH):Calls prog 46 #[] w fun r w'=>r= .returned (.pointer (some ⟨w.heap.size+3,0,none⟩))∧fF w' (lay z w 7) (w.heap.size+3) w.heap.size (w.heap.size+1) (WY (w.heap.size+2))∧Ext w w':=by
 have m1:∀w:aH,(aI 181 none).run prog w= .ok (.map (some w.heap.size)) (w.alloc (.map #[] 0)):=fun _=>by kernel_rfl
 have m2:∀w:aH,(aI 182 none).run prog w= .ok (.map (some w.heap.size)) (w.alloc (.map #[] 0)):=fun _=>by kernel_rfl
 have m3:∀w:aH,(aI 183 none).run prog w= .ok (.map (some w.heap.size)) (w.alloc (.map #[] 0)):=fun _=>by kernel_rfl
 have s1:=aF w (.map #[] 0)
 have s2:=aF (w.alloc (.map #[] 0)) (.map #[] 0)
 have s3:=aF ((w.alloc (.map #[] 0)).alloc (.map #[] 0)) (.map #[] 0)
 have x1:Ext w (w.alloc (.map #[] 0)):=(Ext.refl w).allocMap _ _
 have x2:=x1.allocMap #[] 0
 have x3:=x2.allocMap #[] 0
 have a1:=eH.made KI w
 have a2:=eH.made KU (w.alloc (.map #[] 0))
 have a3:=eH.made KK ((w.alloc (.map #[] 0)).alloc (.map #[] 0))
 rw [s1] at a2
 rw [s2,s1] at a3
 have mR:fF ((((w.alloc (.map #[] 0)).alloc (.map #[] 0)).alloc (.map #[] 0)).alloc (.cells #[.map (some w.heap.size),.map (some (w.heap.size+1)),.map (some (w.heap.size+2))] 185)) (lay z w 7) (w.heap.size+3) w.heap.size (w.heap.size+1) (WY (w.heap.size+2)):=by
  have hb:=eG.new (((w.alloc (.map #[] 0)).alloc (.map #[] 0)).alloc (.map #[] 0)) 185 #[.map (some w.heap.size),.map (some (w.heap.size+1)),.map (some (w.heap.size+2))]
  rw [s3,s2,s1] at hb
  have y0:Ext (((w.alloc (.map #[] 0)).alloc (.map #[] 0)).alloc (.map #[] 0)) ((((w.alloc (.map #[] 0)).alloc (.map #[] 0)).alloc (.map #[] 0)).alloc (.cells #[.map (some w.heap.size),.map (some (w.heap.size+1)),.map (some (w.heap.size+2))] 185)):=(Ext.refl _).alloc _ _
  refine ⟨hb,eQ (by omega),((a1.ext ((Ext.refl _).allocMap _ _)).ext ((Ext.refl _).allocMap _ _)).ext y0,(a2.ext ((Ext.refl _).allocMap _ _)).ext y0,a3.ext y0,⟨eQ (Nat.le_refl _),eQ (by omega),eQ (by show w.heap.size≤w.heap.size+2;omega)⟩,⟨by omega,by show w.heap.size≠w.heap.size+2;omega,by show w.heap.size+1≠w.heap.size+2;omega⟩,fun e he=>absurd he aD,fun e he=>absurd he aD,fun e he=>absurd he aD,fun e he=>absurd he aD,fun _ _=>rfl,List.Pairwise.nil⟩
 have HF:=aC (And.intro mR (x3.alloc #[.map (some w.heap.size),.map (some (w.heap.size+1)),.map (some (w.heap.size+2))] 185))
 clear mR x1 x2 x3 a1 a2 a3
 go_enter func46,ntmps46
 go_wp2_with fail
 go_returns
 refine ⟨?_,?_⟩
 ·simp
 ·simpa using HF.out
end Go.Proofs.YtgknoidliabanaaGreatDoor
