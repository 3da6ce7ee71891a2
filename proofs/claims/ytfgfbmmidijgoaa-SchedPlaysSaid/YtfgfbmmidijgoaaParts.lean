/- A region that draws its order, in three parts: what yields its value in whatever world (it comes first); what only reads (one walk, in the order of the text); what stands in one forced order behind. -/
import Derived.Test.YtfgfbmmidijgoaaRows
import Derived.Test.YtfgfbmmidijgoaaHead
import Derived.Deep.RegionHeld3
namespace Go.Proofs.Ytfgfbmmidijgoaa
open Go.RowKit
set_option linter.unusedVariables false

/-- the operations of these numbers. -/
def pickL (l : List Oper) : List Nat → List Oper
  | [] => []
  | i :: r => (l.drop i).take 1 ++ pickL l r
/-- what yields its value in whatever world, one behind the other. -/
def wpFree (P : Program) (ops : Array Oper) (Q : Act → Prop) : List Oper → Act → Prop
  | [], a => Q a
  | o :: rest, a => ∃ v, Yields P ops o v a ∧ wpFree P ops Q rest (a.put o.dst v)
theorem wpFree_nil {P : Program} {ops : Array Oper} {Q : Act → Prop} {a : Act} (h : Q a) : wpFree P ops Q [] a := h
theorem wpFree_cons {P : Program} {ops : Array Oper} {Q : Act → Prop} {a : Act} {o : Oper} {rest : List Oper} {v : Value} (hw : Region.wanted o (yielded ops a.tmps) = true)
    (hy : ∀ w, (execOp a.eval o).run P w = .ok (.value v) w) (h : wpFree P ops Q rest (a.put o.dst v)) : wpFree P ops Q (o :: rest) a := ⟨v, .inl ⟨hw, hy⟩, h⟩

theorem wpFree_mono {P : Program} {ops : Array Oper} {Q Q' : Act → Prop} (h : ∀ a, Q a → Q' a) : ∀ (l : List Oper) (a : Act), wpFree P ops Q l a → wpFree P ops Q' l a
  | [], a, hh => h a hh
  | o :: r, a, hh => by
    obtain ⟨v, h1, h2⟩ := hh
    exact ⟨v, h1, wpFree_mono h r _ h2⟩

def setAll : List Nat → Array Bool → Array Bool
  | [], l => l
  | i :: r, l => setAll r (l.setIfInBounds i true)
def firstsB (md : Region.Mode) (ops : Array Oper) : List Nat → Array Bool → Bool
  | [], _ => true
  | i :: r, l => decide (i < ops.size) && (Region.ready md ops l).contains i && Region.free md ops l i && firstsB md ops r (l.setIfInBounds i true)
def sinksB (md : Region.Mode) (ops : Array Oper) (t : Nat) : List Nat → Bool
  | [] => true
  | i :: r => (Region.waitsFor md ops t i || r.any fun j => Region.waitsFor md ops j i) && sinksB md ops t r
def chainsB (md : Region.Mode) (ops : Array Oper) : Nat → List Nat → Bool
  | _, [] => true
  | t, u :: r => Region.waitsFor md ops u t && chainsB md ops u r
def seqsB (md : Region.Mode) (ops : Array Oper) : List Nat → Array Bool → Bool
  | [], l => (Region.ready md ops l).isEmpty
  | t :: r, l => decide (Region.ready md ops l = [t]) && decide (t < ops.size) && seqsB md ops r (l.setIfInBounds t true)
def partsB (md : Region.Mode) (ops : Array Oper) (p hd : List Nat) (t : Nat) (tl : List Nat) : Bool :=
  Region.noSelect ops && decide (p.length + hd.length + (tl.length + 1) = ops.size) && firstsB md ops p (Array.replicate ops.size false) &&
  firstsB md ops hd (setAll p (Array.replicate ops.size false)) && sinksB md ops t hd && chainsB md ops t tl && ((t :: tl).all fun u => !(setAll p (Array.replicate ops.size false)).getD u true) && decide ((t :: tl).all (fun u => !hd.contains u)) &&
  ((List.range ops.size).all fun i => (setAll p (Array.replicate ops.size false)).getD i true || hd.contains i || (t :: tl).contains i) &&
  seqsB md ops (t :: tl) (setAll hd (setAll p (Array.replicate ops.size false)))

section
variable {P : Program} {ops : Array Oper} {Q : Exit → Act → World → Prop} {md : Region.Mode} {w : World}

theorem pick_at {l : List Oper} {i : Nat} {r : List Nat} (h : i < l.length) : pickL l (i :: r) = l[i] :: pickL l r := by
  show (l.drop i).take 1 ++ pickL l r = _
  rw [List.drop_eq_getElem_cons h]
  rfl

theorem setAll_size : ∀ (p : List Nat) (l : Array Bool), (setAll p l).size = l.size
  | [], _ => rfl
  | i :: r, l => by show (setAll r _).size = _; rw [setAll_size r]; simp

/-- listed is closed: what came up, came up behind what it waits for. -/
def ClosedL (md : Region.Mode) (ops : Array Oper) (listed : Array Bool) : Prop :=
  listed.size = ops.size ∧ ∀ j oj, ops[j]? = some oj → listed.getD j false = true → ∀ e ∈ oj.after, Region.binds md e = true → listed.getD e.on false = true
theorem ClosedL.set {i : Nat} {listed : Array Bool} (inv : ClosedL md ops listed) (hi : i ∈ Region.ready md ops listed) : ClosedL md ops (listed.setIfInBounds i true) := by
  obtain ⟨_, oi, hoi, hall⟩ := mem_ready.1 hi
  refine ⟨by simp [inv.1], fun j oj hj hl e he hb => ?_⟩
  by_cases hij : i = j
  · subst hij
    have : oj = oi := Option.some.inj (hj.symm.trans hoi)
    subst this
    exact getD_set_true (hall e he hb)
  · rw [getD_set_ne false hij] at hl
    exact getD_set_true (inv.2 j oj hj hl e he hb)
theorem ClosedL.setAll : ∀ (p : List Nat) {listed : Array Bool}, ClosedL md ops listed → firstsB md ops p listed = true → ClosedL md ops (setAll p listed)
  | [], _, h, _ => h
  | i :: r, _, h, hB => by
    simp only [firstsB, Bool.and_eq_true] at hB
    exact ClosedL.setAll r (h.set (by simpa using hB.1.1.2)) hB.2

theorem sinks_wait {t : Nat} : ∀ (hd : List Nat) {listed : Array Bool}, sinksB md ops t hd = true → (∀ j ∈ hd, j < ops.size) → ClosedL md ops listed → (∃ i ∈ hd, listed.getD i true = false) → t ∉ Region.ready md ops listed
  | [], _, _, _, _, h => by obtain ⟨i, hi, -⟩ := h; cases hi
  | h :: r, listed, hB, hlt, inv, hex => by
    simp only [sinksB, Bool.and_eq_true, Bool.or_eq_true] at hB
    by_cases hr : ∃ i ∈ r, listed.getD i true = false
    · exact sinks_wait r hB.2 (fun j hj => hlt j (List.mem_cons_of_mem _ hj)) inv hr
    · obtain ⟨i, hi, hu⟩ := hex
      rcases List.mem_cons.1 hi with rfl | hi
      · rcases hB.1 with hw | hw
        · intro hrd
          obtain ⟨_, ot, hot, hall⟩ := mem_ready.1 hrd
          obtain ⟨o', ho', e, he, hb, hon⟩ := Region.waitsFor_spec hw
          obtain rfl : o' = ot := Option.some.inj (ho'.symm.trans hot)
          have h2 := hall e he hb
          rw [hon, getD_both hu] at h2
          cases h2
        · obtain ⟨j, hj, hw⟩ := List.any_eq_true.1 hw
          obtain ⟨oj, hoj, e, he, hb, hon⟩ := Region.waitsFor_spec hw
          have hjl : listed.getD j false = true := by
            cases hl : listed.getD j false with
            | true => rfl
            | false => exact absurd ⟨j, hj, getD_in (by rw [inv.1]; exact hlt j (List.mem_cons_of_mem _ hj)) hl⟩ hr
          have h2 := inv.2 j oj hoj hjl e he hb
          rw [hon, getD_both hu] at h2
          cases h2
      · exact absurd ⟨i, hi, hu⟩ hr
theorem chains_wait : ∀ (tl : List Nat) (t : Nat) {listed : Array Bool}, chainsB md ops t tl = true → (∀ u ∈ t :: tl, listed.getD u true = false) → ∀ u ∈ tl, u ∉ Region.ready md ops listed
  | [], _, _, _, _, u, hu => by cases hu
  | v :: r, t, listed, hB, hun, u, hu => by
    simp only [chainsB, Bool.and_eq_true] at hB
    rcases List.mem_cons.1 hu with rfl | hu
    · intro hrd
      obtain ⟨_, ot, hot, hall⟩ := mem_ready.1 hrd
      obtain ⟨o', ho', e, he, hb, hon⟩ := Region.waitsFor_spec hB.1
      obtain rfl : o' = ot := Option.some.inj (ho'.symm.trans hot)
      have h2 := hall e he hb
      rw [hon, getD_both (hun t List.mem_cons_self)] at h2
      cases h2
    · exact chains_wait r v hB.2 (fun u hu => hun u (List.mem_cons_of_mem _ hu)) u hu

/-- what is still to come of the head comes in whatever order, and leaves the world as it is; L behind it. -/
def wpSome (P : Program) (md : Region.Mode) (ops : Array Oper) (w : World) (D : Nat → Prop) (L : Array Bool → Act → Prop) : Nat → Array Bool → Act → Prop
  | 0, listed, a => L listed a
  | f + 1, listed, a => Region.ready md ops listed ≠ [] ∧ ∀ i ∈ Region.ready md ops listed, ¬ D i ∧ stOp P ops w i (wpSome P md ops w D L f (listed.setIfInBounds i true)) a
theorem wpAny_of_some {D : Nat → Prop} {g : Nat} {L : Array Bool → Act → Prop} (hL : ∀ listed a, L listed a → wpAny P md ops Q g listed a w) :
    ∀ (f : Nat) (listed : Array Bool) (a : Act), wpSome P md ops w D L f listed a → wpAny P md ops Q (f + g) listed a w
  | 0, listed, a, h => by rw [Nat.zero_add]; exact hL _ _ h
  | f + 1, listed, a, h => by
    rw [show f + 1 + g = (f + g) + 1 by omega]
    exact ⟨fun h0 => absurd h0 h.1, fun i hi => wpOp_of_stOp (fun a' h' => wpAny_of_some hL f _ a' h') (h.2 i hi).2⟩

theorem keepT {listed : Array Bool} {j u : Nat} (h : listed.getD u true = true) : (listed.setIfInBounds j true).getD u true = true := by
  by_cases e : j = u
  · subst e
    rw [Array.getD_eq_getD_getElem?]
    rcases Nat.lt_or_ge j listed.size with hl | hl
    · rw [Array.getElem?_setIfInBounds_self_of_lt hl]; rfl
    · rw [Array.getElem?_eq_none (by simpa using hl)]; rfl
  · rw [getD_set_ne true e]; exact h
/-- the tail waits while something of the head is still to come; B has come. -/
def WaitsD (md : Region.Mode) (ops : Array Oper) (B D : Nat → Prop) : Prop :=
  ∀ listed, ClosedL md ops listed → (∀ u, D u → listed.getD u true = false) → (∀ u, B u → listed.getD u true = true) → ∀ i, listed.getD i true = false → i < ops.size → ¬ D i → ∀ u, D u → u ∉ Region.ready md ops listed

theorem wpSome_first {B D : Nat → Prop} {i : Nat} {oi : Oper} {v : Value} {L : Array Bool → Act → Prop} (hi : ops[i]? = some oi) (hsel : ∀ (j : Nat) (o : Oper) cs b, ops[j]? = some o → o.op ≠ .select cs b)
    (hW : WaitsD md ops B D) (hD : ¬ D i) (hdone : ∀ listed a, L listed a → ∀ j ∈ Region.ready md ops listed, D j) :
    ∀ (f : Nat) (listed : Array Bool) (a : Act), ClosedL md ops listed → (∀ u, D u → listed.getD u true = false) → (∀ u, B u → listed.getD u true = true) →
      (∀ j oj, ops[j]? = some oj → j ≠ i → listed.getD j true = false → (∀ e ∈ oj.after, Region.binds md e = true → e.on ≠ i) → oi.apart ops oj = true) →
      i ∈ Region.ready md ops listed → YieldsAt P ops w oi v a →
      wpSome P md ops w D L f (listed.setIfInBounds i true) (a.put oi.dst v) → wpSome P md ops w D L (f + 1) listed a := by
  have hilt : i < ops.size := (Array.getElem?_eq_some_iff.1 hi).1
  intro f
  induction f with
  | zero =>
    intro listed a inv hun hbb _ hr hy H
    have hu := (mem_ready.1 hr).1
    refine ⟨fun h => (by rw [h] at hr; cases hr), fun j hj => ?_⟩
    have hjD : ¬ D j := fun hd => hW listed inv hun hbb i hu hilt hD j hd hj
    refine ⟨hjD, ?_⟩
    by_cases hji : j = i
    · subst hji; exact hy.stOp hi H
    · exact absurd (hdone _ _ H j (ready_mono hj hji)) hjD
  | succ f ih =>
    intro listed a inv hun hbb hfree hr hy H
    have hu := (mem_ready.1 hr).1
    refine ⟨fun h => (by rw [h] at hr; cases hr), fun j hj => ?_⟩
    have hjD : ¬ D j := fun hd => hW listed inv hun hbb i hu hilt hD j hd hj
    refine ⟨hjD, ?_⟩
    by_cases hji : j = i
    · subst hji; exact hy.stOp hi H
    · have h1 := (H.2 j (ready_mono hj hji)).2
      obtain ⟨hjun, oj, hoj, hall⟩ := mem_ready.1 hj
      have hnot : ∀ e ∈ oj.after, Region.binds md e = true → e.on ≠ i := fun e he hb heq => by
        have h1 := hall e he hb
        rw [heq, getD_both hu] at h1
        cases h1
      have h2 := stOp_put hoj (hfree j oj hoj hji hjun hnot) (fun cs b => hsel i oi cs b hi) (fun cs b => hsel j oj cs b hoj) hy h1
      have hfree' : ∀ k ok, ops[k]? = some ok → k ≠ i → (listed.setIfInBounds j true).getD k true = false →
          (∀ e ∈ ok.after, Region.binds md e = true → e.on ≠ i) → oi.apart ops ok = true := fun k ok hk hki hun hno => by
        refine hfree k ok hk hki ?_ hno
        by_cases hjk : j = k
        · subst hjk; exact hjun
        · rw [getD_set_ne true hjk] at hun; exact hun
      have hun' : ∀ u, D u → (listed.setIfInBounds j true).getD u true = false := fun u hd => by
        rw [getD_set_ne true (fun e => hjD (by rw [e]; exact hd))]; exact hun u hd
      refine stOp_mono (fun a' h3 => ih (listed.setIfInBounds j true) a' (inv.set hj) hun' (fun u hu => keepT (hbb u hu)) hfree' (ready_mono hr (Ne.symm hji)) h3.1 ?_) h2
      rw [Array.setIfInBounds_comm _ _ hji]
      exact h3.2

theorem wpSome_lex {l : List Oper} (hl : l.toArray = ops) {B D : Nat → Prop} {Lq : Act → Prop} {g : Array Bool → Bool} (hsel : Region.noSelect ops = true) (hW : WaitsD md ops B D) (hg : ∀ listed, g listed = true → ∀ j ∈ Region.ready md ops listed, D j) :
    ∀ (hd : List Nat) (listed : Array Bool) (a : Act), (∀ i ∈ hd, ¬ D i) → ClosedL md ops listed → (∀ u, D u → listed.getD u true = false) → (∀ u, B u → listed.getD u true = true) → firstsB md ops hd listed = true → g (setAll hd listed) = true →
    wpStill P ops w Lq (pickL l hd) a → wpSome P md ops w D (fun listed' a' => g listed' = true ∧ Lq a') hd.length listed a
  | [], listed, a, _, _, _, _, _, hG, h => ⟨hG, h⟩
  | i :: r, listed, a, hnd, inv, hun, hbb, hB, hG, h => by
    simp only [firstsB, Bool.and_eq_true, decide_eq_true_eq] at hB
    obtain ⟨⟨⟨hlt, hr⟩, hf⟩, hB'⟩ := hB
    have hll : i < l.length := by rw [← hl] at hlt; simpa using hlt
    rw [pick_at hll] at h
    have h0 : ops[i]? = some l[i] := by rw [← hl]; simp [hll]
    have hr' : i ∈ Region.ready md ops listed := by simpa using hr
    have hst : stOp P ops w i (wpStill P ops w Lq (pickL l r)) a := by unfold stOp; simp only [h0]; exact h
    obtain ⟨v, hy, hK⟩ := yieldsAt_of_stOp h0 hst
    have hi := hnd i List.mem_cons_self
    exact wpSome_first h0 (Region.noSelect_spec hsel) hW hi (fun listed' a' hL => hg listed' hL.1) r.length listed a inv hun hbb (Region.free_spec h0 hf) hr' hy
      (wpSome_lex hl hsel hW hg r _ _ (fun j hj => hnd j (List.mem_cons_of_mem _ hj)) (inv.set hr') (fun u hd => by rw [getD_set_ne true (fun e => hi (by rw [e]; exact hd))]; exact hun u hd) (fun u hu => keepT (hbb u hu)) hB' hG hK)

theorem wpAny_of_seqs {l : List Oper} (hl : l.toArray = ops) : ∀ (tl : List Nat) (listed : Array Bool) (a : Act) (w : World), seqsB md ops tl listed = true → wpList P ops Q (pickL l tl) a w → wpAny P md ops Q tl.length listed a w
  | [], _, _, _, hB, h => ⟨by simpa [seqsB] using hB, h⟩
  | t :: r, listed, a, w, hB, h => by
    simp only [seqsB, Bool.and_eq_true, decide_eq_true_eq] at hB
    obtain ⟨⟨hr, hlt⟩, hB'⟩ := hB
    have hll : t < l.length := by rw [← hl] at hlt; simpa using hlt
    rw [pick_at hll] at h
    have h0 : ops[t]? = some l[t] := by rw [← hl]; simp [hll]
    refine ⟨fun h1 => (by rw [hr] at h1; cases h1), fun i hi => ?_⟩
    rw [hr] at hi
    obtain rfl : i = t := by simpa using hi
    have hw : wpOp P ops Q i (wpList P ops Q (pickL l r)) a w := by unfold wpOp; simp only [h0]; exact h
    exact wpOp_mono (fun a' w' h' => wpAny_of_seqs hl r _ a' w' hB' h') hw

theorem wpAny_of_free {l : List Oper} (hl : l.toArray = ops) (hsel : Region.noSelect ops = true) (hQ : ∀ c (a : Act) d v w, Q (.panic c) (a.put d v) w → Q (.panic c) a w) (f : Nat) :
    ∀ (p : List Nat) (listed : Array Bool) (a : Act), firstsB md ops p listed = true → wpFree P ops (fun a' => wpAny P md ops Q f (setAll p listed) a' w) (pickL l p) a → wpAny P md ops Q (p.length + f) listed a w
  | [], listed, a, _, h => by rw [List.length_nil, Nat.zero_add]; exact h
  | i :: r, listed, a, hB, h => by
    simp only [firstsB, Bool.and_eq_true, decide_eq_true_eq] at hB
    obtain ⟨⟨⟨hlt, hr⟩, hf⟩, hB'⟩ := hB
    have hll : i < l.length := by rw [← hl] at hlt; simpa using hlt
    rw [pick_at hll] at h
    have h0 : ops[i]? = some l[i] := by rw [← hl]; simp [hll]
    obtain ⟨v, hy, hK⟩ := h
    rw [show (i :: r).length + f = (r.length + f) + 1 by simp; omega]
    exact wpAny_take h0 hsel hf hr (fun c a w => hQ c a _ v w) hy (wpAny_of_free hl hsel hQ f r _ _ hB' hK)

theorem wp_region_parts {id : Nat} {a : Act} {w : World} {l : List Oper} (p hd : List Nat) (t : Nat) (tl : List Nat) (hm : P.follows .mixedOrders = true) (hB : partsB .any l.toArray p hd t tl = true) (hQ : ∀ c (a : Act) d v w, Q (.panic c) (a.put d v) w → Q (.panic c) a w)
    (h : wpFree P l.toArray (fun a1 => wpQuiet P l.toArray (fun w' => w' = w.drew) (fun a2 => wpList P l.toArray Q (pickL l (t :: tl)) a2 w.drew) (pickL l hd) a1) (pickL l p) a) : (Code.region id l.toArray true).wp P Q a w := by
  simp only [partsB, Bool.and_eq_true, decide_eq_true_eq] at hB
  obtain ⟨⟨⟨⟨⟨⟨⟨⟨⟨hsel, hlen⟩, hp⟩, hhd⟩, hsk⟩, hch⟩, hut⟩, hdj⟩, hcov⟩, hsq⟩ := hB
  refine wp_region_any hm ?_
  have inv0 : ClosedL .any l.toArray (Array.replicate l.toArray.size false) := ⟨by simp, fun j oj _ hl => (by rw [getD_replicate_false] at hl; cases hl)⟩
  have inv1 := inv0.setAll p hp
  have hhlt : ∀ (q : List Nat) (listed : Array Bool), firstsB .any l.toArray q listed = true → ∀ i ∈ q, i < l.toArray.size := by
    intro q
    induction q with
    | nil => intro _ _ i hi; cases hi
    | cons j r ih =>
      intro listed hq i hi
      simp only [firstsB, Bool.and_eq_true, decide_eq_true_eq] at hq
      rcases List.mem_cons.1 hi with rfl | hi
      · exact hq.1.1.1
      · exact ih _ hq.2 i hi
  have hlt := hhlt hd _ hhd
  have hDhd : ∀ i ∈ hd, i ∉ t :: tl := fun i hi hm => by
    have := List.all_eq_true.1 hdj i hm
    simp at this
    exact this hi
  have hD1 : ∀ u, u ∈ t :: tl → (setAll p (Array.replicate l.toArray.size false)).getD u true = false := fun u hu => by
    have := List.all_eq_true.1 hut u hu
    simpa using this
  have e0 : l.toArray.size = p.length + (hd.length + (t :: tl).length) := by rw [List.length_cons]; omega
  rw [show wpAny P .any l.toArray Q l.toArray.size = wpAny P .any l.toArray Q (p.length + (hd.length + (t :: tl).length)) from congrArg _ e0]
  refine wpAny_of_free rfl hsel hQ _ p _ a hp (wpFree_mono (fun a1 h1 => ?_) _ _ h)
  have hW : WaitsD .any l.toArray (fun u => (setAll p (Array.replicate l.toArray.size false)).getD u true = true) (fun u => u ∈ t :: tl) := by
    intro listed inv hun hb i hu hlti hiD u hu2
    have hihd : i ∈ hd := by
      have := List.all_eq_true.1 hcov i (List.mem_range.2 hlti)
      simp only [Bool.or_eq_true] at this
      rcases this with (h1 | h1) | h1
      · rw [hb i h1] at hu; cases hu
      · simpa using h1
      · exact absurd (by simpa using h1) hiD
    rcases List.mem_cons.1 hu2 with rfl | hu2
    · exact sinks_wait hd hsk hlt inv ⟨i, hihd, hu⟩
    · exact chains_wait tl t hch hun u hu2
  refine wpAny_of_some (D := fun u => u ∈ t :: tl) (L := fun listed' a' => seqsB .any l.toArray (t :: tl) listed' = true ∧ wpList P l.toArray Q (pickL l (t :: tl)) a' w.drew) (fun listed a' hL => wpAny_of_seqs rfl _ _ _ _ hL.1 hL.2) _ _ _ ?_
  refine wpSome_lex rfl hsel hW (fun listed hg j hj => ?_) hd _ _ hDhd inv1 hD1 (fun u hu => hu) hhd hsq (still_of_quiet _ _ h1)
  simp only [seqsB, Bool.and_eq_true, decide_eq_true_eq] at hg
  rw [hg.1.1] at hj
  rw [List.mem_singleton.1 hj]
  exact List.mem_cons_self
/-- the same, where the post hangs on the frame at a panic: the region does not panic. -/
theorem wp_region_calm {id : Nat} {a : Act} {w : World} {l : List Oper} (p hd : List Nat) (t : Nat) (tl : List Nat) (hm : P.follows .mixedOrders = true) (hB : partsB .any l.toArray p hd t tl = true)
    (h : wpFree P l.toArray (fun a1 => wpQuiet P l.toArray (fun w' => w' = w.drew) (fun a2 => wpList P l.toArray (NoPanic Q) (pickL l (t :: tl)) a2 w.drew) (pickL l hd) a1) (pickL l p) a) : (Code.region id l.toArray true).wp P Q a w :=
  wp_region_noPanic (wp_region_parts p hd t tl hm hB (fun _ _ _ _ _ h => h) h)
end

end Go.Proofs.Ytfgfbmmidijgoaa
