/- Tasks that open what they lock, and lock in one order: some task may always go, and each step is done. -/
import Derived.Test.YtfgfbmmidijgoaaRowS
namespace Go.Proofs.Ytfgfbmmidijgoaa
open Go.RowKit
set_option linter.unusedVariables false

/-- from these locks held on, the rest locks upwards, opens what it holds, and ends with none. -/
def disc : List Int → List St → Prop
  | h, [] => h = []
  | h, x :: r => (x.op = 1 ∧ (∀ b, b ∈ h → b < x.a) ∧ 0 ≤ x.a ∧ x.a ≤ 20 ∧ disc (x.a :: h) r) ∨ (x.op = 2 ∧ x.a ∈ h ∧ disc (h.filter fun b => decide (b ≠ x.a)) r) ∨ (x.op = 5 ∧ disc h r)

structure Disc (s : Sc) (H : Nat → List Int) : Prop where
  over : s.over = false
  d : ∀ i, i < s.ts.length → disc (H i) (s.ts.getD i [])
  own : ∀ a j, s.lk a = some j → ∃ i, i < s.ts.length ∧ j = (i : Int) ∧ a ∈ H i
  has : ∀ i a, i < s.ts.length → a ∈ H i → s.lk a = some (i : Int)

theorem total_zero : ∀ ts : List (List St), total ts = 0 → ∀ i, ts.getD i [] = []
  | [], _, i => by simp
  | t :: r, h, 0 => by
    have : t.length + total r = 0 := h
    show t = []
    exact List.eq_nil_of_length_eq_zero (by omega)
  | t :: r, h, i + 1 => by
    have : t.length + total r = 0 := h
    exact total_zero r (by omega) i
theorem left_total {ts : List (List St)} (h : total ts = 0) : leftB ts = false := leftB_no fun i _ => by rw [total_zero ts h i]; rfl
theorem total_pos : ∀ ts : List (List St), 0 < total ts → ∃ i x r, i < ts.length ∧ ts.getD i [] = x :: r
  | [], h => absurd h (Nat.lt_irrefl 0)
  | t :: q, h => by
    cases t with
    | nil =>
      have h : 0 < 0 + total q := h
      obtain ⟨i, x, r, hi, e⟩ := total_pos q (by omega)
      exact ⟨i + 1, x, r, by simpa using hi, e⟩
    | cons x r => exact ⟨0, x, r, by simp, rfl⟩

/-- someone may go. -/
theorem Disc.ne {s : Sc} {H : Nat → List Int} (h : Disc s H) (ht : 0 < total s.ts) : enL s s.ts.length ≠ [] := by
  intro he
  have hno : ∀ i, i < s.ts.length → enB s i = false := fun i hi => by
    have : ¬ i ∈ enL s s.ts.length := by rw [he]; simp
    unfold enL at this
    rw [List.mem_filter] at this
    have h2 : ¬ enB s i = true := fun e => this ⟨by simpa using hi, e⟩
    simpa using h2
  -- each that has steps left waits at a lock that another holds, who waits at a higher one
  have key : ∀ (m : Nat) (i : Nat) (x : St) (r : List St), i < s.ts.length → s.ts.getD i [] = x :: r → (21 - x.a).toNat = m → False := by
    intro m
    induction m using Nat.strongRecOn with
    | ind m ih =>
      intro i x r hi hx hm
      have hw := hno i hi
      rw [enB_cons h.over hx] at hw
      have hw : waitsB s x = true := by simpa using hw
      have hd := h.d i hi
      rw [hx] at hd
      rcases hd with ⟨o1, hlt, ha0, ha, -⟩ | ⟨o1, -⟩ | ⟨o1, -⟩
      · unfold waitsB at hw
        rw [if_pos o1] at hw
        obtain ⟨j, hj⟩ := Option.isSome_iff_exists.1 hw
        obtain ⟨k, hk, rfl, hm'⟩ := h.own _ _ hj
        have hdk := h.d k hk
        cases ek : s.ts.getD k [] with
        | nil =>
          rw [ek] at hdk
          have : H k = [] := hdk
          rw [this] at hm'
          cases hm'
        | cons y q =>
          have hwk := hno k hk
          rw [enB_cons h.over ek] at hwk
          have hwk : waitsB s y = true := by simpa using hwk
          rw [ek] at hdk
          rcases hdk with ⟨p1, plt, pa0, pa, -⟩ | ⟨p1, -⟩ | ⟨p1, -⟩
          · have := plt _ hm'
            exact ih (21 - y.a).toNat (by omega) k y q hk ek rfl
          · unfold waitsB at hwk
            rw [if_neg (by omega), if_neg (by omega)] at hwk
            cases hwk
          · unfold waitsB at hwk
            rw [if_neg (by omega), if_neg (by omega)] at hwk
            cases hwk
      · unfold waitsB at hw
        rw [if_neg (by omega), if_neg (by omega)] at hw
        cases hw
      · unfold waitsB at hw
        rw [if_neg (by omega), if_neg (by omega)] at hw
        cases hw
  obtain ⟨i, x, r, hi, e⟩ := total_pos s.ts ht
  exact key _ i x r hi e rfl

theorem sStep_ts (s : Sc) (i : Nat) (x : St) (r : List St) : (sStep s i x r).ts = s.ts.set i r := by
  show (stepD s i x).ts.set i r = _
  rw [stepD_ts]
theorem sStep_over (s : Sc) (i : Nat) (x : St) (r : List St) : (sStep s i x r).over = s.over := stepD_over s i x
theorem sStep_out (s : Sc) (i : Nat) (x : St) (r : List St) : (sStep s i x r).out = if x.op = 1 ∨ x.op = 2 ∨ x.op = 3 ∨ x.op = 4 then s.out else s.out ++ [x.a] := by
  show (stepD s i x).out = _
  unfold stepD
  by_cases h1 : x.op = 1
  · rw [if_pos h1, if_pos (.inl h1)]; rfl
  by_cases h2 : x.op = 2
  · rw [if_neg h1, if_pos h2, if_pos (.inr (.inl h2))]; rfl
  by_cases h3 : x.op = 3
  · rw [if_neg h1, if_neg h2, if_pos h3, if_pos (.inr (.inr (.inl h3)))]; rfl
  by_cases h4 : x.op = 4
  · rw [if_neg h1, if_neg h2, if_neg h3, if_pos h4, if_pos (.inr (.inr (.inr h4)))]
  · rw [if_neg h1, if_neg h2, if_neg h3, if_neg h4, if_neg (by omega)]; rfl
theorem sStep_lk (s : Sc) (i : Nat) (x : St) (r : List St) : (sStep s i x r).lk = if x.op = 1 then updM s.lk x.a (some (i : Int)) else if x.op = 2 then updM s.lk x.a none else s.lk := by
  show (stepD s i x).lk = _
  unfold stepD
  by_cases h1 : x.op = 1
  · rw [if_pos h1, if_pos h1]; rfl
  by_cases h2 : x.op = 2
  · rw [if_neg h1, if_pos h2, if_neg h1, if_pos h2]; rfl
  rw [if_neg h1, if_neg h2, if_neg h1, if_neg h2]
  by_cases h3 : x.op = 3
  · rw [if_pos h3]; rfl
  by_cases h4 : x.op = 4
  · rw [if_neg h3, if_pos h4]
  · rw [if_neg h3, if_neg h4]; rfl
theorem sStep_total {s : Sc} {i : Nat} {x : St} {r : List St} (hi : i < s.ts.length) (hx : s.ts.getD i [] = x :: r) : total (sStep s i x r).ts + 1 = total s.ts := by
  rw [sStep_ts]
  exact total_set s.ts i x r hi hx

def updH (H : Nat → List Int) (i : Nat) (l : List Int) : Nat → List Int := fun j => if j = i then l else H j
theorem updH_same (H : Nat → List Int) (i : Nat) (l : List Int) : updH H i l i = l := if_pos rfl
theorem updH_other (H : Nat → List Int) {i j : Nat} (l : List Int) (h : j ≠ i) : updH H i l j = H j := if_neg h

/-- the step that is picked is done. -/
theorem Disc.go {s : Sc} {H : Nat → List Int} (h : Disc s H) (ht : 0 < total s.ts) (pick : Int) :
    ∃ i x r H', i < s.ts.length ∧ s.ts.getD i [] = x :: r ∧ goR s pick = ((i : Int), 0, sStep s i x r) ∧ (x.op = 1 ∨ x.op = 2 ∨ x.op = 5) ∧ Disc (sStep s i x r) H' := by
  obtain ⟨i, x, r, -, -, hx, hw, hi, hg⟩ := goR_some h.over (h.ne ht) pick
  have hd := h.d i hi
  rw [hx] at hd
  have hlen : (sStep s i x r).ts.length = s.ts.length := by rw [sStep_ts, List.length_set]
  have hget : ∀ j, (sStep s i x r).ts.getD j [] = if j = i then r else s.ts.getD j [] := fun j => by rw [sStep_ts, getD_set _ _ _ _ _ hi]
  have hov : (sStep s i x r).over = false := (sStep_over s i x r).trans h.over
  rcases hd with ⟨o1, hlt, ha0, ha, hd⟩ | ⟨o2, hm, hd⟩ | ⟨o5, hd⟩
  · rw [if_neg (by omega)] at hg
    have hfree : s.lk x.a = none := by
      unfold waitsB at hw
      rw [if_pos o1] at hw
      cases e : s.lk x.a with
      | none => rfl
      | some j => rw [e] at hw; cases hw
    have hlk := sStep_lk s i x r
    rw [if_pos o1] at hlk
    refine ⟨i, x, r, updH H i (x.a :: H i), hi, hx, hg, .inl o1, hov, fun j hj => ?_, fun a j hj => ?_, fun j a hj ha => ?_⟩
    · rw [hlen] at hj
      rw [hget]
      by_cases e : j = i
      · subst e; rw [if_pos rfl, updH_same]; exact hd
      · rw [if_neg e, updH_other _ _ e]; exact h.d j hj
    · rw [hlk] at hj
      unfold updM at hj
      rw [hlen]
      by_cases e : a = x.a
      · rw [if_pos e] at hj
        injection hj with hj
        exact ⟨i, hi, hj.symm, by rw [updH_same, e]; simp⟩
      · rw [if_neg e] at hj
        obtain ⟨k, hk, e1, e2⟩ := h.own a j hj
        refine ⟨k, hk, e1, ?_⟩
        by_cases ek : k = i
        · subst ek; rw [updH_same]; exact List.mem_cons_of_mem _ e2
        · rw [updH_other _ _ ek]; exact e2
    · rw [hlen] at hj
      rw [hlk]
      unfold updM
      by_cases ej : j = i
      · subst ej
        rw [updH_same] at ha
        rcases List.mem_cons.1 ha with e | e
        · rw [if_pos e]
        · rw [if_neg (fun e2 => by have := hlt a e; omega)]
          exact h.has j a hi e
      · rw [updH_other _ _ ej] at ha
        have := h.has j a hj ha
        rw [if_neg (fun e2 => by rw [e2, hfree] at this; cases this)]
        exact this
  · have hown := h.has i x.a hi hm
    rw [if_neg (fun hh => hh.2 hown)] at hg
    have hlk := sStep_lk s i x r
    rw [if_neg (by omega), if_pos o2] at hlk
    refine ⟨i, x, r, updH H i ((H i).filter fun b => decide (b ≠ x.a)), hi, hx, hg, .inr (.inl o2), hov, fun j hj => ?_, fun a j hj => ?_, fun j a hj ha => ?_⟩
    · rw [hlen] at hj
      rw [hget]
      by_cases e : j = i
      · subst e; rw [if_pos rfl, updH_same]; exact hd
      · rw [if_neg e, updH_other _ _ e]; exact h.d j hj
    · rw [hlk] at hj
      unfold updM at hj
      rw [hlen]
      by_cases e : a = x.a
      · rw [if_pos e] at hj; cases hj
      · rw [if_neg e] at hj
        obtain ⟨k, hk, e1, e2⟩ := h.own a j hj
        refine ⟨k, hk, e1, ?_⟩
        by_cases ek : k = i
        · subst ek; rw [updH_same, List.mem_filter]; exact ⟨e2, by simpa using e⟩
        · rw [updH_other _ _ ek]; exact e2
    · rw [hlen] at hj
      rw [hlk]
      unfold updM
      by_cases ej : j = i
      · subst ej
        rw [updH_same, List.mem_filter] at ha
        rw [if_neg (by simpa using ha.2)]
        exact h.has j a hi ha.1
      · rw [updH_other _ _ ej] at ha
        have := h.has j a hj ha
        rw [if_neg (fun e2 => by rw [e2, hown] at this; injection this with this; exact ej (by omega))]
        exact this
  · rw [if_neg (by omega)] at hg
    have hlk := sStep_lk s i x r
    rw [if_neg (by omega), if_neg (by omega)] at hlk
    refine ⟨i, x, r, H, hi, hx, hg, .inr (.inr o5), hov, fun j hj => ?_, fun a j hj => ?_, fun j a hj ha => ?_⟩
    · rw [hlen] at hj
      rw [hget]
      by_cases e : j = i
      · subst e; rw [if_pos rfl]; exact hd
      · rw [if_neg e]; exact h.d j hj
    · rw [hlk] at hj
      rw [hlen]
      exact h.own a j hj
    · rw [hlk]
      rw [hlen] at hj
      exact h.has j a hj ha

theorem Disc.start {ts : List (List St)} (h : ∀ i, i < ts.length → disc [] (ts.getD i [])) : Disc (sc0 ts) fun _ => [] :=
  { over := rfl, d := fun i hi => h i hi, own := fun a j hj => (nomatch hj), has := fun i a hi ha => by cases ha }
theorem Disc.free {s : Sc} {H : Nat → List Int} (h : Disc s H) (ht : total s.ts = 0) (a : Int) : s.lk a = none := by
  cases e : s.lk a with
  | none => rfl
  | some j =>
    obtain ⟨i, hi, -, hm⟩ := h.own a j e
    have hd := h.d i hi
    rw [total_zero s.ts ht i] at hd
    have : H i = [] := hd
    rw [this] at hm
    cases hm
theorem Disc.done {s : Sc} {H : Nat → List Int} (h : Disc s H) (ht : total s.ts = 0) (pick : Int) : goR s pick = (0, 22, s) := goR_done h.over (left_total ht) pick
theorem enL_end {s : Sc} (ht : total s.ts = 0) (n : Nat) : enL s n = [] := by
  unfold enL
  rw [List.filter_eq_nil_iff]
  intro i _
  rw [enB_nil (total_zero s.ts ht i)]
  simp

end Go.Proofs.Ytfgfbmmidijgoaa
