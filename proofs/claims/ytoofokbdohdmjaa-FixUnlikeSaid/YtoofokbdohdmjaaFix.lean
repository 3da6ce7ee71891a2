/- The contracts of fix.New, Live, Count, Bytes. -/
import Derived.Test.YtoofokbdohdmjaaBump
import Derived.Test.YtoofokbdohdmjaaNumCeil
import Derived.Deep.QuietTactic
import Derived.BigQuiet
import Derived.Outline
namespace Go.Proofs.Ytoofokbdohdmjaa
open Go.RowKit
set_option linter.unusedVariables false

def adrO (A : List Nat) : Option Nat → Option Addr
  | none => none
  | some i => some ⟨A.getD i 0, 0, none⟩

def nextOf : List Nat → Nat → Option Nat
  | [], _ => none
  | x :: r, i => if x = i then r.head? else nextOf r i

/-- records of one size: their blocks A, which are out, and the ones that were given back, the last one first. -/
structure FixAt (w : World) (B g : Nat) (v : Value) (A : List Nat) (size : Int) (O : List Bool) (S : List Nat) : Prop where
  hd : Blk w g 55 #[.int .i64 size, v, .pointer (adrO A S.head?), .int .i64 ((A.length : Int) - S.length)]
  row : w.ownsRow B 53 1 v A.length (A.map fun b => .pointer (some ⟨b, 0, none⟩))
  len : O.length = A.length
  recs : ∀ i, i < A.length → Blk w (A.getD i 0) 57 #[.int .i64 ((i : Int) + 1), .bool (O.getD i false), .pointer (adrO A (nextOf S i))]
  base : B ≤ g
  base' : ∀ b ∈ A, B ≤ b
  nodup : S.Nodup
  mem : ∀ i, i ∈ S ↔ i < A.length ∧ O.getD i false = false
  few : A.length ≤ 100000

def FixF (g : Nat) (v : Value) (A : List Nat) : Nat → Prop := fun b => b = g ∨ v.ownBlock = some b ∨ b ∈ A

theorem nodup_le : ∀ (n : Nat) (S : List Nat), S.Nodup → (∀ i ∈ S, i < n) → S.length ≤ n
  | 0, S, _, h => by
    cases S with
    | nil => simp
    | cons x r => exact absurd (h x (List.mem_cons_self)) (by omega)
  | n + 1, S, hd, h => by
    by_cases hn : n ∈ S
    · have := nodup_le n (S.erase n) (hd.erase n) (fun i hi => by
        have h1 := (hd.mem_erase_iff).1 hi
        have := h i h1.2
        omega)
      rw [List.length_erase_of_mem hn] at this
      omega
    · have := nodup_le n S hd (fun i hi => by
        have := h i hi
        have : i ≠ n := fun e => hn (e ▸ hi)
        omega)
      omega

theorem getD_mem {A : List Nat} {i : Nat} (hi : i < A.length) : A.getD i 0 ∈ A := by
  simp [List.getD, hi]

theorem FixAt.back_le {w : World} {B g : Nat} {v : Value} {A : List Nat} {size : Int} {O : List Bool} {S : List Nat} (h : FixAt w B g v A size O S) : S.length ≤ A.length := by
  exact nodup_le _ _ h.nodup fun i hi => ((h.mem i).1 hi).1

theorem FixAt.keep {w w' : World} {B g : Nat} {v : Value} {A : List Nat} {size : Int} {O : List Bool} {S : List Nat} {F : Nat → Prop} (h : FixAt w B g v A size O S) (hc : Chg F w w') (hF : ∀ b, FixF g v A b → ¬ F b) : FixAt w' B g v A size O S where
  hd := h.hd.chg hc (hF _ (.inl rfl))
  row := owns_chg h.row hc fun b hb => hF _ (.inr (.inl hb))
  len := h.len
  recs := fun i hi => (h.recs i hi).chg hc (hF _ (.inr (.inr (getD_mem hi))))
  base := h.base
  base' := h.base'
  nodup := h.nodup
  mem := h.mem
  few := h.few

theorem FixAt.later {w w' : World} {B g : Nat} {v : Value} {A : List Nat} {size : Int} {O : List Bool} {S : List Nat} (h : FixAt w B g v A size O S) (hx : Ext w w') : FixAt w' B g v A size O S :=
  h.keep (Chg.of_ext hx (fun _ => False)) (fun _ _ h => h)

theorem FixAt.over {w : World} {B g : Nat} {v : Value} {A : List Nat} {size : Int} {O : List Bool} {S : List Nat} (h : FixAt w B g v A size O S) : ∀ b, FixF g v A b → B ≤ b := by
  rintro b (rfl | hb | hb)
  · exact h.base
  · exact (owns_lt h.row b hb).1
  · exact h.base' b hb

theorem new_no (size : Int) (w : World) (h : size < 1 ∨ 16384 < size) : Calls Try.prog 7 #[.int .i64 size] w fun r w' => r = .returned (.tuple #[.pointer none, .int .i64 1]) ∧ w = w' := by
  rcases h with h | h
  all_goals
    go_enter Try.func7, Try.ntmps7
    go_wp2
    go_ret2
    exact ⟨rfl, rfl⟩

theorem new_yes (size : Int) (w : World) (h1 : 1 ≤ size) (h2 : size ≤ 16384) : Calls Try.prog 7 #[.int .i64 size] w fun r w' => r = .returned (.tuple #[.pointer (some ⟨w.heap.size, 0, none⟩), .int .i64 0]) ∧ FixAt w' w.heap.size w.heap.size (.slice none 0 0) [] size [] [] ∧ Ext w w' := by
  go_enter Try.func7, Try.ntmps7
  go_wp2
  go_ret2
  refine ⟨rfl, ⟨Blk.new _ _ _, owns_nil _ _ _ _, rfl, fun i hi => by simp at hi, Nat.le_refl _, fun b hb => by simp at hb, List.nodup_nil, fun i => by simp, by simp⟩, (Ext.refl _).alloc _ _⟩

section
variable {w : World} {B g : Nat} {v : Value} {A : List Nat} {size : Int} {O : List Bool} {S : List Nat}

theorem count_any (h : FixAt w B g v A size O S) : Calls Try.prog 10 #[.pointer (some ⟨g, 0, none⟩)] w fun r w' => r = .returned (.int .i64 ((A.length : Int) - S.length)) ∧ w = w' := by
  have c3 := h.hd.cell 3
  simp at c3
  clear h
  go_enter Try.func10, Try.ntmps10
  go_wp2
  go_ret
  exact ⟨rfl, rfl⟩

/-- is this one out? -/
def liveB (O : List Bool) (id : Int) : Bool := decide (1 ≤ id ∧ id ≤ O.length) && O.getD (id.toNat - 1) false

theorem row_cell (h : FixAt w B g v A size O S) {i : Nat} (hi : i < A.length) : ∃ gv cap, v = .slice (some ⟨gv, 0, none⟩) A.length cap ∧ w.cell? ⟨gv, i, none⟩ = some (.pointer (some ⟨A.getD i 0, 0, none⟩)) := by
  have hr := h.row
  obtain ⟨p, cap, rfl, -, -, h0 | ⟨gv, rfl, -, -⟩⟩ := owns_form hr
  · omega
  · refine ⟨gv, cap, rfl, (hr.cellAt i (by omega)).trans ?_⟩
    simp [List.getD, hi]

theorem live_any (id : Int) (hid : (Lit.int .i64 id).wf = true) (h : FixAt w B g v A size O S) : Calls Try.prog 11 #[.pointer (some ⟨g, 0, none⟩), .int .i64 id] w fun r w' => r = .returned (.bool (liveB O id)) ∧ w = w' := by
  have c1 := h.hd.cell 1
  simp at c1
  obtain ⟨p, cap, hv, hlc, hcm, -⟩ := owns_form h.row
  have hf := h.few
  have HL := Lib.hid h.len
  by_cases h1 : 1 ≤ id
  · by_cases h2 : id ≤ A.length
    · have hi : (id.toNat - 1) < A.length := by omega
      obtain ⟨gv, cap', hv', e1⟩ := row_cell h hi
      have e2 := (h.recs _ hi).cell 1
      simp only [List.getElem?_toArray, List.getElem?_cons_succ, List.getElem?_cons_zero] at e2
      have HR := Lib.hid (show liveB O id = O.getD (id.toNat - 1) false by unfold liveB; rw [HL.out]; simp [h1, h2])
      subst hv'
      clear h hv
      generalize A.getD (id.toNat - 1) 0 = a at *
      generalize O.getD (id.toNat - 1) false = o at *
      go_enter Try.func11, Try.ntmps11
      go_wp2
      go_ret
      exact ⟨by rw [HR.out]; rfl, rfl⟩
    · have k2 : decide (id ≤ (A.length : Int)) = false := decide_eq_false h2
      have HR := Lib.hid (show liveB O id = false by unfold liveB; rw [HL.out]; simp [h2])
      subst hv
      clear h
      go_enter Try.func11, Try.ntmps11
      go_wp2
      go_ret
      exact ⟨by rw [HR.out]; rfl, rfl⟩
  · have k1 : decide (1 ≤ id) = false := decide_eq_false h1
    have HR := Lib.hid (show liveB O id = false by unfold liveB; simp [h1])
    clear h
    go_enter Try.func11, Try.ntmps11
    go_wp2
    go_ret
    exact ⟨by rw [HR.out]; rfl, rfl⟩

def bytesV (n : Nat) (size : Int) : Int := 16384 * ceilV n (16384 / size)

theorem bytes_any (h : FixAt w B g v A size O S) (h1 : 1 ≤ size) (h2 : size ≤ 16384) : Calls Try.prog 12 #[.pointer (some ⟨g, 0, none⟩)] w fun r w' => r = .returned (.int .i64 (bytesV A.length size)) ∧ ∃ n, w' = w.drewN n := by
  have c0 := h.hd.cell 0
  have c1 := h.hd.cell 1
  simp at c0 c1
  obtain ⟨p, cap, rfl, hlc, hcm, -⟩ := owns_form h.row
  have hf := h.few
  clear h
  have q1 : 1 ≤ 16384 / size := Int.le_ediv_of_mul_le (by omega) (by omega)
  have q2 : 16384 / size ≤ 16384 := Int.ediv_le_self _ (by omega)
  have HC := Lib.hid (fun w => ceil_any A.length (16384 / size) w (by omega) (by omega) (by omega) (by omega))
  have b1 : 0 ≤ ceilV A.length (16384 / size) := by
    unfold ceilV
    have : 0 ≤ (A.length : Int) / (16384 / size) := Int.ediv_nonneg (by omega) (by omega)
    (repeat' split) <;> omega
  have b2 : ceilV A.length (16384 / size) ≤ 100001 := by
    unfold ceilV
    have : (A.length : Int) / (16384 / size) ≤ A.length := Int.ediv_le_self _ (by omega)
    (repeat' split) <;> omega
  have HB := Lib.hid (show bytesV A.length size = 16384 * ceilV A.length (16384 / size) from rfl)
  generalize ceilV A.length (16384 / size) = c at *
  go_enter Try.func12, Try.ntmps12
  go_wp2_with fail
  go_quiet ((go_at_call 25; exact Calls.quiet_of_same ((HC.out _).mono fun _ _ ⟨a, b⟩ => ⟨a, b.symm⟩)))
  go_wp2
  go_ret
  exact ⟨by rw [HB.out]; rfl, _, rfl⟩
end

end Go.Proofs.Ytoofokbdohdmjaa
