/- Rows of bits as arrays of eight words: whole blocks, arguments. -/
import Derived.Test.YtahabnepjjcgoaaBitsD
import Derived.Test.YtahabnepjjcgoaaFrame
import Derived.OpenShut
import Derived.ProofKit
namespace Go.Proofs.Ytahabnepjjcgoaa
open Go.RowKit
set_option linter.unusedVariables false

/-- a row's words. -/
def arr (f : Nat → Bool) : Array Value := #[.int .u64 (word f 0 : Nat), .int .u64 (word f 1 : Nat), .int .u64 (word f 2 : Nat), .int .u64 (word f 3 : Nat), .int .u64 (word f 4 : Nat), .int .u64 (word f 5 : Nat), .int .u64 (word f 6 : Nat), .int .u64 (word f 7 : Nat)]
def noB : Nat → Bool := fun _ => false

theorem word_no (k : Nat) : word noB k = 0 := (eq_word (f := noB) (k := k) (by decide) (fun j _ => by rw [Nat.zero_testBit]; rfl)).symm
theorem arr_no : arr noB = #[.int .u64 0, .int .u64 0, .int .u64 0, .int .u64 0, .int .u64 0, .int .u64 0, .int .u64 0, .int .u64 0] := by
  unfold arr; simp only [word_no]; rfl

theorem row_of_blk {w : World} {b : Nat} {t : TypeId} {f : Nat → Bool} (h : Blk w b t (arr f)) : RowAt w b 0 f where
  lt := h.lt
  cell := fun k hk => by
    rw [Nat.zero_add, h.cell k]
    obtain rfl | rfl | rfl | rfl | rfl | rfl | rfl | rfl : k = 0 ∨ k = 1 ∨ k = 2 ∨ k = 3 ∨ k = 4 ∨ k = 5 ∨ k = 6 ∨ k = 7 := by omega
    all_goals rfl
  frozen := h.frozen

/-- any eight words are a row's. -/
theorem arr_of (x : Nat → Int) (h : ∀ k, k < 8 → 0 ≤ x k ∧ x k ≤ 18446744073709551615) : ∃ f, arr f = #[.int .u64 (x 0), .int .u64 (x 1), .int .u64 (x 2), .int .u64 (x 3), .int .u64 (x 4), .int .u64 (x 5), .int .u64 (x 6), .int .u64 (x 7)] := by
  refine ⟨bitsOf (fun k => (x k).toNat), ?_⟩
  have e : ∀ k, k < 8 → ((word (bitsOf (fun k => (x k).toNat)) k : Nat) : Int) = x k := fun k hk => by
    have := h k hk
    rw [word_of (fun k => (x k).toNat) k (by show (x k).toNat < 2 ^ 64; omega)]
    show (((x k).toNat : Nat) : Int) = x k
    omega
  unfold arr
  rw [e 0 (by omega), e 1 (by omega), e 2 (by omega), e 3 (by omega), e 4 (by omega), e 5 (by omega), e 6 (by omega), e 7 (by omega)]

/-- two rows of the same words are the same among their 512. -/
theorem arr_inj {f g : Nat → Bool} (h : ∀ k, k < 8 → word f k = word g k) : ∀ j, j < 512 → f j = g j := fun j hj => by
  have := h (j / 64) (by omega)
  have h1 := word_bit f (j / 64) (j % 64) (by omega)
  rw [this, word_bit g (j / 64) (j % 64) (by omega), show 64 * (j / 64) + j % 64 = j by omega] at h1
  exact h1.symm

open Go.ChangeShapes Go.WideShapes in
/-- an argument of eight words. -/
theorem open_words {H : Type} {enc : TypeId × Value → H} {W : World} {base : Nat} {v : Value} {d : DataW H} {p : List MemPlace} (hval : Value.okWide Try.prog W .any base 38 v) (h : DataW.Trod enc Try.prog W 0 (fun _ => true) true 38 v d p) :
    ∃ f : Nat → Bool, v = .agg (arr f) := by
  have hv : ∃ cs, v = .agg cs ∧ cs.size = 8 := by
    simp only [Value.okWide, Try.underlying38] at hval
    obtain ⟨cs, h1, h2, _⟩ := hval
    exact ⟨cs, h1, h2.trans (by kernel_rfl)⟩
  obtain ⟨⟨l⟩, rfl, hsz⟩ := hv
  match l, hsz with
  | [c0, c1, c2, c3, c4, c5, c6, c7], _ =>
    obtain ⟨fuel, hf⟩ := h
    obtain ⟨xs, m, -, -, -, hlen, hg⟩ := DataW.trod_array Try.underlying38 hf
    have h1 : Try.prog.cellsOf 37 = 1 := by kernel_rfl
    have one : ∀ (c : Value) (y : DataW H × List MemPlace), DataW.trod enc Try.prog W 0 (fun _ => true) true m 37 [c] = some y → ∃ n, c = .int .u64 n ∧ 0 ≤ n ∧ n ≤ 18446744073709551615 := by
      intro c y hy
      obtain ⟨n, e, -, hw⟩ := DataW.trod_int Try.underlying37 hy
      have e' : c = .int .u64 n := by simpa using e
      exact ⟨n, e', by simp [Lit.wf, IntKind.min, IntKind.max, IntKind.signed, IntKind.bits] at hw; omega⟩
    match xs, hlen with
    | [y0, y1, y2, y3, y4, y5, y6, y7], _ =>
      obtain ⟨n0, rfl, a0⟩ := one c0 y0 (by simpa [Value.cells, h1] using hg 0 (by omega))
      obtain ⟨n1, rfl, a1⟩ := one c1 y1 (by simpa [Value.cells, h1] using hg 1 (by omega))
      obtain ⟨n2, rfl, a2⟩ := one c2 y2 (by simpa [Value.cells, h1] using hg 2 (by omega))
      obtain ⟨n3, rfl, a3⟩ := one c3 y3 (by simpa [Value.cells, h1] using hg 3 (by omega))
      obtain ⟨n4, rfl, a4⟩ := one c4 y4 (by simpa [Value.cells, h1] using hg 4 (by omega))
      obtain ⟨n5, rfl, a5⟩ := one c5 y5 (by simpa [Value.cells, h1] using hg 5 (by omega))
      obtain ⟨n6, rfl, a6⟩ := one c6 y6 (by simpa [Value.cells, h1] using hg 6 (by omega))
      obtain ⟨n7, rfl, a7⟩ := one c7 y7 (by simpa [Value.cells, h1] using hg 7 (by omega))
      obtain ⟨f, hf⟩ := arr_of (fun k => [n0, n1, n2, n3, n4, n5, n6, n7].getD k 0) (by
        intro k hk
        obtain rfl | rfl | rfl | rfl | rfl | rfl | rfl | rfl : k = 0 ∨ k = 1 ∨ k = 2 ∨ k = 3 ∨ k = 4 ∨ k = 5 ∨ k = 6 ∨ k = 7 := by omega
        all_goals assumption)
      exact ⟨f, by rw [hf]; rfl⟩

end Go.Proofs.Ytahabnepjjcgoaa
