/- The table of classes, written out. No program in sight. -/
import Derived.Test.YticaamdghjfifaaDoorClass
namespace Go.Proofs.YticaamdghjfifaaDoor
open Go.RowKit
set_option linter.unusedVariables false

def tabC : List Cl := [⟨0, 0, 0, 0⟩, ⟨8, 1, 1024, 536870912⟩, ⟨16, 1, 512, 268435456⟩, ⟨24, 1, 341, 178956971⟩, ⟨32, 1, 256, 134217728⟩, ⟨48, 1, 170, 89478486⟩, ⟨64, 1, 128, 67108864⟩, ⟨80, 1, 102, 53687092⟩, ⟨96, 1, 85, 44739243⟩, ⟨112, 1, 73, 38347923⟩, ⟨128, 1, 64, 33554432⟩, ⟨144, 1, 56, 29826162⟩, ⟨160, 1, 51, 26843546⟩, ⟨176, 1, 46, 24403224⟩, ⟨192, 1, 42, 22369622⟩, ⟨208, 1, 39, 20648882⟩, ⟨224, 1, 36, 19173962⟩, ⟨240, 1, 34, 17895698⟩, ⟨256, 1, 32, 16777216⟩, ⟨288, 1, 28, 14913081⟩, ⟨320, 1, 25, 13421773⟩, ⟨352, 1, 23, 12201612⟩, ⟨384, 1, 21, 11184811⟩, ⟨416, 1, 19, 10324441⟩, ⟨448, 1, 18, 9586981⟩, ⟨480, 1, 17, 8947849⟩, ⟨512, 1, 16, 8388608⟩, ⟨576, 1, 14, 7456541⟩, ⟨640, 1, 12, 6710887⟩, ⟨704, 1, 11, 6100806⟩, ⟨768, 1, 10, 5592406⟩, ⟨896, 1, 9, 4793491⟩, ⟨1024, 1, 8, 4194304⟩, ⟨1152, 1, 7, 3728271⟩, ⟨1280, 1, 6, 3355444⟩, ⟨1408, 2, 11, 3050403⟩, ⟨1536, 1, 5, 2796203⟩, ⟨1792, 2, 9, 2396746⟩, ⟨2048, 1, 4, 2097152⟩, ⟨2304, 2, 7, 1864136⟩, ⟨2688, 1, 3, 1597831⟩, ⟨3072, 3, 8, 1398102⟩, ⟨3200, 2, 5, 1342178⟩, ⟨3456, 3, 7, 1242757⟩, ⟨4096, 1, 2, 1048576⟩, ⟨4864, 3, 5, 883012⟩, ⟨5376, 2, 3, 798916⟩, ⟨6144, 3, 4, 699051⟩, ⟨6528, 4, 5, 657931⟩, ⟨6784, 5, 6, 633103⟩, ⟨6912, 6, 7, 621379⟩, ⟨8192, 1, 1, 524288⟩, ⟨9472, 7, 6, 453439⟩, ⟨9728, 6, 5, 441506⟩, ⟨10240, 5, 4, 419431⟩, ⟨10880, 4, 3, 394759⟩, ⟨12288, 3, 2, 349526⟩, ⟨13568, 5, 3, 316552⟩, ⟨14336, 7, 4, 299594⟩, ⟨16384, 2, 1, 262144⟩, ⟨18432, 9, 4, 233017⟩, ⟨19072, 7, 3, 225198⟩, ⟨20480, 5, 2, 209716⟩, ⟨21760, 8, 3, 197380⟩, ⟨24576, 3, 1, 174763⟩, ⟨27264, 10, 3, 157533⟩, ⟨28672, 7, 2, 149797⟩, ⟨32768, 4, 1, 131072⟩]

theorem table_is : makeL 8192 32768 = tabC := by decide +kernel
theorem tab_len : tabC.length = 68 := rfl

/-- the size of class number i. -/
def sz (i : Nat) : Int := (tabC.getD i zeroC).a

theorem sz_rise : ∀ i, i < 67 → sz i < sz (i + 1) := by decide +kernel
theorem sz_one : sz 1 = 8 := by decide +kernel
theorem sz_last : sz 67 = 32768 := by decide +kernel

theorem sz_mono {i j : Nat} (h : i < j) (hj : j ≤ 67) : sz i < sz j := by
  induction j with
  | zero => omega
  | succ j ih =>
    have h1 := sz_rise j (by omega)
    by_cases e : i = j
    · subst e; exact h1
    · have := ih (by omega) (by omega)
      omega

theorem sz_pos {i : Nat} (h : 1 ≤ i) (hi : i ≤ 67) : 8 ≤ sz i := by
  by_cases e : i = 1
  · subst e; rw [sz_one]; omega
  · have := sz_mono (i := 1) (j := i) (by omega) hi
    rw [sz_one] at this; omega
theorem sz_le {i : Nat} (hi : i ≤ 67) : sz i ≤ 32768 := by
  by_cases e : i = 67
  · subst e; rw [sz_last]; omega
  · have := sz_mono (i := i) (j := 67) (by omega) (by omega)
    rw [sz_last] at this; omega

def firstFrom (s : Int) : Nat → Nat → Nat
  | 0, i => i
  | f + 1, i => if s ≤ sz (i + 1) then i else firstFrom s f (i + 1)

/-- the number of the class ahead of a size's own. -/
def ofV (s : Int) : Nat := firstFrom s 67 0

theorem first_spec (s : Int) (hs : s ≤ 32768) : ∀ (f i : Nat), f + i = 67 → (∀ h, h < i → sz (h + 1) < s) → firstFrom s f i ≤ 66 ∧ s ≤ sz (firstFrom s f i + 1) ∧ ∀ h, h < firstFrom s f i → sz (h + 1) < s
  | 0, i, hf, hi => by
    have := hi 66 (by omega)
    rw [sz_last] at this
    omega
  | f + 1, i, hf, hi => by
    show (if s ≤ sz (i + 1) then i else firstFrom s f (i + 1)) ≤ 66 ∧ s ≤ sz ((if s ≤ sz (i + 1) then i else firstFrom s f (i + 1)) + 1) ∧ ∀ h, h < (if s ≤ sz (i + 1) then i else firstFrom s f (i + 1)) → sz (h + 1) < s
    by_cases c : s ≤ sz (i + 1)
    · rw [if_pos c]; exact ⟨by omega, c, hi⟩
    · rw [if_neg c]
      refine first_spec s hs f (i + 1) (by omega) fun h hh => ?_
      by_cases e : h = i
      · subst e; omega
      · exact hi h (by omega)

theorem of_spec {s : Int} (hs : s ≤ 32768) : ofV s ≤ 66 ∧ s ≤ sz (ofV s + 1) ∧ ∀ h, h < ofV s → sz (h + 1) < s :=
  first_spec s hs 67 0 rfl (by intro h hh; omega)

theorem of_is {s : Int} (hs : s ≤ 32768) {i : Nat} (hi : i ≤ 66) (h1 : s ≤ sz (i + 1)) (h2 : ∀ h, h < i → sz (h + 1) < s) : ofV s = i := by
  obtain ⟨a, b, c⟩ := of_spec hs
  rcases Nat.lt_trichotomy (ofV s) i with h | h | h
  · have := h2 _ h; omega
  · exact h
  · have := c _ h; omega

end Go.Proofs.YticaamdghjfifaaDoor
