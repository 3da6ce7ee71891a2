/- The contract of stats.New. -/
import Derived.Test.YtdklcflclpmcbaaWalks2
namespace Go.Proofs.Ytdklcflclpmcbaa
open Go.RowKit
set_option linter.unusedVariables false

def tabA (v : Value) : Array Value := ⟨v :: List.replicate 136 (.int .u64 0)⟩

def zeroA : Array Value := ⟨.slice none 0 0 :: List.replicate 136 (.int .u64 0)⟩

theorem zero57 (w : World) : (zeroValue 57).run Try.prog w = .ok (.agg zeroA) w := by kernel_rfl
theorem zeroA_ne : (zeroA = #[]) = False := by
  apply eq_false; intro h
  have := congrArg Array.size h
  simp [zeroA] at this
theorem zeroA_set (v : Value) : zeroA.setIfInBounds 0 v = tabA v := by
  unfold zeroA tabA
  simp [Array.setIfInBounds]

theorem made_get (n j : Nat) (h : j < n * 4) : (madeCells #[.int .u64 0, .int .u64 0, .int .u64 0, .int .u64 0] (n * 4))[j]? = some (Value.int .u64 0) := by
  unfold madeCells
  rw [Array.getElem?_map, Array.getElem?_range, if_pos h]
  have hm : j % 4 < 4 := Nat.mod_lt _ (by omega)
  have : j % 4 = 0 ∨ j % 4 = 1 ∨ j % 4 = 2 ∨ j % 4 = 3 := by omega
  have hs : (#[Value.int .u64 0, .int .u64 0, .int .u64 0, .int .u64 0] : Array Value).size = 4 := rfl
  rcases this with e | e | e | e <;> simp [e]

theorem tabK_get (K : Nat) (v x : Value) (j : Nat) (h : j < K) : (⟨v :: List.replicate K x⟩ : Array Value)[1 + j]? = some x := by
  rw [Nat.add_comm, List.getElem?_toArray, List.getElem?_cons_succ, List.getElem?_replicate, if_pos h]
theorem tabK_0 (K : Nat) (v x : Value) : (⟨v :: List.replicate K x⟩ : Array Value)[0]? = some v := by
  rw [List.getElem?_toArray, List.getElem?_cons_zero]
theorem tabA_get (v : Value) (j : Nat) (h : j < 136) : (tabA v)[1 + j]? = some (.int .u64 0) := by
  unfold tabA; exact tabK_get 136 v _ j h
theorem tabA_0 (v : Value) : (tabA v)[0]? = some v := by
  unfold tabA; exact tabK_0 136 v _

theorem rep_get (K j : Nat) : (List.replicate K (0 : Int)).getD j 0 = 0 := by
  rw [List.getD, List.getElem?_replicate]
  split <;> rfl

theorem cell_new (w : World) (A : Array Value) (t : TypeId) (j : Nat) : (w.alloc (.cells A t)).cell? ⟨w.heap.size, j, none⟩ = A[j]? := by
  simp

theorem tab_new (w : World) (n : Nat) (h1 : n ≤ 64) :
    Tab ((w.alloc (.cells (madeCells #[.int .u64 0, .int .u64 0, .int .u64 0, .int .u64 0] (n * 4)) 60)).alloc (.cells (tabA (.slice (some ⟨w.heap.size, 0, none⟩) n n)) 57)) (w.heap.size + 1) w.heap.size n (List.replicate (n * 4) 0) (List.replicate 136 0) := by
  have e : (w.alloc (.cells (madeCells #[.int .u64 0, .int .u64 0, .int .u64 0, .int .u64 0] (n * 4)) 60)).heap.size = w.heap.size + 1 := by simp
  have x1 : Ext w (w.alloc (.cells (madeCells #[.int .u64 0, .int .u64 0, .int .u64 0, .int .u64 0] (n * 4)) 60)) := (Ext.refl _).alloc _ _
  generalize hw1 : w.alloc (.cells (madeCells #[.int .u64 0, .int .u64 0, .int .u64 0, .int .u64 0] (n * 4)) 60) = w1 at *
  have x2 : Ext w1 (w1.alloc (.cells (tabA (.slice (some ⟨w.heap.size, 0, none⟩) n n)) 57)) := (Ext.refl _).alloc _ _
  have c1 : ∀ j, (w1.alloc (.cells (tabA (.slice (some ⟨w.heap.size, 0, none⟩) n n)) 57)).cell? ⟨w.heap.size + 1, j, none⟩ = (tabA (.slice (some ⟨w.heap.size, 0, none⟩) n n))[j]? := fun j => by
    rw [← e]; exact cell_new _ _ _ _
  have c2 : ∀ j, (w1.alloc (.cells (tabA (.slice (some ⟨w.heap.size, 0, none⟩) n n)) 57)).cell? ⟨w.heap.size, j, none⟩ = (madeCells #[.int .u64 0, .int .u64 0, .int .u64 0, .int .u64 0] (n * 4))[j]? := fun j => by
    rw [x2.cell _ _ (by omega), ← hw1]; exact cell_new _ _ _ _
  refine ⟨h1, by omega, ?_, ?_, (c1 0).trans (tabA_0 _), List.length_replicate, List.length_replicate, fun j hj => ?_, fun j hj => ?_, fun j => ?_, fun j => ?_⟩
  · have := x2.size; have h2 : (w1.alloc (.cells (tabA (.slice (some ⟨w.heap.size, 0, none⟩) n n)) 57)).heap.size = w1.heap.size + 1 := World.size_alloc _ _
    rw [h2, e]; omega
  · have := x2.size; omega
  · rw [c1, tabA_get _ _ hj, rep_get]
  · rw [c2, made_get _ _ hj, rep_get]
  · rw [x2.frozen, x1.frozen]; exact frozen_none _ _ _ (by omega)
  · rw [x2.frozen, x1.frozen]; exact frozen_none _ _ _ (by omega)

theorem new_bad (n : Int) (w : World) (h : n < 1 ∨ 64 < n) :
    Calls Try.prog 10 #[.int .i64 n] w fun r w' => r = .returned (.tuple #[.pointer none, .int .i64 1]) ∧ w = w' := by
  rcases h with h | h
  · go_enter Try.func10, Try.ntmps10
    go_wp2
    go_ret2
    exact ⟨rfl, rfl⟩
  · go_enter Try.func10, Try.ntmps10
    go_wp2
    go_ret2
    exact ⟨rfl, rfl⟩

theorem info60 : (Try.prog.info? 60).map (fun i => (i.zero, i.size, i.bytes)) = some (some (.agg #[.int .u64 0, .int .u64 0, .int .u64 0, .int .u64 0]), 4, 32) := by kernel_rfl

theorem new_some (n : Nat) (w : World) (h0 : 1 ≤ n) (h1 : n ≤ 64) :
    Calls Try.prog 10 #[.int .i64 n] w fun r w' => r = .returned (.tuple #[.pointer (some ⟨w.heap.size + 1, 0, none⟩), .int .i64 0]) ∧ Tab w' (w.heap.size + 1) w.heap.size n (List.replicate (n * 4) 0) (List.replicate 136 0) ∧ Ext w w' := by
  obtain ⟨i0, hi, hz0, hz1, hz2⟩ := info_parts info60
  have hm := run_makeSlice (P := Try.prog) w 52 60 i0 _ Try.underlying52 hi hz0 .i64 .i64 n n (by omega) (by omega) (by rw [hz1]; omega) (by rw [hz2]; omega) (by omega)
  rw [hz1] at hm
  have z1 := zero57
  have z2 := zeroA_ne
  have z3 := zeroA_set
  clear hi hz0 hz1 hz2
  go_enter Try.func10, Try.ntmps10
  go_wp2
  go_ret2
  refine ⟨rfl, ?_, ((Ext.refl _).alloc _ _).alloc _ _⟩
  exact tab_new w n h1

end Go.Proofs.Ytdklcflclpmcbaa
