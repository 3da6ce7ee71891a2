/- The walk of the law ChunkPlays. -/
import Derived.Test.YtahabnepjjcgoaaSameC
import Derived.Test.YtahabnepjjcgoaaAwake
namespace Go.Proofs.Ytahabnepjjcgoaa
open Go.RowKit
set_option linter.unusedVariables false

theorem wf_top {a : Int} (h : (Lit.int .i64 a).wf = true) : a ≤ 9223372036854775807 := by
  simp [Lit.wf, IntKind.min, IntKind.max, IntKind.signed, IntKind.bits] at h; omega

set_option maxRecDepth 100000 in
set_option maxHeartbeats 2000000 in
theorem plays_any (p : Option Addr) (cap : Nat) (l : Acts) (W : World) (hl : l.len ≤ 300) (hA : ActsAt W p l) :
    Calls Try.prog 6 #[.slice p l.len cap] W fun r w' => r = .returned (.bool true) ∧ Ext W w' := by
  have HA := Lib.hid hA
  clear hA
  go_enter Try.func6, Try.ntmps6
  go_wp2_with fail
  refine (chunk_new W).mono ?_
  rintro r w1 ⟨rfl, hc, hx⟩
  have HC1 := Lib.hid hc
  have HX1 := Lib.hid hx
  clear hc hx
  go_wp2_with fail
  refine (rchunk_new w1).mono ?_
  rintro r w2 ⟨rfl, hr, hx⟩
  have HC2 := Lib.hid (HC1.out.later hx)
  have HR2 := Lib.hid hr
  have HX2 := Lib.hid (HX1.out.trans hx)
  have hne : Hid (W.heap.size ≠ w1.heap.size) := Lib.hid (by have := HC1.out.used.lt; omega)
  have hbs : Hid (W.heap.size ≤ w1.heap.size) := Lib.hid HX1.out.size
  clear hr hx HC1 HX1
  generalize w1.heap.size = rb at *
  go_wp2_with fail
  go_loopw [5] (fun vk wr => ∃ (k : Nat) (u g : Nat → Bool), vk = .int .i64 k ∧ k ≤ l.len ∧ Hid (ChunkAt wr W.heap.size u g) ∧ Hid (RChunkAt wr rb u g) ∧ Hid (Ext W wr) ∧ Hid (Apart u g)) (fun vk _ => l.len - (intOf vk).toNat)
  case atStart => exact ⟨0, noB, allB, rfl, by omega, HC2, HR2, HX2, Lib.hid (fun j _ h => by unfold noB at h; cases h)⟩
  case round =>
    obtain ⟨k, u, g, rfl, hk, hC, hR, hX, hP⟩ := hrel
    clear HC2 HR2 HX2
    by_cases hlt : k < l.len
    · obtain ⟨b0, off, rfl, hb0, c0, c1, c2, fx, fy, fz⟩ := HA.out k hlt
      have c0 := (hX.out.cell _ _ hb0).trans c0
      have c1 := (hX.out.cell _ _ hb0).trans c1
      have c2 := (hX.out.cell _ _ hb0).trans c2
      have hy := Lib.hid (wf_top fy)
      have hz := Lib.hid (wf_top fz)
      clear fx fy fz
      generalize l.x k = x at *
      generalize l.y k = y at *
      generalize l.z k = z at *
      have h4 : ((k : Int) % 4 == 0) = true ∨ ((k : Int) % 4 == 0) = false := by cases ((k : Int) % 4 == 0) <;> simp
      rcases h4 with h4 | h4
      · go_wp2_with fail
        refine (act_any W.heap.size rb u g x y z hy.out hz.out _ hC.out hR.out hne.out hP.out).mono ?_
        rintro r w5 ⟨rfl, hact⟩
        obtain ⟨u2, g2, q1, q2, q3, q4⟩ := hact
        have HC5 := Lib.hid q1
        have HR5 := Lib.hid q2
        have HP5 := Lib.hid q3
        have HX5 := Lib.hid (q4.ext hX.out (fun i hi => by rcases hi with rfl | rfl; exact Nat.le_refl _; exact hbs.out))
        clear q1 q2 q3 q4 hC hR hX hP c0 c1 c2
        go_wp2_with fail
        refine (same_any W.heap.size rb u2 g2 _ HC5.out HR5.out).mono ?_
        rintro r w6 ⟨rfl, hx⟩
        have HC6 := Lib.hid (HC5.out.later hx)
        have HR6 := Lib.hid (HR5.out.later hx)
        have HX6 := Lib.hid (HX5.out.trans hx)
        clear hx HC5 HR5 HX5
        go_wp2_with fail
        go_roundw
        case rel => exact ⟨k + 1, u2, g2, by go_num, by omega, HC6, HR6, HX6, HP5⟩
        case measure => simp [intOf]; omega
      · go_wp2_with fail
        refine (act_any W.heap.size rb u g x y z hy.out hz.out _ hC.out hR.out hne.out hP.out).mono ?_
        rintro r w5 ⟨rfl, hact⟩
        obtain ⟨u2, g2, q1, q2, q3, q4⟩ := hact
        have HC5 := Lib.hid q1
        have HR5 := Lib.hid q2
        have HP5 := Lib.hid q3
        have HX5 := Lib.hid (q4.ext hX.out (fun i hi => by rcases hi with rfl | rfl; exact Nat.le_refl _; exact hbs.out))
        clear q1 q2 q3 q4 hC hR hX hP c0 c1 c2
        go_wp2_with fail
        go_roundw
        case rel => exact ⟨k + 1, u2, g2, by go_num, by omega, HC5, HR5, HX5, HP5⟩
        case measure => simp [intOf]; omega
    · go_wp2_with fail
      refine (same_any W.heap.size rb u g _ hC.out hR.out).mono ?_
      rintro r w6 ⟨rfl, hx⟩
      have HX6 := Lib.hid (hX.out.trans hx)
      clear hx hC hR hX
      go_wp2_with (go_at_call 12; refine (awake_any _).mono ?_; rintro r w13 ⟨rfl, hx13⟩)
      go_ret
      exact ⟨rfl, HX6.out.trans hx13⟩

theorem plays_out (p : Option Addr) (len cap : Nat) (W : World) (hm : len ≤ 9223372036854775807) (h : 300 < len) :
    Calls Try.prog 6 #[.slice p len cap] W fun r w' => r = .returned (.bool true) ∧ Ext W w' := by
  have k1 : decide (300 < (len : Int)) = true := decide_eq_true (by omega)
  go_enter Try.func6, Try.ntmps6
  go_wp2
  go_ret
  exact ⟨rfl, Ext.refl _⟩

theorem walk_ChunkPlays {W : World} (v : Value) (l : Acts) (hl : ActsIn W v l) :
    Calls Try.prog 6 #[v] W fun r w' => r = .returned (.bool true) ∧ Ext W w' := by
  obtain ⟨hm, p, cap, rfl, hA⟩ := hl
  unfold maxLen at hm
  by_cases h : 300 < l.len
  · exact plays_out p l.len cap W hm h
  · exact plays_any p cap l W (by omega) hA

end Go.Proofs.Ytahabnepjjcgoaa
