/- The contracts of the reference's right, Merge and Fits. -/
import Derived.Test.YtbfnadfbanhgcaaOwn
import Derived.Test.YtbfnadfbanhgcaaOther
import Derived.Deep.QuietTactic
import Derived.BigQuiet
import Derived.RegionTactic
namespace Go.Proofs.Ytbfnadfbanhgcaa
open Go.RowKit
set_option linter.unusedVariables false

theorem rrights_yes (b off cap : Nat) (l : List Sm) (p : Int) (w : World) (hb : b < w.heap.size) (hc : Hid (SumsAt w b off l)) (h1 : 1 ≤ p) (h2 : p ≤ 2097152) (h3 : l.length ≤ 64) :
    Calls Try.prog 24 #[.slice (some ⟨b, off, none⟩) l.length cap, .int .i64 p] w fun r w' => r = .returned (.bool (rightsB l p)) ∧ Ext w w' := by
  have HR := Lib.hid (show rightsB l p = l.all fun x => rightB x.s x.m x.e p by unfold rightsB; rw [decide_eq_true ⟨h1, h2, h3⟩]; rfl)
  go_enter Try.func24, Try.ntmps24
  go_wp2
  go_loopw [5] (fun i wr => ∃ k : Nat, k ≤ l.length ∧ i = .int .i64 k ∧ Ext w wr ∧ Hid ((l.take k).all (fun x => rightB x.s x.m x.e p) = true)) (fun i _ => l.length - (intOf i).toNat)
  case atStart => exact ⟨0, Nat.zero_le _, rfl, Ext.refl _, Lib.hid rfl⟩
  case round =>
    obtain ⟨k, hk, rfl, hx, ha⟩ := hrel
    by_cases hlt : k < l.length
    · obtain ⟨c1, c2, c3⟩ := hc.out k hlt
      have d1 := (hx.cell b (off + k * 3) hb).trans c1
      have d2 := (hx.cell b (off + k * 3 + 1) hb).trans c2
      have d3 := (hx.cell b (off + k * 3 + 2) hb).trans c3
      clear c1 c2 c3
      have hz := hx.size
      cases hr : rightB l[k].s l[k].m l[k].e p
      · go_wp2_with (go_at_call 26; refine (rright_any _ _ _ _ _ h1 h2).mono ?_; rintro e w1 ⟨rfl, hg1⟩)
        go_ret
        refine ⟨?_, hx.trans hg1⟩
        rw [HR.out]
        have : (l.all fun x => rightB x.s x.m x.e p) = false := by
          rw [List.all_eq_false]; exact ⟨l[k], List.getElem_mem hlt, by rw [hr]; decide⟩
        rw [this]; rfl
      · go_wp2_with (go_at_call 26; refine (rright_any _ _ _ _ _ h1 h2).mono ?_; rintro e w1 ⟨rfl, hg1⟩)
        go_roundw
        case rel => exact ⟨k + 1, hlt, by go_num, hx.trans hg1, Lib.hid (by rw [all_take _ _ _ hlt, ha.out, hr]; rfl)⟩
        case measure => simp [intOf]; omega
    · go_wp2
      go_ret
      refine ⟨?_, hx⟩
      rw [HR.out]
      have e : l.take k = l := List.take_of_length_le (by omega)
      have := ha.out
      rw [e] at this; rw [this]; rfl

theorem rrights_no1 (v : Value) (p : Int) (w : World) (h : p < 1) (l : List Sm) :
    Calls Try.prog 24 #[v, .int .i64 p] w fun r w' => r = .returned (.bool (rightsB l p)) ∧ Ext w w' := by
  have HR := Lib.hid (show rightsB l p = false by unfold rightsB; rw [decide_eq_false (by omega)]; rfl)
  go_enter Try.func24, Try.ntmps24
  go_wp2
  go_ret
  exact ⟨by rw [HR.out]; rfl, Ext.refl _⟩

theorem rrights_no2 (v : Value) (p : Int) (w : World) (h : 2097152 < p) (l : List Sm) :
    Calls Try.prog 24 #[v, .int .i64 p] w fun r w' => r = .returned (.bool (rightsB l p)) ∧ Ext w w' := by
  have HR := Lib.hid (show rightsB l p = false by unfold rightsB; rw [decide_eq_false (by omega)]; rfl)
  go_enter Try.func24, Try.ntmps24
  go_wp2
  go_ret
  exact ⟨by rw [HR.out]; rfl, Ext.refl _⟩

theorem rrights_no3 (b off cap : Nat) (l : List Sm) (p : Int) (w : World) (h1 : 1 ≤ p) (h2 : p ≤ 2097152) (h : 64 < l.length) :
    Calls Try.prog 24 #[.slice (some ⟨b, off, none⟩) l.length cap, .int .i64 p] w fun r w' => r = .returned (.bool (rightsB l p)) ∧ Ext w w' := by
  have HR := Lib.hid (show rightsB l p = false by unfold rightsB; rw [decide_eq_false (by omega)]; rfl)
  go_enter Try.func24, Try.ntmps24
  go_wp2
  go_ret
  exact ⟨by rw [HR.out]; rfl, Ext.refl _⟩

theorem rrights_nil (p : Int) (w : World) (h1 : 1 ≤ p) (h2 : p ≤ 2097152) :
    Calls Try.prog 24 #[.slice none 0 0, .int .i64 p] w fun r w' => r = .returned (.bool (rightsB [] p)) ∧ Ext w w' := by
  have HR := Lib.hid (show rightsB [] p = true by unfold rightsB; rw [decide_eq_true ⟨h1, h2, by simp⟩]; rfl)
  go_enter Try.func24, Try.ntmps24
  go_wp2
  refine wp_loop_rounds 1 ?_
  rw [rounds_succ]
  go_wp2
  go_ret
  exact ⟨by rw [HR.out]; rfl, Ext.refl _⟩

theorem rrights_any (v : Value) (l : List Sm) (p : Int) (w : World) (h : SlAt w v l) :
    Calls Try.prog 24 #[v, .int .i64 p] w fun r w' => r = .returned (.bool (rightsB l p)) ∧ Ext w w' := by
  by_cases h1 : 1 ≤ p
  · by_cases h2 : p ≤ 2097152
    · rcases h with ⟨rfl, rfl⟩ | ⟨b, off, cap, rfl, hb, hc⟩
      · exact rrights_nil p w h1 h2
      · by_cases h3 : l.length ≤ 64
        · exact rrights_yes b off cap l p w hb (Lib.hid hc) h1 h2 h3
        · exact rrights_no3 b off cap l p w h1 h2 (by omega)
    · exact rrights_no2 v p w (by omega) l
  · exact rrights_no1 v p w (by omega) l

end Go.Proofs.Ytbfnadfbanhgcaa
