/- The walk of the law FixLast. -/
import Derived.Test.YtoofokbdohdmjaaAwake
import Derived.Test.YtoofokbdohdmjaaZs
import Derived.Deep.RegionWith
namespace Go.Proofs.Ytoofokbdohdmjaa
open Go.RowKit
set_option linter.unusedVariables false

/-- the numbers that were given back, the first one first. -/
def rowOf (S : List Nat) : List Value := S.reverse.map fun (i : Nat) => .int .i64 ((i : Int) + 1)

theorem row_len (S : List Nat) : (rowOf S).length = S.length := by simp [rowOf]
theorem row_push (S : List Nat) (id : Int) (h : 1 ≤ id) : rowOf ((id.toNat - 1) :: S) = rowOf S ++ [.int .i64 id] := by
  unfold rowOf
  rw [List.reverse_cons, List.map_append]
  congr 2
  simp only [List.map_cons, List.map_nil, List.cons.injEq, Value.int.injEq, true_and, and_true]
  omega
theorem row_at (S : List Nat) (j : Nat) (h : j < S.length) : (rowOf S)[S.length - 1 - j]? = some (.int .i64 ((S[j] : Int) + 1)) := by
  unfold rowOf
  rw [List.getElem?_map, List.getElem?_reverse (by omega)]
  rw [show S.length - 1 - (S.length - 1 - j) = j by omega, List.getElem?_eq_getElem h]
  rfl

theorem FixM.not_row {w : World} {B g : Nat} {F : Nat → Prop} {size : Int} {O : List Bool} {S : List Nat} (h : FixM w B g F size O S) {B' : Nat} {e : TypeId} {s n : Nat} {v : Value} {xs : List Value} (hr : w.ownsRow B' e s v n xs)
    (h1 : e ≠ 55) (h2 : e ≠ 57) (h3 : e ≠ 53) : ∀ b, v.ownBlock = some b → ¬ F b := fun b hb => by
  rcases hr.2 with ⟨rfl, _⟩ | ⟨g', cap, cur, rfl, _, hh, _⟩
  · cases hb
  · have : g' = b := by simpa [Value.ownBlock] using hb
    subst this
    exact h.not (t := e) hh h1 h2 h3

/-- the memory of the law: records, and the row of what was given back. -/
structure LRel (W w : World) (g : Nat) (F : Nat → Prop) (O : List Bool) (S : List Nat) (v : Value) (R : List Nat) (n : Nat) : Prop where
  fix : FixM w W.heap.size g F 8 O S
  row : w.ownsRow W.heap.size 3 1 v R.length (rowOf R)
  ext : Ext W w
  len : O.length = n

theorem infoInt : (Try.prog.info? 3).map (fun i => (i.zero, i.size, i.bytes)) = some (some (.int .i64 0), 1, 8) := by kernel_rfl

theorem LRel.sub {W w : World} {g : Nat} {F : Nat → Prop} {O : List Bool} {S : List Nat} {v : Value} {R : List Nat} {n n' : Nat} (h : LRel W w g F O S v R n) {w' : World} {F' : Nat → Prop} {O' : List Bool} {S' : List Nat}
    (hF : FixM w' W.heap.size g F' 8 O' S') (hc : Chg F w w') (hl : O'.length = n') : LRel W w' g F' O' S' v R n' :=
  ⟨hF, owns_chg h.row hc (h.fix.not_row h.row (by decide) (by decide) (by decide)), hc.ext h.ext h.fix.over, hl⟩

theorem giveO_len (O : List Bool) (id : Int) : (giveO O id).length = O.length := by
  unfold giveO; split <;> simp

set_option maxHeartbeats 2000000 in
theorem last_any (n : Nat) (hn : n ≤ 100) (p : Option Addr) (zs : List Int) (cap : Nat) (W : World) (hz : ZsAt W .i64 p zs) (hl : zs.length ≤ 100) (hw : ∀ i, i < zs.length → (Lit.int .i64 (zs.getD i 0)).wf = true) :
    Calls Try.prog 4 #[.int .i64 n, .slice p zs.length cap] W fun r w' => r = .returned (.bool true) ∧ Ext W w' := by
  obtain ⟨i0, hi, hz0, hz1, hz2⟩ := info_parts infoInt
  have HZ := Lib.hid hz
  have HW := Lib.hid hw
  clear hz hw
  go_enter Try.func4, Try.ntmps4
  go_wp2_with fail
  refine (fixNew 8 W (by omega) (by omega)).mono ?_
  rintro r w1 ⟨rfl, ⟨F, hF⟩, hx⟩
  have HR := Lib.hid (show LRel W w1 W.heap.size F [] [] (.slice none 0 0) [] 0 from ⟨hF, owns_nil w1 _ _ _, hx, rfl⟩)
  clear hF hx
  go_wp2_with fail
  go_loopw [7] (fun i wr => ∃ k : Nat, k ≤ n ∧ i = .int .i64 ((k : Int) + 1) ∧ ∃ F, Hid (LRel W wr W.heap.size F (List.replicate k true) [] (.slice none 0 0) [] k)) (fun i _ => n + 1 - (intOf i).toNat)
  case atStart => exact ⟨0, Nat.zero_le _, rfl, F, HR⟩
  case round =>
    obtain ⟨k, hk, rfl, F1, hR⟩ := hrel
    clear HR
    by_cases hlt : k < n
    · go_wp2_with fail
      refine (fixTake hR.out.fix hR.out.ext.size (by simp; omega)).mono ?_
      rintro r w2 ⟨rfl, ⟨F2, hF, hsub⟩, hc⟩
      have HN := Lib.hid (show LRel W w2 W.heap.size F2 (List.replicate (k + 1) true) [] (.slice none 0 0) [] (k + 1) by
        have := hR.out.sub hF hc (n' := k + 1) (by simp [takeO])
        rwa [show takeO (List.replicate k true) [] = List.replicate (k + 1) true by rw [List.replicate_succ']; rfl] at this)
      have t1 : takeId (List.replicate k true) [] = (k : Int) + 1 := by simp [takeId]
      rw [t1]
      clear t1 hF hc hsub hR
      go_wp2
      go_roundw
      case rel => exact ⟨k + 1, hlt, by go_num, F2, HN⟩
      case measure => simp [intOf]; omega
    · obtain rfl : k = n := by omega
      clear hlt hk
      go_wp2_with fail
      go_loopw [8, 9] (fun v i wr => ∃ m : Nat, m ≤ zs.length ∧ i = .int .i64 m ∧ ∃ F O S, S.length ≤ m ∧ Hid (LRel W wr W.heap.size F O S v S k)) (fun _ i _ => zs.length - (intOf i).toNat)
      case atStart => exact ⟨0, Nat.zero_le _, rfl, F1, _, [], by simp, hR⟩
      case round =>
        obtain ⟨m, hm, rfl, F2, O, S, hS, hR2⟩ := hrel
        clear hR
        by_cases hlt : m < zs.length
        · obtain ⟨b, off, rfl, hb, hcell⟩ := HZ.out.get hlt hR2.out.ext
          have hwf := HW.out m hlt
          generalize hgen : zs.getD m 0 = id at *
          have HG := Lib.hid hgen
          clear hgen
          go_wp2_with fail
          refine (fixGive id hwf hR2.out.fix).mono ?_
          rintro r w3 ⟨rfl, hF, hc⟩
          have hlen := (giveO_len O id).trans hR2.out.len
          have hN := hR2.out.sub hF hc hlen
          have hid1 : 1 ≤ id ∨ liveB O id = false := by
            by_cases h : 1 ≤ id
            · exact .inl h
            · exact .inr (by unfold liveB; simp [h])
          unfold giveE
          unfold giveO giveS at hN
          clear hF hc hlen hR2 hcell
          cases hlv : liveB O id
          · rw [hlv] at hN
            simp only [Bool.false_eq_true, if_false] at hN ⊢
            have HN := Lib.hid hN
            clear hN hlv hid1
            go_wp2
            go_roundw
            case rel => exact ⟨m + 1, hlt, by go_num, F2, O, S, by omega, HN⟩
            case measure => simp [intOf]; omega
          · rw [hlv] at hN
            have h1 : 1 ≤ id := by rcases hid1 with h | h; exact h; rw [hlv] at h; cases h
            simp only [if_true] at hN ⊢
            have HN := Lib.hid hN
            obtain ⟨-, hcell⟩ := HZ.out.at_ hlt hN.ext
            rw [HG.out] at hcell
            clear hN hlv hid1
            have hsz := HN.out.ext.size
            go_wp2_with (first | (at_builtin; refine wpList_append_all W.heap.size _ rfl (.tmp 54) (.tmp 59) 22 rfl 3 i0 _ 1 8 Try.underlying22 hi hz0 hz1 hz2 rfl (by decide) _ _ _ (by rfl) (by exact owns_later HN.out.row (((Ext.refl _).alloc _ _).below)) (.slice (some ⟨w3.heap.size, 0, none⟩) 1 1) 1 [.int .i64 id] (by rfl) (by exact src_one w3 [.int .i64 id] _ 1 rfl) (by intro u hu; simp at hu; subst hu; rfl) (by unfold maxLen; omega) (by omega) (by simp; omega) ?_) | fail)
            intro v' w4 hown hchg hat
            have HN2 := Lib.hid (show LRel W w4 W.heap.size F2 (O.set (id.toNat - 1) false) ((id.toNat - 1) :: S) v' ((id.toNat - 1) :: S) k from
              ⟨(HN.out.fix.later ((Ext.refl _).alloc _ _)).keep hchg (fun b hb hg => HN.out.fix.not_row HN.out.row (by decide) (by decide) (by decide) b hg hb), by rw [row_push _ _ h1]; exact hown,
               hchg.ext (HN.out.ext.alloc _ _) (fun b hb => (owns_lt HN.out.row b hb).1), HN.out.len⟩)
            clear hown hchg hat hcell
            go_wp2
            go_roundw
            case rel => exact ⟨m + 1, hlt, by go_num, F2, _, _, by simp; omega, HN2⟩
            case measure => simp [intOf]; omega
        · obtain rfl : m = zs.length := by omega
          clear hlt hm
          obtain ⟨p8, cap8, rfl, -, -, -⟩ := owns_form hR2.out.row
          have hle := hR2.out.fix.back_le
          have hol := hR2.out.len
          go_wp2_with fail
          refine (fixCount hR2.out.fix).mono ?_
          rintro r w4 ⟨rfl, rfl⟩
          rw [hol] at hle ⊢
          go_wp2_with fail
          clear HZ HW hS
          go_loopw [10] (fun i w5 => ∃ m : Nat, m ≤ S.length ∧ i = .int .i64 ((m : Int) - 1) ∧ ∃ F O', Hid (LRel W w5 W.heap.size F O' (S.drop (S.length - m)) (.slice p8 S.length cap8) S k)) (fun i _ => (intOf i + 1).toNat)
          case atStart => exact ⟨S.length, Nat.le_refl _, by go_num, F2, O, by rw [Nat.sub_self]; exact hR2⟩
          case round =>
            obtain ⟨m, hm, rfl, F3, O3, hR3⟩ := hrel
            clear hR2 hol
            cases m with
            | zero =>
              have hd : S.drop (S.length - 0) = [] := by simp
              rw [hd] at hR3
              have hol := hR3.out.len
              have t1 : takeId O3 [] = (k : Int) + 1 := by simp [takeId, hol]
              go_wp2_with fail
              refine (fixTake hR3.out.fix hR3.out.ext.size (by omega)).mono ?_
              rintro r w6 ⟨rfl, ⟨F4, hF, hsub⟩, hc⟩
              have HN := Lib.hid (hR3.out.sub hF hc (n' := k + 1) (by simp [takeO, hol]))
              clear hF hsub hc hol
              rw [t1]
              clear t1
              go_wp2_with fail
              refine (fixCount HN.out.fix).mono ?_
              rintro r w7 ⟨rfl, rfl⟩
              have t2 : (((takeO O3 []).length : Int) - ([] : List Nat).tail.length) = (k : Int) + 1 := by rw [HN.out.len]; simp
              rw [t2]
              clear t2
              go_wp2_with fail
              refine (awake_any _).mono ?_
              rintro r w8 ⟨rfl, hx⟩
              have HX := Lib.hid (HN.out.ext.trans hx)
              clear hx
              go_wp2_with fail
              go_ret
              exact ⟨rfl, HX.out⟩
            | succ t =>
              obtain ⟨d, hd⟩ : ∃ d, d = S.length - (t + 1) := ⟨_, rfl⟩
              have hlt : d < S.length := by omega
              have hd2 : S.drop (S.length - (t + 1)) = S[d] :: S.drop (S.length - t) := by
                rw [← hd, List.drop_eq_getElem_cons hlt, show d + 1 = S.length - t by omega]
              rw [hd2] at hR3
              obtain ⟨g8, rfl⟩ : ∃ g8, p8 = some ⟨g8, 0, none⟩ := by
                obtain ⟨q, c, e, -, -, h0 | ⟨g, rfl, -⟩⟩ := owns_form hR3.out.row
                · omega
                · cases e; exact ⟨g, rfl⟩
              have e1 := (hR3.out.row.cellAt (S.length - 1 - d) (by omega)).trans (row_at S d hlt)
              rw [show S.length - 1 - d = t by omega] at e1
              rw [show ((t + 1 : Nat) : Int) - 1 = t by omega]
              have ht : t < S.length := by omega
              clear hd2 hd
              generalize S[d] = x at *
              have HD := Lib.hid (hR3.out.sub (n' := k) (hR3.out.fix.later ((Ext.refl _).drew)) (Chg.refl _ _).drew hR3.out.len)
              clear hlt
              go_wp2_with fail
              go_region_with (first | (go_at_call 9; refine (fixTake HD.out.fix HD.out.ext.size (by have := HD.out.len; omega)).mono ?_; rintro r w6 ⟨rfl, ⟨F4, hF, hsub⟩, hc⟩; have e2 := (hc.cell (w := wr.drew) (b := g8) (o := t) (owns_lt HD.out.row g8 rfl).2 (HD.out.fix.not_row HD.out.row (by decide) (by decide) (by decide) g8 rfl)).trans e1; have HN := Lib.hid (HD.out.sub hF hc (n' := k) ((List.length_set).trans HD.out.len)); have t1 : takeId O3 (x :: S.drop (S.length - t)) = (x : Int) + 1 := rfl; rw [t1]; clear t1 hF hsub hc))
              all_goals
                go_wp2
                go_roundw
                case rel => exact ⟨t, by omega, by go_num, F4, _, HN⟩
                case measure => simp [intOf]

theorem last_out (n : Int) (p : Option Addr) (len cap : Nat) (W : World) (hm : len ≤ 9223372036854775807) (h : n < 0 ∨ 100 < n ∨ 100 < len) :
    Calls Try.prog 4 #[.int .i64 n, .slice p len cap] W fun r w' => r = .returned (.bool true) ∧ Ext W w' := by
  by_cases h1 : n < 0
  · have k1 : decide (n < 0) = true := decide_eq_true h1
    clear h
    go_enter Try.func4, Try.ntmps4
    go_wp2
    go_ret
    exact ⟨rfl, Ext.refl _⟩
  by_cases h2 : 100 < n
  · have k1 : decide (n < 0) = false := decide_eq_false h1
    have k2 : decide (100 < n) = true := decide_eq_true h2
    clear h
    go_enter Try.func4, Try.ntmps4
    go_wp2
    go_ret
    exact ⟨rfl, Ext.refl _⟩
  have k1 : decide (n < 0) = false := decide_eq_false h1
  have k2 : decide (100 < n) = false := decide_eq_false h2
  have k3 : decide (100 < (len : Int)) = true := decide_eq_true (by omega)
  clear h
  go_enter Try.func4, Try.ntmps4
  go_wp2
  go_ret
  exact ⟨rfl, Ext.refl _⟩

theorem walk_FixLast {W : World} (n : Int) (wn : (Lit.int .i64 n).wf = true) (v : Value) (zs : List Int) (hl : ZsIn W .i64 v zs) :
    Calls Try.prog 4 #[.int .i64 n, v] W fun r w' => r = .returned (.bool true) ∧ Ext W w' := by
  obtain ⟨p, cap, rfl, hz, hm⟩ := hl.open_
  by_cases h : n < 0 ∨ 100 < n ∨ 100 < zs.length
  · exact last_out n p _ cap W hm h
  · have := last_any n.toNat (by omega) p zs cap W hz (by omega) hl.wf
    rwa [show ((n.toNat : Nat) : Int) = n by omega] at this

end Go.Proofs.Ytoofokbdohdmjaa
