/- The reference's chunk: New, Take, Give, Scavenge, Free, Released. -/
import Derived.Test.YtahabnepjjcgoaaRefBD
import Derived.Test.YtahabnepjjcgoaaChunk2
namespace Go.Proofs.Ytahabnepjjcgoaa
open Go.RowKit
set_option linter.unusedVariables false

/-- the reference's chunk: what is used, what is gone. -/
structure RChunkAt (w : World) (b : Nat) (u g : Nat → Bool) : Prop where
  used : TrueAt w b 0 u
  gone : TrueAt w b 512 g

theorem RChunkAt.later {w w' : World} {b : Nat} {u g : Nat → Bool} (h : RChunkAt w b u g) (hx : Ext w w') : RChunkAt w' b u g := ⟨h.used.later hx, h.gone.later hx⟩
theorem RChunkAt.chg {w w' : World} {b : Nat} {u g : Nat → Bool} {F : Nat → Prop} (h : RChunkAt w b u g) (hc : Chg F w w') (hF : ¬ F b) : RChunkAt w' b u g := ⟨h.used.chg hc hF, h.gone.chg hc hF⟩

def zeroT (n : Nat) : Array Value := ⟨List.replicate n (.bool false)⟩
theorem zeroT_get (n j : Nat) (h : j < n) : (zeroT n)[j]? = some (.bool false) := by
  unfold zeroT
  rw [List.getElem?_toArray, List.getElem?_replicate, if_pos h]
theorem zeroT_72 (w : World) : (zeroValue 72).run Try.prog w = .ok (.agg (zeroT 1024)) w := by kernel_rfl
theorem zeroT_70 (w : World) : (zeroValue 70).run Try.prog w = .ok (.agg (zeroT 512)) w := by kernel_rfl

theorem rchunk_new (w : World) : Calls Try.prog 21 #[] w fun r w' => r = .returned (.pointer (some ⟨w.heap.size, 0, none⟩)) ∧ RChunkAt w' w.heap.size noB allB ∧ Ext w w' := by
  have hz := zeroT_72
  have B := Blk.new w 72 (zeroT 1024)
  have HU := Lib.hid (show TrueAt (w.alloc (.cells (zeroT 1024) 72)) w.heap.size 0 noB from ⟨B.lt, fun j hj => by rw [B.cell, zeroT_get _ _ (by omega)]; rfl, B.frozen⟩)
  have HG := Lib.hid (show TrueAt (w.alloc (.cells (zeroT 1024) 72)) w.heap.size 512 noB from ⟨B.lt, fun j hj => by rw [B.cell, zeroT_get _ _ (by omega)]; rfl, B.frozen⟩)
  clear B
  go_enter Try.func21, Try.ntmps21
  go_wp2_with fail
  refine (rput_any w.heap.size 512 0 512 true noB _ HG.out).mono ?_
  rintro r w1 ⟨rfl, hr, hc⟩
  have HU1 := Lib.hid (HU.out.beside hc (by omega))
  have HG1 := Lib.hid (hr.congr (g := allB) (fun j hj => by rw [putF_true]; unfold setF; rw [if_pos (by decide)]; unfold setB inB allB noB; simp; omega))
  have HX1 := Lib.hid (hc.chg.ext ((Ext.refl w).alloc _ _) (fun i hi => by rw [hi]; exact Nat.le_refl _))
  clear hr hc
  go_wp2_with fail
  go_ret
  exact ⟨rfl, ⟨HU1.out, HG1.out⟩, HX1.out⟩

theorem pages_right (i n : Int) : (pagesB i n = true ∧ rightB i n = true ∧ (n == 0) = false) ∨ (pagesB i n = false ∧ (rightB i n = false ∨ (rightB i n = true ∧ n = 0))) := by
  by_cases h : 0 ≤ i ∧ 1 ≤ n ∧ i ≤ 512 ∧ n ≤ 512 - i
  · left
    refine ⟨decide_eq_true h, decide_eq_true (by omega), ?_⟩
    simp; omega
  · right
    refine ⟨decide_eq_false h, ?_⟩
    by_cases h2 : 0 ≤ i ∧ 0 ≤ n ∧ i ≤ 512 ∧ n ≤ 512 - i
    · right; exact ⟨decide_eq_true h2, by omega⟩
    · left; exact decide_eq_false h2
theorem cntF_bd (u : Nat → Bool) (i n : Int) : 0 ≤ cntF u i n ∧ (rightB i n = true → cntF u i n ≤ n) := by
  unfold cntF
  constructor
  · split <;> omega
  · intro h
    have hp := right_parts h
    rw [if_pos h]
    have := cnt_le u n.toNat i.toNat
    omega

set_option maxHeartbeats 1000000 in
theorem rtake_any (b : Nat) (u g : Nat → Bool) (i n : Int) (w : World) (h : RChunkAt w b u g) :
    Calls Try.prog 36 #[.pointer (some ⟨b, 0, none⟩), .int .i64 i, .int .i64 n] w fun r w' =>
      r = .returned (.tuple #[.int .i64 (if lookE u i n 0 32 = 0 then cntF g i n else 0), .int .i64 (lookE u i n 0 32)]) ∧ RChunkAt w' b (if lookE u i n 0 32 = 0 then setF u i n else u) (if lookE u i n 0 32 = 0 then clrF g i n else g) ∧ Chg (· = b) w w' := by
  have HH := Lib.hid h
  clear h
  have HR := Lib.hid (fun w => rright_any i n w)
  have HC := Lib.hid (rcount_any b 0 i n u w HH.out.used)
  have HL := Lib.hid (show lookE u i n 0 32 = if pagesB i n = true then (if cntF u i n = 0 then 0 else 32) else 1 from rfl)
  have hbd := (cntF_bd u i n).1
  rcases pages_right i n with ⟨h1, h2, h3⟩ | ⟨h1, h2⟩
  · rw [h2] at HR
    rw [h1, if_pos rfl] at HL
    clear h1 h2
    by_cases hc : cntF u i n = 0
    · rw [HL.out, if_pos hc]
      simp only [if_true]
      have HG := Lib.hid (rcount_any b 512 i n g w HH.out.gone)
      have HS := Lib.hid (fun w h => rput_any b 0 i n true u w h)
      have HS2 := Lib.hid (fun w h => rput_any b 512 i n false g w h)
      rw [putF_true] at HS
      rw [putF_false] at HS2
      rw [hc] at HC
      clear HL hc hbd
      generalize cntF g i n = cg at *
      generalize setF u i n = u2 at *
      generalize clrF g i n = g2 at *
      generalize putE i n = pe at *
      go_enter Try.func36, Try.ntmps36
      go_wp2_with fail
      refine (HR.out _).mono ?_
      rintro r w1 ⟨rfl, rfl⟩
      go_wp2_with fail
      refine HC.out.mono ?_
      rintro r w1 ⟨rfl, rfl⟩
      go_wp2_with fail
      refine HG.out.mono ?_
      rintro r w1 ⟨rfl, rfl⟩
      go_wp2_with fail
      refine (HS.out _ HH.out.used).mono ?_
      rintro r w1 ⟨rfl, hr, hc⟩
      have HU1 := Lib.hid hr
      have HG1 := Lib.hid (HH.out.gone.beside hc (by omega))
      have HX1 := Lib.hid hc.chg
      clear hr hc
      go_wp2_with fail
      refine (HS2.out _ HG1.out).mono ?_
      rintro r w2 ⟨rfl, hr, hc⟩
      have HG2 := Lib.hid hr
      have HU2 := Lib.hid (HU1.out.beside hc (by omega))
      have HX2 := Lib.hid (HX1.out.trans hc.chg (fun _ h => .inl h))
      clear hr hc
      go_wp2_with fail
      go_ret2
      exact ⟨rfl, ⟨HU2.out, HG2.out⟩, HX2.out⟩
    · have hpos : 0 < cntF u i n := by omega
      rw [HL.out, if_neg hc]
      simp only [show ((32 : Int) = 0) = False from by simp, if_false]
      clear HL hc
      generalize cntF u i n = cu at *
      go_enter Try.func36, Try.ntmps36
      go_wp2_with fail
      refine (HR.out _).mono ?_
      rintro r w1 ⟨rfl, rfl⟩
      go_wp2_with fail
      refine HC.out.mono ?_
      rintro r w1 ⟨rfl, rfl⟩
      go_wp2_with fail
      go_ret2
      exact ⟨rfl, HH.out, Chg.refl _ _⟩
  · rw [h1, if_neg (by decide)] at HL
    rw [HL.out]
    simp only [show ((1 : Int) = 0) = False from by simp, if_false]
    clear HL h1 HC
    rcases h2 with h2 | ⟨h2, h3⟩
    · rw [h2] at HR
      clear h2
      go_enter Try.func36, Try.ntmps36
      go_wp2_with fail
      refine (HR.out _).mono ?_
      rintro r w1 ⟨rfl, rfl⟩
      go_wp2_with fail
      go_ret2
      exact ⟨rfl, HH.out, Chg.refl _ _⟩
    · rw [h2] at HR
      subst h3
      clear h2
      go_enter Try.func36, Try.ntmps36
      go_wp2_with fail
      refine (HR.out _).mono ?_
      rintro r w1 ⟨rfl, rfl⟩
      go_wp2_with fail
      go_ret2
      exact ⟨rfl, HH.out, Chg.refl _ _⟩

set_option maxHeartbeats 1000000 in
theorem rgive_any (b : Nat) (u g : Nat → Bool) (i n : Int) (x : Bool) (w : World) (h : RChunkAt w b u g) :
    Calls Try.prog 37 #[.pointer (some ⟨b, 0, none⟩), .int .i64 i, .int .i64 n, .bool x] w fun r w' =>
      r = .returned (.int .i64 (lookE u i n n 31)) ∧ RChunkAt w' b (if lookE u i n n 31 = 0 then clrF u i n else u) (if lookE u i n n 31 = 0 then putF g i n x else g) ∧ Chg (· = b) w w' := by
  have HH := Lib.hid h
  clear h
  have HR := Lib.hid (fun w => rright_any i n w)
  have HC := Lib.hid (rcount_any b 0 i n u w HH.out.used)
  have HL := Lib.hid (show lookE u i n n 31 = if pagesB i n = true then (if cntF u i n = n then 0 else 31) else 1 from rfl)
  have hbd := (cntF_bd u i n).2
  rcases pages_right i n with ⟨h1, h2, h3⟩ | ⟨h1, h2⟩
  · have hbd := hbd h2
    rw [h2] at HR
    rw [h1, if_pos rfl] at HL
    clear h1 h2
    by_cases hc : cntF u i n = n
    · rw [HL.out, if_pos hc]
      simp only [if_true]
      have HS := Lib.hid (fun w h => rput_any b 0 i n false u w h)
      have HS2 := Lib.hid (fun w h => rput_any b 512 i n x g w h)
      rw [putF_false] at HS
      rw [hc] at HC
      clear HL hc hbd
      generalize clrF u i n = u2 at *
      generalize putF g i n x = g2 at *
      generalize putE i n = pe at *
      go_enter Try.func37, Try.ntmps37
      go_wp2_with fail
      refine (HR.out _).mono ?_
      rintro r w1 ⟨rfl, rfl⟩
      go_wp2_with fail
      refine HC.out.mono ?_
      rintro r w1 ⟨rfl, rfl⟩
      go_wp2_with fail
      refine (HS.out _ HH.out.used).mono ?_
      rintro r w1 ⟨rfl, hr, hc⟩
      have HU1 := Lib.hid hr
      have HG1 := Lib.hid (HH.out.gone.beside hc (by omega))
      have HX1 := Lib.hid hc.chg
      clear hr hc
      go_wp2_with fail
      refine (HS2.out _ HG1.out).mono ?_
      rintro r w2 ⟨rfl, hr, hc⟩
      have HG2 := Lib.hid hr
      have HU2 := Lib.hid (HU1.out.beside hc (by omega))
      have HX2 := Lib.hid (HX1.out.trans hc.chg (fun _ h => .inl h))
      clear hr hc
      go_wp2_with fail
      go_ret
      exact ⟨rfl, ⟨HU2.out, HG2.out⟩, HX2.out⟩
    · have hpos : cntF u i n < n := by omega
      rw [HL.out, if_neg hc]
      simp only [show ((31 : Int) = 0) = False from by simp, if_false]
      clear HL hc
      generalize cntF u i n = cu at *
      go_enter Try.func37, Try.ntmps37
      go_wp2_with fail
      refine (HR.out _).mono ?_
      rintro r w1 ⟨rfl, rfl⟩
      go_wp2_with fail
      refine HC.out.mono ?_
      rintro r w1 ⟨rfl, rfl⟩
      go_wp2_with fail
      go_ret
      exact ⟨rfl, HH.out, Chg.refl _ _⟩
  · rw [h1, if_neg (by decide)] at HL
    rw [HL.out]
    simp only [show ((1 : Int) = 0) = False from by simp, if_false]
    clear HL h1 HC hbd
    rcases h2 with h2 | ⟨h2, h3⟩
    · rw [h2] at HR
      clear h2
      go_enter Try.func37, Try.ntmps37
      go_wp2_with fail
      refine (HR.out _).mono ?_
      rintro r w1 ⟨rfl, rfl⟩
      go_wp2_with fail
      go_ret
      exact ⟨rfl, HH.out, Chg.refl _ _⟩
    · rw [h2] at HR
      subst h3
      clear h2
      go_enter Try.func37, Try.ntmps37
      go_wp2_with fail
      refine (HR.out _).mono ?_
      rintro r w1 ⟨rfl, rfl⟩
      go_wp2_with fail
      go_ret
      exact ⟨rfl, HH.out, Chg.refl _ _⟩

theorem rfree_any (b : Nat) (u g : Nat → Bool) (w : World) (h : RChunkAt w b u g) : Calls Try.prog 42 #[.pointer (some ⟨b, 0, none⟩)] w fun r w' => r = .returned (.int .i64 (512 - cnt5 u)) ∧ w = w' := by
  have HC := Lib.hid (show Calls _ _ _ _ _ from rcount_any b 0 0 512 u w h.used)
  have hb := cnt5_bd u
  unfold cnt5 at hb ⊢
  clear h
  generalize cntF u 0 512 = c at *
  go_enter Try.func42, Try.ntmps42
  go_wp2_with (go_at_call 47; refine HC.out.mono ?_; rintro r w1 ⟨rfl, rfl⟩)
  go_ret
  exact ⟨rfl, rfl⟩

theorem rreleased_any (b : Nat) (u g : Nat → Bool) (w : World) (h : RChunkAt w b u g) : Calls Try.prog 43 #[.pointer (some ⟨b, 0, none⟩)] w fun r w' => r = .returned (.int .i64 (cnt5 g)) ∧ w = w' := by
  have HC := Lib.hid (show Calls _ _ _ _ _ from rcount_any b 512 0 512 g w h.gone)
  unfold cnt5
  clear h
  generalize cntF g 0 512 = c at *
  go_enter Try.func43, Try.ntmps43
  go_wp2_with (go_at_call 47; refine HC.out.mono ?_; rintro r w1 ⟨rfl, rfl⟩)
  go_ret
  exact ⟨rfl, rfl⟩

/-! ### Scavenge -/
def mixT (u g : Nat → Bool) (k : Nat) : Nat → Bool := fun j => decide (j < k) && (u j || g j)

set_option maxRecDepth 20000 in
set_option maxHeartbeats 2000000 in
theorem rscav_any (b : Nat) (u g : Nat → Bool) (most : Int) (w : World) (h : RChunkAt w b u g) (hm : most ≤ 9223372036854775807) :
    Calls Try.prog 39 #[.pointer (some ⟨b, 0, none⟩), .int .i64 most] w fun r w' =>
      r = .returned (.tuple #[.int .i64 (scavI u g most), .int .i64 (scavN u g most)]) ∧ RChunkAt w' b u (setF g (scavI u g most) (scavN u g most)) ∧ Chg (· = b) w w' := by
  have HH := Lib.hid h
  have HM := Lib.hid hm
  have hz := zeroT_70
  have hlt := h.used.lt
  have B := Blk.new w 70 (zeroT 512)
  have HT0 := Lib.hid (show TrueAt (w.alloc (.cells (zeroT 512) 70)) w.heap.size 0 (mixT u g 0) from ⟨B.lt, fun j hj => by rw [Nat.zero_add, B.cell, zeroT_get _ _ (by omega)]; rfl, B.frozen⟩)
  clear B h hm
  unfold scavI scavN
  go_enter Try.func39, Try.ntmps39
  go_wp2_with fail
  go_loopw [7] (fun vk wr => ∃ k : Nat, vk = .int .i64 k ∧ k ≤ 512 ∧ Hid (TrueAt wr w.heap.size 0 (mixT u g k)) ∧ Hid (Ext w wr)) (fun vk _ => 512 - (intOf vk).toNat)
  case atStart => exact ⟨0, rfl, by omega, HT0, Lib.hid ((Ext.refl w).alloc _ _)⟩
  case round =>
    obtain ⟨k, rfl, hk, hT, hX⟩ := hrel
    clear HT0
    have HC := Lib.hid (HH.out.later hX.out)
    by_cases hlt2 : k < 512
    · have c1 := HC.out.used.cell k hlt2
      have c2 := HC.out.gone.cell k hlt2
      have c3 := hT.out.cell k hlt2
      have fr := hT.out.frozen k
      rw [Nat.zero_add] at c1 c3
      have hk5 : (k : Int) < 512 := by omega
      have HT := Lib.hid (fun (x : Bool) (hx : (u k || g k) = x) => ((hT.out.put k hlt2 x).congr (g := mixT u g (k + 1)) (fun j _ => by
        show (if j = k then x else mixT u g k j) = _
        unfold mixT
        by_cases e : j = k
        · rw [if_pos e, e, hx, decide_eq_true (by omega), Bool.true_and]
        · rw [if_neg e]
          have : decide (j < k) = decide (j < k + 1) := by rw [decide_eq_decide]; omega
          rw [this])))
      have HX := Lib.hid (fun x : Bool => hX.out.setCell (p := ⟨w.heap.size, 0 + k, none⟩) (Nat.le_refl _) (.bool x))
      rw [Nat.zero_add] at HT HX
      clear hT hX HC
      cases hu : u k
      · cases hg : g k
        · rw [hu] at c1
          rw [hg] at c2
          have HT1 := Lib.hid (HT.out false (by rw [hu, hg]; rfl))
          clear HT hu hg
          go_wp2
          go_roundw
          case rel => exact ⟨k + 1, by go_num, by omega, HT1, Lib.hid (HX.out false)⟩
          case measure => simp [intOf]; omega
        · rw [hu] at c1
          rw [hg] at c2
          have HT1 := Lib.hid (HT.out true (by rw [hu, hg]; rfl))
          clear HT hu hg
          go_wp2
          go_roundw
          case rel => exact ⟨k + 1, by go_num, by omega, HT1, Lib.hid (HX.out true)⟩
          case measure => simp [intOf]; omega
      · rw [hu] at c1
        have HT1 := Lib.hid (HT.out true (by rw [hu]; rfl))
        clear HT hu
        go_wp2
        go_roundw
        case rel => exact ⟨k + 1, by go_num, by omega, HT1, Lib.hid (HX.out true)⟩
        case measure => simp [intOf]; omega
    · have hk5 : (512 : Int) ≤ k := by omega
      obtain ⟨k', hk'⟩ : ∃ k', k' = k := ⟨k, rfl⟩
      have HTF := Lib.hid (hT.out.congr (g := orB u g) (fun j hj => by unfold mixT orB; rw [decide_eq_true (by omega), Bool.true_and]))
      clear hT hlt2 hk hk'
      go_wp2_with fail
      refine (rlast_any w.heap.size 0 most 512 (orB u g) _ HTF.out HM.out).mono ?_
      rintro r w2 ⟨rfl, rfl⟩
      go_wp2_with fail
      refine (rput_any b 512 _ _ true g _ HC.out.gone).mono ?_
      rintro r w3 ⟨rfl, hr, hc⟩
      rw [putF_true] at hr
      have HU3 := Lib.hid (HC.out.used.beside hc (by omega))
      have HG3 := Lib.hid hr
      have HX3 := Lib.hid ((Chg.of_ext hX.out (· = b)).trans hc.chg (fun _ h => .inl h))
      clear hr hc
      go_wp2_with fail
      go_ret2
      exact ⟨rfl, ⟨HU3.out, HG3.out⟩, HX3.out⟩

end Go.Proofs.Ytahabnepjjcgoaa
