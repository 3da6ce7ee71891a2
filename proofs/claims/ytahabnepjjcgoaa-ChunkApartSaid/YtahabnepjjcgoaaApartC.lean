/- The walk of the law ChunkApart. -/
import Derived.Test.YtahabnepjjcgoaaPlaysC
import Derived.Deep.Grids
namespace Go.Proofs.Ytahabnepjjcgoaa
open Go.RowKit Go.ChangeShapes Go.WideShapes
set_option linter.unusedVariables false

structure Bs where
  len : Nat
  t : Nat → Bool
def BsIn (W : World) (v : Value) (l : Bs) : Prop := l.len ≤ maxLen ∧ ∃ p cap, v = .slice p l.len cap ∧ ∀ i, i < l.len → ∃ b off, p = some ⟨b, off, none⟩ ∧ b < W.heap.size ∧ W.cell? ⟨b, off + i, none⟩ = some (.bool (l.t i))

theorem open_turns {H : Type} {enc : TypeId × Value → H} {W : World} {base : Nat} {v : Value} {d : DataW H} {p : List MemPlace} (hval : Value.okWide Try.prog W .any base 56 v) (h : DataW.Trod enc Try.prog W 0 (fun _ => true) true 56 v d p) :
    ∃ l : Bs, BsIn W v l := by
  obtain ⟨n, h⟩ := h
  rcases Go.Deep.open_bools Try.underlying56 Try.underlying4 (by kernel_rfl) h with ⟨hv, -⟩ | ⟨a, len, cap, B, hv, -, hl, hm, -, hcell⟩
  · exact ⟨⟨0, fun _ => false⟩, by simp, none, 0, slice_value Try.underlying56 hval hv, fun i hi => absurd hi (by simp)⟩
  · have hv' : v = .slice (some a) len cap := slice_value Try.underlying56 hval hv
    subst hv'
    obtain ⟨b, off, rfl, hb⟩ := slice_place Try.underlying56 hval
    refine ⟨⟨len, B⟩, by show len ≤ maxLen; omega, _, cap, rfl, fun i hi => ⟨b, off, rfl, hb, ?_⟩⟩
    have hi' : i < len := hi
    have := hcell i (by omega)
    rwa [Addr.add_lit] at this

/-- two chunks and their references, each for itself. -/
structure Four4 (W w : World) (b rb d qb : Nat) (u g u' g' : Nat → Bool) : Prop where
  c : ChunkAt w b u g
  r : RChunkAt w rb u g
  p : Apart u g
  c' : ChunkAt w d u' g'
  r' : RChunkAt w qb u' g'
  p' : Apart u' g'
  ext : Ext W w
  o0 : W.heap.size ≤ b
  o1 : b < d
  o2 : d < rb
  o3 : rb < qb
theorem Four4.first {W w w' : World} {b rb d qb : Nat} {u g u' g' : Nat → Bool} (h : Four4 W w b rb d qb u g u' g') (ha : Acted w b rb w') : ∃ u2 g2, Four4 W w' b rb d qb u2 g2 u' g' := by
  obtain ⟨u2, g2, q1, q2, q3, q4⟩ := ha
  have h0 := h.o0; have h1 := h.o1; have h2 := h.o2; have h3 := h.o3
  exact ⟨u2, g2, q1, q2, q3, h.c'.chg q4 (by rintro (e | e) <;> omega), h.r'.chg q4 (by rintro (e | e) <;> omega), h.p', q4.ext h.ext (fun i hi => by rcases hi with e | e <;> omega), h0, h1, h2, h3⟩
theorem Four4.second {W w w' : World} {b rb d qb : Nat} {u g u' g' : Nat → Bool} (h : Four4 W w b rb d qb u g u' g') (ha : Acted w d qb w') : ∃ u2 g2, Four4 W w' b rb d qb u g u2 g2 := by
  obtain ⟨u2, g2, q1, q2, q3, q4⟩ := ha
  have h0 := h.o0; have h1 := h.o1; have h2 := h.o2; have h3 := h.o3
  exact ⟨u2, g2, h.c.chg q4 (by rintro (e | e) <;> omega), h.r.chg q4 (by rintro (e | e) <;> omega), h.p, q1, q2, q3, q4.ext h.ext (fun i hi => by rcases hi with e | e <;> omega), h0, h1, h2, h3⟩
theorem Four4.later {W w w' : World} {b rb d qb : Nat} {u g u' g' : Nat → Bool} (h : Four4 W w b rb d qb u g u' g') (hx : Ext w w') : Four4 W w' b rb d qb u g u' g' :=
  ⟨h.c.later hx, h.r.later hx, h.p, h.c'.later hx, h.r'.later hx, h.p', h.ext.trans hx, h.o0, h.o1, h.o2, h.o3⟩

set_option maxRecDepth 100000 in
set_option maxHeartbeats 4000000 in
theorem apart_any (p : Option Addr) (cap : Nat) (l : Acts) (tp : Option Addr) (tcap : Nat) (t : Bs) (W : World) (hl : l.len ≤ 300) (hA : ActsAt W p l) (ht : t.len ≤ 9223372036854775807)
    (hT : ∀ i, i < t.len → ∃ b off, tp = some ⟨b, off, none⟩ ∧ b < W.heap.size ∧ W.cell? ⟨b, off + i, none⟩ = some (.bool (t.t i))) :
    Calls Try.prog 7 #[.slice p l.len cap, .slice tp t.len tcap] W fun r w' => r = .returned (.bool true) ∧ Ext W w' := by
  have HA := Lib.hid hA
  have HT := Lib.hid hT
  have HTL := Lib.hid ht
  clear hA hT ht
  go_enter Try.func7, Try.ntmps7
  go_wp2_with fail
  refine (chunk_new W).mono ?_
  rintro r w1 ⟨rfl, hc, hx⟩
  have HC1 := Lib.hid hc
  have HX1 := Lib.hid hx
  clear hc hx
  go_wp2_with fail
  refine (chunk_new w1).mono ?_
  rintro r w2 ⟨rfl, hc, hx⟩
  have HC2 := Lib.hid (HC1.out.later hx)
  have HD2 := Lib.hid hc
  have HX2 := Lib.hid (HX1.out.trans hx)
  clear hc hx
  go_wp2_with fail
  refine (rchunk_new w2).mono ?_
  rintro r w3 ⟨rfl, hr, hx⟩
  have HC3 := Lib.hid (HC2.out.later hx)
  have HD3 := Lib.hid (HD2.out.later hx)
  have HR3 := Lib.hid hr
  have HX3 := Lib.hid (HX2.out.trans hx)
  clear hr hx
  go_wp2_with fail
  refine (rchunk_new w3).mono ?_
  rintro r w4 ⟨rfl, hr, hx⟩
  have HF := Lib.hid (show Four4 W w4 W.heap.size w2.heap.size w1.heap.size w3.heap.size noB allB noB allB from
    ⟨HC3.out.later hx, HR3.out.later hx, fun j _ h => by (unfold noB at h; cases h), HD3.out.later hx, hr, fun j _ h => by (unfold noB at h; cases h), HX3.out.trans hx, Nat.le_refl _, HC1.out.used.lt, HD2.out.used.lt, HR3.out.used.lt⟩)
  clear hr hx HC1 HX1 HC2 HD2 HX2 HC3 HD3 HR3 HX3
  generalize w1.heap.size = d at *
  generalize w2.heap.size = rb at *
  generalize w3.heap.size = qb at *
  go_wp2_with fail
  go_loopw [9] (fun vk wr => ∃ (k : Nat) (u g u' g' : Nat → Bool), vk = .int .i64 k ∧ k ≤ l.len ∧ Hid (Four4 W wr W.heap.size rb d qb u g u' g')) (fun vk _ => l.len - (intOf vk).toNat)
  case atStart => exact ⟨0, noB, allB, noB, allB, rfl, by omega, HF⟩
  case round =>
    obtain ⟨k, u, g, u', g', rfl, hk, hF⟩ := hrel
    clear HF
    by_cases hlt : k < l.len
    · obtain ⟨b0, off, rfl, hb0, c0, c1, c2, fx, fy, fz⟩ := HA.out k hlt
      have c0 := (hF.out.ext.cell _ _ hb0).trans c0
      have c1 := (hF.out.ext.cell _ _ hb0).trans c1
      have c2 := (hF.out.ext.cell _ _ hb0).trans c2
      have hy := Lib.hid (wf_top fy)
      have hz := Lib.hid (wf_top fz)
      clear fx fy fz
      generalize l.x k = x at *
      generalize l.y k = y at *
      generalize l.z k = z at *
      have hw : (k < t.len ∧ t.t k = true) ∨ (k < t.len ∧ t.t k = false) ∨ ¬ k < t.len := by
        by_cases h : k < t.len
        · cases e : t.t k
          · exact .inr (.inl ⟨h, rfl⟩)
          · exact .inl ⟨h, rfl⟩
        · exact .inr (.inr h)
      rcases hw with ⟨hkt, e⟩ | ⟨hkt, e⟩ | hkt
      · obtain ⟨tb, toff, rfl, htb, ct⟩ := HT.out k hkt
        have ct := (hF.out.ext.cell _ _ htb).trans ct
        rw [e] at ct
        have h5 : k < 300 := by omega
        go_wp2_with fail
        refine (act_any d qb u' g' x y z hy.out hz.out _ hF.out.c' hF.out.r' (by have := hF.out.o2; have := hF.out.o3; omega) hF.out.p').mono ?_
        rintro r w5 ⟨rfl, hact⟩
        obtain ⟨u2, g2, h2⟩ := hF.out.second hact
        have HF5 := Lib.hid h2
        clear h2 hact hF c0 c1 c2 ct
        go_wp2_with fail
        go_roundw
        case rel => exact ⟨k + 1, _, _, _, _, by go_num, by omega, HF5⟩
        case measure => simp [intOf]; omega
      · obtain ⟨tb, toff, rfl, htb, ct⟩ := HT.out k hkt
        have ct := (hF.out.ext.cell _ _ htb).trans ct
        rw [e] at ct
        have h5 : k < 300 := by omega
        go_wp2_with fail
        refine (act_any W.heap.size rb u g x y z hy.out hz.out _ hF.out.c hF.out.r (by have := hF.out.o1; have := hF.out.o2; omega) hF.out.p).mono ?_
        rintro r w5 ⟨rfl, hact⟩
        obtain ⟨u2, g2, h2⟩ := hF.out.first hact
        have HF5 := Lib.hid h2
        clear h2 hact hF c0 c1 c2 ct
        go_wp2_with fail
        go_roundw
        case rel => exact ⟨k + 1, _, _, _, _, by go_num, by omega, HF5⟩
        case measure => simp [intOf]; omega
      · have hkt2 : decide (k < t.len) = false := decide_eq_false hkt
        have h5 : k < 300 := by omega
        clear hkt
        go_wp2_with fail
        refine (act_any W.heap.size rb u g x y z hy.out hz.out _ hF.out.c hF.out.r (by have := hF.out.o1; have := hF.out.o2; omega) hF.out.p).mono ?_
        rintro r w5 ⟨rfl, hact⟩
        obtain ⟨u2, g2, h2⟩ := hF.out.first hact
        have HF5 := Lib.hid h2
        clear h2 hact hF c0 c1 c2
        go_wp2_with fail
        go_roundw
        case rel => exact ⟨k + 1, _, _, _, _, by go_num, by omega, HF5⟩
        case measure => simp [intOf]; omega
    · go_wp2_with fail
      refine (same_any W.heap.size rb u g _ hF.out.c hF.out.r).mono ?_
      rintro r w6 ⟨rfl, hx⟩
      have HF6 := Lib.hid (hF.out.later hx)
      clear hx hF
      go_wp2_with fail
      refine (same_any d qb u' g' _ HF6.out.c' HF6.out.r').mono ?_
      rintro r w7 ⟨rfl, hx⟩
      have HX7 := Lib.hid (HF6.out.ext.trans hx)
      clear hx HF6
      go_wp2_with (go_at_call 12; refine (awake_any _).mono ?_; rintro r w13 ⟨rfl, hx13⟩)
      go_ret
      exact ⟨rfl, HX7.out.trans hx13⟩

theorem apart_out (p : Option Addr) (len cap : Nat) (t : Value) (W : World) (hm : len ≤ 9223372036854775807) (h : 300 < len) :
    Calls Try.prog 7 #[.slice p len cap, t] W fun r w' => r = .returned (.bool true) ∧ Ext W w' := by
  have k1 : decide (300 < (len : Int)) = true := decide_eq_true (by omega)
  go_enter Try.func7, Try.ntmps7
  go_wp2
  go_ret
  exact ⟨rfl, Ext.refl _⟩

theorem walk_ChunkApart {W : World} (v : Value) (l : Acts) (hl : ActsIn W v l) (v' : Value) (t : Bs) (ht : BsIn W v' t) :
    Calls Try.prog 7 #[v, v'] W fun r w' => r = .returned (.bool true) ∧ Ext W w' := by
  obtain ⟨hm, p, cap, rfl, hA⟩ := hl
  unfold maxLen at hm
  by_cases h : 300 < l.len
  · exact apart_out p l.len cap v' W hm h
  · obtain ⟨hm2, tp, tcap, rfl, hT⟩ := ht
    unfold maxLen at hm2
    exact apart_any p cap l tp tcap t W (by omega) hA hm2 hT

end Go.Proofs.Ytahabnepjjcgoaa
