/- The step from a walk to a row, for laws whose arguments are numbers, truths, and rows and structures of them: such arguments read behind the call as they did where nothing old has turned. -/
import Derived.WalkKit
import Derived.ProofKit
import Derived.OpenShut
import Derived.ChangeReads
import Derived.ChangeSame
import Derived.Below
import Derived.Deep.Slices
import Derived.Deep.Fields
import Derived.Lib.SmallJoins
namespace Go.Proofs.YticaamdghjfifaaDoor
open Go.ChangeShapes Go.WideShapes Go.ChangeAt Go.RowKit Go.Joins Go.Deep
set_option linter.unusedVariables false

/-- what a type is made of: numbers, truths, rows and structures of them. -/
def plainS (r : TypeId → Bool) (P : Program) : Option TypeDesc → Bool
  | some .bool => true
  | some (.int _) => true
  | some (.slice e) => decide (0 < P.cellsOf e) && r e
  | some (.struct fs) => fs.toList.all fun f => r f.type
  | some (.array _ e) => r e
  | _ => false

def plainT (P : Program) : Nat → TypeId → Bool
  | 0, _ => false
  | n + 1, t => plainS (plainT P n) P (P.underlying t)

section
variable {H : Type} {enc : TypeId × Value → H} {P : Program} {w : World} {base : Nat} {held : Bool}

theorem trod_turn {sp : Nat → Bool} : ∀ (n m : Nat) (t : TypeId) (cs : List Value) (x : DataW H × List MemPlace), plainT P m t = true →
    DataW.trod enc P w base (fun _ => true) held n t cs = some x → (∀ p ∈ x.2, sp p.block = true) → DataW.trod enc P w base sp held n t cs = some x := by
  intro n
  induction n with
  | zero => intro m t cs x _ h; simp [DataW.trod] at h
  | succ n ih =>
    intro m t cs x hp h hs
    cases m with
    | zero => cases hp
    | succ m =>
      have hp' : plainS (plainT P m) P (P.underlying t) = true := hp
      clear hp
      rw [DataW.trod_step] at h ⊢
      unfold DataW.trodStep at h ⊢
      generalize P.underlying t = u at h hp' ⊢
      split at h
      case h_1 => exact h
      case h_2 => exact h
      case h_3 => cases hp'
      case h_4 => cases hp'
      case h_5 => cases hp'
      case h_6 => cases hp'
      case h_7 => exact h
      case h_8 e a len cap =>
        have hp2 : (decide (0 < P.cellsOf e) && plainT P m e) = true := hp'
        rw [Bool.and_eq_true] at hp2
        have hpos := of_decide_eq_true hp2.1
        simp only at h ⊢
        split at h
        · rename_i hc
          rw [if_pos hc]
          simp only [Option.map_eq_some_iff, Option.bind_eq_some_iff, if_true] at h ⊢
          obtain ⟨elems, he, rest, hrest, rfl⟩ := h
          have hrl : rest.length = cap - len := by simpa using mapM_some_length hrest
          have one : ∀ (i : Nat) (y : DataW H × List MemPlace), y ∈ elems ++ rest →
              (w.cells? base (a.add (i * P.cellsOf e)) (P.cellsOf e)).bind (DataW.trod enc P w base (fun _ => true) held n e) = some y → (w.cells? base (a.add (i * P.cellsOf e)) (P.cellsOf e)).bind (DataW.trod enc P w base sp held n e) = some y := by
            intro i y hy hv
            simp only [Option.bind_eq_some_iff] at hv ⊢
            obtain ⟨cs', hc', hy'⟩ := hv
            refine ⟨cs', hc', ih m _ _ _ hp2.2 hy' fun p hp => hs p ?_⟩
            simp only [List.mem_append, List.mem_flatMap]
            right
            exact ⟨y, by simpa using hy, hp⟩
          refine ⟨elems, mapM_carry he (fun i y hi hy hv => one i y (by simp [hy]) hv), rest, ?_, rfl⟩
          by_cases hz : cap - len = 0
          · rw [hz] at hrest ⊢
            simp only [List.range_zero, List.mapM_nil] at hrest ⊢
            split <;> exact hrest
          · have hb : sp a.block = true := by
              refine hs (.cell a.block (a.off + 0)) ?_
              simp only [List.mem_append]
              left
              refine MemPlace.mem_row.2 ⟨0, ?_, rfl⟩
              exact Nat.mul_pos (by omega) hpos
            rw [if_pos hb]
            exact mapM_carry hrest (fun i y hi hy hv => one (len + i) y (by simp [hy]) hv)
        · cases h
      case h_9 cs fs =>
        have hp2 : (fs.toList.all fun f => plainT P m f.type) = true := hp'
        split at h
        · rename_i hc
          rw [if_pos hc]
          simp only [Option.map_eq_some_iff] at h ⊢
          obtain ⟨xs, hx, rfl⟩ := h
          exact ⟨xs, mapM_carry hx (fun f y hf hy hv => ih m _ _ _ (List.all_eq_true.1 hp2 f hf) hv fun p hp => hs p (List.mem_flatMap.2 ⟨y, hy, hp⟩)), rfl⟩
        · cases h
      case h_10 cs k e =>
        have hp2 : plainT P m e = true := hp'
        split at h
        · rename_i hc
          rw [if_pos hc]
          simp only [Option.map_eq_some_iff] at h ⊢
          obtain ⟨xs, hx, rfl⟩ := h
          exact ⟨xs, mapM_carry hx (fun f y hf hy hv => ih m _ _ _ hp2 hv fun p hp => hs p (List.mem_flatMap.2 ⟨y, hy, hp⟩)), rfl⟩
        · cases h
      case h_11 => cases hp'
      case h_12 => cases hp'
      case h_13 => cases hp'
      case h_14 => cases hp'
      case h_15 => cases hp'
      case h_16 => cases hp'
      case h_17 => cases hp'
      case h_18 => cases hp'
      case h_19 => cases hp'
      case h_20 => cases hp'
      case h_21 => cases h

/-- what was read ahead of a call reads behind it as it did, where nothing old has turned. -/
theorem trodAll_later {W' : World} {sp : Nat → Bool} (hB : Below w.heap.size w W') : ∀ {ts : List TypeId} {vs : List Value} {ds : List (DataW H)} {ps : List MemPlace},
    ts.all (plainT P 8) = true → DataW.TrodAll enc P w 0 (fun _ => true) true ts vs ds ps → (∀ p ∈ ps, sp p.block = true) → DataW.TrodAll enc P W' 0 sp true ts vs ds ps
  | [], [], [], _, _, h, _ => h
  | _ :: _, _ :: _, _ :: _, _, ht, ⟨a, b, ⟨n, h1⟩, h2, e⟩, hs => by
    subst e
    rw [List.all_cons, Bool.and_eq_true] at ht
    refine ⟨a, b, ⟨n, ?_⟩, trodAll_later hB ht.2 h2 (fun p hp => hs p (List.mem_append_right _ hp)), rfl⟩
    refine trod_turn n 8 _ _ _ ht.1 ?_ (fun p hp => hs p (List.mem_append_left _ hp))
    exact DataW.trod_carry n _ _ _ h1 fun p hp => hB.same (DataW.trod_lt n _ _ _ h1 p hp)

/-! ### what slices that came in read as -/
/-- a slice that came in lies in a block that is there. -/
theorem slice_place {t e : TypeId} {a : Addr} {len cap : Nat} {r : Reach} {b0 : Nat} (ht : P.underlying t = some (.slice e)) (h : Value.okWide P w r b0 t (.slice (some a) len cap)) :
    ∃ b off, a = ⟨b, off, none⟩ ∧ b < w.heap.size := by
  unfold Value.okWide at h
  rw [ht] at h
  simp only at h
  unfold Cell.okWide at h
  rw [ht] at h
  simp only at h
  unfold Cell.ok at h
  rw [ht] at h
  simp only at h
  obtain ⟨-, -, -, hsp, row, cells, hsh, -⟩ := h
  refine ⟨a.block, a.off, ?_, ?_⟩
  · cases a; simp_all
  · unfold World.shape? at hsh
    rcases Nat.lt_or_ge a.block w.heap.size with hlt | hge
    · exact hlt
    · rw [Array.getElem?_eq_none hge] at hsh; simp at hsh

/-- a value of one cell of a slice's type is that cell. -/
theorem slice_value {t e : TypeId} {v u : Value} {r : Reach} {b0 : Nat} (ht : P.underlying t = some (.slice e)) (hval : Value.okWide P w r b0 t v) (h : v.cells.toList = [u]) : v = u := by
  cases v with
  | agg cs =>
    unfold Value.okWide at hval
    rw [ht] at hval
    simp only at hval
    unfold Cell.okWide at hval
    rw [ht] at hval
    simp only at hval
    unfold Cell.ok at hval
    rw [ht] at hval
    exact hval.elim
  | _ => simpa [Value.cells] using h

/-- a row of numbers. -/
theorem open_nums {t e : TypeId} {k : IntKind} {v : Value} {d : DataW H} {p : List MemPlace} {r : Reach} {b0 : Nat} (ht : P.underlying t = some (.slice e)) (he : P.underlying e = some (.int k)) (hc : P.cellsOf e = 1)
    (hval : Value.okWide P w r b0 t v) (h : DataW.Trod enc P w 0 (fun _ => true) held t v d p) :
    ∃ zs : List Int, (∀ n ∈ zs, (Lit.int k n).wf = true) ∧ zs.length ≤ maxLen ∧
      ((v = .slice none 0 0 ∧ zs = []) ∨ ∃ b off cap, v = .slice (some ⟨b, off, none⟩) zs.length cap ∧ b < w.heap.size ∧ ∀ i (hi : i < zs.length), w.cell? ⟨b, off + i, none⟩ = some (.int k zs[i])) := by
  obtain ⟨n, h⟩ := h
  rcases open_ints ht he hc h with ⟨hv, -⟩ | ⟨a, len, cap, zs, hv, -, hl, hm, hz, -, hcell, hwf⟩
  · refine ⟨[], by simp, by simp, .inl ⟨?_, rfl⟩⟩
    exact slice_value ht hval hv
  · have hv' : v = .slice (some a) len cap := slice_value ht hval hv
    subst hv'
    obtain ⟨b, off, rfl, hb⟩ := slice_place ht hval
    simp only [if_true] at hz
    have hlen : (zs.take len).length = len := by rw [List.length_take]; omega
    refine ⟨zs.take len, fun n hn => hwf n (List.mem_of_mem_take hn), by omega, .inr ⟨b, off, cap, by rw [hlen], hb, fun i hi => ?_⟩⟩
    rw [hlen] at hi
    have := hcell i (by omega)
    rw [Addr.add_lit] at this
    rw [this]
    simp [List.getD, show i < zs.length by omega]

/-- a row of numbers, and its room. -/
theorem open_nums2 {t e : TypeId} {k : IntKind} {v : Value} {d : DataW H} {p : List MemPlace} {r : Reach} {b0 : Nat} (ht : P.underlying t = some (.slice e)) (he : P.underlying e = some (.int k)) (hc : P.cellsOf e = 1)
    (hval : Value.okWide P w r b0 t v) (h : DataW.Trod enc P w 0 (fun _ => true) held t v d p) :
    ∃ zs : List Int, (∀ n ∈ zs, (Lit.int k n).wf = true) ∧
      ((v = .slice none 0 0 ∧ zs = []) ∨ ∃ b off cap, v = .slice (some ⟨b, off, none⟩) zs.length cap ∧ zs.length ≤ cap ∧ cap ≤ maxLen ∧ b < w.heap.size ∧ ∀ i (hi : i < zs.length), w.cell? ⟨b, off + i, none⟩ = some (.int k zs[i])) := by
  obtain ⟨n, h⟩ := h
  rcases open_ints ht he hc h with ⟨hv, -⟩ | ⟨a, len, cap, zs, hv, -, hl, hm, hz, -, hcell, hwf⟩
  · refine ⟨[], by simp, .inl ⟨?_, rfl⟩⟩
    exact slice_value ht hval hv
  · have hv' : v = .slice (some a) len cap := slice_value ht hval hv
    subst hv'
    obtain ⟨b, off, rfl, hb⟩ := slice_place ht hval
    simp only [if_true] at hz
    have hlen : (zs.take len).length = len := by rw [List.length_take]; omega
    refine ⟨zs.take len, fun n hn => hwf n (List.mem_of_mem_take hn), .inr ⟨b, off, cap, by rw [hlen], by omega, hm, hb, fun i hi => ?_⟩⟩
    rw [hlen] at hi
    have := hcell i (by omega)
    rw [Addr.add_lit] at this
    rw [this]
    simp [List.getD, show i < zs.length by omega]

/-- a row of structures of one-cell fields: each field's cell, and what it reads as. -/
theorem open_recs2 {t e : TypeId} {fs : Array Field} {v : Value} {d : DataW H} {p : List MemPlace} {r : Reach} {b0 : Nat} (ht : P.underlying t = some (.slice e)) (he : P.underlying e = some (.struct fs))
    (hone : oneCellFields P fs = true) (hC : P.cellsOf e = fs.size) (hpos : 0 < fs.size) (hval : Value.okWide P w r b0 t v) (h : DataW.Trod enc P w 0 (fun _ => true) held t v d p) :
    v = .slice none 0 0 ∨ ∃ b off len cap, v = .slice (some ⟨b, off, none⟩) len cap ∧ len ≤ cap ∧ cap ≤ maxLen ∧ b < w.heap.size ∧
      ∀ i, i < len → ∀ (j : Nat) (f : Field), fs[j]? = some f → ∃ (u : Value) (y : DataW H × List MemPlace) (n : Nat), w.cell? ⟨b, off + i * fs.size + j, none⟩ = some u ∧ DataW.trod enc P w 0 (fun _ => true) held n f.type [u] = some y := by
  obtain ⟨n, h⟩ := h
  rcases open_slice ht h with ⟨hv, -⟩ | ⟨a, len, cap, m, k, D, Pl, hv, -, hl, hm, hmm, -, hx⟩
  · exact .inl (slice_value ht hval hv)
  · have hv' : v = .slice (some a) len cap := slice_value ht hval hv
    subst hv'
    obtain ⟨b, off, rfl, hb⟩ := slice_place ht hval
    simp only [if_true] at hmm
    refine .inr ⟨b, off, len, cap, rfl, hl, hm, hb, fun i hi j f hj => ?_⟩
    obtain ⟨cs', hc, hy⟩ := hx i (by omega)
    rw [hC] at hc
    obtain ⟨ys, n', -, -, -, hyl, hf⟩ := DataW.trod_struct he hy
    obtain ⟨-, hcl, hat⟩ := World.cells?_some hc
    obtain ⟨ho, hk⟩ := hone_of hone j f hj
    have hjl : j < fs.size := (Array.getElem?_eq_some_iff.1 hj).1
    have hcell := hat j hjl
    have hu : cs'[j]? = some (cs'[j]'(by omega)) := List.getElem?_eq_getElem (by omega)
    have h1 := hf j f hj
    rw [ho, hk] at h1
    have hone' : (cs'.drop j).take 1 = [cs'[j]'(by omega)] := by
      rw [List.drop_eq_getElem_cons (by omega)]
      rfl
    rw [hone'] at h1
    have hys : ys[j]? = some (ys[j]'(by omega)) := List.getElem?_eq_getElem (by omega)
    refine ⟨_, _, n', ?_, h1.trans hys⟩
    rw [Addr.add_lit, Addr.add_lit] at hcell
    rw [hcell, hu]

theorem open_recs {t e : TypeId} {fs : Array Field} {v : Value} {d : DataW H} {p : List MemPlace} {r : Reach} {b0 : Nat} (ht : P.underlying t = some (.slice e)) (he : P.underlying e = some (.struct fs))
    (hone : oneCellFields P fs = true) (hC : P.cellsOf e = fs.size) (hpos : 0 < fs.size) (hval : Value.okWide P w r b0 t v) (h : DataW.Trod enc P w 0 (fun _ => true) held t v d p) :
    v = .slice none 0 0 ∨ ∃ b off len cap, v = .slice (some ⟨b, off, none⟩) len cap ∧ len ≤ maxLen ∧ b < w.heap.size ∧
      ∀ i, i < len → ∀ (j : Nat) (f : Field), fs[j]? = some f → ∃ (u : Value) (y : DataW H × List MemPlace) (n : Nat), w.cell? ⟨b, off + i * fs.size + j, none⟩ = some u ∧ DataW.trod enc P w 0 (fun _ => true) held n f.type [u] = some y := by
  rcases open_recs2 ht he hone hC hpos hval h with hv | ⟨b, off, len, cap, hv, hl, hm, hb, hc⟩
  · exact .inl hv
  · exact .inr ⟨b, off, len, cap, hv, by omega, hb, hc⟩

end
end Go.Proofs.YticaamdghjfifaaDoor
