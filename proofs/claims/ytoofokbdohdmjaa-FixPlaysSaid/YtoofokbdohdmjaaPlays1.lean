/- The memory of the law FixPlays: the records and the bytes, the program's and the reference's. -/
import Derived.Test.YtoofokbdohdmjaaRefFix2
import Derived.Test.YtoofokbdohdmjaaRefBump
namespace Go.Proofs.Ytoofokbdohdmjaa
open Go.RowKit
set_option linter.unusedVariables false

/-! ### the acts -/
structure Acts where
  len : Nat
  x : Nat → Int
  y : Nat → Int
  z : Nat → Int

def ActsAt (W : World) (p : Option Addr) (l : Acts) : Prop := ∀ i, i < l.len → ∃ b off, p = some ⟨b, off, none⟩ ∧ b < W.heap.size ∧
  W.cell? ⟨b, off + i * 3, none⟩ = some (.int .i64 (l.x i)) ∧ W.cell? ⟨b, off + i * 3 + 1, none⟩ = some (.int .i64 (l.y i)) ∧ W.cell? ⟨b, off + i * 3 + 2, none⟩ = some (.int .i64 (l.z i)) ∧
  (Lit.int .i64 (l.x i)).wf = true ∧ (Lit.int .i64 (l.y i)).wf = true ∧ (Lit.int .i64 (l.z i)).wf = true

def ActsIn (W : World) (v : Value) (l : Acts) : Prop := l.len ≤ maxLen ∧ ∃ p cap, v = .slice p l.len cap ∧ ActsAt W p l

theorem open_acts {H : Type} {enc : TypeId × Value → H} {W : World} {base : Nat} {v : Value} {d : DataW H} {p : List MemPlace} (hval : Value.okWide Try.prog W .any base 34 v) (h : DataW.Trod enc Try.prog W 0 (fun _ => true) true 34 v d p) :
    ∃ l : Acts, ActsIn W v l := by
  rcases open_recs (fs := _) Try.underlying34 Try.underlying45 (by kernel_rfl) (by kernel_rfl) (by decide) hval h with hv | ⟨b, off, len, cap, hv, hm, hb, hc⟩
  · exact ⟨⟨0, fun _ => 0, fun _ => 0, fun _ => 0⟩, by simp, none, 0, hv, fun i hi => absurd hi (by simp)⟩
  · have each : ∀ i, i < len → ∃ x : Int × Int × Int, W.cell? ⟨b, off + i * 3, none⟩ = some (.int .i64 x.1) ∧ W.cell? ⟨b, off + i * 3 + 1, none⟩ = some (.int .i64 x.2.1) ∧ W.cell? ⟨b, off + i * 3 + 2, none⟩ = some (.int .i64 x.2.2) ∧ (Lit.int .i64 x.1).wf = true ∧ (Lit.int .i64 x.2.1).wf = true ∧ (Lit.int .i64 x.2.2).wf = true := by
      intro i hi
      obtain ⟨u0, y0, n0, c0, t0⟩ := hc i hi 0 _ rfl
      obtain ⟨u1, y1, n1, c1, t1⟩ := hc i hi 1 _ rfl
      obtain ⟨u2, y2, n2, c2, t2⟩ := hc i hi 2 _ rfl
      obtain ⟨z0, e0, -, f0⟩ := DataW.trod_int Try.underlying3 t0
      obtain ⟨z1, e1, -, f1⟩ := DataW.trod_int Try.underlying3 t1
      obtain ⟨z2, e2, -, f2⟩ := DataW.trod_int Try.underlying3 t2
      simp only [List.cons.injEq, and_true] at e0 e1 e2
      subst e0 e1 e2
      exact ⟨⟨z0, z1, z2⟩, c0, c1, c2, f0, f1, f2⟩
    let f : Nat → Int × Int × Int := fun i => if h : i < len then Classical.choose (each i h) else ⟨0, 0, 0⟩
    refine ⟨⟨len, fun i => (f i).1, fun i => (f i).2.1, fun i => (f i).2.2⟩, hm, some ⟨b, off, none⟩, cap, hv, fun i hi => ?_⟩
    have hf := Classical.choose_spec (each i hi)
    have he : f i = Classical.choose (each i hi) := by simp only [f]; exact dif_pos hi
    rw [← he] at hf
    exact ⟨b, off, rfl, hb, hf⟩

/-! ### what kind of block -/
def cls (t : TypeId) : Nat := if t = 55 ∨ t = 57 ∨ t = 53 then 1 else if t = 63 ∨ t = 4 ∨ t = 3 then 2 else if t = 66 then 3 else if t = 49 then 4 else 0

def Kind (w : World) (G : Nat → Prop) (c : Nat) : Prop := ∀ b, G b → ∃ t cs, Blk w b t cs ∧ cls t = c

section
variable {w w' W : World} {G H : Nat → Prop} {c d : Nat}

theorem Kind.apart (h : Kind w G c) (h' : Kind w H d) (hcd : c ≠ d) : ∀ b, G b → ¬ H b := fun b hg hh => by
  obtain ⟨t, cs, hb, e⟩ := h b hg
  obtain ⟨t', cs', hb', e'⟩ := h' b hh
  have := (hb.same hb').2
  subst this
  omega
theorem Kind.one {b : Nat} {t : TypeId} {cs : Array Value} (h : Blk w b t cs) (e : cls t = c) : Kind w (· = b) c := fun _ hb => hb ▸ ⟨t, cs, h, e⟩
theorem row_kind {B s n : Nat} {e : TypeId} {v : Value} {xs : List Value} (hr : w.ownsRow B e s v n xs) (he : cls e = c) : ∀ b, v.ownBlock = some b → ∃ t cs, Blk w b t cs ∧ cls t = c := fun b hb => by
  rcases hr.2 with ⟨rfl, _⟩ | ⟨g', cap, cur, rfl, _, hh, _⟩
  · cases hb
  · have : g' = b := by simpa [Value.ownBlock] using hb
    subst this
    exact ⟨_, _, hh, he⟩

theorem FixM.kind {B g : Nat} {F : Nat → Prop} {size : Int} {O : List Bool} {S : List Nat} (h : FixM w B g F size O S) : Kind w F 1 := by
  obtain ⟨v, A, h, rfl⟩ := h
  rintro b (rfl | hb | hb)
  · exact ⟨_, _, h.hd, by decide⟩
  · exact row_kind h.row (by decide) b hb
  · obtain ⟨i, hi, rfl⟩ := List.getElem_of_mem hb
    have := h.recs i hi
    rw [show A.getD i 0 = A[i] by simp [List.getD, hi]] at this
    exact ⟨_, _, this, by decide⟩
theorem RefM.kind {B g : Nat} {F : Nat → Prop} {size : Int} {O : List Bool} {S : List Nat} (h : RefM w B g F size O S) : Kind w F 2 := by
  obtain ⟨vo, vb, h, rfl⟩ := h
  rintro b (rfl | hb | hb)
  · exact ⟨_, _, h.hd, by decide⟩
  · exact row_kind h.out (by decide) b hb
  · exact row_kind h.back (by decide) b hb

/-! ### the four -/
def FP (w : World) (B : Nat) (size : Int) (O : List Bool) (S : List Nat) : Option Nat → Prop
  | none => True
  | some g => ∃ F, FixM w B g F size O S
def RP (w : World) (B : Nat) (size : Int) (O : List Bool) (S : List Nat) : Option Nat → Prop
  | none => True
  | some g => ∃ F, RefM w B g F size O S
def BP (w : World) (B : Nat) (block n e : Int) : Option Nat → Prop
  | none => True
  | some g => BumpAt w g block n e ∧ B ≤ g
def QP (w : World) (B : Nat) (block n e : Int) : Option Nat → Prop
  | none => True
  | some g => RBumpAt w g block n e ∧ B ≤ g

structure PRel (W w : World) (size block : Int) (f r b q : Option Nat) (O O' : List Bool) (S S' : List Nat) (n e n' e' : Int) : Prop where
  fix : FP w W.heap.size size O S f
  ref : RP w W.heap.size size O' S' r
  bmp : BP w W.heap.size block n e b
  qmp : QP w W.heap.size block n' e' q
  ext : Ext W w

variable {size block : Int} {f r b q : Option Nat} {O O' O1 : List Bool} {S S' S1 : List Nat} {n e n' e' n1 e1 : Int} {B : Nat}

theorem FP.keep (h : FP w B size O S f) (hc : Chg G w w') (hk : Kind w G c) (hne : c ≠ 1) : FP w' B size O S f := by
  cases f with
  | none => trivial
  | some g => obtain ⟨F, h⟩ := h; exact ⟨F, h.keep hc (h.kind.apart hk fun e => hne e.symm)⟩
theorem RP.keep (h : RP w B size O S f) (hc : Chg G w w') (hk : Kind w G c) (hne : c ≠ 2) : RP w' B size O S f := by
  cases f with
  | none => trivial
  | some g => obtain ⟨F, h⟩ := h; exact ⟨F, h.keep hc (h.kind.apart hk fun e => hne e.symm)⟩
theorem BP.keep (h : BP w B block n e b) (hc : Chg G w w') (hk : Kind w G c) (hne : c ≠ 3) : BP w' B block n e b := by
  cases b with
  | none => trivial
  | some g => exact ⟨h.1.chg hc (fun hg => (Kind.one (c := 3) h.1 (by decide)).apart hk (fun e => hne e.symm) g rfl hg), h.2⟩
theorem QP.keep (h : QP w B block n e b) (hc : Chg G w w') (hk : Kind w G c) (hne : c ≠ 4) : QP w' B block n e b := by
  cases b with
  | none => trivial
  | some g => exact ⟨h.1.chg hc (fun hg => (Kind.one (c := 4) h.1 (by decide)).apart hk (fun e => hne e.symm) g rfl hg), h.2⟩

theorem kind_none : Kind w (fun _ => False) 0 := fun _ h => h.elim
theorem PRel.later (h : PRel W w size block f r b q O O' S S' n e n' e') (hx : Ext w w') : PRel W w' size block f r b q O O' S S' n e n' e' :=
  have hc := Chg.of_ext hx (fun _ => False)
  ⟨h.fix.keep hc kind_none (by decide), h.ref.keep hc kind_none (by decide), h.bmp.keep hc kind_none (by decide), h.qmp.keep hc kind_none (by decide), h.ext.trans hx⟩
theorem PRel.of1 (h : PRel W w size block f r b q O O' S S' n e n' e') (hc : Chg G w w') (hk : Kind w G 1) (ho : ∀ x, G x → W.heap.size ≤ x) (hf : FP w' W.heap.size size O1 S1 f) : PRel W w' size block f r b q O1 O' S1 S' n e n' e' :=
  ⟨hf, h.ref.keep hc hk (by decide), h.bmp.keep hc hk (by decide), h.qmp.keep hc hk (by decide), hc.ext h.ext ho⟩
theorem PRel.of2 (h : PRel W w size block f r b q O O' S S' n e n' e') (hc : Chg G w w') (hk : Kind w G 2) (ho : ∀ x, G x → W.heap.size ≤ x) (hf : RP w' W.heap.size size O1 S1 r) : PRel W w' size block f r b q O O1 S S1 n e n' e' :=
  ⟨h.fix.keep hc hk (by decide), hf, h.bmp.keep hc hk (by decide), h.qmp.keep hc hk (by decide), hc.ext h.ext ho⟩
theorem PRel.of3 (h : PRel W w size block f r b q O O' S S' n e n' e') (hc : Chg G w w') (hk : Kind w G 3) (ho : ∀ x, G x → W.heap.size ≤ x) (hf : BP w' W.heap.size block n1 e1 b) : PRel W w' size block f r b q O O' S S' n1 e1 n' e' :=
  ⟨h.fix.keep hc hk (by decide), h.ref.keep hc hk (by decide), hf, h.qmp.keep hc hk (by decide), hc.ext h.ext ho⟩
theorem PRel.of4 (h : PRel W w size block f r b q O O' S S' n e n' e') (hc : Chg G w w') (hk : Kind w G 4) (ho : ∀ x, G x → W.heap.size ≤ x) (hf : QP w' W.heap.size block n1 e1 q) : PRel W w' size block f r b q O O' S S' n e n1 e1 :=
  ⟨h.fix.keep hc hk (by decide), h.ref.keep hc hk (by decide), h.bmp.keep hc hk (by decide), hf, hc.ext h.ext ho⟩
theorem act_kept {a : Nat} {cs : Array Value} (hb : Blk w a 45 cs) (hc : Chg G w w') (hk : Kind w G c) (hne : c ≠ 0) : Blk w' a 45 cs :=
  hb.chg hc (fun hg => (Kind.one (c := 0) hb (by decide)).apart hk (fun e => hne e.symm) a rfl hg)

/-! ### the calls -/
variable {g a : Nat} {cs : Array Value}
theorem pGive (h : PRel W w size block (some g) r b q O O' S S' n e n' e') (hb : Blk w a 45 cs) (id : Int) (hid : (Lit.int .i64 id).wf = true) :
    Calls Try.prog 8 #[.pointer (some ⟨g, 0, none⟩), .int .i64 id] w fun t w' => t = .returned (.int .i64 (giveE O id)) ∧ PRel W w' size block (some g) r b q (giveO O id) O' (giveS O S id) S' n e n' e' ∧ Blk w' a 45 cs := by
  obtain ⟨F, hf⟩ := h.fix
  exact (fixGive id hid hf).mono fun _ _ ⟨x, y, z⟩ => ⟨x, h.of1 z hf.kind hf.over ⟨_, y⟩, act_kept hb z hf.kind (by decide)⟩
theorem pTake (h : PRel W w size block (some g) r b q O O' S S' n e n' e') (hb : Blk w a 45 cs) (hl : O.length < 100000) :
    Calls Try.prog 9 #[.pointer (some ⟨g, 0, none⟩)] w fun t w' => t = .returned (.int .i64 (takeId O S)) ∧ PRel W w' size block (some g) r b q (takeO O S) O' S.tail S' n e n' e' ∧ Blk w' a 45 cs := by
  obtain ⟨F, hf⟩ := h.fix
  exact (fixTake hf h.ext.size hl).mono fun _ _ ⟨x, ⟨F', y, _⟩, z⟩ => ⟨x, h.of1 z hf.kind hf.over ⟨_, y⟩, act_kept hb z hf.kind (by decide)⟩
theorem qGive (h : PRel W w size block f (some g) b q O O' S S' n e n' e') (hb : Blk w a 45 cs) (id : Int) (hid : (Lit.int .i64 id).wf = true) (hS : S'.length ≤ 100000) :
    Calls Try.prog 21 #[.pointer (some ⟨g, 0, none⟩), .int .i64 id] w fun t w' => t = .returned (.int .i64 (giveE O' id)) ∧ PRel W w' size block f (some g) b q O (giveO O' id) S (giveS O' S' id) n e n' e' ∧ Blk w' a 45 cs := by
  obtain ⟨F, hf⟩ := h.ref
  exact (refGive id hid hf h.ext.size hS).mono fun _ _ ⟨x, y, z⟩ => ⟨x, h.of2 z hf.kind hf.over y, act_kept hb z hf.kind (by decide)⟩
theorem qTake (h : PRel W w size block f (some g) b q O O' S S' n e n' e') (hb : Blk w a 45 cs) (hl : O'.length < 100000) (hS : S'.length ≤ 100000) :
    Calls Try.prog 20 #[.pointer (some ⟨g, 0, none⟩)] w fun t w' => t = .returned (.int .i64 (takeId O' S')) ∧ PRel W w' size block f (some g) b q O (takeO O' S') S S'.tail n e n' e' ∧ Blk w' a 45 cs := by
  obtain ⟨F, hf⟩ := h.ref
  exact (refTake hf h.ext.size hl hS).mono fun _ _ ⟨x, y, z⟩ => ⟨x, h.of2 z hf.kind hf.over y, act_kept hb z hf.kind (by decide)⟩
theorem pBytes1 (h : PRel W w size block f r (some g) q O O' S S' n e n' e') (hb : Blk w a 45 cs) (s al : Int) (h0 : block ≤ 1048576) (h1 : 0 ≤ e ∧ e ≤ block ∧ 0 ≤ n ∧ n ≤ 1000000) :
    Calls Try.prog 17 #[.pointer (some ⟨g, 0, none⟩), .int .i64 s, .int .i64 al] w fun t w' => t = .returned (.tuple #[.int .i64 (bK block n e s al), .int .i64 (bAt block n e s al), .int .i64 (bErr block n e s al)]) ∧ PRel W w' size block f r (some g) q O O' S S' (bN block n e s al) (bEnd block n e s al) n' e' ∧ Blk w' a 45 cs := by
  obtain ⟨hf, hg⟩ := h.bmp
  have hk : Kind w (· = g) 3 := Kind.one hf (by decide)
  exact (bumpTake g block n e s al w hf h0 h1.1 h1.2.1 h1.2.2.1 h1.2.2.2).mono fun _ _ ⟨x, y, z⟩ => ⟨x, h.of3 z hk (fun _ hx => hx ▸ hg) ⟨y, hg⟩, act_kept hb z hk (by decide)⟩
theorem qBytes1 (h : PRel W w size block f r b (some g) O O' S S' n e n' e') (hb : Blk w a 45 cs) (s al : Int) (h0 : block ≤ 1048576) (h1 : 0 ≤ e' ∧ e' ≤ block ∧ 0 ≤ n' ∧ n' ≤ 1000000) :
    Calls Try.prog 18 #[.pointer (some ⟨g, 0, none⟩), .int .i64 s, .int .i64 al] w fun t w' => t = .returned (.tuple #[.int .i64 (bK block n' e' s al), .int .i64 (bAt block n' e' s al), .int .i64 (bErr block n' e' s al)]) ∧ PRel W w' size block f r b (some g) O O' S S' n e (bN block n' e' s al) (bEnd block n' e' s al) ∧ Blk w' a 45 cs := by
  obtain ⟨hf, hg⟩ := h.qmp
  have hk : Kind w (· = g) 4 := Kind.one hf (by decide)
  exact (rbumpTake g block n' e' s al w hf h0 h1.1 h1.2.1 h1.2.2.1 h1.2.2.2).mono fun _ _ ⟨x, y, z⟩ => ⟨x, h.of4 z hk (fun _ hx => hx ▸ hg) ⟨y, hg⟩, act_kept hb z hk (by decide)⟩
theorem take_len (O : List Bool) (S : List Nat) : (takeO O S).length ≤ O.length + 1 := by
  cases S <;> simp [takeO]
end

end Go.Proofs.Ytoofokbdohdmjaa
