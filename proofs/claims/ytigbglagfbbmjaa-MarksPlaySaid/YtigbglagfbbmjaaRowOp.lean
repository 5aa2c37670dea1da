/- A row's list of commits, opened. No condition. -/
import Derived.Test.YtigbglagfbbmjaaRowWr
import Derived.Test.YtigbglagfbbmjaaLaw12PE
namespace Go.Proofs.Ytigbglagfbbmjaa
open Go.RowKit Go.Shelf Go.ChangeShapes Go.WideShapes Go.Deep
set_option linter.unusedSimpArgs false
set_option linter.unusedVariables false
section
variable {H : Type} {enc : TypeId × Value → H} {W : World} {base : Nat} {spare : Nat → Bool} {held : Bool}
instance : Inhabited Opn := ⟨⟨0, .slice none 0 0, []⟩⟩
set_option maxRecDepth 100000 in
theorem op_open {n : Nat} {cs : List Value} {x : DataW H × List MemPlace} (h : DataW.trod enc Try.prog W base spare held n 82 cs = some x) : ∃ y : Opn, y.wf ∧ SliceAt W 2 y.s (y.ws.map Wr.v) ∧ cs = (cv y.v).toList := by
  obtain ⟨xs, m, _, _, hl, hx, hf⟩ := DataW.trod_struct Try.underlying82 h
  rw [show Try.prog.cellsOf 82 = 2 from by kernel_rfl] at hl
  have hs : ∀ i, i < 2 → (xs[i]?).isSome = true := fun i hi => by rw [List.getElem?_eq_getElem (by rw [hx]; exact hi)]; rfl
  obtain ⟨n0, h0, w0⟩ := wint_chunk (hf 0 _ rfl) (hs 0 (by decide))
  obtain ⟨a, l, c, y, h1, h2⟩ := wslice_chunk Try.underlying69 (by kernel_rfl) (hf 1 _ rfl) (hs 1 (by decide))
  obtain ⟨L, q1, q2, q3⟩ := writes_open h2
  refine ⟨⟨n0, .slice a l c, L⟩, ⟨⟨_, _, _, rfl⟩, wf_i64 w0, q3⟩, q1, ?_⟩
  match cs, hl with
  | [c0, c1], _ =>
    simp at h0 h1
    subst h0 h1
    rfl
/-- A slice of commits. -/
structure OpsS (W : World) (s : Value) (L : List Opn) : Prop where
  outer : SliceAt W 2 s (L.map Opn.v)
  inner : ∀ p ∈ L, p.wf ∧ SliceAt W 2 p.s (p.ws.map Wr.v)
theorem ops_open {t : Nat} (hu : Try.prog.underlying t = some (.slice 82)) {a : Option Addr} {len cap : Nat} {d : DataW H} {ps : List MemPlace} (h : DataW.Trod enc Try.prog W base spare held t (.slice a len cap) d ps) : ∃ L : List Opn, OpsS W (.slice a len cap) L ∧ L.length = len := by
  obtain ⟨fuel, hf⟩ := h
  obtain ⟨f, h1, h2⟩ := sl_elems (k := 2) (by decide) hu (by kernel_rfl) hf
  obtain ⟨g, hg⟩ := choose_lt (n := len) (p := fun i (y : Opn) => (y.wf ∧ SliceAt W 2 y.s (y.ws.map Wr.v)) ∧ f i = (cv y.v).toList) (fun i hi => by
    obtain ⟨_, n, y, hy⟩ := h1 i hi
    obtain ⟨z, q1, q2, q3⟩ := op_open hy
    exact ⟨z, ⟨q1, q2⟩, q3⟩)
  refine ⟨(List.range len).map g, ⟨h2 _ (by simp) (fun i x hx => ?_), fun p hp => ?_⟩, by simp⟩
  · have hil : i < len := by have := (List.getElem?_eq_some_iff.1 hx).1; simpa using this
    simp [hil] at hx
    rw [← hx, (hg i hil).2]
  · obtain ⟨i, hi, rfl⟩ := List.mem_map.1 hp
    exact (hg i (List.mem_range.1 hi)).1
def OpsS.chs (s : Value) (L : List Opn) : List Ch := SlC 2 s (L.map Opn.v) :: L.map fun p => SlC 2 p.s (p.ws.map Wr.v)
theorem OpsS.ch {s : Value} {L : List Opn} (h : OpsS W s L) : ∀ r ∈ OpsS.chs s L, ∃ O, r.p O W := fun r hr => by
  rcases List.mem_cons.1 hr with rfl | hr
  · exact SlC.mk h.outer (fun x hx => by obtain ⟨p, hp, rfl⟩ := List.mem_map.1 hx; obtain ⟨_, _, _, e⟩ := (h.inner p hp).1.sl; simp [cv, Value.cells, e])
  · obtain ⟨p, hp, rfl⟩ := List.mem_map.1 hr
    exact SlC.mk (h.inner p hp).2 (fun x hx => by obtain ⟨q, _, rfl⟩ := List.mem_map.1 hx; simp [cv, Value.cells])
end
end Go.Proofs.Ytigbglagfbbmjaa
