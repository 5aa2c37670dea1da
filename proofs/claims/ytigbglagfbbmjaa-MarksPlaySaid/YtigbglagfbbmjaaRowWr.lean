/- A row's slices of slices of writes, opened. No condition. -/
import Derived.Test.YtigbglagfbbmjaaRowSl
import Derived.Test.YtigbglagfbbmjaaMk
namespace Go.Proofs.Ytigbglagfbbmjaa
open Go.RowKit Go.Shelf Go.ChangeShapes Go.WideShapes Go.Deep
set_option linter.unusedSimpArgs false
set_option linter.unusedVariables false
section
variable {H : Type} {enc : TypeId × Value → H} {W : World} {base : Nat} {spare : Nat → Bool} {held : Bool}
instance : Inhabited Wr := ⟨⟨0, .slice none 0 0⟩⟩
def Wr.wf (x : Wr) : Prop := x.ok ∧ -9223372036854775808 ≤ x.blk ∧ x.blk ≤ 9223372036854775807
set_option maxRecDepth 100000 in
theorem write_open {n : Nat} {cs : List Value} {x : DataW H × List MemPlace} (h : DataW.trod enc Try.prog W base spare held n 73 cs = some x) : ∃ y : Wr, y.wf ∧ cs = (cv y.v).toList := by
  obtain ⟨xs, m, _, _, hl, hx, hf⟩ := DataW.trod_struct Try.underlying73 h
  rw [show Try.prog.cellsOf 73 = 2 from by kernel_rfl] at hl
  have hs : ∀ i, i < 2 → (xs[i]?).isSome = true := fun i hi => by rw [List.getElem?_eq_getElem (by rw [hx]; exact hi)]; rfl
  obtain ⟨n0, h0, w0⟩ := wint_chunk (hf 0 _ rfl) (hs 0 (by decide))
  obtain ⟨a, l, c, _, h1, _⟩ := wslice_chunk Try.underlying71 (by kernel_rfl) (hf 1 _ rfl) (hs 1 (by decide))
  refine ⟨⟨n0, .slice a l c⟩, ⟨⟨_, _, _, rfl⟩, wf_i64 w0⟩, ?_⟩
  match cs, hl with
  | [c0, c1], _ =>
    simp at h0 h1
    subst h0 h1
    rfl
theorem writes_open {m : Nat} {a : Option Addr} {len cap : Nat} {d : DataW H × List MemPlace} (h : DataW.trod enc Try.prog W base spare held m 69 [.slice a len cap] = some d) : ∃ L : List Wr, SliceAt W 2 (.slice a len cap) (L.map Wr.v) ∧ L.length = len ∧ ∀ x ∈ L, x.wf := by
  obtain ⟨f, h1, h2⟩ := sl_elems (k := 2) (by decide) Try.underlying69 (by kernel_rfl) h
  obtain ⟨g, hg⟩ := choose_lt (n := len) (p := fun i (y : Wr) => y.wf ∧ f i = (cv y.v).toList) (fun i hi => by
    obtain ⟨_, n, y, hy⟩ := h1 i hi
    exact write_open hy)
  refine ⟨(List.range len).map g, h2 _ (by simp) (fun i x hx => ?_), by simp, fun x hx => ?_⟩
  · have hil : i < len := by have := (List.getElem?_eq_some_iff.1 hx).1; simpa using this
    simp [hil] at hx
    rw [← hx, (hg i hil).2]
  · obtain ⟨i, hi, rfl⟩ := List.mem_map.1 hx
    exact (hg i (List.mem_range.1 hi)).1
/-- A slice of slices of writes. -/
structure WrSS (W : World) (s : Value) (L : List (Value × List Wr)) : Prop where
  outer : SliceAt W 1 s (L.map (·.1))
  inner : ∀ p ∈ L, IsSl p.1 ∧ SliceAt W 2 p.1 (p.2.map Wr.v) ∧ ∀ x ∈ p.2, x.wf
theorem writess_open {t : Nat} (hu : Try.prog.underlying t = some (.slice 69)) {a : Option Addr} {len cap : Nat} {d : DataW H} {ps : List MemPlace} (h : DataW.Trod enc Try.prog W base spare held t (.slice a len cap) d ps) : ∃ L : List (Value × List Wr), WrSS W (.slice a len cap) L ∧ L.length = len := by
  obtain ⟨fuel, hf⟩ := h
  obtain ⟨f, h1, h2⟩ := sl_elems (k := 1) (by decide) hu (by kernel_rfl) hf
  obtain ⟨g, hg⟩ := choose_lt (n := len) (p := fun i (y : Value × List Wr) => f i = [y.1] ∧ IsSl y.1 ∧ SliceAt W 2 y.1 (y.2.map Wr.v) ∧ ∀ x ∈ y.2, x.wf) (fun i hi => by
    obtain ⟨_, n, y, hy⟩ := h1 i hi
    obtain ⟨a', l', c', e⟩ := is_slice Try.underlying69 hy
    rw [e] at hy
    obtain ⟨L, q1, q2, q3⟩ := writes_open hy
    exact ⟨(.slice a' l' c', L), e, ⟨_, _, _, rfl⟩, q1, q3⟩)
  refine ⟨(List.range len).map g, ⟨h2 _ (by simp) (fun i x hx => ?_), fun p hp => ?_⟩, by simp⟩
  · have hil : i < len := by have := (List.getElem?_eq_some_iff.1 hx).1; simpa using this
    simp [hil] at hx
    obtain ⟨e, ⟨a', l', c', es⟩, _⟩ := hg i hil
    rw [← hx, e, es]; rfl
  · obtain ⟨i, hi, rfl⟩ := List.mem_map.1 hp
    exact (hg i (List.mem_range.1 hi)).2
def WrSS.chs (s : Value) (L : List (Value × List Wr)) : List Ch := SlC 1 s (L.map (·.1)) :: L.map fun p => SlC 2 p.1 (p.2.map Wr.v)
theorem WrSS.ch {s : Value} {L : List (Value × List Wr)} (h : WrSS W s L) : ∀ r ∈ WrSS.chs s L, ∃ O, r.p O W := fun r hr => by
  rcases List.mem_cons.1 hr with rfl | hr
  · exact SlC.mk h.outer (fun x hx => by obtain ⟨p, hp, rfl⟩ := List.mem_map.1 hx; obtain ⟨⟨_, _, _, e⟩, _⟩ := h.inner p hp; rw [e]; simp [cv, Value.cells])
  · obtain ⟨p, hp, rfl⟩ := List.mem_map.1 hr
    exact SlC.mk (h.inner p hp).2.1 (fun x hx => by obtain ⟨q, _, rfl⟩ := List.mem_map.1 hx; simp [cv, Value.cells])
end
end Go.Proofs.Ytigbglagfbbmjaa
