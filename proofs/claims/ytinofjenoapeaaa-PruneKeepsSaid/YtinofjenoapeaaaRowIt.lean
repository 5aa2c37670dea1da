/- A row's slice of items, opened. No condition. -/
import Derived.Test.YtinofjenoapeaaaRowSl
import Derived.Test.YtinofjenoapeaaaIt2
namespace Go.Proofs.Ytinofjenoapeaaa
open Go.RowKit Go.Shelf Go.ChangeShapes Go.WideShapes Go.Deep
set_option linter.unusedSimpArgs false
set_option linter.unusedVariables false
section
variable {H : Type} {enc : TypeId × Value → H} {W : World} {base : Nat} {spare : Nat → Bool} {held : Bool}
theorem wf_u16 {n : Int} (h : (Lit.int .u16 n).wf = true) : 0 ≤ n ∧ n ≤ 65535 := by
  simp [Lit.wf, IntKind.min, IntKind.max, IntKind.signed, IntKind.bits] at h; omega
instance : Inhabited It2 := ⟨zIt2⟩
def I64 (z : Int) : Prop := -9223372036854775808 ≤ z ∧ z ≤ 9223372036854775807
/-- Its numbers fit their type. -/
structure It2.wf (x : It2) : Prop where
  ok : x.ok
  id : I64 x.id
  kind : I64 x.kind
  tl : I64 x.tl
  num : I64 x.num
  a : I64 x.a
  b : I64 x.b
  par : I64 x.par
  len : I64 x.len
set_option maxRecDepth 100000 in
theorem it2_open {n : Nat} {cs : List Value} {x : DataW H × List MemPlace} (h : DataW.trod enc Try.prog W base spare held n 27 cs = some x) : ∃ y : It2, y.wf ∧ cs = (cv y.v).toList := by
  obtain ⟨xs, m, _, _, hl, hx, hf⟩ := DataW.trod_struct Try.underlying27 h
  rw [show Try.prog.cellsOf 27 = 9 from by kernel_rfl] at hl
  have hs : ∀ i, i < 9 → (xs[i]?).isSome = true := fun i hi => by rw [List.getElem?_eq_getElem (by rw [hx]; exact hi)]; rfl
  obtain ⟨n0, h0, w0⟩ := wint_chunk (hf 0 _ rfl) (hs 0 (by decide))
  obtain ⟨n1, h1, w1⟩ := wint_chunk (hf 1 _ rfl) (hs 1 (by decide))
  obtain ⟨n2, h2, w2⟩ := wint_chunk (hf 2 _ rfl) (hs 2 (by decide))
  obtain ⟨n3, h3, w3⟩ := wint_chunk (hf 3 _ rfl) (hs 3 (by decide))
  obtain ⟨n4, h4, w4⟩ := wint_chunk (hf 4 _ rfl) (hs 4 (by decide))
  obtain ⟨n5, h5, w5⟩ := wint_chunk (hf 5 _ rfl) (hs 5 (by decide))
  obtain ⟨n6, h6, w6⟩ := wint_chunk (hf 6 _ rfl) (hs 6 (by decide))
  obtain ⟨n7, h7, w7⟩ := wint_chunk (hf 7 _ rfl) (hs 7 (by decide))
  obtain ⟨a, l, c, _, h8, _⟩ := wslice_chunk Try.underlying25 (by kernel_rfl) (hf 8 _ rfl) (hs 8 (by decide))
  refine ⟨⟨n0, n1, n2, n3, n4, n5, n6, n7, .slice a l c⟩, ⟨⟨_, _, _, rfl⟩, wf_i64 w0, wf_i64 w1, wf_i64 w2, wf_i64 w3, wf_i64 w4, wf_i64 w5, wf_i64 w6, wf_i64 w7⟩, ?_⟩
  match cs, hl with
  | [c0, c1, c2, c3, c4, c5, c6, c7, c8], _ =>
    simp at h0 h1 h2 h3 h4 h5 h6 h7 h8
    subst h0 h1 h2 h3 h4 h5 h6 h7 h8
    rfl
/-- A slice of items. -/
structure ItsS (W : World) (s : Value) (L : List It2) : Prop where
  at_ : SliceAt W 9 s (L.map It2.v)
  wf : ∀ x ∈ L, x.wf
theorem ItsS.ok {s : Value} {L : List It2} (h : ItsS W s L) : ∀ x ∈ L, x.ok := fun x hx => (h.wf x hx).ok
theorem its_open {a : Option Addr} {len cap : Nat} {d : DataW H} {ps : List MemPlace} (h : DataW.Trod enc Try.prog W base spare held 22 (.slice a len cap) d ps) : ∃ L : List It2, ItsS W (.slice a len cap) L ∧ L.length = len := by
  obtain ⟨fuel, hf⟩ := h
  obtain ⟨f, h1, h2⟩ := sl_elems (k := 9) (by decide) Try.underlying22 (by kernel_rfl) hf
  obtain ⟨g, hg⟩ := choose_lt (n := len) (p := fun i (y : It2) => y.wf ∧ f i = (cv y.v).toList) (fun i hi => by
    obtain ⟨_, n, y, hy⟩ := h1 i hi
    exact it2_open hy)
  refine ⟨(List.range len).map g, ⟨h2 _ (by simp) (fun i x hx => ?_), fun x hx => ?_⟩, by simp⟩
  · have hil : i < len := by have := (List.getElem?_eq_some_iff.1 hx).1; simpa using this
    simp [hil] at hx
    rw [← hx, (hg i hil).2]
  · obtain ⟨i, hi, rfl⟩ := List.mem_map.1 hx
    exact (hg i (List.mem_range.1 hi)).1
theorem ItsS.ch {s : Value} {L : List It2} (h : ItsS W s L) : ∀ r ∈ [SlC 9 s (L.map It2.v)], ∃ O, r.p O W := fun r hr => by
  rw [List.mem_singleton.1 hr]
  exact SlC.mk h.at_ (fun x hx => by obtain ⟨q, _, rfl⟩ := List.mem_map.1 hx; simp [cv, Value.cells])
end
end Go.Proofs.Ytinofjenoapeaaa
