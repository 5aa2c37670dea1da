/- A row's slice of extents, opened. No condition. -/
import Derived.Test.YtmfphgkpnojppaaRowSl
import Derived.Test.YtmfphgkpnojppaaEx1
namespace Go.Proofs.Ytmfphgkpnojppaa
open Go.RowKit Go.Shelf Go.ChangeShapes Go.WideShapes Go.Deep
open Ex (Ext I64)
set_option linter.unusedSimpArgs false
set_option linter.unusedVariables false
section
variable {H : Type} {enc : TypeId × Value → H} {W : World} {base : Nat} {spare : Nat → Bool} {held : Bool}
theorem wf_u16 {n : Int} (h : (Lit.int .u16 n).wf = true) : 0 ≤ n ∧ n ≤ 65535 := by
  simp [Lit.wf, IntKind.min, IntKind.max, IntKind.signed, IntKind.bits] at h; omega
instance : Inhabited Ext := ⟨⟨0, 0⟩⟩
set_option maxRecDepth 100000 in
theorem ext_open {n : Nat} {cs : List Value} {x : DataW H × List MemPlace} (h : DataW.trod enc Try.prog W base spare held n 39 cs = some x) : ∃ y : Ext, (I64 y.a ∧ I64 y.n) ∧ cs = (cv y.v).toList := by
  obtain ⟨xs, m, _, _, hl, hx, hf⟩ := DataW.trod_struct Try.underlying39 h
  rw [show Try.prog.cellsOf 39 = 2 from by kernel_rfl] at hl
  have hs : ∀ i, i < 2 → (xs[i]?).isSome = true := fun i hi => by rw [List.getElem?_eq_getElem (by rw [hx]; exact hi)]; rfl
  obtain ⟨n0, h0, w0⟩ := wint_chunk (hf 0 _ rfl) (hs 0 (by decide))
  obtain ⟨n1, h1, w1⟩ := wint_chunk (hf 1 _ rfl) (hs 1 (by decide))
  refine ⟨⟨n0, n1⟩, ⟨wf_i64 w0, wf_i64 w1⟩, ?_⟩
  match cs, hl with
  | [c0, c1], _ =>
    simp at h0 h1
    subst h0 h1
    rfl
/-- A slice of extents. -/
structure ExsS (W : World) (s : Value) (L : List Ext) : Prop where
  at_ : SliceAt W 2 s (L.map Ext.v)
  wf : ∀ x ∈ L, I64 x.a ∧ I64 x.n
theorem exs_open {a : Option Addr} {len cap : Nat} {d : DataW H} {ps : List MemPlace} (h : DataW.Trod enc Try.prog W base spare held 22 (.slice a len cap) d ps) : ∃ L : List Ext, ExsS W (.slice a len cap) L ∧ L.length = len := by
  obtain ⟨fuel, hf⟩ := h
  obtain ⟨f, h1, h2⟩ := sl_elems (k := 2) (by decide) Try.underlying22 (by kernel_rfl) hf
  obtain ⟨g, hg⟩ := choose_lt (n := len) (p := fun i (y : Ext) => (I64 y.a ∧ I64 y.n) ∧ f i = (cv y.v).toList) (fun i hi => by
    obtain ⟨_, n, y, hy⟩ := h1 i hi
    exact ext_open hy)
  refine ⟨(List.range len).map g, ⟨h2 _ (by simp) (fun i x hx => ?_), fun x hx => ?_⟩, by simp⟩
  · have hil : i < len := by have := (List.getElem?_eq_some_iff.1 hx).1; simpa using this
    simp [hil] at hx
    rw [← hx, (hg i hil).2]
  · obtain ⟨i, hi, rfl⟩ := List.mem_map.1 hx
    exact (hg i (List.mem_range.1 hi)).1
theorem ExsS.ch {s : Value} {L : List Ext} (h : ExsS W s L) : ∀ r ∈ [SlC 2 s (L.map Ext.v)], ∃ O, r.p O W := fun r hr => by
  rw [List.mem_singleton.1 hr]
  exact SlC.mk h.at_ (fun x hx => by obtain ⟨q, _, rfl⟩ := List.mem_map.1 hx; simp [cv, Value.cells])
end
end Go.Proofs.Ytmfphgkpnojppaa
