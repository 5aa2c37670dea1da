/- A row's slice of items, opened. No condition. -/
import Derived.Test.YtigbglagfbbmjaaItem
import Derived.Deep.Slices
import Derived.SizedLaws
namespace Go.Proofs.Ytigbglagfbbmjaa
open Go.RowKit Go.Shelf Go.ChangeShapes Go.WideShapes Go.Deep
set_option linter.unusedSimpArgs false
set_option linter.unusedVariables false

instance : Inhabited Itm := ⟨zItm⟩

section
variable {H : Type} {enc : TypeId × Value → H} {W : World} {base : Nat} {spare : Nat → Bool} {held : Bool}

theorem int_chunk {cs : List Value} {m i : Nat} {x : Option (DataW H × List MemPlace)} (h : DataW.trod enc Try.prog W base spare held m 3 (List.take (Try.prog.cellsOf 3) (List.drop i cs)) = x) (hs : x.isSome = true) : ∃ n, cs[i]? = some (.int .i64 n) ∧ (Lit.int .i64 n).wf = true := by
  obtain ⟨y, rfl⟩ := Option.isSome_iff_exists.1 hs
  obtain ⟨n, hn, _, hw⟩ := DataW.trod_int Try.underlying3 h
  rw [show Try.prog.cellsOf 3 = 1 from by kernel_rfl] at hn
  have := congrArg (fun l => l[0]?) hn
  simp at this
  exact ⟨n, this, hw⟩
theorem slice_chunk {t e : TypeId} (hu : Try.prog.underlying t = some (.slice e)) (hc : Try.prog.cellsOf t = 1) {cs : List Value} {m i : Nat} {x : Option (DataW H × List MemPlace)} (h : DataW.trod enc Try.prog W base spare held m t (List.take (Try.prog.cellsOf t) (List.drop i cs)) = x) (hs : x.isSome = true) : ∃ a l c, cs[i]? = some (.slice a l c) := by
  obtain ⟨y, rfl⟩ := Option.isSome_iff_exists.1 hs
  rw [hc] at h
  rcases open_slice hu h with ⟨hn, _⟩ | ⟨a, len, cap, _, _, _, _, hn, _⟩
  · have := congrArg (fun l => l[0]?) hn
    simp at this
    exact ⟨_, _, _, this⟩
  · have := congrArg (fun l => l[0]?) hn
    simp at this
    exact ⟨_, _, _, this⟩
/-- Its numbers fit their type. -/
def Itm.wf (x : Itm) : Prop := (Lit.int .i64 x.id).wf = true ∧ (Lit.int .i64 x.kind).wf = true ∧ (Lit.int .i64 x.tl).wf = true ∧ (Lit.int .i64 x.num).wf = true ∧ (Lit.int .i64 x.a).wf = true ∧ (Lit.int .i64 x.b).wf = true ∧ (Lit.int .i64 x.par).wf = true ∧ (Lit.int .i64 x.len).wf = true
set_option maxRecDepth 100000 in
theorem item_open {n : Nat} {cs : List Value} {x : DataW H × List MemPlace} (h : DataW.trod enc Try.prog W base spare held n 35 cs = some x) : ∃ y : Itm, y.ok ∧ cs = (cv y.v).toList ∧ y.wf := by
  obtain ⟨xs, m, _, _, hl, hx, hf⟩ := DataW.trod_struct Try.underlying35 h
  rw [show Try.prog.cellsOf 35 = 9 from by kernel_rfl] at hl
  have hs : ∀ i, i < 9 → (xs[i]?).isSome = true := fun i hi => by rw [List.getElem?_eq_getElem (by rw [hx]; exact hi)]; rfl
  obtain ⟨n0, h0, w0⟩ := int_chunk (hf 0 _ rfl) (hs 0 (by decide))
  obtain ⟨n1, h1, w1⟩ := int_chunk (hf 1 _ rfl) (hs 1 (by decide))
  obtain ⟨n2, h2, w2⟩ := int_chunk (hf 2 _ rfl) (hs 2 (by decide))
  obtain ⟨n3, h3, w3⟩ := int_chunk (hf 3 _ rfl) (hs 3 (by decide))
  obtain ⟨n4, h4, w4⟩ := int_chunk (hf 4 _ rfl) (hs 4 (by decide))
  obtain ⟨n5, h5, w5⟩ := int_chunk (hf 5 _ rfl) (hs 5 (by decide))
  obtain ⟨n6, h6, w6⟩ := int_chunk (hf 6 _ rfl) (hs 6 (by decide))
  obtain ⟨n7, h7, w7⟩ := int_chunk (hf 7 _ rfl) (hs 7 (by decide))
  obtain ⟨a, l, c, h8⟩ := slice_chunk Try.underlying33 (by kernel_rfl) (hf 8 _ rfl) (hs 8 (by decide))
  refine ⟨⟨n0, n1, n2, n3, n4, n5, n6, n7, .slice a l c⟩, ⟨_, _, _, rfl⟩, ?_, ⟨w0, w1, w2, w3, w4, w5, w6, w7⟩⟩
  match cs, hl with
  | [c0, c1, c2, c3, c4, c5, c6, c7, c8], _ =>
    simp at h0 h1 h2 h3 h4 h5 h6 h7 h8
    subst h0 h1 h2 h3 h4 h5 h6 h7 h8
    rfl

theorem items_open {ts : List TypeId} {ds : List (DataW H)} {j : Nat} {a : Option Addr} {len cap : Nat} {d : DataW H} {ps : List MemPlace}
    (hsz : (DataW.weightsEach Try.prog ts ds).all (· ≤ reachBytes) = true) (ht : ts[j]? = some 22) (hd : ds[j]? = some d)
    (h : DataW.Trod enc Try.prog W base spare held 22 (.slice a len cap) d ps) : ∃ L, Items W (.slice a len cap) L ∧ L.length = len ∧ ∀ x ∈ L, x.wf := by
  obtain ⟨fuel, hf⟩ := h
  rcases open_slice Try.underlying22 hf with ⟨hcs, _⟩ | ⟨A, l, c, m, n, D, Pl, hcs, _, hl, hc, hm, hx, hel⟩
  · simp [Value.cells] at hcs
    obtain ⟨rfl, rfl, rfl⟩ := hcs
    exact ⟨[], ⟨⟨none, 0, rfl, Nat.le_refl _, (fun _ => rfl), fun i x hx => by simp at hx⟩, (fun x hx => by cases hx), by simp⟩, rfl, (fun x hx => by cases hx)⟩
  · simp [Value.cells] at hcs
    obtain ⟨rfl, rfl, rfl⟩ := hcs
    obtain ⟨hx, _⟩ := Prod.mk.inj hx
    subst hx
    rw [show Try.prog.cellsOf 35 = 9 from by kernel_rfl] at hel
    have hlm : len ≤ m := by rw [hm]; split <;> omega
    have z := sized_slice hsz ht hd Try.underlying22
    rw [show Try.prog.bytesOf 35 = 88 from by kernel_rfl] at z
    simp only [List.length_map, List.length_range] at z
    obtain ⟨f, hfe⟩ := choose_lt (n := len) (p := fun i (y : Itm) => (y.ok ∧ y.wf) ∧ W.cells? base (A.add (i * 9)) 9 = some (cv y.v).toList) (fun i hi => by
      obtain ⟨cs', h1, h2⟩ := hel i (by omega)
      obtain ⟨y, hy, rfl, hw⟩ := item_open h2
      exact ⟨y, ⟨hy, hw⟩, h1⟩)
    refine ⟨(List.range len).map f, ⟨⟨some A, cap, by simp, by simpa using hl, (fun h => by cases h), ?_⟩, ?_, ?_⟩, by simp, ?_⟩
    · intro i x hi
      have hil : i < len := by have := (List.getElem?_eq_some_iff.1 hi).1; simpa using this
      simp [hil] at hi
      subst hi
      have h0 := (World.cells?_some (hfe 0 (by omega)).2).2.2 0 (by omega)
      have hsp : A.spot = none := by
        cases hq : A.spot with
        | none => rfl
        | some q =>
          simp [Addr.add, World.cell?, hq] at h0
          split at h0 <;> cases h0
      have hAe : A = ⟨A.block, A.off, none⟩ := by cases A; simp_all
      refine ⟨A.block, A.off, by rw [← hAe], fun r u hu => ?_⟩
      have hr : r < 9 := by have := (List.getElem?_eq_some_iff.1 hu).1; simpa [cv, Value.cells] using this
      have h1 := (World.cells?_some (hfe i hil).2).2.2 r hr
      rw [hu, hAe, Addr.add_mid, Addr.add_mid] at h1
      exact h1
    · intro x hx
      obtain ⟨i, hi, rfl⟩ := List.mem_map.1 hx
      exact (hfe i (List.mem_range.1 hi)).1.1
    · have : reachBytes = 140737488351232 := by decide
      simp; omega
    · intro x hx
      obtain ⟨i, hi, rfl⟩ := List.mem_map.1 hx
      exact (hfe i (List.mem_range.1 hi)).1.2
end
end Go.Proofs.Ytigbglagfbbmjaa
