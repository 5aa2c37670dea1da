/- A row's array of whole numbers and its slice of whole numbers, opened. No condition. -/
import Derived.Test.YtinofjenoapeaaaQ4
import Derived.OpenShut
import Derived.ChangeSlices
import Derived.SizedLaws
namespace Go.Proofs.Ytinofjenoapeaaa
open Go.RowKit Go.Shelf Go.ChangeShapes Go.WideShapes
set_option linter.unusedSimpArgs false
set_option linter.unusedVariables false

theorem arr_open {H : Type} {enc : TypeId × Value → H} {P : Program} {W : World} {base b0 : Nat} {spare : Nat → Bool} {held : Bool} {r : Reach} {t e : TypeId} {n : Nat} {k : IntKind} {v : Value} {d : DataW H} {ps : List MemPlace}
    (hu : P.underlying t = some (.array n e)) (he : P.underlying e = some (.int k)) (hc : P.cellsOf e = 1) (hct : P.cellsOf t = n) (hval : Value.okWide P W r b0 t v) (h : DataW.Trod enc P W base spare held t v d ps) :
    ∃ zs : List Int, zs.length = n ∧ v = .agg (zs.map (Value.int k)).toArray ∧ ∀ z ∈ zs, (Lit.int k z).wf = true := by
  simp only [Value.okWide, hu] at hval
  obtain ⟨cs, rfl, hsz, _⟩ := hval
  obtain ⟨fuel, hf⟩ := h
  obtain ⟨xs, m, _, _, hl, hx, hel⟩ := DataW.trod_array hu hf
  rw [hc] at hel
  have hcs : cs.toList.length = n := by rw [← hct, ← hsz]; simp
  have hall : ∀ i, i < n → ∃ z, cs.toList[i]? = some (.int k z) ∧ (Lit.int k z).wf = true := by
    intro i hi
    have h1 := hel i hi
    have h2 : (xs[i]?).isSome = true := by rw [List.getElem?_eq_getElem (by omega)]; rfl
    obtain ⟨y, hy⟩ := Option.isSome_iff_exists.1 h2
    rw [hy] at h1
    obtain ⟨z, hz, _, hw⟩ := DataW.trod_int he h1
    have := congrArg (fun l => l[0]?) hz
    simp [Value.cells] at this
    exact ⟨z, by simpa using this, hw⟩
  obtain ⟨f, hfe⟩ : ∃ f : Nat → Int, ∀ i, i < n → cs.toList[i]? = some (.int k (f i)) ∧ (Lit.int k (f i)).wf = true := by
    classical
    refine ⟨fun i => if hi : i < n then Classical.choose (hall i hi) else 0, fun i hi => ?_⟩
    simp only [dif_pos hi]
    exact Classical.choose_spec (hall i hi)
  refine ⟨(List.range n).map f, by simp, ?_, ?_⟩
  · congr 1
    apply Array.toList_inj.1
    apply List.ext_getElem?
    intro i
    by_cases hi : i < n
    · rw [(hfe i hi).1]; simp [hi]
    · rw [List.getElem?_eq_none (by omega)]; simp [hi]
  · intro z hz
    obtain ⟨i, hi, rfl⟩ := List.mem_map.1 hz
    exact (hfe i (List.mem_range.1 hi)).2

theorem wf_i16 {n : Int} (h : (Lit.int .i16 n).wf = true) : -32768 ≤ n ∧ n ≤ 32767 := by
  simp [Lit.wf, IntKind.min, IntKind.max, IntKind.signed, IntKind.bits] at h; omega
theorem wf_u8 {n : Int} (h : (Lit.int .u8 n).wf = true) : 0 ≤ n ∧ n ≤ 255 := by
  simp [Lit.wf, IntKind.min, IntKind.max, IntKind.signed, IntKind.bits] at h; omega
theorem wf_i64 {n : Int} (h : (Lit.int .i64 n).wf = true) : -9223372036854775808 ≤ n ∧ n ≤ 9223372036854775807 := by
  simp [Lit.wf, IntKind.min, IntKind.max, IntKind.signed, IntKind.bits] at h; omega

end Go.Proofs.Ytinofjenoapeaaa
