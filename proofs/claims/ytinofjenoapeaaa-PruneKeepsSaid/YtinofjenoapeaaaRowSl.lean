/- A row's slices, opened element by element. No condition. -/
import Derived.Test.YtinofjenoapeaaaRowArr
import Derived.Test.YtinofjenoapeaaaT0
import Derived.Test.YtinofjenoapeaaaProg
import Derived.Deep.Slices
import Derived.SizedLaws
namespace Go.Proofs.Ytinofjenoapeaaa
open Go.RowKit Go.Shelf Go.ChangeShapes Go.WideShapes Go.Deep
set_option linter.unusedSimpArgs false
set_option linter.unusedVariables false
section
variable {H : Type} {enc : TypeId × Value → H} {P : Program} {W : World} {base : Nat} {spare : Nat → Bool} {held : Bool}
/-- The elements of a slice, each as its cells. -/
theorem sl_elems {t e k m : Nat} (hk : 0 < k) (hu : P.underlying t = some (.slice e)) (hc : P.cellsOf e = k) {a : Option Addr} {len cap : Nat} {d : DataW H × List MemPlace} (h : DataW.trod enc P W base spare held m t [.slice a len cap] = some d) :
    ∃ f : Nat → List Value, (∀ i, i < len → (f i).length = k ∧ ∃ n y, DataW.trod enc P W base spare held n e (f i) = some y) ∧ ∀ xs : List Value, xs.length = len → (∀ i x, xs[i]? = some x → (cv x).toList = f i) → SliceAt W k (.slice a len cap) xs := by
  rcases open_slice hu h with ⟨hcs, _⟩ | ⟨A, l, c, m', n, D, Pl, hcs, _, hl, hc2, hm, hx, hel⟩
  · simp at hcs
    obtain ⟨rfl, rfl, rfl⟩ := hcs
    refine ⟨fun _ => [], fun i hi => by omega, fun xs hxs _ => ⟨none, 0, by rw [hxs], by omega, (fun _ => rfl), fun i x hi => ?_⟩⟩
    rw [List.eq_nil_of_length_eq_zero hxs] at hi; simp at hi
  · simp at hcs
    obtain ⟨rfl, rfl, rfl⟩ := hcs
    rw [hc] at hel
    have hlm : len ≤ m' := by rw [hm]; split <;> omega
    obtain ⟨f, hf⟩ := choose_lt (n := len) (p := fun i (y : List Value) => (y.length = k ∧ ∃ n z, DataW.trod enc P W base spare held n e y = some z) ∧ W.cells? base (A.add (i * k)) k = some y) (fun i hi => by
      obtain ⟨cs', h1, h2⟩ := hel i (by omega)
      exact ⟨cs', ⟨(World.cells?_some h1).2.1, _, _, h2⟩, h1⟩)
    refine ⟨f, fun i hi => (hf i hi).1, fun xs hxs hxe => ⟨some A, cap, by rw [hxs], by rw [hxs]; exact hl, (fun h => by cases h), ?_⟩⟩
    intro i x hi
    have hil : i < len := by have := (List.getElem?_eq_some_iff.1 hi).1; omega
    have h0 := (World.cells?_some (hf 0 (by omega)).2).2.2 0 (by omega)
    have hsp : A.spot = none := by
      cases hq : A.spot with
      | none => rfl
      | some q =>
        simp [Addr.add, World.cell?, hq] at h0
        have hpos : 0 < (f 0).length := by rw [(hf 0 (by omega)).1.1]; exact hk
        rw [show (f 0)[0]? = some (f 0)[0] from by simp [hpos]] at h0
        split at h0 <;> cases h0
    have hAe : A = ⟨A.block, A.off, none⟩ := by cases A; simp_all
    refine ⟨A.block, A.off, by rw [← hAe], fun r u hu => ?_⟩
    have hr : r < k := by
      have := (List.getElem?_eq_some_iff.1 hu).1
      rw [hxe i x hi, (hf i hil).1.1] at this; exact this
    have h1 := (World.cells?_some (hf i hil).2).2.2 r hr
    rw [hxe i x hi] at hu
    rw [hu, hAe, Addr.add_mid, Addr.add_mid] at h1
    exact h1
end
section
variable {H : Type} {enc : TypeId × Value → H} {W : World} {base : Nat} {spare : Nat → Bool} {held : Bool}
theorem wint_chunk {cs : List Value} {m i : Nat} {x : Option (DataW H × List MemPlace)} (h : DataW.trod enc Try.prog W base spare held m 3 (List.take (Try.prog.cellsOf 3) (List.drop i cs)) = x) (hs : x.isSome = true) : ∃ n, cs[i]? = some (.int .i64 n) ∧ (Lit.int .i64 n).wf = true := by
  obtain ⟨y, rfl⟩ := Option.isSome_iff_exists.1 hs
  obtain ⟨n, hn, _, hw⟩ := DataW.trod_int Try.underlying3 h
  rw [show Try.prog.cellsOf 3 = 1 from by kernel_rfl] at hn
  have := congrArg (fun l => l[0]?) hn
  simp at this
  exact ⟨n, this, hw⟩
theorem wslice_chunk {t e : TypeId} (hu : Try.prog.underlying t = some (.slice e)) (hc : Try.prog.cellsOf t = 1) {cs : List Value} {m i : Nat} {x : Option (DataW H × List MemPlace)} (h : DataW.trod enc Try.prog W base spare held m t (List.take (Try.prog.cellsOf t) (List.drop i cs)) = x) (hs : x.isSome = true) : ∃ a l c y, cs[i]? = some (.slice a l c) ∧ DataW.trod enc Try.prog W base spare held m t [.slice a l c] = some y := by
  obtain ⟨y, rfl⟩ := Option.isSome_iff_exists.1 hs
  rw [hc] at h
  have h' := h
  rcases open_slice hu h with ⟨hn, _⟩ | ⟨a, len, cap, _, _, _, _, hn, _⟩
  · rw [hn] at h'
    have := congrArg (fun l => l[0]?) hn
    simp at this
    exact ⟨_, _, _, _, this, h'⟩
  · rw [hn] at h'
    have := congrArg (fun l => l[0]?) hn
    simp at this
    exact ⟨_, _, _, _, this, h'⟩
theorem is_slice {t e m : Nat} {P : Program} (hu : P.underlying t = some (.slice e)) {cs : List Value} {d : DataW H × List MemPlace} (h : DataW.trod enc P W base spare held m t cs = some d) : ∃ a l c, cs = [.slice a l c] := by
  rcases open_slice hu h with ⟨hn, _⟩ | ⟨a, len, cap, _, _, _, _, hn, _⟩
  · exact ⟨_, _, _, hn⟩
  · exact ⟨_, _, _, hn⟩
theorem slice_bound {P : Program} {ts : List TypeId} {ds : List (DataW H)} {j : Nat} {t e : TypeId} {B : Nat} {a : Option Addr} {len cap : Nat} {d : DataW H} {ps : List MemPlace}
    (hsz : (DataW.weightsEach P ts ds).all (· ≤ reachBytes) = true) (ht : ts[j]? = some t) (hd : ds[j]? = some d) (hu : P.underlying t = some (.slice e)) (hB : P.bytesOf e = B)
    (h : DataW.Trod enc P W base spare held t (.slice a len cap) d ps) : len * B ≤ 140737488351232 := by
  obtain ⟨fuel, hf⟩ := h
  rcases open_slice hu hf with ⟨hcs, _⟩ | ⟨A, l, c, m, n, D, Pl, hcs, _, hl, hc2, hm, hx, hel⟩
  · simp [Value.cells] at hcs
    obtain ⟨rfl, rfl, rfl⟩ := hcs
    simp
  · simp [Value.cells] at hcs
    obtain ⟨rfl, rfl, rfl⟩ := hcs
    obtain ⟨hx, _⟩ := Prod.mk.inj hx
    subst hx
    have hlm : len ≤ m := by rw [hm]; split <;> omega
    have z := sized_slice hsz ht hd hu
    rw [hB] at z
    simp only [List.length_map, List.length_range] at z
    have : reachBytes = 140737488351232 := by decide
    have h2 : len * B ≤ (len + (m - len)) * B := Nat.mul_le_mul_right _ (by omega)
    omega
end
end Go.Proofs.Ytinofjenoapeaaa
