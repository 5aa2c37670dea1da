/- What segments cover, as plain functions. No condition. -/
import Derived.Test.YtinofjenoapeaaaIt2
namespace Go.Proofs.Ytinofjenoapeaaa
open Go.RowKit Go.Shelf
set_option linter.unusedSimpArgs false
set_option linter.unusedVariables false
namespace Re
def segB (t : Int) (x : It2) : Bool := decide (x.kind = 1) && decide (x.tl = t)
def nextB (n : Int) (x : It2) : Bool := decide (x.a ≤ n) && decide (n < x.b)
def nextSeg (L : List It2) (t n : Int) : Option It2 := (L.filter (segB t)).find? (nextB n)
/-! ### what is covered, as plain functions -/
theorem nextSeg_spec {L : List It2} {t n : Int} {x : It2} (h : nextSeg L t n = some x) : x ∈ L ∧ x.kind = 1 ∧ x.tl = t ∧ x.a ≤ n ∧ n < x.b := by
  have h1 := List.mem_of_find?_eq_some h
  have h2 := List.find?_some h
  obtain ⟨h3, h4⟩ := List.mem_filter.1 h1
  simp [segB] at h4
  simp [nextB] at h2
  exact ⟨h3, h4.1, h4.2, h2.1, h2.2⟩
/-- How many items end behind n. -/
def above (L : List It2) (n : Int) : Nat := (L.filter fun x => decide (n < x.b)).length
theorem above_lt {L : List It2} {n m : Int} {x : It2} (hx : x ∈ L) (h1 : n < x.b) (h2 : m = x.b) : above L m < above L n := by
  subst h2
  unfold above
  induction L with
  | nil => cases hx
  | cons y L ih =>
    have hle : (L.filter fun z => decide (x.b < z.b)).length ≤ (L.filter fun z => decide (n < z.b)).length := by
      clear ih hx
      induction L with
      | nil => simp
      | cons z L ih =>
        simp only [List.filter_cons]
        by_cases hz : x.b < z.b
        · rw [if_pos (by simpa using hz), if_pos (by simp; omega)]; simp only [List.length_cons]; omega
        · rw [if_neg (by simpa using hz)]
          split
          · simp only [List.length_cons]; omega
          · exact ih
    rcases List.mem_cons.1 hx with rfl | hx
    · simp only [List.filter_cons]
      rw [if_neg (by simp), if_pos (by simpa using h1)]
      simp only [List.length_cons]; omega
    · have := ih hx
      simp only [List.filter_cons]
      by_cases hy : x.b < y.b
      · rw [if_pos (by simpa using hy), if_pos (by simp; omega)]; simp only [List.length_cons]; omega
      · rw [if_neg (by simpa using hy)]
        split
        · simp only [List.length_cons]; omega
        · exact this
theorem above_le (L : List It2) (n : Int) : above L n ≤ L.length := List.length_filter_le _ _

/-- The Ids that cover what is behind 'fr' up to 'to'; none where they don't. -/
def cover (L : List It2) (t : Int) (fr to : Int) : Option (List Int) :=
  if fr < to then
    match h : nextSeg L t fr with
    | none => none
    | some x => (cover L t x.b to).map (x.id :: ·)
  else some []
termination_by above L fr
decreasing_by
  have := nextSeg_spec h
  exact above_lt this.1 this.2.2.2.2 rfl
/-- The last commit that is covered. -/
def last (L : List It2) (t : Int) (fr : Int) : Int :=
  match h : nextSeg L t fr with
  | none => fr
  | some x => last L t x.b
termination_by above L fr
decreasing_by
  have := nextSeg_spec h
  exact above_lt this.1 this.2.2.2.2 rfl
theorem cover_done {L : List It2} {t fr to : Int} (h : ¬ fr < to) : cover L t fr to = some [] := by rw [cover, if_neg h]
theorem cover_none {L : List It2} {t fr to : Int} (h : fr < to) (hn : nextSeg L t fr = none) : cover L t fr to = none := by
  rw [cover, if_pos h]; split
  · rfl
  · rename_i x hx; rw [hn] at hx; cases hx
theorem cover_some {L : List It2} {t fr to : Int} {x : It2} (h : fr < to) (hn : nextSeg L t fr = some x) : cover L t fr to = (cover L t x.b to).map (x.id :: ·) := by
  rw [cover, if_pos h]; split
  · rename_i hx; rw [hn] at hx; cases hx
  · rename_i y hy; rw [hn] at hy; cases hy; rfl
theorem last_none {L : List It2} {t fr : Int} (hn : nextSeg L t fr = none) : last L t fr = fr := by
  rw [last]; split
  · rfl
  · rename_i x hx; rw [hn] at hx; cases hx
theorem last_some {L : List It2} {t fr : Int} {x : It2} (hn : nextSeg L t fr = some x) : last L t fr = last L t x.b := by
  rw [last]; split
  · rename_i hx; rw [hn] at hx; cases hx
  · rename_i y hy; rw [hn] at hy; cases hy; rfl

theorem nextSeg_cases (L : List It2) (t fr : Int) : nextSeg L t fr = none ∨ ∃ x, nextSeg L t fr = some x ∧ x ∈ L ∧ fr < x.b ∧ above L x.b < above L fr := by
  cases h : nextSeg L t fr with
  | none => exact .inl rfl
  | some x => have := nextSeg_spec h; exact .inr ⟨x, rfl, this.1, this.2.2.2.2, above_lt this.1 this.2.2.2.2 rfl⟩

theorem last_ge (L : List It2) (t : Int) : ∀ (m : Nat) (fr : Int), above L fr ≤ m → fr ≤ last L t fr ∧ (last L t fr = fr ∨ ∃ x ∈ L, last L t fr = x.b) := by
  intro m
  induction m with
  | zero =>
    intro fr hm
    rcases nextSeg_cases L t fr with h | ⟨x, h, hx, hb, ha⟩
    · rw [last_none h]; exact ⟨Int.le_refl _, .inl rfl⟩
    · omega
  | succ m ih =>
    intro fr hm
    rcases nextSeg_cases L t fr with h | ⟨x, h, hx, hb, ha⟩
    · rw [last_none h]; exact ⟨Int.le_refl _, .inl rfl⟩
    · rw [last_some h]
      obtain ⟨h1, h2⟩ := ih x.b (by omega)
      exact ⟨by omega, .inr (h2.elim (fun e => ⟨x, hx, e⟩) id)⟩

theorem cover_iff (L : List It2) (t : Int) : ∀ (m : Nat) (fr to : Int), above L fr ≤ m → ((cover L t fr to).isSome = true ↔ to ≤ last L t fr) := by
  intro m
  induction m with
  | zero =>
    intro fr to hm
    rcases nextSeg_cases L t fr with h | ⟨x, h, hx, hb, ha⟩
    · rw [last_none h]
      by_cases hlt : fr < to
      · rw [cover_none hlt h]; simp; omega
      · rw [cover_done hlt]; simp; omega
    · omega
  | succ m ih =>
    intro fr to hm
    rcases nextSeg_cases L t fr with h | ⟨x, h, hx, hb, ha⟩
    · rw [last_none h]
      by_cases hlt : fr < to
      · rw [cover_none hlt h]; simp; omega
      · rw [cover_done hlt]; simp; omega
    · rw [last_some h]
      have hge := (last_ge L t m x.b (by omega)).1
      by_cases hlt : fr < to
      · rw [cover_some hlt h]
        have := ih x.b to (by omega)
        simpa using this
      · rw [cover_done hlt]; simp; omega

/-- What is covered further is covered up to any commit ahead, by the first ones of the same segments. -/
theorem cover_parts (L : List It2) (t : Int) : ∀ (m : Nat) (fr mid to : Int) (zs : List Int), above L fr ≤ m → mid ≤ to → cover L t fr to = some zs → ∃ ys rest, cover L t fr mid = some ys ∧ zs = ys ++ rest := by
  intro m
  induction m with
  | zero =>
    intro fr mid to zs hm hle hz
    by_cases hlt : fr < mid
    · rcases nextSeg_cases L t fr with h | ⟨x, h, hx, hb, ha⟩
      · rw [cover_none (by omega) h] at hz; cases hz
      · omega
    · exact ⟨[], zs, cover_done hlt, rfl⟩
  | succ m ih =>
    intro fr mid to zs hm hle hz
    by_cases hlt : fr < mid
    · rcases nextSeg_cases L t fr with h | ⟨x, h, hx, hb, ha⟩
      · rw [cover_none (by omega) h] at hz; cases hz
      · rw [cover_some (by omega) h] at hz
        obtain ⟨zs', hz', rfl⟩ := Option.map_eq_some_iff.1 hz
        obtain ⟨ys, rest, hy, rfl⟩ := ih x.b mid to zs' (by omega) hle hz'
        exact ⟨x.id :: ys, rest, by rw [cover_some hlt h, hy]; rfl, rfl⟩
    · exact ⟨[], zs, cover_done hlt, rfl⟩

theorem cover_pos (L : List It2) (t fr to : Int) (zs : List Int) (h : cover L t fr to = some zs) : (0 < zs.length ↔ fr < to) := by
  by_cases hlt : fr < to
  · cases hn : nextSeg L t fr with
    | none => rw [cover_none hlt hn] at h; cases h
    | some x =>
      rw [cover_some hlt hn] at h
      obtain ⟨zs', _, rfl⟩ := Option.map_eq_some_iff.1 h
      simp [hlt]
  · rw [cover_done hlt] at h; cases h; simp [hlt]

theorem cover_len (L : List It2) (t : Int) : ∀ (m : Nat) (fr to : Int) (zs : List Int), above L fr ≤ m → cover L t fr to = some zs → zs.length ≤ above L fr := by
  intro m
  induction m with
  | zero =>
    intro fr to zs hm hz
    by_cases hlt : fr < to
    · rcases nextSeg_cases L t fr with h | ⟨x, h, hx, hb, ha⟩
      · rw [cover_none hlt h] at hz; cases hz
      · omega
    · rw [cover_done hlt] at hz; cases hz; simp
  | succ m ih =>
    intro fr to zs hm hz
    by_cases hlt : fr < to
    · rcases nextSeg_cases L t fr with h | ⟨x, h, hx, hb, ha⟩
      · rw [cover_none hlt h] at hz; cases hz
      · rw [cover_some hlt h] at hz
        obtain ⟨zs', hz', rfl⟩ := Option.map_eq_some_iff.1 hz
        have := ih x.b to zs' (by omega) hz'
        simp; omega
    · rw [cover_done hlt] at hz; cases hz; simp

theorem last_next (L : List It2) (t : Int) : ∀ (m : Nat) (u : Int), above L u ≤ m → nextSeg L t (last L t u) = none := by
  intro m
  induction m with
  | zero =>
    intro u hm
    cases h : nextSeg L t u with
    | none => rw [last_none h, h]
    | some x =>
      have hs := nextSeg_spec h
      have := above_lt hs.1 hs.2.2.2.2 rfl
      omega
  | succ m ih =>
    intro u hm
    cases h : nextSeg L t u with
    | none => rw [last_none h, h]
    | some x =>
      have hs := nextSeg_spec h
      have := above_lt hs.1 hs.2.2.2.2 rfl
      rw [last_some h]
      exact ih x.b (by omega)
theorem last_stop (L : List It2) (t z : Int) (hn : nextSeg L t z = none) : ∀ (m : Nat) (u : Int), above L u ≤ m → u ≤ z → last L t u ≤ z := by
  have hno : ∀ x ∈ L, x.kind = 1 → x.tl = t → x.a ≤ z → ¬ z < x.b := fun x hx h1 h2 h3 h4 => by
    unfold nextSeg at hn
    have := List.find?_eq_none.1 hn x (List.mem_filter.2 ⟨hx, by simp [segB, h1, h2]⟩)
    simp [nextB, h3, h4] at this
  intro m
  induction m with
  | zero =>
    intro u hm hu
    cases h : nextSeg L t u with
    | none => rw [last_none h]; exact hu
    | some x =>
      have hs := nextSeg_spec h
      have := above_lt hs.1 hs.2.2.2.2 rfl
      omega
  | succ m ih =>
    intro u hm hu
    cases h : nextSeg L t u with
    | none => rw [last_none h]; exact hu
    | some x =>
      have hs := nextSeg_spec h
      have := above_lt hs.1 hs.2.2.2.2 rfl
      rw [last_some h]
      have h4 := hno x hs.1 hs.2.1 hs.2.2.1 (by omega)
      exact ih x.b (by omega) (by omega)
/-- What covers from a commit on covers from any later one on. -/
theorem last_later (L : List It2) (t u v : Int) (h1 : u ≤ v) (h2 : v ≤ last L t u) : last L t u ≤ last L t v :=
  last_stop L t _ (last_next L t _ v (Nat.le_refl _)) _ u (Nat.le_refl _) (by have := (last_ge L t _ v (Nat.le_refl _)).1; omega)
end Re
end Go.Proofs.Ytinofjenoapeaaa
