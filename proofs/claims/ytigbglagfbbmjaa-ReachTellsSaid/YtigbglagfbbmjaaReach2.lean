/- What is covered, and up to where: plain laws of the functions of package reach. No condition. -/
import Derived.Test.YtigbglagfbbmjaaReach
namespace Go.Proofs.Ytigbglagfbbmjaa
open Go.RowKit Go.Shelf
namespace Reach

theorem nextSeg_cases (L : List Itm) (t fr : Int) : nextSeg L t fr = none ∨ ∃ x, nextSeg L t fr = some x ∧ x ∈ L ∧ fr < x.b ∧ above L x.b < above L fr := by
  cases h : nextSeg L t fr with
  | none => exact .inl rfl
  | some x => have := nextSeg_spec h; exact .inr ⟨x, rfl, this.1, this.2.2.2.2, above_lt this.1 this.2.2.2.2 rfl⟩

theorem last_ge (L : List Itm) (t : Int) : ∀ (m : Nat) (fr : Int), above L fr ≤ m → fr ≤ last L t fr ∧ (last L t fr = fr ∨ ∃ x ∈ L, last L t fr = x.b) := by
  intro m
  induction m with
  | zero =>
    intro fr hm
    rcases nextSeg_cases L t fr with h | ⟨x, h, hx, hb, ha⟩
    · rw [last_none h]; exact ⟨Int.le_refl _, .inl rfl⟩
    · omega
  | succ m ih =>
    intro fr hm
    rcases nextSeg_cases L t fr with h | ⟨x, h, hx, hb, ha⟩
    · rw [last_none h]; exact ⟨Int.le_refl _, .inl rfl⟩
    · rw [last_some h]
      obtain ⟨h1, h2⟩ := ih x.b (by omega)
      exact ⟨by omega, .inr (h2.elim (fun e => ⟨x, hx, e⟩) id)⟩

theorem cover_iff (L : List Itm) (t : Int) : ∀ (m : Nat) (fr to : Int), above L fr ≤ m → ((cover L t fr to).isSome = true ↔ to ≤ last L t fr) := by
  intro m
  induction m with
  | zero =>
    intro fr to hm
    rcases nextSeg_cases L t fr with h | ⟨x, h, hx, hb, ha⟩
    · rw [last_none h]
      by_cases hlt : fr < to
      · rw [cover_none hlt h]; simp; omega
      · rw [cover_done hlt]; simp; omega
    · omega
  | succ m ih =>
    intro fr to hm
    rcases nextSeg_cases L t fr with h | ⟨x, h, hx, hb, ha⟩
    · rw [last_none h]
      by_cases hlt : fr < to
      · rw [cover_none hlt h]; simp; omega
      · rw [cover_done hlt]; simp; omega
    · rw [last_some h]
      have hge := (last_ge L t m x.b (by omega)).1
      by_cases hlt : fr < to
      · rw [cover_some hlt h]
        have := ih x.b to (by omega)
        simpa using this
      · rw [cover_done hlt]; simp; omega

/-- What is covered further is covered up to any commit ahead, by the first ones of the same segments. -/
theorem cover_parts (L : List Itm) (t : Int) : ∀ (m : Nat) (fr mid to : Int) (zs : List Int), above L fr ≤ m → mid ≤ to → cover L t fr to = some zs → ∃ ys rest, cover L t fr mid = some ys ∧ zs = ys ++ rest := by
  intro m
  induction m with
  | zero =>
    intro fr mid to zs hm hle hz
    by_cases hlt : fr < mid
    · rcases nextSeg_cases L t fr with h | ⟨x, h, hx, hb, ha⟩
      · rw [cover_none (by omega) h] at hz; cases hz
      · omega
    · exact ⟨[], zs, cover_done hlt, rfl⟩
  | succ m ih =>
    intro fr mid to zs hm hle hz
    by_cases hlt : fr < mid
    · rcases nextSeg_cases L t fr with h | ⟨x, h, hx, hb, ha⟩
      · rw [cover_none (by omega) h] at hz; cases hz
      · rw [cover_some (by omega) h] at hz
        obtain ⟨zs', hz', rfl⟩ := Option.map_eq_some_iff.1 hz
        obtain ⟨ys, rest, hy, rfl⟩ := ih x.b mid to zs' (by omega) hle hz'
        exact ⟨x.id :: ys, rest, by rw [cover_some hlt h, hy]; rfl, rfl⟩
    · exact ⟨[], zs, cover_done hlt, rfl⟩

theorem cover_pos (L : List Itm) (t fr to : Int) (zs : List Int) (h : cover L t fr to = some zs) : (0 < zs.length ↔ fr < to) := by
  by_cases hlt : fr < to
  · cases hn : nextSeg L t fr with
    | none => rw [cover_none hlt hn] at h; cases h
    | some x =>
      rw [cover_some hlt hn] at h
      obtain ⟨zs', _, rfl⟩ := Option.map_eq_some_iff.1 h
      simp [hlt]
  · rw [cover_done hlt] at h; cases h; simp [hlt]

theorem cover_len (L : List Itm) (t : Int) : ∀ (m : Nat) (fr to : Int) (zs : List Int), above L fr ≤ m → cover L t fr to = some zs → zs.length ≤ above L fr := by
  intro m
  induction m with
  | zero =>
    intro fr to zs hm hz
    by_cases hlt : fr < to
    · rcases nextSeg_cases L t fr with h | ⟨x, h, hx, hb, ha⟩
      · rw [cover_none hlt h] at hz; cases hz
      · omega
    · rw [cover_done hlt] at hz; cases hz; simp
  | succ m ih =>
    intro fr to zs hm hz
    by_cases hlt : fr < to
    · rcases nextSeg_cases L t fr with h | ⟨x, h, hx, hb, ha⟩
      · rw [cover_none hlt h] at hz; cases hz
      · rw [cover_some hlt h] at hz
        obtain ⟨zs', hz', rfl⟩ := Option.map_eq_some_iff.1 hz
        have := ih x.b to zs' (by omega) hz'
        simp; omega
    · rw [cover_done hlt] at hz; cases hz; simp

end Reach
end Go.Proofs.Ytigbglagfbbmjaa
