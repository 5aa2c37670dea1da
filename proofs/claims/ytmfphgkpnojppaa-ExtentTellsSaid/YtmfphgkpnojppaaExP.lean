/- Plain laws of extents: what lies apart, what is free beside them. No condition. -/
import Derived.Test.YtmfphgkpnojppaaT0
namespace Go.Proofs.Ytmfphgkpnojppaa
open Go.RowKit Go.Shelf
set_option linter.unusedSimpArgs false
set_option linter.unusedVariables false
namespace Ex
structure Ext where
  a : Int
  n : Int
/-- An extent as a value. -/
abbrev Ext.v (x : Ext) : Value := .agg #[.int .i64 x.a, .int .i64 x.n]
structure Ext.ok (x : Ext) : Prop where
  a0 : 0 ≤ x.a
  n1 : 1 ≤ x.n
  hi : x.a + x.n ≤ 1099511627776
theorem ok_iff (x : Ext) : x.ok ↔ ¬ (x.a < 0 ∨ x.n < 1 ∨ x.n > 1099511627776 ∨ x.a > 1099511627776 - x.n) :=
  ⟨fun h => by have := h.a0; have := h.n1; have := h.hi; omega, fun h => ⟨by omega, by omega, by omega⟩⟩
def over (x y : Ext) : Prop := x.a < y.a + y.n ∧ y.a < x.a + x.n
theorem over_symm {x y : Ext} (h : over x y) : over y x := ⟨h.2, h.1⟩
structure Apart (L : List Ext) : Prop where
  ok : ∀ x ∈ L, x.ok
  off : L.Pairwise fun x y => ¬ over x y
theorem Apart.perm {L d : List Ext} (h : L.Perm d) (hA : Apart L) : Apart d :=
  ⟨fun x hx => hA.ok x (h.mem_iff.2 hx), (h.pairwise_iff (fun {x y} hn hh => hn (over_symm hh))).1 hA.off⟩
theorem apart_perm {L d : List Ext} (h : L.Perm d) : Apart L ↔ Apart d := ⟨Apart.perm h, Apart.perm h.symm⟩
/-- The loop of Apart over a rising list. -/
def apS : List Ext → Int → Bool
  | [], _ => true
  | x :: xs, e => if x.a < e ∨ x.n < 1 ∨ x.n > 1099511627776 ∨ x.a > 1099511627776 - x.n then false else apS xs (x.a + x.n)
/-- Rising: each ends ahead of the next. -/
def Ris : List Ext → Int → Prop
  | [], _ => True
  | x :: xs, e => e ≤ x.a ∧ 1 ≤ x.n ∧ x.a + x.n ≤ 1099511627776 ∧ Ris xs (x.a + x.n)
theorem apS_ris : ∀ (d : List Ext) (e : Int), 0 ≤ e → (apS d e = true ↔ Ris d e)
  | [], e, _ => by simp [apS, Ris]
  | x :: xs, e, he => by
    unfold apS Ris
    by_cases h : x.a < e ∨ x.n < 1 ∨ x.n > 1099511627776 ∨ x.a > 1099511627776 - x.n
    · rw [if_pos h]
      refine ⟨fun h2 => (by cases h2), fun h2 => ?_⟩
      have := h2.1; have := h2.2.1; have := h2.2.2.1; omega
    · rw [if_neg h, apS_ris xs _ (by omega)]
      exact ⟨fun h2 => ⟨by omega, by omega, by omega, h2⟩, fun h2 => h2.2.2.2⟩
theorem ris_apart : ∀ (d : List Ext) (e : Int), 0 ≤ e → d.Pairwise (fun x y => x.a ≤ y.a) → ((Ris d e) ↔ Apart d ∧ ∀ x ∈ d, e ≤ x.a)
  | [], e, _, _ => ⟨fun _ => ⟨⟨fun x hx => (by cases hx), List.Pairwise.nil⟩, fun x hx => (by cases hx)⟩, fun _ => trivial⟩
  | x :: xs, e, he, hs => by
    obtain ⟨hs1, hs2⟩ := List.pairwise_cons.1 hs
    unfold Ris
    constructor
    · rintro ⟨h1, h2, h3, h4⟩
      obtain ⟨h5, h6⟩ := (ris_apart xs (x.a + x.n) (by omega) hs2).1 h4
      refine ⟨⟨fun y hy => ?_, List.pairwise_cons.2 ⟨fun y hy ho => ?_, h5.off⟩⟩, fun y hy => ?_⟩
      · rcases List.mem_cons.1 hy with rfl | hy
        · exact ⟨by omega, h2, h3⟩
        · exact h5.ok y hy
      · have := h6 y hy; have := ho.2; omega
      · rcases List.mem_cons.1 hy with rfl | hy
        · exact h1
        · have := h6 y hy; omega
    · rintro ⟨h1, h2⟩
      have hx := h1.ok x (by simp)
      obtain ⟨h3, h4⟩ := List.pairwise_cons.1 h1.off
      refine ⟨h2 x (by simp), hx.n1, hx.hi, (ris_apart xs (x.a + x.n) (by have := hx.a0; have := hx.n1; omega) hs2).2 ⟨⟨fun y hy => h1.ok y (by simp [hy]), h4⟩, fun y hy => ?_⟩⟩
      have hy2 := h1.ok y (by simp [hy])
      have h5 := hs1 y hy
      have h6 := h3 y hy
      by_cases h7 : x.a + x.n ≤ y.a
      · exact h7
      · exact absurd ⟨by have := hy2.n1; omega, by omega⟩ h6
theorem ris_iff {L d : List Ext} (hp : L.Perm d) (hs : d.Pairwise (fun x y => x.a ≤ y.a)) : Ris d 0 ↔ Apart L := by
  rw [ris_apart d 0 (Int.le_refl _) hs, apart_perm hp]
  exact ⟨fun h => h.1, fun h => ⟨h, fun x hx => (h.ok x hx).a0⟩⟩
/-! ### what is free -/
def gaps (to : Int) : Int → List Ext → List Ext
  | _, [] => []
  | at_, x :: xs => (if min x.a to > at_ then [⟨at_, min x.a to - at_⟩] else []) ++ gaps to (max at_ (x.a + x.n)) xs
def has (L : List Ext) (k : Int) : Prop := ∃ x ∈ L, x.a ≤ k ∧ k < x.a + x.n
/-- A list of runs: each at least one, none touching the one ahead of it; e: where the one ahead of the first ends. -/
def Nf : List Ext → Int → Prop
  | [], _ => True
  | x :: xs, e => e < x.a ∧ 1 ≤ x.n ∧ Nf xs (x.a + x.n)
theorem Nf.mono : ∀ {F : List Ext} {e e' : Int}, Nf F e → e' ≤ e → Nf F e'
  | [], _, _, _, _ => trivial
  | x :: xs, _, _, h, he => ⟨by have := h.1; omega, h.2.1, h.2.2⟩
theorem Nf.lt : ∀ {F : List Ext} {e k : Int}, Nf F e → has F k → e < k
  | [], _, _, _, ⟨x, hx, _⟩ => by cases hx
  | x :: xs, e, k, h, ⟨y, hy, h1, h2⟩ => by
    rcases List.mem_cons.1 hy with rfl | hy
    · have := h.1; omega
    · have := Nf.lt (k := k) h.2.2 ⟨y, hy, h1, h2⟩
      have := h.1; have := h.2.1; omega
/-- Lists of runs that hold the same sectors are the same. -/
theorem Nf.uniq : ∀ {F G : List Ext} {e : Int}, Nf F e → Nf G e → (∀ k, has F k ↔ has G k) → F = G
  | [], [], _, _, _, _ => rfl
  | [], y :: ys, e, _, hg, h => by
    obtain ⟨x, hx, _⟩ := (h y.a).2 ⟨y, by simp, by omega, by have := hg.2.1; omega⟩
    cases hx
  | x :: xs, [], e, hf, _, h => by
    obtain ⟨y, hy, _⟩ := (h x.a).1 ⟨x, by simp, by omega, by have := hf.2.1; omega⟩
    cases hy
  | x :: xs, y :: ys, e, hf, hg, h => by
    have hx1 := hf.2.1
    have hy1 := hg.2.1
    have inx : ∀ k, has (x :: xs) k ↔ (x.a ≤ k ∧ k < x.a + x.n) ∨ has xs k := fun k => by
      constructor
      · rintro ⟨z, hz, h1⟩
        rcases List.mem_cons.1 hz with rfl | hz
        · exact .inl h1
        · exact .inr ⟨z, hz, h1⟩
      · rintro (h1 | ⟨z, hz, h1⟩)
        · exact ⟨x, by simp, h1⟩
        · exact ⟨z, by simp [hz], h1⟩
    have iny : ∀ k, has (y :: ys) k ↔ (y.a ≤ k ∧ k < y.a + y.n) ∨ has ys k := fun k => by
      constructor
      · rintro ⟨z, hz, h1⟩
        rcases List.mem_cons.1 hz with rfl | hz
        · exact .inl h1
        · exact .inr ⟨z, hz, h1⟩
      · rintro (h1 | ⟨z, hz, h1⟩)
        · exact ⟨y, by simp, h1⟩
        · exact ⟨z, by simp [hz], h1⟩
    have ltx : ∀ k, has xs k → x.a + x.n < k := fun k hk => Nf.lt hf.2.2 hk
    have lty : ∀ k, has ys k → y.a + y.n < k := fun k hk => Nf.lt hg.2.2 hk
    have ha : x.a = y.a := by
      have h1 := (h x.a).1 ((inx _).2 (.inl ⟨by omega, by omega⟩))
      have h2 := (h y.a).2 ((iny _).2 (.inl ⟨by omega, by omega⟩))
      rcases (iny _).1 h1 with h1 | h1
      · rcases (inx _).1 h2 with h2 | h2
        · omega
        · have := ltx _ h2; omega
      · have h3 := lty _ h1
        rcases (inx _).1 h2 with h2 | h2
        · omega
        · have := ltx _ h2; omega
    have hn : x.n = y.n := by
      rcases Int.lt_trichotomy x.n y.n with hl | hl | hl
      · have h1 := (h (x.a + x.n)).2 ((iny _).2 (.inl ⟨by omega, by omega⟩))
        rcases (inx _).1 h1 with h1 | h1
        · omega
        · have := ltx _ h1; omega
      · exact hl
      · have h1 := (h (y.a + y.n)).1 ((inx _).2 (.inl ⟨by omega, by omega⟩))
        rcases (iny _).1 h1 with h1 | h1
        · omega
        · have := lty _ h1; omega
    have hxy : x = y := by cases x; cases y; simp at ha hn; rw [ha, hn]
    subst hxy
    rw [Nf.uniq hf.2.2 hg.2.2 (fun k => ?_)]
    constructor
    · intro hk
      rcases (iny k).1 ((h k).1 ((inx k).2 (.inr hk))) with h1 | h1
      · have := ltx k hk; omega
      · exact h1
    · intro hk
      rcases (inx k).1 ((h k).2 ((iny k).2 (.inr hk))) with h1 | h1
      · have := lty k hk; omega
      · exact h1
theorem gaps_done : ∀ (d : List Ext) (to at_ : Int), to ≤ at_ → gaps to at_ d = []
  | [], _, _, _ => rfl
  | x :: xs, to, at_, h => by
    unfold gaps
    rw [if_neg (by omega), gaps_done xs to _ (by omega)]; rfl
/-- The gaps of a rising list, closed by its end, are runs, and hold what the list does not. -/
theorem gaps_ok (to : Int) : ∀ (d : List Ext) (e at_ : Int), Ris d e → (∀ x ∈ d, at_ ≤ x.a + x.n ∨ True) → e ≤ at_ →
    Nf (gaps to at_ (d ++ [⟨to, 0⟩])) (at_ - 1) ∧ ∀ k, has (gaps to at_ (d ++ [⟨to, 0⟩])) k ↔ at_ ≤ k ∧ k < to ∧ ¬ has d k
  | [], e, at_, _, _, _ => by
    simp only [List.nil_append, gaps, List.append_nil, Int.min_self]
    by_cases h : to > at_
    · rw [if_pos h]
      refine ⟨⟨by dsimp only; omega, by dsimp only; omega, trivial⟩, fun k => ?_⟩
      constructor
      · rintro ⟨x, hx, h1⟩
        rw [List.mem_singleton.1 hx] at h1
        dsimp only at h1
        exact ⟨by omega, by omega, fun ⟨y, hy, _⟩ => by cases hy⟩
      · rintro ⟨h1, h2, _⟩
        exact ⟨_, List.mem_singleton.2 rfl, by dsimp only; omega, by dsimp only; omega⟩
    · rw [if_neg h]
      refine ⟨trivial, fun k => ⟨fun ⟨x, hx, _⟩ => (by cases hx), fun h1 => by omega⟩⟩
  | x :: xs, e, at_, hr, _, he => by
    obtain ⟨h1, h2, h3, h4⟩ := hr
    obtain ⟨i1, i2⟩ := gaps_ok to xs (x.a + x.n) (max at_ (x.a + x.n)) h4 (fun _ _ => .inr trivial) (by omega)
    have inx : ∀ k, has (x :: xs) k ↔ (x.a ≤ k ∧ k < x.a + x.n) ∨ has xs k := fun k => by
      constructor
      · rintro ⟨z, hz, q1⟩
        rcases List.mem_cons.1 hz with rfl | hz
        · exact .inl q1
        · exact .inr ⟨z, hz, q1⟩
      · rintro (q1 | ⟨z, hz, q1⟩)
        · exact ⟨x, by simp, q1⟩
        · exact ⟨z, by simp [hz], q1⟩
    have later : ∀ k, has xs k → x.a + x.n ≤ k := by
      have : ∀ (ys : List Ext) (e : Int), Ris ys e → ∀ k, has ys k → e ≤ k := by
        intro ys
        induction ys with
        | nil => rintro e _ k ⟨z, hz, _⟩; cases hz
        | cons y ys ih =>
          rintro e ⟨g1, g2, g3, g4⟩ k ⟨z, hz, h5, h6⟩
          rcases List.mem_cons.1 hz with rfl | hz
          · omega
          · have := ih _ g4 k ⟨z, hz, h5, h6⟩; omega
      exact this xs _ h4
    rw [List.cons_append, gaps]
    by_cases h : min x.a to > at_
    · rw [if_pos h]
      refine ⟨⟨by dsimp only; omega, by dsimp only; omega, i1.mono (by dsimp only; omega)⟩, fun k => ?_⟩
      constructor
      · rintro ⟨z, hz, h5, h6⟩
        rcases List.mem_cons.1 (show z ∈ _ :: _ from hz) with rfl | hz
        · dsimp only at h5 h6
          refine ⟨by omega, by omega, fun hh => ?_⟩
          rcases (inx k).1 hh with hh | hh
          · omega
          · have := later k hh; omega
        · obtain ⟨g1, g2, g3⟩ := (i2 k).1 ⟨z, hz, h5, h6⟩
          refine ⟨by omega, g2, fun hh => ?_⟩
          rcases (inx k).1 hh with hh | hh
          · omega
          · exact g3 hh
      · rintro ⟨g1, g2, g3⟩
        by_cases g4 : k < x.a
        · exact ⟨⟨at_, min x.a to - at_⟩, List.mem_cons_self, by dsimp only; omega, by dsimp only; omega⟩
        · have g5 : x.a + x.n ≤ k := by
            by_cases hh : x.a + x.n ≤ k
            · exact hh
            · exact absurd ((inx k).2 (.inl ⟨by omega, by omega⟩)) g3
          obtain ⟨z, hz, h5⟩ := (i2 k).2 ⟨by omega, g2, fun hh => g3 ((inx k).2 (.inr hh))⟩
          exact ⟨z, List.mem_cons_of_mem _ hz, h5⟩
    · rw [if_neg h, List.nil_append]
      refine ⟨i1.mono (by omega), fun k => ?_⟩
      rw [i2 k, inx k]
      constructor
      · rintro ⟨g1, g2, g3⟩
        refine ⟨by omega, g2, fun hh => ?_⟩
        rcases hh with hh | hh
        · omega
        · exact g3 hh
      · rintro ⟨g1, g2, g3⟩
        refine ⟨?_, g2, fun hh => g3 (.inr hh)⟩
        by_cases g4 : x.a + x.n ≤ k
        · omega
        · have : ¬ (x.a ≤ k ∧ k < x.a + x.n) := fun hh => g3 (.inl hh)
          omega
end Ex
end Go.Proofs.Ytmfphgkpnojppaa
