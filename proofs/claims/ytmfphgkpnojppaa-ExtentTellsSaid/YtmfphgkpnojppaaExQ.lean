/- Plain laws of extents: runs grown sector by sector, sums, what is taken. No condition. -/
import Derived.Test.YtmfphgkpnojppaaExP
namespace Go.Proofs.Ytmfphgkpnojppaa
open Go.RowKit Go.Shelf
set_option linter.unusedSimpArgs false
set_option linter.unusedVariables false
namespace Ex
theorem has_cons {x : Ext} {xs : List Ext} {k : Int} : has (x :: xs) k ↔ (x.a ≤ k ∧ k < x.a + x.n) ∨ has xs k := by
  constructor
  · rintro ⟨z, hz, h1⟩
    rcases List.mem_cons.1 hz with rfl | hz
    · exact .inl h1
    · exact .inr ⟨z, hz, h1⟩
  · rintro (h1 | ⟨z, hz, h1⟩)
    · exact ⟨x, by simp, h1⟩
    · exact ⟨z, by simp [hz], h1⟩
theorem has_append {xs ys : List Ext} {k : Int} : has (xs ++ ys) k ↔ has xs k ∨ has ys k := by
  constructor
  · rintro ⟨z, hz, h⟩
    rcases List.mem_append.1 hz with hz | hz
    · exact .inl ⟨z, hz, h⟩
    · exact .inr ⟨z, hz, h⟩
  · rintro (⟨z, hz, h⟩ | ⟨z, hz, h⟩)
    · exact ⟨z, List.mem_append_left _ hz, h⟩
    · exact ⟨z, List.mem_append_right _ hz, h⟩
theorem has_nil {k : Int} : ¬ has [] k := fun ⟨_, h, _⟩ => by cases h
theorem has_perm {L d : List Ext} (h : L.Perm d) {k : Int} : has L k ↔ has d k := ⟨fun ⟨x, hx, q⟩ => ⟨x, h.mem_iff.1 hx, q⟩, fun ⟨x, hx, q⟩ => ⟨x, h.mem_iff.2 hx, q⟩⟩
theorem Nf.snoc : ∀ {F : List Ext} {e : Int} {y : Ext}, Nf F e → (∀ x ∈ F, x.a + x.n < y.a) → e < y.a → 1 ≤ y.n → Nf (F ++ [y]) e
  | [], e, y, _, _, h1, h2 => ⟨h1, h2, trivial⟩
  | x :: xs, e, y, h, hx, h1, h2 => ⟨h.1, h.2.1, Nf.snoc h.2.2 (fun z hz => hx z (by simp [hz])) (hx x (by simp)) h2⟩
theorem Nf.init : ∀ {F : List Ext} {e : Int} {y : Ext}, Nf (F ++ [y]) e → Nf F e ∧ (∀ x ∈ F, x.a + x.n < y.a) ∧ e < y.a ∧ 1 ≤ y.n
  | [], e, y, h => ⟨trivial, (fun x hx => by cases hx), h.1, h.2.1⟩
  | x :: xs, e, y, h => by
    obtain ⟨h1, h2, h3, h4⟩ := Nf.init h.2.2
    refine ⟨⟨h.1, h.2.1, h1⟩, fun z hz => ?_, by have := h.1; have := h.2.1; omega, h4⟩
    rcases List.mem_cons.1 hz with rfl | hz
    · exact h3
    · exact h2 z hz
/-- Runs of the sectors of from up to n that L does not hold. -/
structure ScI (L : List Ext) (fr n : Int) (out : List Ext) : Prop where
  nf : Nf out (fr - 1)
  has : ∀ k, has out k ↔ fr ≤ k ∧ k < n ∧ ¬ has L k
  hi : ∀ x ∈ out, x.a + x.n ≤ n
theorem ScI.nil (L : List Ext) (fr : Int) : ScI L fr fr [] := ⟨trivial, fun k => ⟨fun h => (has_nil h).elim, fun h => by omega⟩, fun x hx => by cases hx⟩
theorem ScI.skip {L : List Ext} {fr n : Int} {out : List Ext} (h : ScI L fr n out) (hn : Ex.has L n) : ScI L fr (n + 1) out :=
  ⟨h.nf, fun k => by
    rw [h.has k]
    constructor
    · rintro ⟨h1, h2, h3⟩; exact ⟨h1, by omega, h3⟩
    · rintro ⟨h1, h2, h3⟩
      refine ⟨h1, ?_, h3⟩
      by_cases e : k = n
      · subst e; exact absurd hn h3
      · omega, fun x hx => by have := h.hi x hx; omega⟩
theorem ScI.grow {L : List Ext} {fr n : Int} {out : List Ext} {y : Ext} (h : ScI L fr n (out ++ [y])) (hn : ¬ Ex.has L n) (hy : y.a + y.n = n) : ScI L fr (n + 1) (out ++ [⟨y.a, y.n + 1⟩]) := by
  obtain ⟨h1, h2, h3, h4⟩ := Nf.init h.nf
  refine ⟨Nf.snoc h1 h2 h3 (by dsimp only; omega), fun k => ?_, fun x hx => ?_⟩
  · have hk := h.has k
    rw [has_append, has_cons] at hk ⊢
    constructor
    · rintro (q | q | q)
      · obtain ⟨q1, q2, q3⟩ := hk.1 (.inl q); exact ⟨q1, by omega, q3⟩
      · dsimp only at q
        by_cases e : k = n
        · subst e; exact ⟨by omega, by omega, hn⟩
        · obtain ⟨q1, q2, q3⟩ := hk.1 (.inr (.inl ⟨q.1, by omega⟩)); exact ⟨q1, by omega, q3⟩
      · exact (has_nil q).elim
    · rintro ⟨q1, q2, q3⟩
      by_cases e : k = n
      · exact .inr (.inl ⟨by dsimp only; omega, by dsimp only; omega⟩)
      · rcases hk.2 ⟨q1, by omega, q3⟩ with q | q | q
        · exact .inl q
        · exact .inr (.inl ⟨q.1, by dsimp only; omega⟩)
        · exact (has_nil q).elim
  · rcases List.mem_append.1 hx with hx | hx
    · have := h.hi x (by simp [hx]); omega
    · rw [List.mem_singleton.1 hx]; dsimp only; omega
theorem ScI.push {L : List Ext} {fr n : Int} {out : List Ext} (h : ScI L fr n out) (hfn : fr ≤ n) (hn : ¬ Ex.has L n) (hy : ∀ x ∈ out, x.a + x.n ≠ n) : ScI L fr (n + 1) (out ++ [⟨n, 1⟩]) := by
  refine ⟨Nf.snoc h.nf (fun x hx => by have := h.hi x hx; have := hy x hx; dsimp only; omega) (by dsimp only; omega) (by dsimp only; omega), fun k => ?_, fun x hx => ?_⟩
  · have hk := h.has k
    rw [has_append, has_cons]
    constructor
    · rintro (q | q | q)
      · obtain ⟨q1, q2, q3⟩ := hk.1 q; exact ⟨q1, by omega, q3⟩
      · dsimp only at q
        obtain rfl : k = n := by omega
        exact ⟨hfn, by omega, hn⟩
      · exact (has_nil q).elim
    · rintro ⟨q1, q2, q3⟩
      by_cases e : k = n
      · exact .inr (.inl ⟨by dsimp only; omega, by dsimp only; omega⟩)
      · exact .inl (hk.2 ⟨q1, by omega, q3⟩)
  · rcases List.mem_append.1 hx with hx | hx
    · have := h.hi x hx; omega
    · rw [List.mem_singleton.1 hx]; dsimp only; omega
/-- Where the last run does not touch n, none does. -/
theorem ScI.last {L : List Ext} {fr n : Int} {out : List Ext} {y : Ext} (h : ScI L fr n (out ++ [y])) (hy : y.a + y.n ≠ n) : ∀ x ∈ out ++ [y], x.a + x.n ≠ n := fun x hx => by
  obtain ⟨_, h2, _, h4⟩ := Nf.init h.nf
  rcases List.mem_append.1 hx with hx | hx
  · have := h2 x hx
    have := h.hi y (by simp)
    omega
  · rw [List.mem_singleton.1 hx]; exact hy
theorem ScI.len {L : List Ext} {fr n : Int} {out : List Ext} (h : ScI L fr n out) (hfn : fr ≤ n) : (out.length : Int) ≤ n - fr := by
  have key : ∀ (F : List Ext) (e n : Int), Nf F e → (∀ x ∈ F, x.a + x.n ≤ n) → e < n → (F.length : Int) ≤ n - e - 1 := by
    intro F
    induction F with
    | nil => intro e n _ _ h; simp; omega
    | cons x xs ih =>
      intro e n h1 h2 h3
      have := h2 x (by simp)
      by_cases hx : xs = []
      · subst hx; simp; have := h1.1; have := h1.2.1; omega
      · have h4 : x.a + x.n < n := by
          obtain ⟨y, hy⟩ := List.exists_mem_of_ne_nil xs hx
          have h5 := Nf.lt (k := y.a) h1.2.2 ⟨y, hy, by omega, by
            have : ∀ (G : List Ext) (e : Int), Nf G e → ∀ z ∈ G, 1 ≤ z.n := by
              intro G
              induction G with
              | nil => intro e _ z hz; cases hz
              | cons w ws ihw =>
                intro e hw z hz
                rcases List.mem_cons.1 hz with rfl | hz
                · exact hw.2.1
                · exact ihw _ hw.2.2 z hz
            have := this xs _ h1.2.2 y hy; omega⟩
          have := h2 y (by simp [hy])
          have h6 : 1 ≤ y.n := by
            have : ∀ (G : List Ext) (e : Int), Nf G e → ∀ z ∈ G, 1 ≤ z.n := by
              intro G
              induction G with
              | nil => intro e _ z hz; cases hz
              | cons w ws ihw =>
                intro e hw z hz
                rcases List.mem_cons.1 hz with rfl | hz
                · exact hw.2.1
                · exact ihw _ hw.2.2 z hz
            exact this xs _ h1.2.2 y hy
          omega
        have := ih (x.a + x.n) n h1.2.2 (fun z hz => h2 z (by simp [hz])) h4
        have := h1.1; have := h1.2.1
        simp only [List.length_cons]; omega
  have := key out (fr - 1) n h.nf h.hi (by omega)
  omega
/-- Scanned sector by sector, and by the gaps of a rising list: the same runs. -/
theorem scan_gaps {L d out : List Ext} {fr to : Int} (h : ScI L fr to out) (hp : L.Perm d) (hr : Ris d 0) (h0 : 0 ≤ fr) : out = gaps to fr (d ++ [⟨to, 0⟩]) := by
  obtain ⟨g1, g2⟩ := gaps_ok to d 0 fr hr (fun _ _ => .inr trivial) h0
  exact Nf.uniq h.nf g1 (fun k => by rw [h.has k, g2 k, has_perm hp])
/-! ### sums -/
def tot : List Ext → Int
  | [] => 0
  | x :: xs => x.n + tot xs
theorem tot_append : ∀ (xs ys : List Ext), tot (xs ++ ys) = tot xs + tot ys
  | [], ys => by simp [tot]
  | x :: xs, ys => by rw [List.cons_append, tot, tot, tot_append xs ys]; omega
def btw (a b : Int) : List Ext → Int
  | [] => 0
  | x :: xs => max (min (x.a + x.n) b - max x.a a) 0 + btw a b xs
theorem btw_perm {a b : Int} {L d : List Ext} (h : L.Perm d) : btw a b L = btw a b d := by
  induction h with
  | nil => rfl
  | cons x _ ih => rw [btw, btw, ih]
  | swap x y l => simp only [btw]; omega
  | trans _ _ h1 h2 => rw [h1, h2]
theorem btw_from (a a' b : Int) : ∀ (d : List Ext) (e : Int), Ris d e → a ≤ a' → a' ≤ e ∨ a' = a → btw a b d = btw a' b d
  | [], _, _, _, _ => rfl
  | x :: xs, e, h, h1, h2 => by
    rw [btw, btw, btw_from a a' b xs (x.a + x.n) h.2.2.2 h1 (by have := h.1; have := h.2.1; omega)]
    have := h.1
    rcases h2 with h2 | rfl
    · rw [show max x.a a = max x.a a' by omega]
    · rfl
/-- What is free, and what lies between, are the whole. -/
theorem gaps_tot (to : Int) : ∀ (d : List Ext) (e at_ : Int), Ris d e → e ≤ at_ → tot (gaps to at_ (d ++ [⟨to, 0⟩])) + btw at_ to d = max (to - at_) 0
  | [], e, at_, _, _ => by
    simp only [List.nil_append, gaps, List.append_nil, Int.min_self, btw]
    split <;> simp [tot] <;> omega
  | x :: xs, e, at_, h, he => by
    obtain ⟨h1, h2, h3, h4⟩ := h
    have ih := gaps_tot to xs (x.a + x.n) (max at_ (x.a + x.n)) h4 (by omega)
    rw [List.cons_append, gaps, tot_append, btw]
    have hb : btw at_ to xs = btw (max at_ (x.a + x.n)) to xs ∨ True := .inr trivial
    by_cases hx : at_ ≤ x.a + x.n
    · rw [show max at_ (x.a + x.n) = x.a + x.n by omega] at ih ⊢
      rw [btw_from at_ (x.a + x.n) to xs (x.a + x.n) h4 (by omega) (.inl (Int.le_refl _))]
      split <;> simp only [tot] <;> omega
    · rw [show max at_ (x.a + x.n) = at_ by omega] at ih ⊢
      split <;> simp only [tot] <;> omega
/-! ### what is taken -/
def takeL : List Ext → Int → List Ext
  | [], _ => []
  | x :: xs, n => if n = 0 then [] else ⟨x.a, min x.n n⟩ :: takeL xs (n - min x.n n)
def takeR : List Ext → Int → List Ext
  | [], _ => []
  | x :: xs, n => if x.n ≤ n then x :: takeR xs (n - x.n) else (if 0 < n then [⟨x.a, n⟩] else []) ++ takeR xs 0
theorem takeR_zero : ∀ (xs : List Ext), (∀ x ∈ xs, 1 ≤ x.n) → takeR xs 0 = []
  | [], _ => rfl
  | x :: xs, h => by
    have := h x (by simp)
    rw [takeR, if_neg (by omega), if_neg (by omega), takeR_zero xs (fun y hy => h y (by simp [hy]))]; rfl
theorem takeL_zero (xs : List Ext) : takeL xs 0 = [] := by cases xs <;> simp [takeL]
theorem take_same : ∀ (xs : List Ext) (n : Int), (∀ x ∈ xs, 1 ≤ x.n) → 0 ≤ n → takeL xs n = takeR xs n
  | [], _, _, _ => rfl
  | x :: xs, n, h, hn => by
    have h1 := h x (by simp)
    rw [takeL, takeR]
    by_cases h0 : n = 0
    · subst h0
      rw [if_pos rfl, if_neg (by omega), if_neg (by omega), takeR_zero xs (fun y hy => h y (by simp [hy]))]; rfl
    · rw [if_neg h0]
      by_cases h2 : x.n ≤ n
      · rw [if_pos h2, show min x.n n = x.n by omega, take_same xs _ (fun y hy => h y (by simp [hy])) (by omega)]
      · rw [if_neg h2, if_pos (by omega), show min x.n n = n by omega, show n - n = 0 by omega, takeL_zero, takeR_zero xs (fun y hy => h y (by simp [hy]))]; rfl
theorem tot_nn : ∀ (xs : List Ext), (∀ x ∈ xs, 1 ≤ x.n) → 0 ≤ tot xs
  | [], _ => Int.le_refl _
  | x :: xs, h => by have := tot_nn xs (fun y hy => h y (by simp [hy])); have := h x (by simp); rw [tot]; omega
theorem tot_take : ∀ (xs : List Ext) (n : Int), (∀ x ∈ xs, 1 ≤ x.n) → 0 ≤ n → tot (takeL xs n) = min n (tot xs)
  | [], n, _, hn => by simp [takeL, tot]; omega
  | x :: xs, n, h, hn => by
    have h1 := h x (by simp)
    have hnn := tot_nn xs (fun y hy => h y (by simp [hy]))
    rw [takeL]
    by_cases h0 : n = 0
    · subst h0; rw [if_pos rfl, tot, tot]; omega
    · rw [if_neg h0, tot, tot, tot_take xs _ (fun y hy => h y (by simp [hy])) (by omega)]
      dsimp only; omega
/-- What is taken lies in what is there. -/
theorem take_in : ∀ (xs : List Ext) (n : Int), (∀ x ∈ xs, 1 ≤ x.n) → 0 ≤ n → ∀ y ∈ takeL xs n, ∃ x ∈ xs, y.a = x.a ∧ 1 ≤ y.n ∧ y.n ≤ x.n
  | [], _, _, _, y, hy => by cases hy
  | x :: xs, n, h, hn, y, hy => by
    have h1 := h x (by simp)
    rw [takeL] at hy
    by_cases h0 : n = 0
    · rw [if_pos h0] at hy; cases hy
    · rw [if_neg h0] at hy
      rcases List.mem_cons.1 hy with rfl | hy
      · exact ⟨x, by simp, rfl, by dsimp only; omega, by dsimp only; omega⟩
      · obtain ⟨z, hz, q⟩ := take_in xs _ (fun y hy => h y (by simp [hy])) (by omega) y hy
        exact ⟨z, by simp [hz], q⟩
theorem take_off : ∀ (xs : List Ext) (n : Int), (∀ x ∈ xs, 1 ≤ x.n) → 0 ≤ n → xs.Pairwise (fun x y => ¬ over x y) → (takeL xs n).Pairwise (fun x y => ¬ over x y)
  | [], _, _, _, _ => List.Pairwise.nil
  | x :: xs, n, h, hn, hp => by
    obtain ⟨p1, p2⟩ := List.pairwise_cons.1 hp
    have h1 := h x (by simp)
    rw [takeL]
    by_cases h0 : n = 0
    · rw [if_pos h0]; exact List.Pairwise.nil
    · rw [if_neg h0]
      refine List.pairwise_cons.2 ⟨fun y hy ho => ?_, take_off xs _ (fun y hy => h y (by simp [hy])) (by omega) p2⟩
      obtain ⟨z, hz, q1, q2, q3⟩ := take_in xs _ (fun y hy => h y (by simp [hy])) (by omega) y hy
      refine p1 z hz ⟨?_, ?_⟩
      · have := ho.1; dsimp only at this; omega
      · have := ho.2; dsimp only at this; omega
theorem nf_apart : ∀ (F : List Ext) (e : Int), Nf F e → -1 ≤ e → (∀ x ∈ F, x.a + x.n ≤ 1099511627776) → Apart F
  | [], _, _, _, _ => ⟨(fun x hx => by cases hx), List.Pairwise.nil⟩
  | x :: xs, e, h, he, hb => by
    have hx := hb x (by simp)
    have h1 := h.1; have h2 := h.2.1
    have ih := nf_apart xs _ h.2.2 (by omega) (fun y hy => hb y (by simp [hy]))
    refine ⟨fun y hy => ?_, List.pairwise_cons.2 ⟨fun y hy ho => ?_, ih.off⟩⟩
    · rcases List.mem_cons.1 hy with rfl | hy
      · exact ⟨by omega, h2, hx⟩
      · exact ih.ok y hy
    · have hy1 := (ih.ok y hy).n1
      have := Nf.lt (k := y.a) h.2.2 ⟨y, hy, by omega, by omega⟩
      have := ho.2; omega
theorem nf_n1 : ∀ (F : List Ext) (e : Int), Nf F e → ∀ x ∈ F, 1 ≤ x.n
  | [], _, _, x, hx => by cases hx
  | y :: ys, e, h, x, hx => by
    rcases List.mem_cons.1 hx with rfl | hx
    · exact h.2.1
    · exact nf_n1 ys _ h.2.2 x hx
/-- A run's bounds, from what it holds. -/
theorem run_in {F : List Ext} {e fr to : Int} (h : Nf F e) (hh : ∀ k, has F k → fr ≤ k ∧ k < to) : ∀ x ∈ F, fr ≤ x.a ∧ x.a + x.n ≤ to := fun x hx => by
  have hn := nf_n1 F e h x hx
  have h1 := hh x.a ⟨x, hx, by omega, by omega⟩
  have h2 := hh (x.a + x.n - 1) ⟨x, hx, by omega, by omega⟩
  omega
/-- What is taken of what is free beside L is apart from L. -/
theorem apart_taken {L F : List Ext} {e fr to n : Int} (hL : Apart L) (hF : Nf F e) (he : -1 ≤ e) (hto : to ≤ 1099511627776) (hh : ∀ k, has F k ↔ fr ≤ k ∧ k < to ∧ ¬ has L k) (hn : 0 ≤ n) : Apart (L ++ takeL F n) := by
  have hin := run_in hF (fun k hk => ⟨((hh k).1 hk).1, ((hh k).1 hk).2.1⟩)
  have hA := nf_apart F e hF he (fun x hx => by have := hin x hx; omega)
  have h1 := nf_n1 F e hF
  refine ⟨fun x hx => ?_, List.pairwise_append.2 ⟨hL.off, take_off F n h1 hn hA.off, fun x hx y hy ho => ?_⟩⟩
  · rcases List.mem_append.1 hx with hx | hx
    · exact hL.ok x hx
    · obtain ⟨z, hz, q1, q2, q3⟩ := take_in F n h1 hn x hx
      have := (hA.ok z hz).a0
      have := (hA.ok z hz).hi
      exact ⟨by omega, q2, by omega⟩
  · obtain ⟨z, hz, q1, q2, q3⟩ := take_in F n h1 hn y hy
    have hx1 := (hL.ok x hx).n1
    have ho1 := ho.1
    have ho2 := ho.2
    have h5 : has F (max x.a y.a) := ⟨z, hz, by omega, by omega⟩
    exact ((hh _).1 h5).2.2 ⟨x, hx, by omega, by omega⟩
end Ex
end Go.Proofs.Ytmfphgkpnojppaa
