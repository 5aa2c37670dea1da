/- Plain laws of package lines: the known timelines as a rising list, and a lineage's parts. No condition. -/
import Derived.Test.YtigbglagfbbmjaaLi3
import Derived.Test.YtigbglagfbbmjaaScP
namespace Go.Proofs.Ytigbglagfbbmjaa
open Go.RowKit Go.Shelf
set_option linter.unusedSimpArgs false
set_option linter.unusedVariables false
namespace Li
def isKn (L : List It2) (x : It2) : Bool := decide (x.kind = 4) && knownL L x.tl
def rawL (L : List It2) : List Int := 1 :: (L.filter (isKn L)).map (·.tl)
def allL (L : List It2) : List Int := Sc.upr (rawL L)
theorem known_pos {L : List It2} {t : Int} (h : knownL L t = true) : 1 ≤ t := by
  by_cases h1 : 1 < t
  · omega
  · rw [knownL_le h1] at h; have := of_decide_eq_true h; omega
theorem known_one (L : List It2) : knownL L 1 = true := by rw [knownL_le (by omega)]; rfl
theorem mem_all {L : List It2} {t : Int} : t ∈ allL L ↔ t = 1 ∨ ∃ x ∈ L, isKn L x = true ∧ x.tl = t := by
  unfold allL
  rw [Sc.mem_upr]
  unfold rawL
  rw [List.mem_cons, List.mem_map]
  refine ⟨fun h => h.imp id (fun ⟨x, hx, e⟩ => ⟨x, (List.mem_filter.1 hx).1, (List.mem_filter.1 hx).2, e⟩), fun h => h.imp id (fun ⟨x, h1, h2, e⟩ => ⟨x, List.mem_filter.2 ⟨h1, h2⟩, e⟩)⟩
theorem isKn_known {L : List It2} {x : It2} (h : isKn L x = true) : knownL L x.tl = true := by
  unfold isKn at h; simp at h; exact h.2
theorem isKn_mk {L : List It2} {x : It2} (h : x.kind = 4) (h2 : knownL L x.tl = true) : isKn L x = true := by unfold isKn; simp [h, h2]
theorem all_known {L : List It2} {t : Int} (h : t ∈ allL L) : knownL L t = true := by
  rcases mem_all.1 h with rfl | ⟨x, _, hk, rfl⟩
  · exact known_one L
  · exact isKn_known hk
theorem all_lt (L : List It2) : (allL L).Pairwise (· < ·) := Sc.upr_lt _
theorem raw_len (L : List It2) : (rawL L).length ≤ L.length + 1 := by
  unfold rawL
  have := List.length_filter_le (isKn L) L
  simp only [List.length_cons, List.length_map]; omega
theorem all_len (L : List It2) : (allL L).length ≤ L.length + 1 := Nat.le_trans (Sc.upr_len _) (raw_len L)
theorem all_head (L : List It2) : ∃ r, allL L = 1 :: r := by
  have h1 : (1 : Int) ∈ allL L := mem_all.2 (.inl rfl)
  have hlt := all_lt L
  cases e : allL L with
  | nil => rw [e] at h1; cases h1
  | cons a r =>
    rw [e] at h1 hlt
    have ha : 1 ≤ a := known_pos (all_known (L := L) (by rw [e]; simp))
    rcases List.mem_cons.1 h1 with h1 | h1
    · exact ⟨r, by rw [h1]⟩
    · have := (List.pairwise_cons.1 hlt).1 1 h1; omega
/-- b is the least known timeline above u of these items, 0: there is none. -/
def BestI (L : List It2) (u : Int) (pre : List It2) (b : Int) : Prop :=
  (b = 0 ∧ ∀ x ∈ pre, isKn L x = true → x.tl ≤ u) ∨ (∃ x ∈ pre, isKn L x = true ∧ x.tl = b ∧ u < b ∧ 1 ≤ b ∧ ∀ y ∈ pre, isKn L y = true → u < y.tl → b ≤ y.tl)
theorem BestI.nil (L : List It2) (u : Int) : BestI L u [] 0 := .inl ⟨rfl, fun x hx => by cases hx⟩
theorem BestI.take {L : List It2} {u : Int} {pre : List It2} {b : Int} (h : BestI L u pre b) {x : It2} (hk : isKn L x = true) (hu : u < x.tl) (hb : b = 0 ∨ x.tl < b) : BestI L u (pre ++ [x]) x.tl := by
  refine .inr ⟨x, by simp, hk, rfl, hu, known_pos (isKn_known hk), fun y hy hky huy => ?_⟩
  rcases List.mem_append.1 hy with hy | hy
  · rcases h with ⟨rfl, h2⟩ | ⟨x2, _, _, e, _, _, h3⟩
    · have := h2 y hy hky; omega
    · have := h3 y hy hky huy
      rcases hb with hb | hb
      · have := known_pos (isKn_known hk); omega
      · omega
  · rw [List.mem_singleton.1 hy]; exact Int.le_refl _
theorem BestI.skip {L : List It2} {u : Int} {pre : List It2} {b : Int} (h : BestI L u pre b) {x : It2} (hn : isKn L x = true → u < x.tl → b ≠ 0 ∧ b ≤ x.tl) : BestI L u (pre ++ [x]) b := by
  rcases h with ⟨rfl, h2⟩ | ⟨x2, hx2, h1, h2, h3, h4, h5⟩
  · refine .inl ⟨rfl, fun y hy hk => ?_⟩
    rcases List.mem_append.1 hy with hy | hy
    · exact h2 y hy hk
    · rw [List.mem_singleton.1 hy] at hk ⊢
      by_cases hu : u < x.tl
      · exact absurd rfl (hn hk hu).1
      · omega
  · refine .inr ⟨x2, by simp [hx2], h1, h2, h3, h4, fun y hy hk hu => ?_⟩
    rcases List.mem_append.1 hy with hy | hy
    · exact h5 y hy hk hu
    · rw [List.mem_singleton.1 hy] at hk hu ⊢
      exact (hn hk hu).2
theorem best_end {L : List It2} {pre post : List Int} {u b : Int} (h : BestI L u L b) (e : allL L = pre ++ u :: post) : (b = 0 ∧ post = []) ∨ (b ≠ 0 ∧ ∃ p, post = b :: p) := by
  have hlt := all_lt L
  rw [e] at hlt
  obtain ⟨h1, h2, h3⟩ := List.pairwise_append.1 hlt
  obtain ⟨h4, h5⟩ := List.pairwise_cons.1 h2
  have hu1 : 1 ≤ u := known_pos (all_known (L := L) (by rw [e]; simp))
  have hpost : ∀ y ∈ post, ∃ x ∈ L, isKn L x = true ∧ x.tl = y := fun y hy => by
    have hy2 : y ∈ allL L := by rw [e]; simp [hy]
    rcases mem_all.1 hy2 with rfl | h
    · have := h4 _ hy; omega
    · exact h
  rcases h with ⟨rfl, h⟩ | ⟨x, hx, hk, rfl, hub, hb1, h⟩
  · refine .inl ⟨rfl, ?_⟩
    cases post with
    | nil => rfl
    | cons y p =>
      obtain ⟨x, hx, hk, rfl⟩ := hpost y (by simp)
      have := h x hx hk
      have := h4 _ (List.mem_cons_self (a := x.tl) (l := p))
      omega
  · refine .inr ⟨by omega, ?_⟩
    have hin : x.tl ∈ allL L := mem_all.2 (.inr ⟨x, hx, hk, rfl⟩)
    rw [e] at hin
    have hp : x.tl ∈ post := by
      rcases List.mem_append.1 hin with hin | hin
      · have := h3 _ hin u (by simp); omega
      · rcases List.mem_cons.1 hin with hin | hin
        · omega
        · exact hin
    cases post with
    | nil => cases hp
    | cons y p =>
      refine ⟨p, ?_⟩
      obtain ⟨x2, hx2, hk2, rfl⟩ := hpost y (by simp)
      have h6 := h x2 hx2 hk2 (h4 _ (by simp))
      rcases List.mem_cons.1 hp with hp | hp
      · rw [hp]
      · have := (List.pairwise_cons.1 h5).1 _ hp; omega
/-! ### a lineage's parts join -/
def Joins (L : List It2) : List Rch → Int → Prop
  | [], to => to = 0
  | r :: rs, to => r.to = to ∧ r.fr < r.to ∧ knownL L r.tl = true ∧ Joins L rs r.fr
theorem line_mem {L : List It2} {t : Int} {x : It2} (h : lineP L t = some x) : x ∈ L := List.mem_of_find?_eq_some h
theorem parent_ok {L : List It2} {t : Int} (hk : knownL L t = true) (ha : ∀ x ∈ L, 0 ≤ x.a) : 0 ≤ (parentP L t).2.1 ∧ (t = 1 ∧ parentP L t = (0, 0, false) ∨ 1 < t ∧ knownL L (parentP L t).1 = true) := by
  have h1 := known_pos hk
  unfold parentP
  by_cases h2 : t ≤ 1
  · rw [if_pos (.inl h2)]; exact ⟨Int.le_refl _, .inl ⟨by omega, rfl⟩⟩
  · rw [if_neg (by rw [hk]; simp [h2])]
    cases hl : lineP L t with
    | none => rw [knownL_none (by omega) hl] at hk; cases hk
    | some x =>
      rw [knownL_some (by omega) hl] at hk
      refine ⟨ha x (line_mem hl), .inr ⟨by omega, ?_⟩⟩
      show knownL L x.par = true
      split at hk
      · exact hk
      · cases hk
theorem joins (L : List It2) (ha : ∀ x ∈ L, 0 ≤ x.a) : ∀ (k : Nat) (t n : Int), t.toNat ≤ k → knownL L t = true → 0 ≤ n → Joins L (lineageU L t n) n
  | 0, t, n, hk, h, hn => by have := known_pos h; omega
  | k + 1, t, n, hk, h, hn => by
    have h1 := known_pos h
    rw [lineageU, dif_pos h1]
    obtain ⟨h2, h3⟩ := parent_ok h ha
    rcases h3 with ⟨rfl, e⟩ | ⟨h3, h4⟩
    · rw [e]
      dsimp only
      rw [lineageU, dif_neg (by omega), List.append_nil]
      by_cases h5 : 0 < n
      · rw [if_pos h5]; exact ⟨rfl, h5, h, rfl⟩
      · rw [if_neg h5]; show n = 0; omega
    · have hlt := parent_lt L t h1
      have ih := fun m hm => joins L ha k (parentP L t).1 m (by omega) h4 hm
      by_cases h5 : (parentP L t).2.1 < n
      · rw [if_pos h5, show min n (parentP L t).2.1 = (parentP L t).2.1 by omega]
        exact ⟨rfl, h5, h, ih _ h2⟩
      · rw [if_neg h5, show min n (parentP L t).2.1 = n by omega]
        exact ih _ hn
theorem joins_all (L : List It2) (ha : ∀ x ∈ L, 0 ≤ x.a) (t n : Int) (h : knownL L t = true) (hn : 0 ≤ n) : Joins L (lineageL L t n) n := by
  unfold lineageL
  rw [if_pos ⟨h, hn⟩]
  exact joins L ha t.toNat t n (Nat.le_refl _) h hn
/-! ### fresh timelines -/
theorem maxT_ge (L : List It2) : ∀ (now : Int), now ≤ maxT L now ∧ ∀ x ∈ L, x.tl ≤ maxT L now := by
  induction L with
  | nil => intro now; exact ⟨Int.le_refl _, fun x hx => by cases hx⟩
  | cons y L ih =>
    intro now
    have := ih (max now y.tl)
    unfold maxT at this ⊢
    rw [List.foldl_cons]
    refine ⟨by omega, fun x hx => ?_⟩
    rcases List.mem_cons.1 hx with rfl | hx
    · omega
    · exact this.2 x hx
theorem fresh_unknown (L : List It2) (now : Int) (h : 1 < 1 + maxT L now) : knownL L (1 + maxT L now) = false := by
  refine knownL_none h ?_
  unfold lineP
  refine List.find?_eq_none.2 (fun x hx => ?_)
  have := (maxT_ge L now).2 x hx
  unfold isLine
  simp; omega
end Li
end Go.Proofs.Ytigbglagfbbmjaa
