/- Rules of this claim's own, over any program: the operations of a region that draws its order, by what is known of the frame and of the world. No condition. -/
import Derived.Test.YtinofjenoapeaaaS2
namespace Go.Proofs.Ytinofjenoapeaaa
open Go.RowKit Go.Shelf
set_option linter.unusedSimpArgs false
set_option linter.unusedVariables false

/-- The kinds of a region's operations: 0 computes, 1 reads, 2 acts and leaves alone what is read, 3 acts when all is read. -/
def kdL (ks : List Nat) (i : Nat) : Nat := (ks[i]?).getD 0
def dRun0 (F : Fence) (m : Nat) (P : Program) (ops : List Oper) (G : World → Prop) (ks : List Nat) (Q : Exit → Act → World → Prop) : List Nat → Act → World → Prop
  | [], a, w => Q .normal a w
  | i :: rest, a, w => ∃ o, ops[i]? = some o ∧
        ((kdL ks i = 0 ∧ ∃ v, FY P ops.toArray (fun _ => True) o v a ∧ dRun0 F m P ops G ks Q rest (a.put o.dst v) w) ∨
         (kdL ks i = 1 ∧ ∃ v, FY P ops.toArray G o v a ∧ dRun0 F m P ops G ks Q rest (a.put o.dst v) w) ∨
         (kdL ks i = 2 ∧ (∀ c, o.op ≠ .defer c) ∧ CO F m P ops.toArray o a w (fun a' w' => G w' ∧ dRun0 F m P ops G ks Q rest a' w')) ∨
         (kdL ks i = 3 ∧ (∀ c, o.op ≠ .defer c) ∧ CO F m P ops.toArray o a w (fun a' w' => dRun0 F m P ops G ks Q rest a' w')))
theorem dRun0_dRun {F : Fence} {m : Nat} {P : Program} {ops : List Oper} {G : World → Prop} {ks : List Nat} {Q : Exit → Act → World → Prop} {listed : Array Bool} : ∀ (l : List Nat) (a : Act) (w : World), (∀ i ∈ l, listed.getD i true = false) → dRun0 F m P ops G ks Q l a w → dRun F m P ops.toArray G (kdL ks) Q l listed a w
  | [], _, _, _, h => h
  | i :: rest, a, w, hl, h => by
    have ih := fun a w => dRun0_dRun (F := F) (m := m) (P := P) (ops := ops) (G := G) (ks := ks) (Q := Q) rest a w (fun j hj => hl j (by simp [hj]))
    obtain ⟨o, ho, h⟩ := h
    simp only [dRun]
    rw [if_neg (by rw [hl i (by simp)]; simp)]
    refine ⟨o, by simpa using ho, ?_⟩
    rcases h with ⟨hk, v, hy, h⟩ | ⟨hk, v, hy, h⟩ | ⟨hk, hnd, h⟩ | ⟨hk, hnd, h⟩
    · exact .inl ⟨hk, v, hy, ih _ _ h⟩
    · exact .inr (.inl ⟨hk, v, hy, ih _ _ h⟩)
    · exact .inr (.inr (.inl ⟨hk, hnd, h.mono fun a w hh => ⟨hh.1, ih _ _ hh.2⟩⟩))
    · exact .inr (.inr (.inr ⟨hk, hnd, h.mono fun a w hh => ih _ _ hh⟩))

section drawn
variable {F : Fence} {m : Nat} {P : Program} {Q : Exit → Act → World → Prop} {n : Nat} {l : List (Nat × Value)} {d : List Deferred} {W0 : World} {X : Nat → Prop} {R C Kc Kr : List Ch} {o : Oper} {t : Nat} {v : Value} {ops : List Oper} {ks rest : List Nat} {i k : Nat} {G : World → Prop} {K : Act → World → Prop}
def Sub2 (Kc Kr C R : List Ch) : Prop := (∀ c ∈ Kc, c ∈ C ∨ c ∈ R) ∧ (∀ c ∈ Kr, c ∈ C ∨ c ∈ R)
theorem St.gk {w : World} (h : St W0 X R C w) (hK : Sub2 Kc Kr C R) : Gk Kc Kr w := ⟨fun c hc => h.has (hK.1 c hc), fun c hc => h.has (hK.2 c hc)⟩
theorem sub2_same : Sub2 C R C R := ⟨fun _ h => .inl h, fun _ h => .inr h⟩
theorem sub2_mk (h1 : ∀ c ∈ Kc, c ∈ C) (h2 : ∀ c ∈ Kr, c ∈ R) : Sub2 Kc Kr C R := ⟨fun c h => .inl (h1 c h), fun c h => .inr (h2 c h)⟩
/-- A region that draws; what follows it stands behind a letter. -/
theorem nd_region (hF : IsWide F) {id : Nat} (ks ord : List Nat) (Kc Kr : List Ch) (hm : P.follows .mixedOrders = true) (hB : drawB ops.toArray (kdL ks) ord = true) (hK : Sub2 Kc Kr C R)
    (h : ∀ Q', (∀ l' R' C', Nx (Q .normal) n l' d W0 X R' C' → Nx (Q' .normal) n l' d W0 X R' C') → Nx (dRun0 F m P ops (Gk Kc Kr) ks Q' ord) n l d W0 X R C) : Nx ((Code.region id ops.toArray true).wpIn F m P Q) n l d W0 X R C := fun a w ha hw => by
  have hw' : St W0 X R C w.drew := hw.later ⟨rfl, rfl, rfl, Nat.le_refl _, fun _ _ => rfl⟩
  refine wpIn_drawn hF ord hm hB (hw'.gk hK) (dRun0_dRun ord a w.drew (fun i hi => ?_) (h Q (fun _ _ _ h => h) a _ ha hw'))
  simp only [drawB, Bool.and_eq_true, beq_iff_eq, List.all_eq_true, List.contains_iff_mem, List.mem_range, decide_eq_true_eq] at hB
  have := hB.1.2 i hi
  simp at this
  simp [this]
theorem nd_nil (h : Nx (Q .normal) n l d W0 X R C) : Nx (dRun0 F m P ops G ks Q []) n l d W0 X R C := h
/-- One operation of such a region, by its kind. -/
def OpD (F : Fence) (m : Nat) (P : Program) (G : World → Prop) (k : Nat) (o : Oper) (K : Act → World → Prop) : Act → World → Prop := fun a w =>
  (k = 0 ∧ ∃ v, ((∀ c, o.op ≠ .defer c) ∧ ∀ w, (execOp a.eval o).run P w = .ok (.value v) w) ∧ K (a.put o.dst v) w) ∨
  (k = 1 ∧ ∃ v, ((∀ c, o.op ≠ .defer c) ∧ ∀ w, G w → (execOp a.eval o).run P w = .ok (.value v) w) ∧ K (a.put o.dst v) w) ∨
  (k = 2 ∧ (∀ c, o.op ≠ .defer c) ∧ o.wpIn F m P a w (fun a' w' => G w' ∧ K a' w') QF) ∨
  (k = 3 ∧ (∀ c, o.op ≠ .defer c) ∧ o.wpIn F m P a w K QF)
theorem nd_go (hi : ops[i]? = some o) (hg : gdL ops l o = some true) (hk : kdL ks i = k) (h : ∀ K, (∀ l' R' C', Nx (dRun0 F m P ops G ks Q rest) n l' d W0 X R' C' → Nx K n l' d W0 X R' C') → Nx (OpD F m P G k o K) n l d W0 X R C) : Nx (dRun0 F m P ops G ks Q (i :: rest)) n l d W0 X R C := fun a w ha hw => by
  have hwt := ha.wanted hg
  have h1 := h _ (fun _ _ _ h => h) a w ha hw
  subst hk
  refine ⟨o, hi, ?_⟩
  rcases h1 with ⟨hk, v, ⟨h1, h2⟩, h3⟩ | ⟨hk, v, ⟨h1, h2⟩, h3⟩ | ⟨hk, h1, h2⟩ | ⟨hk, h1, h2⟩
  · exact .inl ⟨hk, v, .inl ⟨hwt, h1, fun w _ => h2 w⟩, h3⟩
  · exact .inr (.inl ⟨hk, v, .inl ⟨hwt, h1, h2⟩, h3⟩)
  · refine .inr (.inr (.inl ⟨hk, h1, ?_⟩))
    unfold CO; rw [if_pos hwt]; exact h2
  · refine .inr (.inr (.inr ⟨hk, h1, ?_⟩))
    unfold CO; rw [if_pos hwt]; exact h2
theorem od_E (hd : o.dst = some t) (ht : Nat.blt t n = true) (h : ∃ v, Yl P (fun _ => True) n l d o v ∧ Nx K n ((t, v) :: l) d W0 X R C) : Nx (OpD F m P G 0 o K) n l d W0 X R C := fun a w ha hw => by
  obtain ⟨v, hy, h2⟩ := h
  exact .inl ⟨rfl, v, ⟨hy.nd, fun w => hy.run a w ha trivial⟩, by rw [hd]; exact h2 _ w (ha.put ht v) hw⟩
theorem od_R (hd : o.dst = some t) (ht : Nat.blt t n = true) (h : ∃ v, Yl P G n l d o v ∧ Nx K n ((t, v) :: l) d W0 X R C) : Nx (OpD F m P G 1 o K) n l d W0 X R C := fun a w ha hw => by
  obtain ⟨v, hy, h2⟩ := h
  exact .inr (.inl ⟨rfl, v, ⟨hy.nd, fun w hw => hy.run a w ha hw⟩, by rw [hd]; exact h2 _ w (ha.put ht v) hw⟩)
theorem od_Ec (hd : o.dst = some t) (ht : Nat.blt t n = true) (h : ∃ p v1 v2, Yc P (fun _ => True) n l d o p v1 v2 ∧ (p → Nx K n ((t, v1) :: l) d W0 X R C) ∧ (¬ p → Nx K n ((t, v2) :: l) d W0 X R C)) : Nx (OpD F m P G 0 o K) n l d W0 X R C := by
  obtain ⟨p, v1, v2, h1, h2, h3⟩ := h
  by_cases hp : p
  · exact od_E hd ht ⟨_, h1.1 hp, h2 hp⟩
  · exact od_E hd ht ⟨_, h1.2 hp, h3 hp⟩
theorem od_act (hnd : ∀ c, o.op ≠ .defer c) (h : ∀ K', (∀ l' R' C', Sub2 Kc Kr C' R' → Nx K n l' d W0 X R' C' → Nx K' n l' d W0 X R' C') → Nx (OpN F m P o K' QF) n l d W0 X R C) : Nx (OpD F m P (Gk Kc Kr) 2 o K) n l d W0 X R C := fun a w ha hw =>
  .inr (.inr (.inl ⟨rfl, hnd, h _ (fun l' R' C' hs hk a w ha hw => ⟨hw.gk hs, hk a w ha hw⟩) a w ha hw⟩))
theorem od_last (hnd : ∀ c, o.op ≠ .defer c) (h : Nx (OpN F m P o K QF) n l d W0 X R C) : Nx (OpD F m P G 3 o K) n l d W0 X R C := fun a w ha hw => .inr (.inr (.inr ⟨rfl, hnd, h a w ha hw⟩))
/-- An operation whose guard is off. -/
theorem nd_pass (hi : ops[i]? = some o) (hg : gdL ops l o = some false) (hk : Nat.ble (kdL ks i) 1 = true) (hd : o.dst = some t) (ht : Nat.blt t n = true)
    (h : Nx (dRun0 F m P ops G ks Q rest) n ((t, undef) :: l) d W0 X R C) : Nx (dRun0 F m P ops G ks Q (i :: rest)) n l d W0 X R C := fun a w ha hw => by
  have hf : ∀ G, FY P ops.toArray G o undef a := fun G => .inr ⟨ha.wanted hg, rfl⟩
  have hn : dRun0 F m P ops G ks Q rest (a.put o.dst undef) w := by rw [hd]; exact h _ w (ha.put ht undef) hw
  have hk' : kdL ks i ≤ 1 := by simpa [Nat.ble_eq] using hk
  refine ⟨o, hi, ?_⟩
  rcases Nat.eq_zero_or_pos (kdL ks i) with h0 | h0
  · exact .inl ⟨h0, undef, hf _, hn⟩
  · exact .inr (.inl ⟨by omega, undef, hf _, hn⟩)
theorem nd_pass2 (hi : ops[i]? = some o) (hg : gdL ops l o = some false) (hk : kdL ks i = 2) (hnd : ∀ c, o.op ≠ .defer c) (hK : Sub2 Kc Kr C R) (hd : o.dst = some t) (ht : Nat.blt t n = true)
    (h : Nx (dRun0 F m P ops (Gk Kc Kr) ks Q rest) n ((t, undef) :: l) d W0 X R C) : Nx (dRun0 F m P ops (Gk Kc Kr) ks Q (i :: rest)) n l d W0 X R C := fun a w ha hw => by
  have hn : dRun0 F m P ops (Gk Kc Kr) ks Q rest (a.put o.dst undef) w := by rw [hd]; exact h _ w (ha.put ht undef) hw
  refine ⟨o, hi, .inr (.inr (.inl ⟨hk, hnd, ?_⟩))⟩
  unfold CO
  rw [if_neg (by rw [ha.wanted hg]; simp)]
  exact ⟨hw.gk hK, hn⟩
theorem nd_pass3 (hi : ops[i]? = some o) (hg : gdL ops l o = some false) (hk : kdL ks i = 3) (hnd : ∀ c, o.op ≠ .defer c) (hd : o.dst = some t) (ht : Nat.blt t n = true)
    (h : Nx (dRun0 F m P ops G ks Q rest) n ((t, undef) :: l) d W0 X R C) : Nx (dRun0 F m P ops G ks Q (i :: rest)) n l d W0 X R C := fun a w ha hw => by
  have hn : dRun0 F m P ops G ks Q rest (a.put o.dst undef) w := by rw [hd]; exact h _ w (ha.put ht undef) hw
  refine ⟨o, hi, .inr (.inr (.inr ⟨hk, hnd, ?_⟩))⟩
  unfold CO
  rw [if_neg (by rw [ha.wanted hg]; simp)]
  exact hn
end drawn
/-! ### small tactics' lemmas -/
theorem sub_nil {l : List (Nat × Value)} : ∀ j v, lk j [] = some v → lk j l = some v := fun j v h => by cases h
theorem sub_cons {l l' : List (Nat × Value)} {i : Nat} {u : Value} (h : lk i l = some u) (hs : ∀ j v, lk j l' = some v → lk j l = some v) : ∀ j v, lk j ((i, u) :: l') = some v → lk j l = some v := fun j v hj => by
  simp only [lk] at hj
  by_cases e : j = i
  · subst e
    rw [show Nat.beq j j = true from Nat.beq_refl j] at hj
    simp only [cond_true] at hj
    rw [h]; exact hj
  · rw [beq_ne e] at hj
    exact hs j v hj
theorem all_nil {p : Ch → Prop} : ∀ c ∈ ([] : List Ch), p c := fun c h => by cases h
theorem all_cons {Kp : List Ch} {p : Ch → Prop} {b : Ch} (h : p b) (hs : ∀ c ∈ Kp, p c) : ∀ c ∈ b :: Kp, p c := fun c hc => (List.mem_cons.1 hc).elim (fun e => e ▸ h) (hs c)
theorem all_app {A B : List Ch} {p : Ch → Prop} (h1 : ∀ c ∈ A, p c) (h2 : ∀ c ∈ B, p c) : ∀ c ∈ A ++ B, p c := fun c hc => (List.mem_append.1 hc).elim (h1 c) (h2 c)
theorem sub_tail {A B : List Ch} {b : Ch} (h : ∀ r ∈ A, r ∈ B) : ∀ r ∈ A, r ∈ b :: B := fun r hr => List.mem_cons_of_mem _ (h r hr)
end Go.Proofs.Ytinofjenoapeaaa
