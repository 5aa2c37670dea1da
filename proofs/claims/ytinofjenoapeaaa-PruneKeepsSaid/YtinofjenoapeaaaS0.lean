/- Words of this claim's own, over any program: parties that own blocks apart from each other, what is known of a frame's temporaries, and the rules of code by them. No condition. -/
import Derived.Test.YtinofjenoapeaaaQ7
import Derived.Test.YtinofjenoapeaaaQ8
namespace Go.Proofs.Ytinofjenoapeaaa
open Go.RowKit Go.Shelf
set_option linter.unusedSimpArgs false
set_option linter.unusedVariables false

/-! ### parties -/
/-- What is said of some blocks, and of no others. -/
structure Ch where
  p : (Nat → Prop) → World → Prop
  st : ∀ {O : Nat → Prop} {A B : World}, p O A → A.heap.size ≤ B.heap.size → (∀ k, O k → B.heap[k]? = A.heap[k]?) → p O B
  lt : ∀ {O : Nat → Prop} {A : World}, p O A → ∀ k, O k → k < A.heap.size

def Shr (R : List Ch) (O : Nat → Prop) (w : World) : Prop := ∀ r ∈ R, ∃ O', r.p O' w ∧ ∀ k, O' k → O k
def Sep : List Ch → (Nat → Prop) → World → Prop
  | [], _, _ => True
  | c :: cs, O, w => ∃ O1, c.p O1 w ∧ (∀ k, O1 k → O k) ∧ Sep cs (fun k => O k ∧ ¬ O1 k) w

theorem Sep.mono {w : World} : ∀ {C : List Ch} {O O' : Nat → Prop}, (∀ k, O k → O' k) → Sep C O w → Sep C O' w
  | [], _, _, _, _ => trivial
  | c :: cs, O, O', h, ⟨O1, h1, h2, h3⟩ => ⟨O1, h1, fun k hk => h k (h2 k hk), Sep.mono (C := cs) (fun k hk => ⟨h k hk.1, hk.2⟩) h3⟩
theorem Sep.keep {A B : World} (hs : A.heap.size ≤ B.heap.size) : ∀ {C : List Ch} {O : Nat → Prop}, (∀ k, O k → B.heap[k]? = A.heap[k]?) → Sep C O A → Sep C O B
  | [], _, _, _ => trivial
  | c :: cs, O, h, ⟨O1, h1, h2, h3⟩ => ⟨O1, c.st h1 hs (fun k hk => h k (h2 k hk)), h2, Sep.keep hs (C := cs) (fun k hk => h k hk.1) h3⟩
theorem Shr.keep {A B : World} {R : List Ch} {O : Nat → Prop} (hs : A.heap.size ≤ B.heap.size) (h : ∀ k, O k → B.heap[k]? = A.heap[k]?) (hR : Shr R O A) : Shr R O B := fun r hr =>
  let ⟨O', h1, h2⟩ := hR r hr
  ⟨O', r.st h1 hs (fun k hk => h k (h2 k hk)), h2⟩
theorem Sep.swap {w : World} {a b : Ch} {D : List Ch} {O : Nat → Prop} (h : Sep (a :: b :: D) O w) : Sep (b :: a :: D) O w := by
  obtain ⟨Oa, h1, h2, Ob, h3, h4, h5⟩ := h
  refine ⟨Ob, h3, fun k hk => (h4 k hk).1, Oa, h1, fun k hk => ⟨h2 k hk, fun hb => (h4 k hb).2 hk⟩, h5.mono fun k hk => ⟨⟨hk.1.1, hk.2⟩, hk.1.2⟩⟩
theorem Sep.perm {w : World} {C D : List Ch} (h : C.Perm D) : ∀ {O : Nat → Prop}, Sep C O w → Sep D O w := by
  induction h with
  | nil => exact fun h => h
  | cons a _ ih => exact fun ⟨O1, h1, h2, h3⟩ => ⟨O1, h1, h2, ih h3⟩
  | swap a b l => exact fun h => h.swap
  | trans _ _ ih1 ih2 => exact fun h => ih2 (ih1 h)
theorem Sep.split {w : World} : ∀ {D E : List Ch} {O : Nat → Prop}, Sep (D ++ E) O w → ∃ O1, (∀ k, O1 k → O k) ∧ Sep D O1 w ∧ Sep E (fun k => O k ∧ ¬ O1 k) w
  | [], E, O, h => ⟨fun _ => False, fun _ h => h.elim, trivial, Sep.mono (fun k hk => ⟨hk, fun h => h⟩) h⟩
  | c :: D, E, O, ⟨Oc, h1, h2, h3⟩ => by
    obtain ⟨O1, g1, g2, g3⟩ := Sep.split (D := D) h3
    exact ⟨fun k => Oc k ∨ O1 k, fun k hk => hk.elim (h2 k) (fun h => (g1 k h).1), ⟨Oc, h1, fun k hk => .inl hk, g2.mono fun k hk => ⟨.inr hk, (g1 k hk).2⟩⟩, g3.mono fun k hk => ⟨hk.1.1, fun h => h.elim hk.1.2 hk.2⟩⟩
theorem Sep.join {w : World} : ∀ {D E : List Ch} {O1 O2 O : Nat → Prop}, Sep D O1 w → Sep E O2 w → (∀ k, O1 k → ¬ O2 k) → (∀ k, O1 k → O k) → (∀ k, O2 k → O k) → Sep (D ++ E) O w
  | [], E, _, _, _, _, h2, _, _, h5 => h2.mono h5
  | c :: D, E, O1, O2, O, ⟨Oc, h1, hc, h3⟩, h2, hd, h4, h5 =>
    ⟨Oc, h1, fun k hk => h4 k (hc k hk), Sep.join (D := D) h3 h2 (fun k hk => hd k hk.1) (fun k hk => ⟨h4 k hk.1, hk.2⟩) (fun k hk => ⟨h5 k hk, fun ho => hd k (hc k ho) hk⟩)⟩
theorem Sep.has {w : World} {c : Ch} : ∀ {C : List Ch} {O : Nat → Prop}, c ∈ C → Sep C O w → ∃ O1, c.p O1 w ∧ ∀ k, O1 k → O k
  | _ :: cs, O, hm, ⟨O1, h1, h2, h3⟩ => by
    rcases List.mem_cons.1 hm with rfl | hm
    · exact ⟨O1, h1, h2⟩
    · obtain ⟨O2, g1, g2⟩ := Sep.has hm h3
      exact ⟨O2, g1, fun k hk => (g2 k hk).1⟩

/-! ### a state of the world: what is shared (R) stays as it is; what is owned (C) may turn -/
structure St (W0 : World) (X : Nat → Prop) (R C : List Ch) (w : World) : Prop where
  touch : Touch X W0 w
  parts : ∃ OR OC, Shr R OR w ∧ Sep C OC w ∧ (∀ k, OR k → k < w.heap.size) ∧ (∀ k, OC k → ¬ OR k ∧ k < w.heap.size ∧ (X k ∨ W0.heap.size ≤ k))

section st
variable {W0 : World} {X : Nat → Prop} {R C : List Ch} {w w' : World}
theorem St.start (W : World) (R : List Ch) (h : ∀ r ∈ R, ∃ O, r.p O W) : St W (fun _ => False) R [] W :=
  ⟨Touch.refl _ _, fun k => k < W.heap.size, fun _ => False, fun r hr => let ⟨O, ho⟩ := h r hr; ⟨O, ho, r.lt ho⟩, trivial, fun _ h => h, fun _ h => h.elim⟩
theorem St.hasR (h : St W0 X R C w) {r : Ch} (hr : r ∈ R) : ∃ O, r.p O w := let ⟨_, _, h1, _⟩ := h.parts; let ⟨O, h2, _⟩ := h1 r hr; ⟨O, h2⟩
theorem St.hasC (h : St W0 X R C w) {c : Ch} (hc : c ∈ C) : ∃ O, c.p O w := let ⟨_, _, _, h1, _⟩ := h.parts; let ⟨O, h2, _⟩ := Sep.has hc h1; ⟨O, h2⟩
theorem St.has (h : St W0 X R C w) {c : Ch} (hc : c ∈ C ∨ c ∈ R) : ∃ O, c.p O w := hc.elim h.hasC h.hasR
theorem St.below (h : St W0 (fun _ => False) R C w) : Below W0.heap.size W0 w := h.touch.below (Nat.le_refl _) (fun _ _ h => h)
theorem St.size (h : St W0 X R C w) : W0.heap.size ≤ w.heap.size := h.touch.size
theorem St.perm (h : St W0 X R C w) {D : List Ch} (hp : C.Perm D) : St W0 X R D w :=
  ⟨h.touch, let ⟨OR, OC, h1, h2, h3, h4⟩ := h.parts; ⟨OR, OC, h1, h2.perm hp, h3, h4⟩⟩
theorem St.subR (h : St W0 X R C w) {R' : List Ch} (hs : ∀ r ∈ R', r ∈ R) : St W0 X R' C w :=
  ⟨h.touch, let ⟨OR, OC, h1, h2, h3, h4⟩ := h.parts; ⟨OR, OC, fun r hr => h1 r (hs r hr), h2, h3, h4⟩⟩
/-- **One step**: the parties D act, and become D'. -/
theorem St.stepL {D D' E : List Ch} (h : St W0 X R (D ++ E) w)
    (hD : ∀ O, Sep D O w → (∀ k, O k → k < w.heap.size) → ∃ O', Touch O w w' ∧ Sep D' O' w' ∧ ∀ k, O' k → (O k ∨ w.heap.size ≤ k) ∧ k < w'.heap.size) : St W0 X R (D' ++ E) w' := by
  obtain ⟨ht, OR, OC, h1, h2, h3, h4⟩ := h
  obtain ⟨O1, g1, g2, g3⟩ := h2.split
  obtain ⟨O', t1, t2, t3⟩ := hD O1 g2 (fun k hk => (h4 k (g1 k hk)).2.1)
  refine ⟨ht.transW t1 (fun _ _ h => h) (fun i hi ho => (h4 i (g1 i ho)).2.2.elim id (fun h => by omega)), OR, fun k => O' k ∨ (OC k ∧ ¬ O1 k), ?_, ?_, fun k hk => Nat.lt_of_lt_of_le (h3 k hk) t1.size, ?_⟩
  · exact h1.keep t1.size (fun k hk => t1.block k (h3 k hk) (fun ho => (h4 k (g1 k ho)).1 hk))
  · refine Sep.join t2 (g3.keep t1.size (fun k hk => t1.block k (h4 k hk.1).2.1 hk.2)) (fun k hk hk' => ?_) (fun k hk => .inl hk) (fun k hk => .inr hk)
    rcases (t3 k hk).1 with h | h
    · exact hk'.2 h
    · have := (h4 k hk'.1).2.1; omega
  · rintro k (hk | hk)
    · have h5 := t3 k hk
      rcases h5.1 with h | h
      · exact ⟨(h4 k (g1 k h)).1, h5.2, (h4 k (g1 k h)).2.2⟩
      · exact ⟨fun hr => by have := h3 k hr; omega, h5.2, .inr (by have := ht.size; omega)⟩
    · exact ⟨(h4 k hk.1).1, Nat.lt_of_lt_of_le (h4 k hk.1).2.1 t1.size, (h4 k hk.1).2.2⟩
/-- New blocks alone: a new party. -/
theorem St.newL {D' : List Ch} (h : St W0 X R C w) (hb : Below w.heap.size w w') (hD : ∃ O', Sep D' O' w' ∧ ∀ k, O' k → w.heap.size ≤ k ∧ k < w'.heap.size) : St W0 X R (D' ++ C) w' :=
  St.stepL (D := []) h (fun O _ _ => let ⟨O', h1, h2⟩ := hD; ⟨O', Touch.of_fresh hb, h1, fun k hk => ⟨.inr (h2 k hk).1, (h2 k hk).2⟩⟩)
theorem St.new {c : Ch} (h : St W0 X R C w) (hb : Below w.heap.size w w') (hD : ∃ O', c.p O' w' ∧ ∀ k, O' k → w.heap.size ≤ k) : St W0 X R (c :: C) w' :=
  St.newL (D' := [c]) h hb (let ⟨O', h1, h2⟩ := hD; ⟨O', ⟨O', h1, fun _ h => h, trivial⟩, fun k hk => ⟨h2 k hk, c.lt h1 k hk⟩⟩)
theorem St.later (h : St W0 X R C w) (hb : Below w.heap.size w w') : St W0 X R C w' := St.newL (D' := []) h hb ⟨fun _ => False, trivial, fun _ h => h.elim⟩
theorem St.upd {c c' : Ch} {E : List Ch} (h : St W0 X R (c :: E) w) (hD : ∀ O, c.p O w → ∃ O', Touch O w w' ∧ c'.p O' w' ∧ ∀ k, O' k → O k ∨ w.heap.size ≤ k) : St W0 X R (c' :: E) w' := by
  refine St.stepL (D := [c]) (D' := [c']) h (fun O hs hlt => ?_)
  obtain ⟨O1, h1, h2, _⟩ := hs
  obtain ⟨O', g1, g2, g3⟩ := hD O1 h1
  exact ⟨O', g1.mono (fun i _ hi => h2 i hi), ⟨O', g2, fun _ h => h, trivial⟩, fun k hk => ⟨(g3 k hk).imp (h2 k) id, c'.lt g2 k hk⟩⟩
theorem St.drop {c : Ch} {E : List Ch} (h : St W0 X R (c :: E) w) : St W0 X R E w :=
  St.stepL (D := [c]) (D' := []) h (fun O _ _ => ⟨fun _ => False, Touch.refl _ _, trivial, fun _ h => h.elim⟩)
/-- A new thing that is shared: it stands on what was shared, and on new blocks. -/
theorem St.addR {r : Ch} (h : St W0 X R C w) (hb : Below w.heap.size w w') (hr : ∀ OR, Shr R OR w → (∀ k, OR k → k < w.heap.size) → ∃ O, r.p O w' ∧ ∀ k, O k → OR k ∨ w.heap.size ≤ k) : St W0 X (r :: R) C w' := by
  obtain ⟨ht, OR, OC, h1, h2, h3, h4⟩ := h
  obtain ⟨O, g1, g2⟩ := hr OR h1 h3
  have tb : Touch (fun _ => False) w w' := Touch.of_fresh hb
  refine ⟨ht.trans (Touch.of_fresh hb), fun k => OR k ∨ O k, OC, ?_, ?_, ?_, ?_⟩
  · intro r' hr'
    rcases List.mem_cons.1 hr' with rfl | hr'
    · exact ⟨O, g1, fun k hk => .inr hk⟩
    · obtain ⟨O', h5, h6⟩ := h1 r' hr'
      exact ⟨O', r'.st h5 tb.size (fun k hk => tb.block k (h3 k (h6 k hk)) (fun h => h)), fun k hk => .inl (h6 k hk)⟩
  · exact h2.keep tb.size (fun k hk => tb.block k (h4 k hk).2.1 (fun h => h))
  · rintro k (hk | hk)
    · exact Nat.lt_of_lt_of_le (h3 k hk) tb.size
    · exact r.lt g1 k hk
  · intro k hk
    refine ⟨?_, Nat.lt_of_lt_of_le (h4 k hk).2.1 tb.size, (h4 k hk).2.2⟩
    rintro (ho | ho)
    · exact (h4 k hk).1 ho
    · rcases g2 k ho with h5 | h5
      · exact (h4 k hk).1 h5
      · have := (h4 k hk).2.1; omega
/-- What was owned becomes shared. -/
theorem St.freeze {c r : Ch} {E : List Ch} (h : St W0 X R (c :: E) w) (hc : ∀ O, c.p O w → ∃ O', r.p O' w ∧ ∀ k, O' k → O k) : St W0 X (r :: R) E w := by
  obtain ⟨ht, OR, OC, h1, ⟨O1, g1, g2, g3⟩, h3, h4⟩ := h
  obtain ⟨O', t1, t2⟩ := hc O1 g1
  refine ⟨ht, fun k => OR k ∨ O1 k, fun k => OC k ∧ ¬ O1 k, ?_, g3, ?_, ?_⟩
  · intro r' hr'
    rcases List.mem_cons.1 hr' with rfl | hr'
    · exact ⟨O', t1, fun k hk => .inr (t2 k hk)⟩
    · obtain ⟨O2, h5, h6⟩ := h1 r' hr'
      exact ⟨O2, h5, fun k hk => .inl (h6 k hk)⟩
  · rintro k (hk | hk)
    · exact h3 k hk
    · exact (h4 k (g2 k hk)).2.1
  · rintro k ⟨hk, hn⟩
    exact ⟨fun h => h.elim (h4 k hk).1 hn, (h4 k hk).2⟩
end st

/-! ### places of a party in a list -/
/-- E holds c, D beside it. -/
def Pick (E : List Ch) (c : Ch) (D : List Ch) : Prop := E.Perm (c :: D)
theorem Pick.here {c : Ch} {D : List Ch} : Pick (c :: D) c D := List.Perm.refl _
theorem Pick.there {b c : Ch} {E D : List Ch} (h : Pick E c D) : Pick (b :: E) c (b :: D) := (List.Perm.cons b h).trans (List.Perm.swap c b D)
/-- E holds c at a place; E' holds c' there. -/
def Turn (E : List Ch) (c c' : Ch) (E' : List Ch) : Prop := ∃ D, Pick E c D ∧ Pick E' c' D
theorem Turn.here {c c' : Ch} {D : List Ch} : Turn (c :: D) c c' (c' :: D) := ⟨D, Pick.here, Pick.here⟩
theorem Turn.there {b c c' : Ch} {E E' : List Ch} (h : Turn E c c' E') : Turn (b :: E) c c' (b :: E') := let ⟨D, h1, h2⟩ := h; ⟨b :: D, h1.there, h2.there⟩
theorem St.turn {W0 : World} {X : Nat → Prop} {R E E' : List Ch} {w w' : World} {c c' : Ch} (h : St W0 X R E w) (ht : Turn E c c' E') (hD : ∀ O, c.p O w → ∃ O', Touch O w w' ∧ c'.p O' w' ∧ ∀ k, O' k → O k ∨ w.heap.size ≤ k) : St W0 X R E' w' :=
  let ⟨_, h1, h2⟩ := ht
  ((h.perm h1).upd hD).perm h2.symm
/-- All of D lies in E. -/
inductive Holds : List Ch → List Ch → Prop
  | nil {E : List Ch} : Holds E []
  | cons {E E1 D : List Ch} {c : Ch} : Pick E c E1 → Holds E1 D → Holds E (c :: D)
  | rest {E : List Ch} : Holds E E
  | skip {E D : List Ch} {c : Ch} : Holds E D → Holds (c :: E) D
theorem Holds.sub {E D : List Ch} (h : Holds E D) : ∃ G, E.Perm (D ++ G) := by
  induction h with
  | nil => exact ⟨_, List.Perm.refl _⟩
  | cons hp _ ih => obtain ⟨G, hg⟩ := ih; exact ⟨G, hp.trans (List.Perm.cons _ hg)⟩
  | rest => exact ⟨[], by rw [List.append_nil]⟩
  | skip _ ih => obtain ⟨G, hg⟩ := ih; exact ⟨_ :: G, (List.Perm.cons _ hg).trans List.perm_middle.symm⟩
theorem St.keep {W0 : World} {X : Nat → Prop} {R E D : List Ch} {w : World} (h : St W0 X R E w) (hh : Holds E D) : St W0 X R D w := by
  obtain ⟨G, hg⟩ := hh.sub
  have h1 := h.perm (hg.trans List.perm_append_comm)
  exact St.stepL (D := G) (D' := []) h1 (fun O _ _ => ⟨fun _ => False, Touch.refl _ _, trivial, fun _ h => h.elim⟩)

/-! ### what is known of the temporaries -/
theorem beq_ne {i j : Nat} (h : ¬ i = j) : Nat.beq i j = false := by
  cases e : Nat.beq i j
  · rfl
  · exact absurd (Nat.eq_of_beq_eq_true e) h
def lk (i : Nat) : List (Nat × Value) → Option Value
  | [] => none
  | (j, v) :: l => bif Nat.beq i j then some v else lk i l
structure Kn (n : Nat) (l : List (Nat × Value)) (d : List Deferred) (a : Act) : Prop where
  size : a.tmps.size = n
  defers : a.defers = d
  at_ : ∀ i v, lk i l = some v → a.tmps[i]? = some v
def ev (l : List (Nat × Value)) : Operand → Option Value
  | .tmp t => lk t l
  | .const v => some v
  | .global g => some (.pointer (some ⟨g, 0, none⟩))
  | .func f => some (.func (.func f) #[] #[])
def evs (l : List (Nat × Value)) : List Operand → Option (List Value)
  | [] => some []
  | x :: xs => match ev l x, evs l xs with | some v, some vs => some (v :: vs) | _, _ => none
/-- Does an operation run? -/
def gdL (ops : List Oper) (l : List (Nat × Value)) (o : Oper) : Option Bool :=
  match o.guard with
  | none => some true
  | some (j, b) => match (ops[j]?).bind (·.dst) with
    | some t => match lk t l with
      | some (.bool c) => some (c == b)
      | some (.tuple _) => some false
      | _ => none
    | none => none

section kn
variable {n : Nat} {l : List (Nat × Value)} {d : List Deferred} {a : Act}
theorem Kn.put (h : Kn n l d a) {t : Nat} (ht : Nat.blt t n = true) (v : Value) : Kn n ((t, v) :: l) d (a.put (some t) v) := by
  have ht' : t < n := by simpa [Nat.blt_eq] using ht
  refine ⟨by simp [Act.put, h.size], by simp [Act.put, h.defers], fun i u hi => ?_⟩
  simp only [lk] at hi
  by_cases e : i = t
  · subst e
    rw [show Nat.beq i i = true from Nat.beq_refl i] at hi
    simp only [cond_true, Option.some.injEq] at hi
    subst hi
    simp [Act.put, h.size, ht']
  · rw [beq_ne e] at hi
    simp only [cond_false] at hi
    have := h.at_ i u hi
    simp only [Act.put]
    rw [Array.getElem?_setIfInBounds_ne (fun e' => e e'.symm)]
    exact this
theorem Kn.put0 (h : Kn n l d a) (v : Value) : Kn n l d (a.put none v) := h
theorem Kn.sub (h : Kn n l d a) {l' : List (Nat × Value)} (hs : ∀ i v, lk i l' = some v → lk i l = some v) : Kn n l' d a := ⟨h.size, h.defers, fun i v hi => h.at_ i v (hs i v hi)⟩
theorem Kn.eval (h : Kn n l d a) {x : Operand} {v : Value} (hx : ev l x = some v) : a.eval x = v := by
  cases x with
  | tmp t =>
    have := h.at_ t v hx
    simp [Act.eval, this]
  | const c => exact Option.some.inj hx
  | global g => exact Option.some.inj hx
  | func f => exact Option.some.inj hx
theorem Kn.evals (h : Kn n l d a) : ∀ {xs : List Operand} {vs : List Value}, evs l xs = some vs → xs.map a.eval = vs
  | [], vs, hx => by simp [evs] at hx; simp [hx]
  | x :: xs, vs, hx => by
    simp only [evs] at hx
    split at hx
    · rename_i v us e1 e2
      cases hx
      rw [List.map_cons, h.eval e1, Kn.evals h e2]
    · cases hx
theorem Kn.wanted (h : Kn n l d a) {ops : List Oper} {o : Oper} {b : Bool} (hg : gdL ops l o = some b) : Region.wanted o (yielded ops.toArray a.tmps) = b := by
  unfold gdL at hg
  unfold Region.wanted
  split at hg
  · rename_i e; rw [e]; exact Option.some.inj hg
  · rename_i j c e
    rw [e]
    split at hg
    · rename_i t e2
      split at hg
      · rename_i b' e3
        have := h.at_ t _ e3
        have hy : yielded ops.toArray a.tmps j = some b' := by
          unfold yielded
          rw [show (ops.toArray[j]?) = ops[j]? from by simp, e2]
          simp [this]
        simp only [hy]
        have := Option.some.inj hg
        rw [← this]
        cases b' <;> cases c <;> rfl
      · rename_i q e3
        have := h.at_ t _ e3
        have hy : yielded ops.toArray a.tmps j = none := by
          unfold yielded
          rw [show (ops.toArray[j]?) = ops[j]? from by simp, e2]
          simp [this]
        simp only [hy]
        rw [← Option.some.inj hg]
        rfl
      · cases hg
    · cases hg
/-- The temporaries of a call at its begin. -/
def argL : Nat → List Value → List (Nat × Value)
  | _, [] => []
  | k, v :: vs => (k, v) :: argL (k + 1) vs
theorem lk_argL : ∀ (vs : List Value) (k i : Nat) (v : Value), lk i (argL k vs) = some v → ∃ j, i = k + j ∧ vs[j]? = some v
  | [], k, i, v, h => by simp [argL, lk] at h
  | u :: vs, k, i, v, h => by
    simp only [argL, lk] at h
    by_cases e : i = k
    · subst e
      rw [show Nat.beq i i = true from Nat.beq_refl i] at h
      exact ⟨0, rfl, by simpa using h⟩
    · rw [beq_ne e] at h
      obtain ⟨j, e1, e2⟩ := lk_argL vs (k + 1) i v h
      exact ⟨j + 1, by omega, by simpa using e2⟩
theorem Kn.start (vs : List Value) (n : Nat) (h : vs.length ≤ n) : Kn n (argL 0 vs) [] { tmps := vs.toArray ++ Array.replicate (n - vs.toArray.size) undef, defers := [] } := by
  refine ⟨by simp; omega, rfl, fun i v hi => ?_⟩
  obtain ⟨j, rfl, hj⟩ := lk_argL vs 0 i v hi
  have := (List.getElem?_eq_some_iff.1 hj).1
  simp only [Nat.zero_add]
  rw [Array.getElem?_append_left (by simpa using this)]
  simpa using hj
end kn

/-! ### a predicate of a frame and a world, by what is known of both -/
def Nx (K : Act → World → Prop) (n : Nat) (l : List (Nat × Value)) (d : List Deferred) (W0 : World) (X : Nat → Prop) (R C : List Ch) : Prop := ∀ a w, Kn n l d a → St W0 X R C w → K a w

section code
variable {F : Fence} {m : Nat} {P : Program} {Q : Exit → Act → World → Prop} {K : Act → World → Prop} {n : Nat} {l : List (Nat × Value)} {d : List Deferred} {W0 : World} {X : Nat → Prop} {R C : List Ch}
theorem Nx.weak {l' : List (Nat × Value)} {R' C' : List Ch} (h : Nx K n l' d W0 X R' C') (hl : ∀ i v, lk i l' = some v → lk i l = some v) (hR : ∀ r ∈ R', r ∈ R) (hC : Holds C C') : Nx K n l d W0 X R C :=
  fun a w ha hw => h a w (ha.sub hl) ((hw.subR hR).keep hC)
theorem nx_seq {x y : Code} (h : Nx (x.wpIn F m P (Exit.then (y.wpIn F m P Q) Q)) n l d W0 X R C) : Nx ((Code.seq x y).wpIn F m P Q) n l d W0 X R C := fun a w ha hw => wpIn_seq (h a w ha hw)
theorem nx_block {id : Nat} {x : Code} (h : Nx (x.wpIn F m P (Exit.inBlock id Q)) n l d W0 X R C) : Nx ((Code.block id x).wpIn F m P Q) n l d W0 X R C := fun a w ha hw => wpIn_block (h a w ha hw)
theorem nx_cond_t {c : Operand} {x y : Code} (hc : ev l c = some (.bool true)) (h : Nx (x.wpIn F m P Q) n l d W0 X R C) : Nx ((Code.cond c x y).wpIn F m P Q) n l d W0 X R C := fun a w ha hw => wpIn_cond_true (ha.eval hc) (h a w ha hw)
theorem nx_cond_f {c : Operand} {x y : Code} (hc : ev l c = some (.bool false)) (h : Nx (y.wpIn F m P Q) n l d W0 X R C) : Nx ((Code.cond c x y).wpIn F m P Q) n l d W0 X R C := fun a w ha hw => wpIn_cond_false (ha.eval hc) (h a w ha hw)
theorem nx_cond {c : Operand} {x y : Code} {b : Bool} (hc : ev l c = some (.bool b)) (h1 : b = true → Nx (x.wpIn F m P Q) n l d W0 X R C) (h2 : b = false → Nx (y.wpIn F m P Q) n l d W0 X R C) : Nx ((Code.cond c x y).wpIn F m P Q) n l d W0 X R C :=
  fun a w ha hw => wpIn_cond_split (ha.eval hc) (fun e => h1 e a w ha hw) (fun e => h2 e a w ha hw)
theorem nx_skip (h : Nx (Q .normal) n l d W0 X R C) : Nx (Code.skip.wpIn F m P Q) n l d W0 X R C := fun a w ha hw => wpIn_skip (h a w ha hw)
theorem nx_exit {id : Nat} (h : Nx (Q (.exit id)) n l d W0 X R C) : Nx ((Code.exit id).wpIn F m P Q) n l d W0 X R C := fun a w ha hw => wpIn_exit (h a w ha hw)
theorem nx_ret (h : Nx (Q .ret) n l d W0 X R C) : Nx (Code.ret.wpIn F m P Q) n l d W0 X R C := fun a w ha hw => wpIn_ret (h a w ha hw)
theorem nx_region {id : Nat} {ops : List Oper} (h : Nx (wpListIn F m P ops.toArray Q ops) n l d W0 X R C) : Nx ((Code.region id ops.toArray false).wpIn F m P Q) n l d W0 X R C := fun a w ha hw => wpIn_region_lit (h a w ha hw)
/-- A loop: one of a family of states stands at the head of each round. -/
theorem nx_loop {c : Code} {ι : Type} (L : ι → List (Nat × Value)) (RR CC : ι → List Ch) (μ : ι → Nat) (i0 : ι) (h0 : ∀ j v, lk j (L i0) = some v → lk j l = some v) (hR : ∀ r ∈ RR i0, r ∈ R) (hC : Holds C (CC i0))
    (h : ∀ i, Nx (c.wpIn F m P (Exit.then (fun a w => ∃ j, μ j < μ i ∧ Kn n (L j) d a ∧ St W0 X (RR j) (CC j) w) Q)) n (L i) d W0 X (RR i) (CC i)) : Nx ((Code.loop c).wpIn F m P Q) n l d W0 X R C := by
  intro a w ha hw
  -- the least measure of the states that stand
  classical
  let I : Act → World → Prop := fun a w => ∃ j, Kn n (L j) d a ∧ St W0 X (RR j) (CC j) w
  have key : ∀ k i a w, μ i = k → Kn n (L i) d a → St W0 X (RR i) (CC i) w → (Code.loop c).wpIn F m P Q a w := by
    intro k i a w hk ha hw
    let J : Nat → Act → World → Prop := fun k a w => ∃ j, μ j = k ∧ Kn n (L j) d a ∧ St W0 X (RR j) (CC j) w
    have hex : ∀ a w, I a w → ∃ k, J k a w := fun a w ⟨j, h1, h2⟩ => ⟨μ j, j, rfl, h1, h2⟩
    have least : ∀ a w, I a w → ∃ k, J k a w ∧ ∀ k', k' < k → ¬ J k' a w := fun a w hi => by
      obtain ⟨k, hk⟩ := hex a w hi
      induction k using Nat.strongRecOn with
      | _ k ih =>
        by_cases hq : ∃ k', k' < k ∧ J k' a w
        · obtain ⟨k', hlt, hj⟩ := hq; exact ih k' hlt hj
        · exact ⟨k, hk, fun k' hlt hj => hq ⟨k', hlt, hj⟩⟩
    let M : Act → World → Nat := fun a w => if hi : I a w then (least a w hi).choose else 0
    have hM : ∀ a w (hi : I a w), J (M a w) a w ∧ ∀ k', k' < M a w → ¬ J k' a w := fun a w hi => by
      have := (least a w hi).choose_spec
      simp only [M, dif_pos hi]
      exact this
    have hle : ∀ a w j, Kn n (L j) d a → St W0 X (RR j) (CC j) w → M a w ≤ μ j := fun a w j h1 h2 => by
      have := (hM a w ⟨j, h1, h2⟩).2 (μ j)
      rcases Nat.lt_or_ge (μ j) (M a w) with h | h
      · exact absurd ⟨j, rfl, h1, h2⟩ (this h)
      · exact h
    refine wpIn_loop I M ⟨i, ha, hw⟩ (fun a1 w1 hi => ?_)
    obtain ⟨⟨j, hj, g1, g2⟩, _⟩ := hM a1 w1 hi
    refine wpIn_mono (h j a1 w1 g1 g2) ?_
    intro e a2 w2 hq
    cases e with
    | normal =>
      obtain ⟨j2, hlt, h3, h4⟩ := hq
      exact ⟨⟨j2, h3, h4⟩, Nat.lt_of_le_of_lt (hle a2 w2 j2 h3 h4) (by rw [← hj]; exact hlt)⟩
    | exit id => exact hq
    | goto t => exact hq
    | ret => exact hq
    | panic ch => exact hq
    | outgrown => exact hq
  exact key (μ i0) i0 a w rfl (ha.sub h0) ((hw.subR hR).keep hC)
/-- Ways meet again: one of a family of states stands between two pieces of code. -/
theorem nx_cut {x y : Code} {ι : Type} (L : ι → List (Nat × Value)) (RR CC : ι → List Ch) (h : Nx (x.wpIn F m P (Exit.then (fun a w => ∃ j, Kn n (L j) d a ∧ St W0 X (RR j) (CC j) w) Q)) n l d W0 X R C) (h2 : ∀ i, Nx (y.wpIn F m P Q) n (L i) d W0 X (RR i) (CC i)) : Nx ((Code.seq x y).wpIn F m P Q) n l d W0 X R C := by
  intro a w ha hw
  refine wpIn_seq (wpIn_mono (h a w ha hw) ?_)
  intro e a2 w2 hq
  cases e with
  | normal => obtain ⟨j, h3, h4⟩ := hq; exact h2 j a2 w2 h3 h4
  | exit id => exact hq
  | goto t => exact hq
  | ret => exact hq
  | panic ch => exact hq
  | outgrown => exact hq
/-- The end of a piece of code that a cut or a loop asks for. -/
theorem nx_meet {ι : Type} {L : ι → List (Nat × Value)} {RR CC : ι → List Ch} (i : ι) (hl : ∀ j v, lk j (L i) = some v → lk j l = some v) (hR : ∀ r ∈ RR i, r ∈ R) (hC : Holds C (CC i)) : Nx (fun a w => ∃ j, Kn n (L j) d a ∧ St W0 X (RR j) (CC j) w) n l d W0 X R C :=
  fun a w ha hw => ⟨i, ha.sub hl, (hw.subR hR).keep hC⟩
theorem nx_again {ι : Type} {L : ι → List (Nat × Value)} {RR CC : ι → List Ch} {μ : ι → Nat} {k : Nat} (i : ι) (hμ : μ i < k) (hl : ∀ j v, lk j (L i) = some v → lk j l = some v) (hR : ∀ r ∈ RR i, r ∈ R) (hC : Holds C (CC i)) : Nx (fun a w => ∃ j, μ j < k ∧ Kn n (L j) d a ∧ St W0 X (RR j) (CC j) w) n l d W0 X R C :=
  fun a w ha hw => ⟨i, hμ, ha.sub hl, (hw.subR hR).keep hC⟩

/-! exits -/
theorem nq_then_n {K : Act → World → Prop} (h : Nx K n l d W0 X R C) : Nx (Exit.then K Q .normal) n l d W0 X R C := h
theorem nq_then_r {K : Act → World → Prop} (h : Nx (Q .ret) n l d W0 X R C) : Nx (Exit.then K Q .ret) n l d W0 X R C := h
theorem nq_then_x {K : Act → World → Prop} {id : Nat} (h : Nx (Q (.exit id)) n l d W0 X R C) : Nx (Exit.then K Q (.exit id)) n l d W0 X R C := h
theorem nq_blk_n {id : Nat} (h : Nx (Q .normal) n l d W0 X R C) : Nx (Exit.inBlock id Q .normal) n l d W0 X R C := h
theorem nq_blk_r {id : Nat} (h : Nx (Q .ret) n l d W0 X R C) : Nx (Exit.inBlock id Q .ret) n l d W0 X R C := h
theorem nq_blk_hit {id : Nat} (h : Nx (Q .normal) n l d W0 X R C) : Nx (Exit.inBlock id Q (.exit id)) n l d W0 X R C := fun a w ha hw => by
  simp only [Exit.inBlock, if_true]; exact h a w ha hw
theorem nq_blk_miss {id j : Nat} (hj : Nat.beq j id = false) (h : Nx (Q (.exit j)) n l d W0 X R C) : Nx (Exit.inBlock id Q (.exit j)) n l d W0 X R C := fun a w ha hw => by
  have : j ≠ id := by rintro rfl; rw [Nat.beq_refl] at hj; cases hj
  simp only [Exit.inBlock, if_neg this]; exact h a w ha hw

/-! a region in the order of the text -/
theorem nl_nil {ops : Array Oper} (h : Nx (Q .normal) n l d W0 X R C) : Nx (wpListIn F m P ops Q []) n l d W0 X R C := h
/-- One operation, what follows it, and how it fails. -/
def OpN (F : Fence) (m : Nat) (P : Program) (o : Oper) (K : Act → World → Prop) (Q : Exit → Act → World → Prop) : Act → World → Prop := fun a w => o.wpIn F m P a w K Q
theorem nl_op1 {ops rest : List Oper} {o : Oper} (hg : gdL ops l o = some true) (h : Nx (OpN F m P o (wpListIn F m P ops.toArray Q rest) Q) n l d W0 X R C) : Nx (wpListIn F m P ops.toArray Q (o :: rest)) n l d W0 X R C := fun a w ha hw => by
  unfold wpListIn
  rw [if_pos (ha.wanted hg)]
  exact h a w ha hw
/-- No way out but the next operation. -/
def QF : Exit → Act → World → Prop := fun _ _ _ => False
theorem wpIn_ofF {o : Oper} {a : Act} {w : World} {K : Act → World → Prop} (h : o.wpIn F m P a w K QF) : o.wpIn F m P a w K Q := by
  refine ⟨h.1, ?_⟩
  have h4 := h.2
  generalize (Oper.semAt F.round a.eval o).run P w = r at *
  cases r with
  | ok x w' =>
    cases x <;> simp only [Oper.uponIn] at h4 ⊢
    case value u => exact h4
    case skip => exact h4
    case defer dd => exact h4
    case enter f args =>
      refine ⟨h4.1, h4.2.1, fun cs hr => ?_⟩
      obtain ⟨e, w'', fr, h5, h6⟩ := h4.2.2 cs hr
      refine ⟨e, w'', fr, ?_, h6⟩
      cases e with
      | returned u => exact h5
      | panicked ch => exact h5.elim
      | outgrown => obtain ⟨_, _, h5⟩ := h5; exact h5.elim
    case row r args => exact h4
    case round l f tm asg bo =>
      refine ⟨h4.1, h4.2.1, fun c cs hr => ?_⟩
      obtain ⟨e, w'', h5, h6⟩ := h4.2.2 c cs hr
      refine ⟨e, w'', ?_, h6⟩
      cases e with
      | returned u => exact h5
      | panicked ch => exact h5.elim
      | outgrown => obtain ⟨_, _, h5⟩ := h5; exact h5.elim
  | halt x w' =>
    cases x <;> simp only [Oper.uponIn] at h4
    all_goals exact h4.elim
/-- The next operation; what follows it stands behind a letter. -/
theorem nl_op {ops rest : List Oper} {o : Oper} (hg : gdL ops l o = some true) (h : ∀ K, (∀ l' R' C', Nx (wpListIn F m P ops.toArray Q rest) n l' d W0 X R' C' → Nx K n l' d W0 X R' C') → Nx (OpN F m P o K QF) n l d W0 X R C) : Nx (wpListIn F m P ops.toArray Q (o :: rest)) n l d W0 X R C := fun a w ha hw => by
  unfold wpListIn
  rw [if_pos (ha.wanted hg)]
  exact wpIn_ofF (h _ (fun _ _ _ h => h) a w ha hw)
theorem nl_pass (hF : IsWide F) {ops rest : List Oper} {o : Oper} {t : Nat} (hg : gdL ops l o = some false) (hd : o.dst = some t) (ht : Nat.blt t n = true) (h : Nx (wpListIn F m P ops.toArray Q rest) n ((t, undef) :: l) d W0 X R C) : Nx (wpListIn F m P ops.toArray Q (o :: rest)) n l d W0 X R C := fun a w ha hw => by
  unfold wpListIn
  rw [if_neg (by rw [ha.wanted hg]; simp)]
  exact ⟨fun _ _ => hF.fn _, by rw [hd]; exact h _ w (ha.put ht _) hw⟩
end code

/-! ### entering a function, and leaving it -/
theorem calls_nx {P : Program} {f : FuncId} {fn : Func} {c : Code} {vs : List Value} {w : World} {G : Ending → World → Prop} {W0 : World} {X : Nat → Prop} {R C : List Ch} (hf : P.funcs[f]? = some fn) (hb : fn.body = some c) {n : Nat} (hnt : fn.ntmps = n) (hn : Nat.ble vs.length n = true)
    (h : Nx (c.wpIn Fence.wide 0 P (bodyPostM Fence.wide 0 P fn G)) n (argL 0 vs) [] W0 X R C) (hw : St W0 X R C w) : Calls P f vs.toArray w G :=
  by subst hnt; exact calls_enterM hf hb (h _ w (Kn.start vs fn.ntmps (by simpa [Nat.ble_eq] using hn)) hw)
/-- A contract: whatever state with R and C stands, the call returns one of a family of values, and leaves a state with its R' and C'. -/
def Ct (P : Program) (g : FuncId) (vs : List Value) (W0 : World) (X : Nat → Prop) (R C : List Ch) (ι : Type) (ret : ι → Value) (R' C' : ι → List Ch) : Prop :=
  ∀ w, St W0 X R C w → Calls P g vs.toArray w (fun e w' => ∃ i, e = .returned (ret i) ∧ St W0 X (R' i) (C' i) w')
/-- The blocks of deferred calls, in a function that held ranges over functions. -/
def dfr (Ds : List Nat) : List Deferred := Ds.map fun D => { target := .collected D, args := #[] }
def DfrC (D : Nat) : Ch where
  p O w := w.heap[D]? = some (.deferred (some [])) ∧ ∀ k, O k ↔ k = D
  st h _ hk := ⟨(hk D ((h.2 D).2 rfl)).trans h.1, h.2⟩
  lt h k hk := by rw [(h.2 k).1 hk]; exact (Array.getElem?_eq_some_iff.1 h.1).1
def DoneC (D : Nat) : Ch where
  p O w := w.heap[D]? = some (.deferred none) ∧ ∀ k, O k ↔ k = D
  st h _ hk := ⟨(hk D ((h.2 D).2 rfl)).trans h.1, h.2⟩
  lt h k hk := by rw [(h.2 k).1 hk]; exact (Array.getElem?_eq_some_iff.1 h.1).1
theorem DfrC.shut {D : Nat} {w : World} {O : Nat → Prop} (h : (DfrC D).p O w) : ∃ O', Touch O w (w.putObj D (.deferred none)) ∧ (DoneC D).p O' (w.putObj D (.deferred none)) ∧ ∀ k, O' k → O k ∨ w.heap.size ≤ k :=
  ⟨O, Touch.putObj _ _ _ ((h.2 D).2 rfl), ⟨World.putObj_heap_same (Array.getElem?_eq_some_iff.1 h.1).1, h.2⟩, fun k hk => .inl hk⟩
theorem leaves_all {P : Program} {fn : Func} {tmps : Array Value} {G : Ending → World → Prop} {W0 : World} {X : Nat → Prop} {R : List Ch} {v : Value}
    : ∀ (Ds : List Nat) {C : List Ch} {w : World}, St W0 X R (Ds.map DfrC ++ C) w → (∀ w', St W0 X R C w' → (results fn tmps).run P w' = .ok v w' ∧ G (.returned v) w') → LeavesInM Fence.wide 0 P fn tmps G (dfr Ds) .returning w
  | [], C, w, hw, h => by
    obtain ⟨h1, h2⟩ := h w hw
    exact ⟨v, h1, h2⟩
  | D :: Ds, C, w, hw, h => by
    have hd : w.heap[D]? = some (.deferred (some [])) := let ⟨_, h1⟩ := hw.hasC (c := DfrC D) (by simp); h1.1
    have h1 : St W0 X R (DoneC D :: (Ds.map DfrC ++ C)) (w.putObj D (.deferred none)) := St.upd hw (fun O ho => DfrC.shut ho)
    exact ⟨by simp, .inl ⟨D, _, rfl, run_takeDeferred hd, leaves_all Ds h1.drop h⟩⟩
section leave
variable {P : Program} {fn : Func} {G : Ending → World → Prop} {n : Nat} {l : List (Nat × Value)} {W0 : World} {X : Nat → Prop} {R C C1 : List Ch} {Ds : List Nat} {v : Value}
/-- The function returns v. -/
theorem nx_done (hC : Holds C (Ds.map DfrC ++ C1)) (hr : ∀ a w, Kn n l (dfr Ds) a → St W0 X R C1 w → (results fn a.tmps).run P w = .ok v w) (hG : ∀ w, St W0 X R C1 w → G (.returned v) w) : Nx (bodyPostM Fence.wide 0 P fn G .ret) n l (dfr Ds) W0 X R C := fun a w ha hw => by
  have : bodyPostM Fence.wide 0 P fn G .ret a w = LeavesInM Fence.wide 0 P fn a.tmps G a.defers .returning w := rfl
  rw [this, ha.defers]
  exact leaves_all Ds (hw.keep hC) (fun w' hw' => ⟨hr a w' ha hw', hG w' hw'⟩)
theorem nx_done_n (h : Nx (bodyPostM Fence.wide 0 P fn G .ret) n l (dfr Ds) W0 X R C) : Nx (bodyPostM Fence.wide 0 P fn G .normal) n l (dfr Ds) W0 X R C := h
theorem res_none (h : fn.results = #[]) {a : Act} {w : World} : (results fn a.tmps).run P w = .ok (.tuple #[]) w := results_none h _ _ _
theorem res_tmp {d : List Deferred} {t : Nat} (h : fn.results = #[.tmp t]) (hv : lk t l = some v) {a : Act} {w : World} (ha : Kn n l d a) : (results fn a.tmps).run P w = .ok v w := by
  have := ha.at_ t v hv
  have h2 : a.tmps.getD t undef = v := by simp [this]
  simp [results, h, this]
theorem res_tmp2 {d : List Deferred} {t s : Nat} {u : Value} (h : fn.results = #[.tmp t, .tmp s]) (hv : lk t l = some v) (hu : lk s l = some u) {a : Act} {w : World} (ha : Kn n l d a) : (results fn a.tmps).run P w = .ok (.tuple #[v, u]) w := by
  have h1 := ha.at_ t v hv
  have h2 := ha.at_ s u hu
  simp [results, h, h1, h2]
theorem res_tmp3 {d : List Deferred} {t s r : Nat} {u x : Value} (h : fn.results = #[.tmp t, .tmp s, .tmp r]) (hv : lk t l = some v) (hu : lk s l = some u) (hx : lk r l = some x) {a : Act} {w : World} (ha : Kn n l d a) : (results fn a.tmps).run P w = .ok (.tuple #[v, u, x]) w := by
  have h1 := ha.at_ t v hv
  have h2 := ha.at_ s u hu
  have h3 := ha.at_ r x hx
  simp [results, h, h1, h2, h3]
/-- The end of a function by a contract. -/
theorem nx_end {ι : Type} {ret : ι → Value} {R' C' : ι → List Ch} {d : List Deferred} (Ds : List Nat) (hd : d = dfr Ds) (i : ι) (hr : ∀ a w, Kn n l d a → St W0 X R (C' i) w → (results fn a.tmps).run P w = .ok (ret i) w) (hR : ∀ r ∈ R' i, r ∈ R) (hC : Holds C (Ds.map DfrC ++ C' i)) :
    Nx (bodyPostM Fence.wide 0 P fn (fun e w' => ∃ i, e = .returned (ret i) ∧ St W0 X (R' i) (C' i) w') .ret) n l d W0 X R C := by
  subst hd
  exact nx_done hC hr (fun w hw => ⟨i, rfl, hw.subR hR⟩)
theorem nx_end_n {ι : Type} {ret : ι → Value} {R' C' : ι → List Ch} {d : List Deferred} (Ds : List Nat) (hd : d = dfr Ds) (i : ι) (hr : ∀ a w, Kn n l d a → St W0 X R (C' i) w → (results fn a.tmps).run P w = .ok (ret i) w) (hR : ∀ r ∈ R' i, r ∈ R) (hC : Holds C (Ds.map DfrC ++ C' i)) :
    Nx (bodyPostM Fence.wide 0 P fn (fun e w' => ∃ i, e = .returned (ret i) ∧ St W0 X (R' i) (C' i) w') .normal) n l d W0 X R C := nx_end Ds hd i hr hR hC
/-- The same, where results lie in memory: C1 holds them. -/
theorem nx_endc {ι : Type} {ret : ι → Value} {R' C' : ι → List Ch} {d : List Deferred} (Ds : List Nat) (C1 : List Ch) (hd : d = dfr Ds) (i : ι) (hr : ∀ a w, Kn n l d a → St W0 X R C1 w → (results fn a.tmps).run P w = .ok (ret i) w) (hR : ∀ r ∈ R' i, r ∈ R) (hC : Holds C (Ds.map DfrC ++ C1)) (hC1 : Holds C1 (C' i)) :
    Nx (bodyPostM Fence.wide 0 P fn (fun e w' => ∃ i, e = .returned (ret i) ∧ St W0 X (R' i) (C' i) w') .ret) n l d W0 X R C := by
  subst hd
  exact nx_done hC hr (fun w hw => ⟨i, rfl, (hw.subR hR).keep hC1⟩)
end leave
end Go.Proofs.Ytinofjenoapeaaa
