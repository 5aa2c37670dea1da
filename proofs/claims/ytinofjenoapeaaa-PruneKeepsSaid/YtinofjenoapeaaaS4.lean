/- Rules of this claim's own, over any program: iterator values, those who call them, and a range over one. No condition. -/
import Derived.Test.YtinofjenoapeaaaS3
namespace Go.Proofs.Ytinofjenoapeaaa
open Go.RowKit Go.Shelf
set_option linter.unusedSimpArgs false
set_option linter.unusedVariables false

/-- One of a family of lists of parties. -/
def ExC {ι : Type} (f : ι → List Ch) : Ch where
  p O A := (∃ i, Sep (f i) O A) ∧ ∀ k, O k → k < A.heap.size
  st h hs hk := ⟨let ⟨i, h1⟩ := h.1; ⟨i, h1.keep hs hk⟩, fun k h1 => Nat.lt_of_lt_of_le (h.2 k h1) hs⟩
  lt h := h.2
section ex
variable {W0 : World} {X : Nat → Prop} {R C E : List Ch} {w : World} {ι : Type} {f : ι → List Ch}
theorem St.exC (h : St W0 X R (ExC f :: E) w) : ∃ i, St W0 X R (f i ++ E) w := by
  obtain ⟨ht, OR, OC, h1, ⟨O1, ⟨⟨i, hs⟩, _⟩, h2, h3⟩, h4, h5⟩ := h
  exact ⟨i, ht, OR, OC, h1, Sep.join hs h3 (fun k hk hk' => hk'.2 hk) h2 (fun k hk => hk.1), h4, h5⟩
theorem St.toEx (i : ι) (h : St W0 X R (f i ++ E) w) : St W0 X R (ExC f :: E) w := by
  obtain ⟨ht, OR, OC, h1, h2, h4, h5⟩ := h
  obtain ⟨O1, g1, g2, g3⟩ := h2.split
  exact ⟨ht, OR, OC, h1, ⟨O1, ⟨⟨i, g2⟩, fun k hk => (h5 k (g1 k hk)).2.1⟩, g1, g3⟩, h4, h5⟩
end ex

/-- A client of an iterator: what its function asks for and leaves, behind each part of what is given. -/
def YS {α : Type} (P : Program) (y : Value) (RY : List Ch) (V : α → List Value → Prop) (D : α → List Value → List Ch) (J JX : List α → Ch) (xs : List α) : Prop :=
  ∀ pre x post, xs = pre ++ x :: post → ∀ vs, V x vs → ∀ W0 X R E, (∀ r ∈ RY, r ∈ R) → Yv P y vs W0 X R (D x vs ++ (J pre :: E)) Bool Value.bool (fun _ => R) (fun b => (bif b then J (pre ++ [x]) else JX (pre ++ [x])) :: E)
/-- A part of what is given at which one may have stopped. -/
def Upto {α : Type} (xs : List α) : Type := { q : List α // ∃ pre x post, q = pre ++ [x] ∧ xs = pre ++ x :: post }
def itC {α : Type} (xs : List α) (S : List α → List Ch) (J JX : List α → Ch) (E : List Ch) : Option (Upto xs) → List Ch
  | none => J xs :: (S xs ++ E)
  | some q => JX q.1 :: (S q.1 ++ E)
/-- s is an iterator value that gives xs, as values V and parties D, in any state that holds RS; S is its own. -/
def ItS {α : Type} (P : Program) (V : α → List Value → Prop) (D : α → List Value → List Ch) (S : List α → List Ch) (xs : List α) (s : Value) (RS : List Ch) : Prop :=
  ∃ g lb, s = .func (.func g) #[] (List.toArray lb) ∧ Enters P g ∧ ∀ y RY J JX, YS P y RY V D J JX xs → (∃ f lb', y = .func f #[] lb') → ∀ W0 X R E, (∀ r ∈ RS, r ∈ R) → (∀ r ∈ RY, r ∈ R) →
    Ct P g (y :: lb) W0 X R (J [] :: (S [] ++ E)) (Option (Upto xs)) (fun _ => .tuple #[]) (fun _ => R) (itC xs S J JX E)
theorem ItS.mono {α : Type} {P : Program} {V : α → List Value → Prop} {D : α → List Value → List Ch} {S : List α → List Ch} {xs : List α} {s : Value} {RS RS' : List Ch} (h : ItS P V D S xs s RS) (hs : ∀ r ∈ RS, r ∈ RS') : ItS P V D S xs s RS' :=
  let ⟨g, lb, h1, h2, h3⟩ := h
  ⟨g, lb, h1, h2, fun y RY J JX hy hf W0 X R E hR => h3 y RY J JX hy hf W0 X R E (fun r hr => hR r (hs r hr))⟩
/-- The plain iterators of values. -/
def It (P : Program) (xs : List Value) (s : Value) (RS : List Ch) : Prop := ItS P (fun x vs => vs = [x]) (fun _ _ => []) (fun _ => []) xs s RS
theorem ItS.isFunc {α : Type} {P : Program} {V : α → List Value → Prop} {D : α → List Value → List Ch} {S : List α → List Ch} {xs : List α} {s : Value} {RS : List Ch} (h : ItS P V D S xs s RS) : ∃ f lb, s = .func f #[] lb := let ⟨_, _, h1, _⟩ := h; ⟨_, _, h1⟩
/-- f is a function value that tells p of each of xs, in any state that holds RF. -/
def PredS (P : Program) (xs : List Value) (p : Value → Bool) (f : Value) (RF : List Ch) : Prop :=
  ∃ g lb, f = .func (.func g) #[] (List.toArray lb) ∧ Enters P g ∧ ∀ W0 X R C, (∀ r ∈ RF, r ∈ R) → ∀ x ∈ xs, Ct P g (x :: lb) W0 X R C Unit (fun _ => .bool (p x)) (fun _ => R) (fun _ => C)
/-- f is a function value that makes F of each of xs. -/
def FunS (P : Program) (xs : List Value) (G : Value → Value) (f : Value) (RF : List Ch) : Prop :=
  ∃ g lb, f = .func (.func g) #[] (List.toArray lb) ∧ Enters P g ∧ ∀ W0 X R C, (∀ r ∈ RF, r ∈ R) → ∀ x ∈ xs, Ct P g (x :: lb) W0 X R C Unit (fun _ => G x) (fun _ => R) (fun _ => C)
theorem YS.at {α : Type} {P : Program} {y : Value} {RY : List Ch} {V : α → List Value → Prop} {D : α → List Value → List Ch} {J JX : List α → Ch} {xs : List α} (h : YS P y RY V D J JX xs) {pre post : List α} {x : α} (hx : xs = pre ++ x :: post) {vs : List Value} (hv : V x vs) {W0 : World} {X : Nat → Prop} {R C E : List Ch} (hR : ∀ r ∈ RY, r ∈ R)
    (hC : C.Perm (D x vs ++ (J pre :: E))) : Yv P y vs W0 X R C Bool Value.bool (fun _ => R) (fun b => (bif b then J (pre ++ [x]) else JX (pre ++ [x])) :: E) := fun w hw => h pre x post hx vs hv W0 X R E hR w (hw.perm hC)

/-! ### a range over an iterator value -/
def LoopC (L : Nat) (r : Loop) : Ch where
  p O w := w.heap[L]? = some (.loop r) ∧ ∀ k, O k ↔ k = L
  st h _ hk := ⟨(hk L ((h.2 L).2 rfl)).trans h.1, h.2⟩
  lt h k hk := by rw [(h.2 k).1 hk]; exact (Array.getElem?_eq_some_iff.1 h.1).1
def jcode : Option Nat → Code
  | none => .ret
  | some id => .exit id
/-- How a round's body may be left: CN on, CX out. -/
def RQ {ι κ : Type} (PN : ι → Prop) (CN : ι → List Ch) (PX : Option Nat → κ → Prop) (CX : Option Nat → κ → List Ch) (W0 : World) (X : Nat → Prop) (R E : List Ch) : Exit → Act → World → Prop
  | .normal, _, w => ∃ i, PN i ∧ St W0 X R (CN i ++ E) w
  | .ret, _, w => ∃ k, PX none k ∧ St W0 X R (CX none k ++ E) w
  | .exit id, _, w => ∃ k, PX (some id) k ∧ St W0 X R (CX (some id) k ++ E) w
  | _, _, _ => False
section rq
variable {ι κ : Type} {PN : ι → Prop} {CN : ι → List Ch} {PX : Option Nat → κ → Prop} {CX : Option Nat → κ → List Ch} {W0 : World} {X : Nat → Prop} {R R1 E C : List Ch} {n : Nat} {l : List (Nat × Value)} {d : List Deferred}
theorem rq_n (i : ι) (hp : PN i) (hR : ∀ r ∈ R, r ∈ R1) (hC : Holds C (CN i ++ E)) : Nx (RQ PN CN PX CX W0 X R E .normal) n l d W0 X R1 C := fun a w ha hw => ⟨i, hp, (hw.subR hR).keep hC⟩
theorem rq_r (k : κ) (hp : PX none k) (hR : ∀ r ∈ R, r ∈ R1) (hC : Holds C (CX none k ++ E)) : Nx (RQ PN CN PX CX W0 X R E .ret) n l d W0 X R1 C := fun a w ha hw => ⟨k, hp, (hw.subR hR).keep hC⟩
theorem rq_x {id : Nat} (k : κ) (hp : PX (some id) k) (hR : ∀ r ∈ R, r ∈ R1) (hC : Holds C (CX (some id) k ++ E)) : Nx (RQ PN CN PX CX W0 X R E (.exit id)) n l d W0 X R1 C := fun a w ha hw => ⟨k, hp, (hw.subR hR).keep hC⟩
end rq
/-- The temporaries of a round: yield's arguments in the parameters. -/
def argsL : List Tmp → List Value → List (Nat × Value) → List (Nat × Value)
  | p :: ps, v :: vs, l => argsL ps vs ((p, v) :: l)
  | _, _, l => l
theorem Kn.args {n : Nat} : ∀ (ps : List Tmp) (vs : List Value) (l : List (Nat × Value)) (t : Array Value), ps.all (fun p => Nat.blt p n) = true → Kn n l [] { tmps := t, defers := [] } →
    Kn n (argsL ps vs l) [] { tmps := (ps.zip vs).foldl (fun t (p, v) => t.setIfInBounds p v) t, defers := [] }
  | [], _, l, t, _, h => by simpa [argsL] using h
  | p :: ps, [], l, t, _, h => by simpa [argsL] using h
  | p :: ps, v :: vs, l, t, hp, h => by
    simp only [List.all_cons, Bool.and_eq_true] at hp
    exact Kn.args ps vs _ _ hp.2 (h.put hp.1 v)

section range
variable {F : Fence} {m : Nat} {P : Program} {Q : Exit → Act → World → Prop} {n : Nat} {l : List (Nat × Value)} {d : List Deferred} {W0 : World} {X : Nat → Prop} {R C : List Ch} {α ι κ : Type}
/-- **A RANGE OVER AN ITERATOR VALUE.** CC: the state behind each part of what is given; CX: the state of who leaves. -/
theorem nx_range (hF : IsWide F) (hro : F.round = none) {g : Operand} {ps : List Tmp} {assign body : Code} {s : Value} {V : α → List Value → Prop} {D : α → List Value → List Ch} {S : List α → List Ch} {xs : List α} {RS : List Ch} (hg : ev l g = some s) (hs : ItS P V D S xs s RS) (hRS : ∀ r ∈ RS, r ∈ R)
    (hps : ps.all (fun p => Nat.blt p n) = true) (hpl : ∀ x vs, V x vs → vs.length = ps.length)
    (PP : List α → ι → Prop) (CC : List α → ι → List Ch) (PX : List α → Option Nat → κ → Prop) (CX : List α → Option Nat → κ → List Ch) (i0 : ι) (h0 : PP [] i0) (hC : Holds C (S [] ++ CC [] i0))
    (hround : ∀ lp pre x post, xs = pre ++ x :: post → ∀ vs, V x vs → ∀ i, PP pre i → ∀ W0 X R', (∀ r ∈ R, r ∈ R') → ∀ E K,
      (∀ l' R1 C1 C', (∀ r ∈ R', r ∈ R1) → Holds C' (C1 ++ E) → (∀ E', Nx (body.wpIn (F.inRound lp) m P (RQ (PP (pre ++ [x])) (CC (pre ++ [x])) (PX (pre ++ [x])) (CX (pre ++ [x])) W0 X R' E')) n l' [] W0 X R1 (C1 ++ E')) → Nx K n l' [] W0 X R1 C') →
      Nx (assign.wpIn (F.inRound lp) m P (Exit.then K QF)) n (argsL ps vs l) [] W0 X R' (D x vs ++ (CC pre i ++ E)))
    (hdone : ∀ i, PP xs i → ∀ M, Nx (Q .normal) n l ({ target := .collected M, args := #[] } :: d) W0 X R (DfrC M :: (S xs ++ CC xs i)))
    (hstop : ∀ pre x post, xs = pre ++ x :: post → ∀ j k, PX (pre ++ [x]) j k → ∀ M, Nx ((jcode j).wpIn F m P Q) n l ({ target := .collected M, args := #[] } :: d) W0 X R (DfrC M :: (S (pre ++ [x]) ++ CX (pre ++ [x]) j k))) :
    Nx ((Code.rangeFunc g ps.toArray assign body).wpIn F m P Q) n l d W0 X R C := by
  intro a w ha hw
  obtain ⟨gf, lb, rfl, eg, hseq⟩ := hs
  refine wpIn_rangeFunc ?_
  intro fn hfn
  rw [hro]
  obtain ⟨rec, hrec⟩ : ∃ rec : LoopState → Option Code → Loop, rec = fun st pe => { state := st, pending := pe, fn, tmps := a.tmps, params := ps.toArray, assign, body, defers := w.heap.size } := ⟨_, rfl⟩
  obtain ⟨W1, hW1⟩ : ∃ W1, (w.alloc (.deferred (some []))).alloc (.loop (rec .ready none)) = W1 := ⟨_, rfl⟩
  have hs1 : W1.heap.size = w.heap.size + 2 := by rw [← hW1]; simp
  have hL1 : W1.heap[w.heap.size + 1]? = some (.loop (rec .ready none)) := by
    rw [← hW1]; have := World.alloc_heap_new (w.alloc (.deferred (some []))) (.loop (rec .ready none)); rwa [World.size_alloc] at this
  have hK1 : W1.heap[w.heap.size]? = some (.deferred (some [])) := by
    rw [← hW1]; exact (Below.heap_alloc _ _ _ (by simp)).trans (World.alloc_heap_new w _)
  have hb1 : Below w.heap.size w W1 := by rw [← hW1]; exact ((Below.refl _ _).alloc (Nat.le_refl _) _).alloc (by simp) _
  -- the state ahead of the call
  have st1 : St W0 X R (([LoopC (w.heap.size + 1) (rec .ready none)] ++ [DfrC w.heap.size]) ++ (S [] ++ CC [] i0)) W1 :=
    (hw.keep hC).newL hb1 ⟨fun k => k = w.heap.size + 1 ∨ k = w.heap.size, ⟨fun k => k = w.heap.size + 1, ⟨hL1, fun _ => Iff.rfl⟩, fun k hk => .inl hk, ⟨fun k => k = w.heap.size, ⟨hK1, fun _ => Iff.rfl⟩, fun k hk => ⟨.inr hk, by omega⟩, trivial⟩⟩, fun k hk => by omega⟩
  let Lp := w.heap.size + 1
  let J : List α → Ch := fun pre => ExC (ι := { i // PP pre i }) (fun i => LoopC Lp (rec .ready none) :: CC pre i.1)
  let JX : List α → Ch := fun q => ExC (ι := { jk : Option Nat × κ // PX q jk.1 jk.2 }) (fun jk => LoopC Lp (rec .done (some (jcode jk.1.1))) :: CX q jk.1.1 jk.1.2)
  have st2 : St W0 X R (J [] :: (S [] ++ [DfrC w.heap.size])) W1 := by
    refine St.toEx (f := fun i : { i // PP [] i } => LoopC Lp (rec .ready none) :: CC [] i.1) ⟨i0, h0⟩ (st1.perm ?_)
    show (LoopC Lp (rec .ready none) :: DfrC w.heap.size :: (S [] ++ CC [] i0)).Perm (LoopC Lp (rec .ready none) :: (CC [] i0 ++ (S [] ++ [DfrC w.heap.size])))
    refine List.Perm.cons _ ?_
    have h1 : (DfrC w.heap.size :: (S [] ++ CC [] i0)).Perm ((S [] ++ CC [] i0) ++ [DfrC w.heap.size]) := (List.perm_append_singleton _ _).symm
    refine h1.trans ?_
    rw [← List.append_assoc]
    exact List.Perm.append_right _ List.perm_append_comm
  -- the rounds
  have hY : YS P (.func (.yield Lp) #[] #[]) R V D J JX xs := by
    intro pre x post hx vs hv W0' X' R' E hR' B hB
    have hB' := hB.perm List.perm_middle
    obtain ⟨⟨i, hi⟩, hB2⟩ := hB'.exC
    have hl : B.heap[Lp]? = some (.loop (rec .ready none)) := by
      obtain ⟨_, h1⟩ := hB2.hasC (c := LoopC Lp (rec .ready none)) (by simp)
      exact h1.1
    have hy := run_yield (P := P) (args := vs.toArray) hl (by rw [hrec]; simpa using hpl x vs hv)
    rw [hrec] at hy
    refine .inl ⟨Lp, fn, _, assign, body, rfl, hy, ?_⟩
    refine (hF.roundIn isWide_wide (n := m) (roundIn_of_wpIn hfn ?_))
    have hkn : Kn n l [] { tmps := a.tmps, defers := [] } := ⟨ha.size, rfl, ha.at_⟩
    have hka := Kn.args ps vs l a.tmps hps hkn
    have hz : (ps.toArray.zip vs.toArray).foldl (fun tmps (t, a) => tmps.setIfInBounds t a) a.tmps = (ps.zip vs).foldl (fun t (p, v) => t.setIfInBounds p v) a.tmps := by
      rw [List.zip_toArray]; simp
    rw [hz]
    -- the state, the round's own parts ahead
    have hB3 : St W0' X' R' (D x vs ++ (CC pre i ++ (LoopC Lp (rec .ready none) :: E))) B := by
      refine hB2.perm ?_
      show (LoopC Lp (rec .ready none) :: (CC pre i ++ (D x vs ++ E))).Perm _
      refine List.Perm.trans ?_ (List.Perm.append_left _ List.perm_middle.symm)
      refine List.Perm.trans ?_ List.perm_middle.symm
      refine List.Perm.cons _ ?_
      rw [← List.append_assoc, ← List.append_assoc]
      exact List.Perm.append_right _ List.perm_append_comm
    refine wpIn_mono (hround Lp pre x post hx vs hv i hi W0' X' R' hR' (LoopC Lp (rec .ready none) :: E)
      (fun a1 A1 => ∃ w2, (Instr.beginRound Lp).run P A1 = .ok () w2 ∧ body.wpIn (F.inRound Lp) m P (roundPost P Lp (fun e w' => ∃ b, e = .returned (.bool b) ∧ St W0' X' R' ((bif b then J (pre ++ [x]) else JX (pre ++ [x])) :: E) w')) a1 w2) ?_ _ B hka hB3) ?_
    · intro l' R1 C1 C' hR1 hC' hbody a1 A1 ha1 hA1
      have g1 : St W0' X' R1 (C1 ++ (LoopC Lp (rec .ready none) :: E)) A1 := hA1.keep hC'
      have g2 := g1.perm List.perm_middle
      have hl1 : A1.heap[Lp]? = some (.loop (rec .ready none)) := by
        obtain ⟨_, h1⟩ := g2.hasC (c := LoopC Lp (rec .ready none)) (by simp)
        exact h1.1
      refine ⟨A1.putObj Lp (.loop { rec .ready none with state := .busy }), run_beginRound hl1 (by rw [hrec]), ?_⟩
      have turnL : ∀ (r r' : Loop) (E' : List Ch) (A : World) (RR : List Ch), St W0' X' RR (LoopC Lp r :: E') A → St W0' X' RR (LoopC Lp r' :: E') (A.putObj Lp (.loop r')) := fun r r' E' A RR h =>
        h.upd (fun O ho => ⟨O, Touch.putObj _ _ _ ((ho.2 Lp).2 rfl), ⟨World.putObj_heap_same (Array.getElem?_eq_some_iff.1 ho.1).1, ho.2⟩, fun k hk => .inl hk⟩)
      have g3 := turnL _ { rec .ready none with state := .busy } _ _ _ g2
      have g4 := g3.perm (List.perm_middle (l₁ := C1) (l₂ := E)).symm
      refine wpIn_mono (hbody (LoopC Lp { rec .ready none with state := .busy } :: E) a1 _ ha1 g4) ?_
      have hrs : ∀ st pe, rec st pe = { rec .ready none with state := st, pending := pe } := fun st pe => by rw [hrec]
      have fin : ∀ (jump : Option Code) (st : LoopState) (C2 : List Ch) (A : World), (if jump.isNone then LoopState.ready else LoopState.done) = st → St W0' X' R' (C2 ++ (LoopC Lp { rec .ready none with state := .busy } :: E)) A →
          (Instr.endRound Lp jump).run P A = .ok (.bool jump.isNone) (A.putObj Lp (.loop (rec st jump))) ∧ St W0' X' R' ((LoopC Lp (rec st jump) :: C2) ++ E) (A.putObj Lp (.loop (rec st jump))) := fun jump st C2 A hst h => by
        have h1 := h.perm List.perm_middle
        have hl2 : A.heap[Lp]? = some (.loop { rec .ready none with state := .busy }) := by
          obtain ⟨_, h2⟩ := h1.hasC (c := LoopC Lp { rec .ready none with state := .busy }) (by simp)
          exact h2.1
        have h3 := run_endRound (P := P) jump hl2
        rw [hst] at h3
        refine ⟨by rw [h3, hrs st jump], ?_⟩
        exact turnL _ (rec st jump) _ _ _ h1
      rintro e a3 A3 hp
      cases e with
      | normal =>
        obtain ⟨i', hp1, hp2⟩ := hp
        obtain ⟨q1, q2⟩ := fin none .ready _ A3 rfl hp2
        exact ⟨_, _, q1, true, rfl, St.toEx (f := fun i : { i // PP (pre ++ [x]) i } => LoopC Lp (rec .ready none) :: CC (pre ++ [x]) i.1) ⟨i', hp1⟩ q2⟩
      | ret =>
        obtain ⟨k, hp1, hp2⟩ := hp
        obtain ⟨q1, q2⟩ := fin (some .ret) .done _ A3 rfl hp2
        exact ⟨_, _, q1, false, rfl, St.toEx (f := fun jk : { jk : Option Nat × κ // PX (pre ++ [x]) jk.1 jk.2 } => LoopC Lp (rec .done (some (jcode jk.1.1))) :: CX (pre ++ [x]) jk.1.1 jk.1.2) ⟨(none, k), hp1⟩ q2⟩
      | exit id =>
        obtain ⟨k, hp1, hp2⟩ := hp
        obtain ⟨q1, q2⟩ := fin (some (.exit id)) .done _ A3 rfl hp2
        exact ⟨_, _, q1, false, rfl, St.toEx (f := fun jk : { jk : Option Nat × κ // PX (pre ++ [x]) jk.1 jk.2 } => LoopC Lp (rec .done (some (jcode jk.1.1))) :: CX (pre ++ [x]) jk.1.1 jk.1.2) ⟨(some id, k), hp1⟩ q2⟩
      | goto t => exact hp.elim
      | panic ch => exact hp.elim
      | outgrown => exact hp.elim
    · rintro e a1 A1 hp
      cases e with
      | normal => exact hp
      | exit id => exact hp.elim
      | goto t => exact hp.elim
      | ret => exact hp.elim
      | panic ch => exact hp.elim
      | outgrown => exact hp.elim
  refine ⟨w.heap.size + 1, [{ target := .collected w.heap.size, args := #[] }], W1, { target := .fn (.func gf) lb.toArray, args := #[.func (.yield (w.heap.size + 1)) #[] #[]] }, W1, gf,
    #[.func (.yield (w.heap.size + 1)) #[] #[]] ++ lb.toArray, W1, ?_, ?_, ?_, ?_, fun hd => absurd hd (by rw [hF.depth]; simp), ?_⟩
  · rw [← hW1, hrec]; exact run_enterLoop_outer _ _ _ _ _
  · have hgv : a.eval g = .func (.func gf) #[] lb.toArray := ha.eval hg
    simp only [resolve, hgv]
    simp [go_sem]
  · intro f' _; exact hF.fn _
  · have := eg (#[.func (.yield (w.heap.size + 1)) #[] #[]] ++ lb.toArray) W1
    simpa [invoke, go_sem] using this
  · refine hF.callsIn ?_
    have hcall := hseq (.func (.yield Lp) #[] #[]) R J JX hY ⟨_, _, rfl⟩ W0 X R [DfrC w.heap.size] hRS (fun _ h => h) W1 st2
    have he : ((.func (.yield Lp) #[] #[] :: lb).toArray : Array Value) = #[.func (.yield (w.heap.size + 1)) #[] #[]] ++ lb.toArray := by simp [Lp]
    rw [he] at hcall
    refine hcall.mono ?_
    rintro e B ⟨q, rfl, hB⟩
    have turnL : ∀ (r r' : Loop) (E' : List Ch) (A : World), St W0 X R (LoopC Lp r :: E') A → St W0 X R E' (A.putObj Lp (.loop r')) := fun r r' E' A h =>
      St.drop (c := LoopC Lp r') (h.upd (fun O ho => ⟨O, Touch.putObj _ _ _ ((ho.2 Lp).2 rfl), ⟨World.putObj_heap_same (Array.getElem?_eq_some_iff.1 ho.1).1, ho.2⟩, fun k hk => .inl hk⟩))
    have hka : ∀ M, Kn n l ({ target := .collected M, args := #[] } :: d) { a with defers := [{ target := .collected M, args := #[] }] ++ a.defers } := fun M => ⟨ha.size, by simp [ha.defers], ha.at_⟩
    cases q with
    | none =>
      obtain ⟨⟨i, hi⟩, h1⟩ := St.exC (f := fun i : { i // PP xs i } => LoopC Lp (rec .ready none) :: CC xs i.1) hB
      have hl : B.heap[Lp]? = some (.loop (rec .ready none)) := by
        obtain ⟨_, h2⟩ := h1.hasC (c := LoopC Lp (rec .ready none)) (by simp)
        exact h2.1
      have hend := run_endLoop (P := P) hl (by rw [hrec]; simp)
      rw [hrec] at hend
      refine ⟨none, _, hend, ?_⟩
      have h2 := turnL (rec .ready none) { state := .exhausted, pending := none, fn, tmps := a.tmps, params := ps.toArray, assign, body, defers := w.heap.size } _ _ h1
      refine hdone i hi w.heap.size _ _ (hka _) (h2.perm ?_)
      show (CC xs i ++ (S xs ++ [DfrC w.heap.size])).Perm _
      rw [← List.append_assoc]
      exact (List.perm_append_singleton _ _).trans (List.Perm.cons _ List.perm_append_comm)
    | some q =>
      obtain ⟨q, pre, x, post, rfl, hx⟩ := q
      obtain ⟨⟨⟨j, k⟩, hjk⟩, h1⟩ := St.exC (f := fun jk : { jk : Option Nat × κ // PX (pre ++ [x]) jk.1 jk.2 } => LoopC Lp (rec .done (some (jcode jk.1.1))) :: CX (pre ++ [x]) jk.1.1 jk.1.2) hB
      have hl : B.heap[Lp]? = some (.loop (rec .done (some (jcode j)))) := by
        obtain ⟨_, h2⟩ := h1.hasC (c := LoopC Lp (rec .done (some (jcode j)))) (by simp)
        exact h2.1
      have hend := run_endLoop (P := P) hl (by rw [hrec]; simp)
      rw [hrec] at hend
      refine ⟨some (jcode j), _, hend, ?_⟩
      have h2 := turnL (rec .done (some (jcode j))) { state := .exhausted, pending := some (jcode j), fn, tmps := a.tmps, params := ps.toArray, assign, body, defers := w.heap.size } _ _ h1
      refine hstop pre x post hx j k hjk w.heap.size _ _ (hka _) (h2.perm ?_)
      show (CX (pre ++ [x]) j k ++ (S (pre ++ [x]) ++ [DfrC w.heap.size])).Perm _
      rw [← List.append_assoc]
      exact (List.perm_append_singleton _ _).trans (List.Perm.cons _ List.perm_append_comm)
end range
end Go.Proofs.Ytinofjenoapeaaa
