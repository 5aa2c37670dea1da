/- Iterator values whose end has a state of its own; many owned rows as one party. No condition. -/
import Derived.Test.YtncjgkghhcpagaaS9
namespace Go.Proofs.Ytncjgkghhcpagaa
open Go.RowKit Go.Shelf
set_option linter.unusedSimpArgs false
set_option linter.unusedVariables false
def itCE {α : Type} (xs : List α) (S : List α → List Ch) (Z : List Ch) (J JX : List α → Ch) (E : List Ch) : Option (Upto xs) → List Ch
  | none => J xs :: (Z ++ E)
  | some q => JX q.1 :: (S q.1 ++ E)
/-- As ItS; Z is its own where all was given. -/
def ItE {α : Type} (P : Program) (V : α → List Value → Prop) (D : α → List Value → List Ch) (S : List α → List Ch) (Z : List Ch) (xs : List α) (s : Value) (RS : List Ch) : Prop :=
  ∃ g lb, s = .func (.func g) #[] (List.toArray lb) ∧ Enters P g ∧ ∀ y RY J JX, YS P y RY V D J JX xs → (∃ f lb', y = .func f #[] lb') → ∀ W0 X R E, (∀ r ∈ RS, r ∈ R) → (∀ r ∈ RY, r ∈ R) →
    Ct P g (y :: lb) W0 X R (J [] :: (S [] ++ E)) (Option (Upto xs)) (fun _ => .tuple #[]) (fun _ => R) (itCE xs S Z J JX E)
theorem ItS.e {α : Type} {P : Program} {V : α → List Value → Prop} {D : α → List Value → List Ch} {S : List α → List Ch} {xs : List α} {s : Value} {RS : List Ch} (h : ItS P V D S xs s RS) : ItE P V D S (S xs) xs s RS := by
  obtain ⟨g, lb, h1, h2, h3⟩ := h
  refine ⟨g, lb, h1, h2, fun y RY J JX hy hf W0 X R E hR hRY w hw => (h3 y RY J JX hy hf W0 X R E hR hRY w hw).mono ?_⟩
  rintro e w' ⟨q, h4, h5⟩
  refine ⟨q, h4, ?_⟩
  cases q with
  | none => exact h5
  | some q => exact h5
/-- The plain ones: one value a time, one party of its own. -/
def ItZ (P : Program) (SP : List Value → Ch) (ZP : Ch) (xs : List Value) (s : Value) (RS : List Ch) : Prop := ItE P (fun x vs => vs = [x]) (fun _ _ => []) (fun q => [SP q]) [ZP] xs s RS
theorem ItZ.fn {P : Program} {SP : List Value → Ch} {ZP : Ch} {xs : List Value} {s : Value} {RS : List Ch} (h : ItZ P SP ZP xs s RS) : fnB s = true := by obtain ⟨_, _, rfl, _⟩ := h; rfl
theorem ItZ.cast {P : Program} {SP SP' : List Value → Ch} {ZP ZP' : Ch} {xs xs' : List Value} {s : Value} {RS : List Ch} (h : ItZ P SP ZP xs s RS) (h1 : SP = SP') (h2 : ZP = ZP') (h3 : xs = xs') : ItZ P SP' ZP' xs' s RS := by subst h1 h2 h3; exact h

section range
variable {F : Fence} {m : Nat} {P : Program} {Q : Exit → Act → World → Prop} {n : Nat} {l : List (Nat × Value)} {d : List Deferred} {W0 : World} {X : Nat → Prop} {R C : List Ch} {α ι κ : Type}
/-- **A RANGE OVER AN ITERATOR VALUE** whose end has a state of its own. CC: the state behind each part of what is given; CX: the state of who leaves. -/
theorem nx_rangeE (hF : IsWide F) (hro : F.round = none) {g : Operand} {ps : List Tmp} {assign body : Code} {s : Value} {V : α → List Value → Prop} {D : α → List Value → List Ch} {S : List α → List Ch} {Z : List Ch} {xs : List α} {RS : List Ch} (hg : ev l g = some s) (hs : ItE P V D S Z xs s RS) (hRS : ∀ r ∈ RS, r ∈ R)
    (hps : ps.all (fun p => Nat.blt p n) = true) (hpl : ∀ x vs, V x vs → vs.length = ps.length)
    (PP : List α → ι → Prop) (CC : List α → ι → List Ch) (PX : List α → Option Nat → κ → Prop) (CX : List α → Option Nat → κ → List Ch) (i0 : ι) (h0 : PP [] i0) (hC : Holds C (S [] ++ CC [] i0))
    (hround : ∀ lp pre x post, xs = pre ++ x :: post → ∀ vs, V x vs → ∀ i, PP pre i → ∀ W0 X R', (∀ r ∈ R, r ∈ R') → ∀ E K,
      (∀ l' R1 C1 C', (∀ r ∈ R', r ∈ R1) → Holds C' (C1 ++ E) → (∀ E', Nx (body.wpIn (F.inRound lp) m P (RQ (PP (pre ++ [x])) (CC (pre ++ [x])) (PX (pre ++ [x])) (CX (pre ++ [x])) W0 X R' E')) n l' [] W0 X R1 (C1 ++ E')) → Nx K n l' [] W0 X R1 C') →
      Nx (assign.wpIn (F.inRound lp) m P (Exit.then K QF)) n (argsL ps vs l) [] W0 X R' (D x vs ++ (CC pre i ++ E)))
    (hdone : ∀ i, PP xs i → ∀ M, Nx (Q .normal) n l ({ target := .collected M, args := #[] } :: d) W0 X R (DfrC M :: (Z ++ CC xs i)))
    (hstop : ∀ pre x post, xs = pre ++ x :: post → ∀ j k, PX (pre ++ [x]) j k → ∀ M, Nx ((jcode j).wpIn F m P Q) n l ({ target := .collected M, args := #[] } :: d) W0 X R (DfrC M :: (S (pre ++ [x]) ++ CX (pre ++ [x]) j k))) :
    Nx ((Code.rangeFunc g ps.toArray assign body).wpIn F m P Q) n l d W0 X R C := by
  intro a w ha hw
  obtain ⟨gf, lb, rfl, eg, hseq⟩ := hs
  refine wpIn_rangeFunc ?_
  intro fn hfn
  rw [hro]
  obtain ⟨rec, hrec⟩ : ∃ rec : LoopState → Option Code → Loop, rec = fun st pe => { state := st, pending := pe, fn, tmps := a.tmps, params := ps.toArray, assign, body, defers := w.heap.size } := ⟨_, rfl⟩
  obtain ⟨W1, hW1⟩ : ∃ W1, (w.alloc (.deferred (some []))).alloc (.loop (rec .ready none)) = W1 := ⟨_, rfl⟩
  have hs1 : W1.heap.size = w.heap.size + 2 := by rw [← hW1]; simp
  have hL1 : W1.heap[w.heap.size + 1]? = some (.loop (rec .ready none)) := by
    rw [← hW1]; have := World.alloc_heap_new (w.alloc (.deferred (some []))) (.loop (rec .ready none)); rwa [World.size_alloc] at this
  have hK1 : W1.heap[w.heap.size]? = some (.deferred (some [])) := by
    rw [← hW1]; exact (Below.heap_alloc _ _ _ (by simp)).trans (World.alloc_heap_new w _)
  have hb1 : Below w.heap.size w W1 := by rw [← hW1]; exact ((Below.refl _ _).alloc (Nat.le_refl _) _).alloc (by simp) _
  -- the state ahead of the call
  have st1 : St W0 X R (([LoopC (w.heap.size + 1) (rec .ready none)] ++ [DfrC w.heap.size]) ++ (S [] ++ CC [] i0)) W1 :=
    (hw.keep hC).newL hb1 ⟨fun k => k = w.heap.size + 1 ∨ k = w.heap.size, ⟨fun k => k = w.heap.size + 1, ⟨hL1, fun _ => Iff.rfl⟩, fun k hk => .inl hk, ⟨fun k => k = w.heap.size, ⟨hK1, fun _ => Iff.rfl⟩, fun k hk => ⟨.inr hk, by omega⟩, trivial⟩⟩, fun k hk => by omega⟩
  let Lp := w.heap.size + 1
  let J : List α → Ch := fun pre => ExC (ι := { i // PP pre i }) (fun i => LoopC Lp (rec .ready none) :: CC pre i.1)
  let JX : List α → Ch := fun q => ExC (ι := { jk : Option Nat × κ // PX q jk.1 jk.2 }) (fun jk => LoopC Lp (rec .done (some (jcode jk.1.1))) :: CX q jk.1.1 jk.1.2)
  have st2 : St W0 X R (J [] :: (S [] ++ [DfrC w.heap.size])) W1 := by
    refine St.toEx (f := fun i : { i // PP [] i } => LoopC Lp (rec .ready none) :: CC [] i.1) ⟨i0, h0⟩ (st1.perm ?_)
    show (LoopC Lp (rec .ready none) :: DfrC w.heap.size :: (S [] ++ CC [] i0)).Perm (LoopC Lp (rec .ready none) :: (CC [] i0 ++ (S [] ++ [DfrC w.heap.size])))
    refine List.Perm.cons _ ?_
    have h1 : (DfrC w.heap.size :: (S [] ++ CC [] i0)).Perm ((S [] ++ CC [] i0) ++ [DfrC w.heap.size]) := (List.perm_append_singleton _ _).symm
    refine h1.trans ?_
    rw [← List.append_assoc]
    exact List.Perm.append_right _ List.perm_append_comm
  -- the rounds
  have hY : YS P (.func (.yield Lp) #[] #[]) R V D J JX xs := by
    intro pre x post hx vs hv W0' X' R' E hR' B hB
    have hB' := hB.perm List.perm_middle
    obtain ⟨⟨i, hi⟩, hB2⟩ := hB'.exC
    have hl : B.heap[Lp]? = some (.loop (rec .ready none)) := by
      obtain ⟨_, h1⟩ := hB2.hasC (c := LoopC Lp (rec .ready none)) (by simp)
      exact h1.1
    have hy := run_yield (P := P) (args := vs.toArray) hl (by rw [hrec]; simpa using hpl x vs hv)
    rw [hrec] at hy
    refine .inl ⟨Lp, fn, _, assign, body, rfl, hy, ?_⟩
    refine (hF.roundIn isWide_wide (n := m) (roundIn_of_wpIn hfn ?_))
    have hkn : Kn n l [] { tmps := a.tmps, defers := [] } := ⟨ha.size, rfl, ha.at_⟩
    have hka := Kn.args ps vs l a.tmps hps hkn
    have hz : (ps.toArray.zip vs.toArray).foldl (fun tmps (t, a) => tmps.setIfInBounds t a) a.tmps = (ps.zip vs).foldl (fun t (p, v) => t.setIfInBounds p v) a.tmps := by
      rw [List.zip_toArray]; simp
    rw [hz]
    -- the state, the round's own parts ahead
    have hB3 : St W0' X' R' (D x vs ++ (CC pre i ++ (LoopC Lp (rec .ready none) :: E))) B := by
      refine hB2.perm ?_
      show (LoopC Lp (rec .ready none) :: (CC pre i ++ (D x vs ++ E))).Perm _
      refine List.Perm.trans ?_ (List.Perm.append_left _ List.perm_middle.symm)
      refine List.Perm.trans ?_ List.perm_middle.symm
      refine List.Perm.cons _ ?_
      rw [← List.append_assoc, ← List.append_assoc]
      exact List.Perm.append_right _ List.perm_append_comm
    refine wpIn_mono (hround Lp pre x post hx vs hv i hi W0' X' R' hR' (LoopC Lp (rec .ready none) :: E)
      (fun a1 A1 => ∃ w2, (Instr.beginRound Lp).run P A1 = .ok () w2 ∧ body.wpIn (F.inRound Lp) m P (roundPost P Lp (fun e w' => ∃ b, e = .returned (.bool b) ∧ St W0' X' R' ((bif b then J (pre ++ [x]) else JX (pre ++ [x])) :: E) w')) a1 w2) ?_ _ B hka hB3) ?_
    · intro l' R1 C1 C' hR1 hC' hbody a1 A1 ha1 hA1
      have g1 : St W0' X' R1 (C1 ++ (LoopC Lp (rec .ready none) :: E)) A1 := hA1.keep hC'
      have g2 := g1.perm List.perm_middle
      have hl1 : A1.heap[Lp]? = some (.loop (rec .ready none)) := by
        obtain ⟨_, h1⟩ := g2.hasC (c := LoopC Lp (rec .ready none)) (by simp)
        exact h1.1
      refine ⟨A1.putObj Lp (.loop { rec .ready none with state := .busy }), run_beginRound hl1 (by rw [hrec]), ?_⟩
      have turnL : ∀ (r r' : Loop) (E' : List Ch) (A : World) (RR : List Ch), St W0' X' RR (LoopC Lp r :: E') A → St W0' X' RR (LoopC Lp r' :: E') (A.putObj Lp (.loop r')) := fun r r' E' A RR h =>
        h.upd (fun O ho => ⟨O, Touch.putObj _ _ _ ((ho.2 Lp).2 rfl), ⟨World.putObj_heap_same (Array.getElem?_eq_some_iff.1 ho.1).1, ho.2⟩, fun k hk => .inl hk⟩)
      have g3 := turnL _ { rec .ready none with state := .busy } _ _ _ g2
      have g4 := g3.perm (List.perm_middle (l₁ := C1) (l₂ := E)).symm
      refine wpIn_mono (hbody (LoopC Lp { rec .ready none with state := .busy } :: E) a1 _ ha1 g4) ?_
      have hrs : ∀ st pe, rec st pe = { rec .ready none with state := st, pending := pe } := fun st pe => by rw [hrec]
      have fin : ∀ (jump : Option Code) (st : LoopState) (C2 : List Ch) (A : World), (if jump.isNone then LoopState.ready else LoopState.done) = st → St W0' X' R' (C2 ++ (LoopC Lp { rec .ready none with state := .busy } :: E)) A →
          (Instr.endRound Lp jump).run P A = .ok (.bool jump.isNone) (A.putObj Lp (.loop (rec st jump))) ∧ St W0' X' R' ((LoopC Lp (rec st jump) :: C2) ++ E) (A.putObj Lp (.loop (rec st jump))) := fun jump st C2 A hst h => by
        have h1 := h.perm List.perm_middle
        have hl2 : A.heap[Lp]? = some (.loop { rec .ready none with state := .busy }) := by
          obtain ⟨_, h2⟩ := h1.hasC (c := LoopC Lp { rec .ready none with state := .busy }) (by simp)
          exact h2.1
        have h3 := run_endRound (P := P) jump hl2
        rw [hst] at h3
        refine ⟨by rw [h3, hrs st jump], ?_⟩
        exact turnL _ (rec st jump) _ _ _ h1
      rintro e a3 A3 hp
      cases e with
      | normal =>
        obtain ⟨i', hp1, hp2⟩ := hp
        obtain ⟨q1, q2⟩ := fin none .ready _ A3 rfl hp2
        exact ⟨_, _, q1, true, rfl, St.toEx (f := fun i : { i // PP (pre ++ [x]) i } => LoopC Lp (rec .ready none) :: CC (pre ++ [x]) i.1) ⟨i', hp1⟩ q2⟩
      | ret =>
        obtain ⟨k, hp1, hp2⟩ := hp
        obtain ⟨q1, q2⟩ := fin (some .ret) .done _ A3 rfl hp2
        exact ⟨_, _, q1, false, rfl, St.toEx (f := fun jk : { jk : Option Nat × κ // PX (pre ++ [x]) jk.1 jk.2 } => LoopC Lp (rec .done (some (jcode jk.1.1))) :: CX (pre ++ [x]) jk.1.1 jk.1.2) ⟨(none, k), hp1⟩ q2⟩
      | exit id =>
        obtain ⟨k, hp1, hp2⟩ := hp
        obtain ⟨q1, q2⟩ := fin (some (.exit id)) .done _ A3 rfl hp2
        exact ⟨_, _, q1, false, rfl, St.toEx (f := fun jk : { jk : Option Nat × κ // PX (pre ++ [x]) jk.1 jk.2 } => LoopC Lp (rec .done (some (jcode jk.1.1))) :: CX (pre ++ [x]) jk.1.1 jk.1.2) ⟨(some id, k), hp1⟩ q2⟩
      | goto t => exact hp.elim
      | panic ch => exact hp.elim
      | outgrown => exact hp.elim
    · rintro e a1 A1 hp
      cases e with
      | normal => exact hp
      | exit id => exact hp.elim
      | goto t => exact hp.elim
      | ret => exact hp.elim
      | panic ch => exact hp.elim
      | outgrown => exact hp.elim
  refine ⟨w.heap.size + 1, [{ target := .collected w.heap.size, args := #[] }], W1, { target := .fn (.func gf) lb.toArray, args := #[.func (.yield (w.heap.size + 1)) #[] #[]] }, W1, gf,
    #[.func (.yield (w.heap.size + 1)) #[] #[]] ++ lb.toArray, W1, ?_, ?_, ?_, ?_, fun hd => absurd hd (by rw [hF.depth]; simp), ?_⟩
  · rw [← hW1, hrec]; exact run_enterLoop_outer _ _ _ _ _
  · have hgv : a.eval g = .func (.func gf) #[] lb.toArray := ha.eval hg
    simp only [resolve, hgv]
    simp [go_sem]
  · intro f' _; exact hF.fn _
  · have := eg (#[.func (.yield (w.heap.size + 1)) #[] #[]] ++ lb.toArray) W1
    simpa [invoke, go_sem] using this
  · refine hF.callsIn ?_
    have hcall := hseq (.func (.yield Lp) #[] #[]) R J JX hY ⟨_, _, rfl⟩ W0 X R [DfrC w.heap.size] hRS (fun _ h => h) W1 st2
    have he : ((.func (.yield Lp) #[] #[] :: lb).toArray : Array Value) = #[.func (.yield (w.heap.size + 1)) #[] #[]] ++ lb.toArray := by simp [Lp]
    rw [he] at hcall
    refine hcall.mono ?_
    rintro e B ⟨q, rfl, hB⟩
    have turnL : ∀ (r r' : Loop) (E' : List Ch) (A : World), St W0 X R (LoopC Lp r :: E') A → St W0 X R E' (A.putObj Lp (.loop r')) := fun r r' E' A h =>
      St.drop (c := LoopC Lp r') (h.upd (fun O ho => ⟨O, Touch.putObj _ _ _ ((ho.2 Lp).2 rfl), ⟨World.putObj_heap_same (Array.getElem?_eq_some_iff.1 ho.1).1, ho.2⟩, fun k hk => .inl hk⟩))
    have hka : ∀ M, Kn n l ({ target := .collected M, args := #[] } :: d) { a with defers := [{ target := .collected M, args := #[] }] ++ a.defers } := fun M => ⟨ha.size, by simp [ha.defers], ha.at_⟩
    cases q with
    | none =>
      obtain ⟨⟨i, hi⟩, h1⟩ := St.exC (f := fun i : { i // PP xs i } => LoopC Lp (rec .ready none) :: CC xs i.1) hB
      have hl : B.heap[Lp]? = some (.loop (rec .ready none)) := by
        obtain ⟨_, h2⟩ := h1.hasC (c := LoopC Lp (rec .ready none)) (by simp)
        exact h2.1
      have hend := run_endLoop (P := P) hl (by rw [hrec]; simp)
      rw [hrec] at hend
      refine ⟨none, _, hend, ?_⟩
      have h2 := turnL (rec .ready none) { state := .exhausted, pending := none, fn, tmps := a.tmps, params := ps.toArray, assign, body, defers := w.heap.size } _ _ h1
      refine hdone i hi w.heap.size _ _ (hka _) (h2.perm ?_)
      show (CC xs i ++ (Z ++ [DfrC w.heap.size])).Perm _
      rw [← List.append_assoc]
      exact (List.perm_append_singleton _ _).trans (List.Perm.cons _ List.perm_append_comm)
    | some q =>
      obtain ⟨q, pre, x, post, rfl, hx⟩ := q
      obtain ⟨⟨⟨j, k⟩, hjk⟩, h1⟩ := St.exC (f := fun jk : { jk : Option Nat × κ // PX (pre ++ [x]) jk.1 jk.2 } => LoopC Lp (rec .done (some (jcode jk.1.1))) :: CX (pre ++ [x]) jk.1.1 jk.1.2) hB
      have hl : B.heap[Lp]? = some (.loop (rec .done (some (jcode j)))) := by
        obtain ⟨_, h2⟩ := h1.hasC (c := LoopC Lp (rec .done (some (jcode j)))) (by simp)
        exact h2.1
      have hend := run_endLoop (P := P) hl (by rw [hrec]; simp)
      rw [hrec] at hend
      refine ⟨some (jcode j), _, hend, ?_⟩
      have h2 := turnL (rec .done (some (jcode j))) { state := .exhausted, pending := some (jcode j), fn, tmps := a.tmps, params := ps.toArray, assign, body, defers := w.heap.size } _ _ h1
      refine hstop pre x post hx j k hjk w.heap.size _ _ (hka _) (h2.perm ?_)
      show (CX (pre ++ [x]) j k ++ (S (pre ++ [x]) ++ [DfrC w.heap.size])).Perm _
      rw [← List.append_assoc]
      exact (List.perm_append_singleton _ _).trans (List.Perm.cons _ List.perm_append_comm)
end range

/-- What was asked for when the j-th one kept was given. -/
def uptoK (p : Value → Bool) : List Value → Nat → List Value
  | _, 0 => []
  | [], _ + 1 => []
  | x :: xs, j + 1 => if p x then x :: uptoK p xs j else x :: uptoK p xs (j + 1)
theorem uptoK_zero (p : Value → Bool) (xs : List Value) : uptoK p xs 0 = [] := by cases xs <;> rfl
theorem uptoK_at (p : Value → Bool) : ∀ (pre : List Value) (x : Value) (post : List Value), p x = true → uptoK p (pre ++ x :: post) ((pre ++ [x]).filter p).length = pre ++ [x]
  | [], x, post, h => by simp [h, uptoK, uptoK_zero]
  | y :: pre, x, post, h => by
    have ih := uptoK_at p pre x post h
    cases hy : p y with
    | true => simp only [List.cons_append, List.filter_cons, hy, if_true, List.length_cons]; rw [uptoK, if_pos hy, ih]
    | false =>
      have hl : ∃ j, ((pre ++ [x]).filter p).length = j + 1 := ⟨(pre.filter p).length, by simp [h]⟩
      obtain ⟨j, hj⟩ := hl
      simp only [List.cons_append, List.filter_cons, hy, Bool.false_eq_true, if_false]
      rw [hj] at ih ⊢
      rw [uptoK, if_neg (by simp [hy]), ih]
def untZ (p : Value → Bool) (SP : List Value → Ch) (ZP : Ch) (xs : List Value) : Ch := if (xs.takeWhile fun z => !p z).length = xs.length then ZP else SP (xs.take ((xs.takeWhile fun z => !p z).length + 1))
def fndZ (p : Value → Bool) (SP : List Value → Ch) (ZP : Ch) (xs : List Value) : Ch := bif (xs.filter p).isEmpty then ZP else SP (uptoK p xs 1)
/-! ### what was asked for -/
theorem tw_le {p : Value → Bool} : ∀ (L : List Value), (L.takeWhile fun z => !p z).length ≤ L.length
  | [] => by simp
  | x :: xs => by
    have := tw_le (p := p) xs
    rw [List.takeWhile_cons]; split <;> simp; omega
theorem tw_find {p : Value → Bool} : ∀ (L : List Value), L.find? p = L[(L.takeWhile fun z => !p z).length]?
  | [] => by simp
  | x :: xs => by
    rw [List.takeWhile_cons, List.find?_cons]
    cases h : p x with
    | true => simp [h]
    | false => simp [h, tw_find (p := p) xs]
theorem tw_filter {p : Value → Bool} : ∀ (L : List Value), (L.filter p).isEmpty = decide ((L.takeWhile fun z => !p z).length = L.length)
  | [] => by simp
  | x :: xs => by
    rw [List.takeWhile_cons, List.filter_cons]
    cases h : p x with
    | true => simp
    | false => simp [h, tw_filter (p := p) xs]
theorem uptoK_one {p : Value → Bool} : ∀ (L : List Value), (L.takeWhile fun z => !p z).length < L.length → (uptoK p L 1).length = (L.takeWhile fun z => !p z).length + 1
  | [], h => by simp at h
  | x :: xs, h => by
    rw [List.takeWhile_cons] at h ⊢
    rw [uptoK]
    cases hx : p x with
    | true => simp [hx, uptoK_zero]
    | false =>
      simp only [hx, Bool.not_false, if_true, List.length_cons] at h ⊢
      simp [uptoK_one (p := p) xs (by omega)]
/-- How many are asked for until one is so. -/
def asksOf (p : Value → Bool) (L : List Value) : Nat := if (L.takeWhile fun z => !p z).length < L.length then (L.takeWhile fun z => !p z).length + 1 else L.length
theorem untZ_box (f : Nat → Ch) (p : Value → Bool) (L : List Value) : untZ p (fun q => f q.length) (f L.length) L = f (asksOf p L) := by
  have := tw_le (p := p) L
  unfold untZ asksOf
  by_cases h : (L.takeWhile fun z => !p z).length = L.length
  · rw [if_pos h, if_neg (by omega)]
  · rw [if_neg h, if_pos (by omega)]; dsimp only; rw [List.length_take, Nat.min_eq_left (by omega)]
theorem fndZ_box (f : Nat → Ch) (p : Value → Bool) (L : List Value) : fndZ p (fun q => f q.length) (f L.length) L = f (asksOf p L) := by
  have := tw_le (p := p) L
  unfold fndZ asksOf
  rw [tw_filter]
  by_cases h : (L.takeWhile fun z => !p z).length = L.length
  · rw [decide_eq_true h, if_neg (by omega)]; rfl
  · rw [decide_eq_false h, if_pos (by omega)]
    show f (uptoK p L 1).length = _
    rw [uptoK_one L (by omega)]
/-- Owned rows, as one party. -/
def RowsC (T : TypeId) (k : Nat) (vs : List Value) (cs : List (List Value)) : Ch := ExC (ι := Unit) (fun _ => List.zipWith (fun v c => RowC T k v c) vs cs)
section rows
variable {Q : Act → World → Prop} {n : Nat} {l : List (Nat × Value)} {d : List Deferred} {W0 : World} {X : Nat → Prop} {R C : List Ch} {T k : Nat} {v : Value} {c : List Value} {vs : List Value} {cs : List (List Value)}
theorem nx_rowsNil (h : Nx Q n l d W0 X R (RowsC T k [] [] :: C)) : Nx Q n l d W0 X R C := fun a w ha hw => h a w ha (St.toEx (f := fun _ : Unit => List.zipWith (fun v c => RowC T k v c) [] []) () hw)
theorem nx_rowsSnoc (hl : vs.length = cs.length) (h : Nx Q n l d W0 X R (RowsC T k (vs ++ [v]) (cs ++ [c]) :: C)) : Nx Q n l d W0 X R (RowC T k v c :: RowsC T k vs cs :: C) := fun a w ha hw => by
  have h1 := (hw.perm (List.Perm.swap _ _ _))
  obtain ⟨_, h2⟩ := St.exC (f := fun _ : Unit => List.zipWith (fun v c => RowC T k v c) vs cs) h1
  refine h a w ha (St.toEx (f := fun _ : Unit => List.zipWith (fun v c => RowC T k v c) (vs ++ [v]) (cs ++ [c])) () ?_)
  rw [List.zipWith_append hl]
  simpa using h2
theorem nx_rowsSnocP {E1 E2 : List Ch} (hp1 : Pick C (RowC T k v c) E1) (hp2 : Pick E1 (RowsC T k vs cs) E2) (hl : vs.length = cs.length) (h : Nx Q n l d W0 X R (RowsC T k (vs ++ [v]) (cs ++ [c]) :: E2)) : Nx Q n l d W0 X R C := nx_perm (hp1.trans (List.Perm.cons _ hp2)) (nx_rowsSnoc hl h)
theorem nx_rowsInit (hl : vs.length = cs.length) (h : Nx Q n l d W0 X R (RowC T k v c :: RowsC T k vs cs :: C)) : Nx Q n l d W0 X R (RowsC T k (vs ++ [v]) (cs ++ [c]) :: C) := fun a w ha hw => by
  obtain ⟨_, h1⟩ := St.exC (f := fun _ : Unit => List.zipWith (fun v c => RowC T k v c) (vs ++ [v]) (cs ++ [c])) hw
  rw [List.zipWith_append hl] at h1
  have h2 : St W0 X R (List.zipWith (fun v c => RowC T k v c) vs cs ++ (RowC T k v c :: C)) w := by simpa using h1
  exact h a w ha ((St.toEx (f := fun _ : Unit => List.zipWith (fun v c => RowC T k v c) vs cs) () h2).perm (List.Perm.swap _ _ _))
theorem nx_frzList : ∀ (vs : List Value) (cs : List (List Value)) (R : List Ch), vs.length = cs.length → (∀ R', (∀ r ∈ R, r ∈ R') → (∀ (j : Nat) v c, vs[j]? = some v → cs[j]? = some c → SlC k v c ∈ R') → Nx Q n l d W0 X R' C) → Nx Q n l d W0 X R (List.zipWith (fun v c => RowC T k v c) vs cs ++ C)
  | [], [], R, _, h => h R (fun _ h => h) (fun j v c h => by simp at h)
  | [], _ :: _, _, hl, _ => by simp at hl
  | _ :: _, [], _, hl, _ => by simp at hl
  | v :: vs, c :: cs, R, hl, h => by
    rw [List.zipWith_cons_cons, List.cons_append]
    refine nx_frzRow Pick.here ?_
    refine nx_frzList vs cs _ (by simpa using hl) (fun R' h1 h2 => ?_)
    refine h R' (fun r hr => h1 r (List.mem_cons_of_mem _ hr)) (fun j v2 c2 hv hc => ?_)
    cases j with
    | zero => simp at hv hc; subst hv hc; exact h1 _ List.mem_cons_self
    | succ j => simp at hv hc; exact h2 j v2 c2 hv hc
theorem nx_frzRows (hl : vs.length = cs.length) (h : ∀ R', (∀ r ∈ R, r ∈ R') → (∀ (j : Nat) v c, vs[j]? = some v → cs[j]? = some c → SlC k v c ∈ R') → Nx Q n l d W0 X R' C) : Nx Q n l d W0 X R (RowsC T k vs cs :: C) := fun a w ha hw => by
  obtain ⟨_, h2⟩ := St.exC (f := fun _ : Unit => List.zipWith (fun v c => RowC T k v c) vs cs) hw
  exact nx_frzList vs cs R hl h a w ha h2
end rows
end Go.Proofs.Ytncjgkghhcpagaa
