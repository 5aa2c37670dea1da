/- Laws of this claim's own, over any program: what a call leaves alone ('Touch'), a call of a function value that may be a loop's yield ('YCall'), what an iterator value gives ('SeqOf'), and a range over such a value. No condition. -/
import Derived.RangeFuncNested
import Derived.RangeFuncBound
import Derived.RangeFuncCalls
import Derived.RangeFuncLeaves
import Derived.RangeFuncBox
import Derived.Shelf.Abstract
import Derived.WalkKit
import Derived.OwnWalkIn
import Derived.TacticsInMore
import Derived.LoopNIn
import Derived.LoopIn
import Derived.WalkSpells
import Derived.Deep.Draws
namespace Go.Proofs.Ytinofjenoapeaaa
open Go.RowKit Go.Shelf
set_option linter.unusedSimpArgs false
set_option linter.unusedVariables false

/-! ### what is left alone -/
structure Touch (S : Nat → Prop) (w w' : World) : Prop where
  os : w'.os = w.os
  tape : w'.tape = w.tape
  output : w'.output = w.output
  size : w.heap.size ≤ w'.heap.size
  block : ∀ k, k < w.heap.size → ¬ S k → w'.heap[k]? = w.heap[k]?

theorem Touch.refl (S : Nat → Prop) (w : World) : Touch S w w := ⟨rfl, rfl, rfl, Nat.le_refl _, fun _ _ _ => rfl⟩
theorem Touch.transW {S T U : Nat → Prop} {a b c : World} (h : Touch S a b) (k : Touch T b c) (hS : ∀ i, i < a.heap.size → S i → U i) (hT : ∀ i, i < a.heap.size → T i → U i) : Touch U a c :=
  ⟨k.os.trans h.os, k.tape.trans h.tape, k.output.trans h.output, Nat.le_trans h.size k.size, fun i hi hn =>
    (k.block i (Nat.lt_of_lt_of_le hi h.size) (fun ht => hn (hT i hi ht))).trans (h.block i hi (fun hs => hn (hS i hi hs)))⟩
theorem Touch.trans {S : Nat → Prop} {a b c : World} (h : Touch S a b) (k : Touch S b c) : Touch S a c := h.transW k (fun _ _ x => x) (fun _ _ x => x)
theorem Touch.mono {S T : Nat → Prop} {a b : World} (h : Touch S a b) (hS : ∀ i, i < a.heap.size → S i → T i) : Touch T a b :=
  ⟨h.os, h.tape, h.output, h.size, fun i hi hn => h.block i hi (fun hs => hn (hS i hi hs))⟩
theorem Touch.alloc (S : Nat → Prop) (w : World) (o : Obj) : Touch S w (w.alloc o) := ⟨rfl, rfl, rfl, by simp, fun k hk _ => Below.heap_alloc w o k hk⟩
theorem Touch.drew (S : Nat → Prop) (w : World) : Touch S w w.drew := ⟨rfl, rfl, rfl, Nat.le_refl _, fun _ _ _ => rfl⟩
theorem Touch.drewN (S : Nat → Prop) (w : World) (n : Nat) : Touch S w (w.drewN n) := ⟨rfl, rfl, rfl, Nat.le_refl _, fun _ _ _ => rfl⟩
theorem Touch.setCell {S : Nat → Prop} (w : World) (p : Addr) (v : Value) (h : S p.block) : Touch S w (w.setCell p v) :=
  ⟨rfl, rfl, rfl, by simp, fun k _ hn => Below.heap_setCell w p v k (fun e => hn (e ▸ h))⟩
theorem Touch.putObj {S : Nat → Prop} (w : World) (l : Nat) (o : Obj) (h : S l) : Touch S w (w.putObj l o) :=
  ⟨rfl, rfl, rfl, by simp, fun k _ hn => World.putObj_heap_other (fun e => hn (e ▸ h))⟩
theorem Touch.of_below {B : Nat} {w w' : World} (h : Below B w w') : Touch (fun k => B ≤ k) w w' := ⟨h.os, h.tape, h.output, h.size, fun k _ hn => h.block k (by omega)⟩
theorem Touch.below {S : Nat → Prop} {w w' : World} (h : Touch S w w') {B : Nat} (hB : B ≤ w.heap.size) (hS : ∀ k, k < B → ¬ S k) : Below B w w' := ⟨h.os, h.tape, h.output, h.size, fun k hk => h.block k (by omega) (hS k hk)⟩
theorem Touch.of_fresh {S : Nat → Prop} {w w' : World} (h : Below w.heap.size w w') : Touch S w w' := (Touch.of_below h).mono (fun _ hi hs => absurd hs (by omega))
theorem Touch.of_grownBy {S : Nat → Prop} {w w' : World} {row : Option Nat} (h : w.grownBy w' row) (hS : ∀ k, row = some k → S k) : Touch S w w' :=
  ⟨h.os, h.tape, h.output, h.size, fun k hk hn => h.block k hk (fun e => hn (hS k e.symm))⟩
theorem Touch.heap {S : Nat → Prop} {w w' : World} (h : Touch S w w') {k : Nat} {o : Obj} (hk : w.heap[k]? = some o) (hn : ¬ S k) : w'.heap[k]? = some o :=
  (h.block k (Array.getElem?_eq_some_iff.1 hk).1 hn).trans hk
theorem Touch.cell {S : Nat → Prop} {w w' : World} (h : Touch S w w') {p : Addr} {v : Value} (hk : w.cell? p = some v) (hn : ¬ S p.block) : w'.cell? p = some v :=
  (World.cell?_of_block (h.block p.block (World.block_lt_of_cell? w p hk) hn)).trans hk
theorem Touch.frozen {S : Nat → Prop} {w w' : World} (h : Touch S w w') {p : Addr} {v : Value} {b : Bool} (hk : w.cell? p = some v) (hf : w.frozen? p = b) (hn : ¬ S p.block) : w'.frozen? p = b :=
  (World.frozen?_of_block (h.block p.block (World.block_lt_of_cell? w p hk) hn)).trans hf
theorem Touch.boxed {S : Nat → Prop} {w w' : World} (h : Touch S w w') {B : Nat} {t : TypeId} {v : Value} (hb : Boxed w B t v) (hn : ¬ S B) : Boxed w' B t v := h.heap hb hn

/-- The fences of which the walks of this claim speak: they let everything in. -/
structure IsWide (F : Fence) : Prop where
  fn : ∀ f, F.fn f
  depth : F.depth = none
  alive : F.alive = false
theorem isWide_wide : IsWide Fence.wide := ⟨fun _ => trivial, rfl, rfl⟩
theorem IsWide.inRound {F : Fence} (h : IsWide F) (l : Nat) : IsWide (F.inRound l) := ⟨h.fn, h.depth, h.alive⟩
theorem IsWide.room {F : Fence} (h : IsWide F) (n : Nat) : F.room n := fun d hd => by rw [h.depth] at hd; cases hd
theorem IsWide.fenced {F : Fence} (h : IsWide F) (P : Program) (m : Machine) : m.fenced P F := by
  intro g _
  exact ⟨fun ha => absurd ha (by rw [h.alive]; decide), .inl (h.fn _), fun _ _ => h.fn _, h.room _⟩
theorem IsWide.steps {F : Fence} (h : IsWide F) {P : Program} {m m' : Machine} (hs : Steps P m m') : StepsIn (Machine.fenced P F) P m m' :=
  (StepsIn.of_steps hs).mono fun m _ => h.fenced P m
theorem IsWide.comes {F : Fence} (h : IsWide F) {P : Program} {m m' : Machine} {e : Ending} (hs : Comes P m m' e) : ComesIn (Machine.fenced P F) P m m' e := by
  cases e with
  | returned v => exact h.steps hs
  | panicked c => exact h.steps hs
  | outgrown => exact hs
theorem IsWide.callsIn {F : Fence} (h : IsWide F) {n : Nat} {P : Program} {f : FuncId} {args : Array Value} {w : World} {R : Ending → World → Prop} (hc : Calls P f args w R) : CallsIn F n P f args w R :=
  ⟨h.fn f, fun cs _ => let ⟨e, w', fr, r, s, x⟩ := hc cs; ⟨e, w', fr, r, h.comes s, x⟩⟩
theorem IsWide.calls {F : Fence} (h : IsWide F) {n : Nat} {P : Program} {f : FuncId} {args : Array Value} {w : World} {R : Ending → World → Prop} (hc : CallsIn F n P f args w R) : Calls P f args w R :=
  fun cs => let ⟨e, w', fr, r, s, x⟩ := hc.2 cs (h.room _); ⟨e, w', fr, r, s.comes, x⟩
theorem IsWide.roundIn {F G : Fence} (hF : IsWide F) (hG : IsWide G) {n m : Nat} {P : Program} {l : Nat} {f : FuncId} {tmps : Array Value} {assign body : Code} {w : World} {R : Ending → World → Prop}
    (h : RoundIn F n P l f tmps assign body w R) : RoundIn G m P l f tmps assign body w R :=
  ⟨hG.fn f, fun c cs _ => let ⟨e, w', r, s⟩ := h.2 c cs (hF.room _); ⟨e, w', r, hG.comes s.comes⟩⟩

/-! ### a call of a function value that may be a loop's yield -/
def YCall (P : Program) (y : Value) (args : Array Value) (W : World) (R : Ending → World → Prop) : Prop :=
  (∃ l fn tmps assign body, y = .func (.yield l) #[] #[] ∧ (Instr.yield l args).run P W = .ok (.round l fn tmps assign body) W ∧ RoundIn Fence.wide 0 P l fn tmps assign body W R)
  ∨ (∃ g lb, y = .func (.func g) #[] lb ∧ Enters P g ∧ Calls P g (args ++ lb) W R)

theorem YCall.mono {P : Program} {y : Value} {args : Array Value} {W : World} {R R' : Ending → World → Prop} (h : YCall P y args W R) (hr : ∀ e w, R e w → R' e w) : YCall P y args W R' := by
  rcases h with ⟨l, fn, tmps, assign, body, hy, hrun, hR⟩ | ⟨g, lb, hy, eg, hc⟩
  · exact .inl ⟨l, fn, tmps, assign, body, hy, hrun, hR.mono hr⟩
  · exact .inr ⟨g, lb, hy, eg, hc.mono hr⟩

section ycall
variable {F : Fence} {n : Nat} {P : Program} {ops : Array Oper} {rest : List Oper} {o : Oper} {a : Act} {w : World} {Q : Exit → Act → World → Prop}

/-- WHAT FOLLOWS THE CALL, by how it ends. -/
def yNext (o : Oper) (a : Act) (K : Act → World → Prop) (Q : Exit → Act → World → Prop) : Ending → World → Prop
  | .returned v, w' => K (a.put o.dst v) w'
  | .panicked chain, w' => Q (.panic chain) a w'
  | .outgrown, _ => LetsOut Q

theorem wpIn_ycall (hF : IsWide F) {f : Operand} {xs : Array Operand} {ts : Array TypeId} (hop : o.op = Op.call { callee := Callee.value f, args := xs, argTypes := ts }) {K : Act → World → Prop}
    {y : Value} {args : Array Value} (hyv : a.eval f = y) (hargs : (xs.toList.map a.eval).toArray = args)
    (hy : YCall P y args w (yNext o a K Q)) : o.wpIn F n P a w K Q := by
  refine ⟨fun _ _ => hF.fn _, ?_⟩
  replace hargs : xs.map a.eval = args := by rw [← hargs, ← Array.toList_map]
  have hsem : Oper.semAt F.round a.eval o = execOp a.eval o := Oper.semAt_eq _ _ _ (fun c => by rw [hop]; exact fun h => by cases h)
  rw [hsem]
  rcases hy with ⟨l, fn, tmps, assign, body, e, hrun, hR⟩ | ⟨g, lb, e, eg, hc⟩
  · have : (execOp a.eval o).run P w = .ok (.round l fn tmps assign body) w := by
      have h2 : (invoke (.fn (.yield l) #[]) args).run P w = .ok (.round l fn tmps assign body) w := by
        simpa [invoke] using hrun
      simp only [execOp, hop, resolve, hyv, e, hargs]
      simpa [Deferred.ofValue, Sem.run_bind, Result.andThen, go_sem] using h2
    rw [this]
    refine ⟨fun hd => absurd hd (by rw [hF.depth]; simp), ?_⟩
    exact (isWide_wide.roundIn hF hR).mono (fun e' w' h => by cases e' <;> exact h)
  · have : (execOp a.eval o).run P w = .ok (.enter g (args ++ lb)) w := by
      have h2 : (invoke (.fn (.func g) lb) args).run P w = .ok (.enter g (args ++ lb)) w := by
        simpa [invoke] using eg (args ++ lb) w
      simp only [execOp, hop, resolve, hyv, e, hargs]
      simpa [Deferred.ofValue, Sem.run_bind, Result.andThen, go_sem] using h2
    rw [this]
    refine ⟨fun hd => absurd hd (by rw [hF.depth]; simp), ?_⟩
    exact hF.callsIn (hc.mono (fun e' w' h => by cases e' <;> exact h))

/-- THE LAW AT A CALL OF A FUNCTION VALUE, in a region's list. -/
theorem wpListIn_ycall (hF : IsWide F) {f : Operand} {xs : Array Operand} {ts : Array TypeId} (hop : o.op = Op.call { callee := Callee.value f, args := xs, argTypes := ts })
    (hw : Region.wanted o (yielded ops a.tmps) = true) {y : Value} {args : Array Value} (hyv : a.eval f = y) (hargs : (xs.toList.map a.eval).toArray = args)
    (hy : YCall P y args w (yNext o a (wpListIn F n P ops Q rest) Q)) : wpListIn F n P ops Q (o :: rest) a w := by
  unfold wpListIn
  rw [if_pos hw]
  exact wpIn_ycall hF hop hyv hargs hy
end ycall

/-! ### what an iterator value gives -/
/-- What one party does to the heap: it turns what it owns (O), and new blocks; what it owns afterwards it owned before, or it is new. -/
structure Step (O O' : Nat → Prop) (A B : World) : Prop where
  touch : Touch O A B
  own : ∀ k, O' k → (O k ∨ A.heap.size ≤ k) ∧ k < B.heap.size

/-- J abides whatever turns blocks from N on that are not owned. -/
def Stable {β : Type} (N : Nat) (J : β → (Nat → Prop) → World → Prop) : Prop :=
  ∀ s O A B, J s O A → Touch (fun k => N ≤ k ∧ ¬ O k) A B → J s O B

def SeqOf {α : Type} (P : Program) (encs : α → Array Value) (xs : List α) (Fp : Nat → Prop) (w : World) (g : Nat) (lb : Array Value) : Prop :=
  ∀ (W : World) (y : Value) (J : List α → (Nat → Prop) → World → Prop) (Jx : Unit → (Nat → Prop) → World → Prop) (O : Nat → Prop),
    (∀ k, Fp k → k < W.heap.size ∧ W.heap[k]? = w.heap[k]?) → (∀ k, O k → k < W.heap.size ∧ ¬ Fp k) → Stable W.heap.size J → Stable W.heap.size Jx →
    (∀ pre x post A O', xs = pre ++ x :: post → J pre O' A → YCall P y (encs x) A (fun e B =>
      (e = .returned (.bool true) ∧ ∃ O'', J (pre ++ [x]) O'' B ∧ Step O' O'' A B) ∨ (e = .returned (.bool false) ∧ ∃ O'', Jx () O'' B ∧ Step O' O'' A B))) →
    J [] O W →
    Calls P g (#[y] ++ lb) W (fun e B => e = .returned (.tuple #[]) ∧ ((∃ O', J xs O' B) ∨ (∃ O', Jx () O' B)))

theorem SeqOf.later {α : Type} {P : Program} {encs : α → Array Value} {xs : List α} {Fp : Nat → Prop} {w w' : World} {g : Nat} {lb : Array Value} (h : SeqOf P encs xs Fp w g lb)
    (hk : ∀ k, Fp k → w'.heap[k]? = w.heap[k]?) : SeqOf P encs xs Fp w' g lb :=
  fun W y J Jx O hW hO hJ hJx hY h0 => h W y J Jx O (fun k hf => ⟨(hW k hf).1, (hW k hf).2.trans (hk k hf)⟩) hO hJ hJx hY h0

theorem SeqOf.mono {α : Type} {P : Program} {encs : α → Array Value} {xs : List α} {Fp Fp' : Nat → Prop} {w : World} {g : Nat} {lb : Array Value} (h : SeqOf P encs xs Fp w g lb)
    (hk : ∀ k, Fp k → Fp' k) : SeqOf P encs xs Fp' w g lb :=
  fun W y J Jx O hW hO hJ hJx hY h0 => h W y J Jx O (fun k hf => hW k (hk k hf)) (fun k ho => ⟨(hO k ho).1, fun hf => (hO k ho).2 (hk k hf)⟩) hJ hJx hY h0

/-- How a round's body may be left. -/
def rangePostQ {α : Type} (I : List α → (Nat → Prop) → World → Prop) (Ix : Code → (Nat → Prop) → World → Prop) (xs : List α) (O : Nat → Prop) (A : World) : Exit → Act → World → Prop
  | .normal, _, B => ∃ O', I xs O' B ∧ Step O O' A B
  | .ret, _, B => ∃ O', Ix .ret O' B ∧ Step O O' A B
  | .exit id, _, B => ∃ O', Ix (.exit id) O' B ∧ Step O O' A B
  | .goto t, _, B => ∃ O', Ix (.goto t) O' B ∧ Step O O' A B
  | .panic _, _, _ => False
  | .outgrown, _, _ => False

/-- How the assignment to the loop's left sides ends. -/
def midPost {α : Type} (M : List α → α → (Nat → Prop) → Act → World → Prop) (pre : List α) (x : α) (O : Nat → Prop) (A : World) : Exit → Act → World → Prop :=
  Exit.then (fun a1 A1 => ∃ O1, M pre x O1 a1 A1 ∧ Step O O1 A A1) (fun _ _ _ => False)

/-- **A RANGE OVER AN ITERATOR VALUE, at an outermost loop.** -/
theorem wpIn_rangeSeq {F : Fence} {n : Nat} {P : Program} {α : Type} {g : Operand} {ps : Array Tmp} {assign body : Code} {Q : Exit → Act → World → Prop} {a : Act} {w : World}
    (hF : IsWide F) (hro : F.round = none) {gf : Nat} {lb : Array Value} (hg : a.eval g = .func (.func gf) #[] lb) (eg : Enters P gf)
    {encs : α → Array Value} {xs : List α} {Fp : Nat → Prop} {w0 : World} (hseq : SeqOf P encs xs Fp w0 gf lb) (hFp : ∀ k, Fp k → k < w.heap.size ∧ w.heap[k]? = w0.heap[k]?) (hps : ∀ x, (encs x).size = ps.size)
    (I : List α → (Nat → Prop) → World → Prop) (Ix : Code → (Nat → Prop) → World → Prop) (hI : Stable w.heap.size I) (hIx : Stable w.heap.size Ix)
    (O : Nat → Prop) (hO : ∀ k, O k → k < w.heap.size ∧ ¬ Fp k) (h0 : I [] O w)
    (M : List α → α → (Nat → Prop) → Act → World → Prop) (hM : ∀ a1 x, Stable w.heap.size (fun pre O A => M pre x O a1 A))
    (hassign : ∀ (l : Nat) (pre : List α) (x : α) (post : List α) (O' : Nat → Prop) (A : World), xs = pre ++ x :: post → I pre O' A → w.heap.size ≤ A.heap.size → (∀ k, O' k → k < A.heap.size) →
      assign.wpIn (F.inRound l) n P (midPost M pre x O' A) { tmps := (ps.zip (encs x)).foldl (fun t (p, v) => t.setIfInBounds p v) a.tmps, defers := [] } A)
    (hbody : ∀ (l : Nat) (pre : List α) (x : α) (post : List α) (O' : Nat → Prop) (a1 : Act) (A : World), xs = pre ++ x :: post → M pre x O' a1 A → w.heap.size ≤ A.heap.size → (∀ k, O' k → k < A.heap.size) →
      body.wpIn (F.inRound l) n P (rangePostQ I Ix (pre ++ [x]) O' A) a1 A)
    (hdone : ∀ (D : Nat) (O' : Nat → Prop) (B : World), w.heap.size ≤ D → ¬ O' D → (∀ k, O' k → k < B.heap.size) → I xs O' B → B.heap[D]? = some (.deferred (some [])) → Q .normal { a with defers := { target := .collected D, args := #[] } :: a.defers } B)
    (hstop : ∀ (D : Nat) (c : Code) (O' : Nat → Prop) (B : World), w.heap.size ≤ D → ¬ O' D → (∀ k, O' k → k < B.heap.size) → Ix c O' B → B.heap[D]? = some (.deferred (some [])) → c.wpIn F n P Q { a with defers := { target := .collected D, args := #[] } :: a.defers } B) :
    (Code.rangeFunc g ps assign body).wpIn F n P Q a w := by
  refine wpIn_rangeFunc ?_
  intro fn hfn
  rw [hro]
  obtain ⟨rec, hrec⟩ : ∃ rec : LoopState → Option Code → Loop, rec = fun st pe => { state := st, pending := pe, fn, tmps := a.tmps, params := ps, assign, body, defers := w.heap.size } := ⟨_, rfl⟩
  obtain ⟨W1, hW1⟩ : ∃ W1, (w.alloc (.deferred (some []))).alloc (.loop (rec .ready none)) = W1 := ⟨_, rfl⟩
  have hs1 : W1.heap.size = w.heap.size + 2 := by rw [← hW1]; simp
  have hL1 : W1.heap[w.heap.size + 1]? = some (.loop (rec .ready none)) := by
    rw [← hW1]; have := World.alloc_heap_new (w.alloc (.deferred (some []))) (.loop (rec .ready none)); rwa [World.size_alloc] at this
  have hK1 : W1.heap[w.heap.size]? = some (.deferred (some [])) := by
    rw [← hW1]; exact (Below.heap_alloc _ _ _ (by simp)).trans (World.alloc_heap_new w _)
  have hT1 : ∀ S, Touch S w W1 := fun S => by rw [← hW1]; exact (Touch.alloc S _ _).trans (Touch.alloc S _ _)
  have hI1 : I [] O W1 := hI _ _ _ _ h0 (hT1 _)
  -- the loop's own two blocks
  have hDl : ∀ k, (k = w.heap.size ∨ k = w.heap.size + 1) → ¬ Fp k := fun k hk hf => by have := (hFp k hf).1; omega
  refine ⟨w.heap.size + 1, [{ target := .collected w.heap.size, args := #[] }], W1, { target := .fn (.func gf) lb, args := #[.func (.yield (w.heap.size + 1)) #[] #[]] }, W1, gf,
    #[.func (.yield (w.heap.size + 1)) #[] #[]] ++ lb, W1, ?_, ?_, ?_, ?_, fun hd => absurd hd (by rw [hF.depth]; simp), ?_⟩
  · rw [← hW1, hrec]; exact run_enterLoop_outer _ _ _ _ _
  · simp only [resolve, hg]
    simp [go_sem]
  · intro f' _; exact hF.fn _
  · have := eg (#[.func (.yield (w.heap.size + 1)) #[] #[]] ++ lb) W1
    simpa [invoke, go_sem] using this
  · refine hF.callsIn ?_
    let Bk : LoopState → Option Code → (Nat → Prop) → World → Prop := fun st pe O' A => A.heap[w.heap.size + 1]? = some (.loop (rec st pe)) ∧ A.heap[w.heap.size]? = some (.deferred (some [])) ∧
      O' w.heap.size ∧ O' (w.heap.size + 1) ∧ w.heap.size + 2 ≤ A.heap.size
    have hBk : ∀ st pe, ∀ O' A B, Bk st pe O' A → Touch (fun k => W1.heap.size ≤ k ∧ ¬ O' k) A B → Bk st pe O' B := by
      rintro st pe O' A B ⟨h1, h2, h3, h4, h5⟩ ht
      exact ⟨ht.heap h1 (fun h => h.2 h4), ht.heap h2 (fun h => h.2 h3), h3, h4, Nat.le_trans h5 ht.size⟩
    -- what the caller of the iterator owns: the user's own, and the two blocks
    let Two : Nat → Prop := fun k => k = w.heap.size ∨ k = w.heap.size + 1
    have hstab : ∀ {β : Type} (J : β → (Nat → Prop) → World → Prop), Stable w.heap.size J → ∀ s (O' Ou : Nat → Prop) A B, (∀ k, Ou k → O' k) → J s Ou A → Touch (fun k => W1.heap.size ≤ k ∧ ¬ O' k) A B → J s Ou B :=
      fun J hJ s O' Ou A B hsub hs ht => hJ _ _ _ _ hs (ht.mono (fun i _ hi => ⟨by omega, fun h => hi.2 (hsub _ h)⟩))
    refine (hseq W1 (.func (.yield (w.heap.size + 1)) #[] #[])
      (fun pre O' A => Bk .ready none O' A ∧ ∃ Ou, I pre Ou A ∧ (∀ k, Ou k → O' k ∧ ¬ Two k ∧ k < A.heap.size))
      (fun _ O' A => ∃ c, Bk .done (some c) O' A ∧ ∃ Ou, Ix c Ou A ∧ (∀ k, Ou k → O' k ∧ ¬ Two k ∧ k < A.heap.size))
      (fun k => O k ∨ Two k) ?_ ?_ ?_ ?_ ?_ ?_).mono ?_
    · intro k hf
      have hk := hFp k hf
      exact ⟨by omega, ((hT1 (fun _ => False)).block k hk.1 (fun h => h)).trans hk.2⟩
    · rintro k (hk | hk)
      · exact ⟨by have := (hO k hk).1; omega, (hO k hk).2⟩
      · exact ⟨by rcases hk with h | h <;> omega, hDl k hk⟩
    · rintro pre O' A B ⟨hb, Ou, hi, hsub⟩ ht
      exact ⟨hBk _ _ _ _ _ hb ht, Ou, hstab I hI pre O' Ou A B (fun k h => (hsub k h).1) hi ht, fun k h => ⟨(hsub k h).1, (hsub k h).2.1, Nat.lt_of_lt_of_le (hsub k h).2.2 ht.size⟩⟩
    · rintro s O' A B ⟨c, hb, Ou, hi, hsub⟩ ht
      exact ⟨c, hBk _ _ _ _ _ hb ht, Ou, hstab Ix hIx c O' Ou A B (fun k h => (hsub k h).1) hi ht, fun k h => ⟨(hsub k h).1, (hsub k h).2.1, Nat.lt_of_lt_of_le (hsub k h).2.2 ht.size⟩⟩
    · -- one round
      rintro pre x post A O' hx ⟨⟨hl, hk, hoD, hol, hsz⟩, Ou, hi, hsub⟩
      have hy := run_yield (P := P) (args := encs x) hl (by rw [hrec]; exact hps x)
      rw [hrec] at hy
      refine .inl ⟨w.heap.size + 1, fn, _, assign, body, rfl, hy, ?_⟩
      refine (hF.roundIn isWide_wide (n := n) (roundIn_of_wpIn hfn ?_))
      refine wpIn_mono (hassign _ pre x post Ou A hx hi (by omega) (fun k h => (hsub k h).2.2)) ?_
      rintro e a1 A1 hp
      cases e with
      | normal =>
        obtain ⟨O1, hm, hst⟩ := hp
        have hO1 : ∀ k, O1 k → O' k ∧ ¬ Two k ∨ A.heap.size ≤ k := fun k h => (hst.own k h).1.imp (fun hu => ⟨(hsub k hu).1, (hsub k hu).2.1⟩) id
        have hnl : ¬ Ou (w.heap.size + 1) := fun h => (hsub _ h).2.1 (.inr rfl)
        have hnD : ¬ Ou w.heap.size := fun h => (hsub _ h).2.1 (.inl rfl)
        have hl1 := hst.touch.heap hl hnl
        have hk1 := hst.touch.heap hk hnD
        refine ⟨A1.putObj (w.heap.size + 1) (.loop { rec .ready none with state := .busy }), run_beginRound hl1 (by rw [hrec]), ?_⟩
        have hn1 : ¬ O1 (w.heap.size + 1) := fun h => by
          rcases hO1 _ h with ⟨_, h'⟩ | h'
          · exact h' (.inr rfl)
          · omega
        have hnD1 : ¬ O1 w.heap.size := fun h => by
          rcases hO1 _ h with ⟨_, h'⟩ | h'
          · exact h' (.inl rfl)
          · omega
        have hlt1 : w.heap.size + 1 < A1.heap.size := (Array.getElem?_eq_some_iff.1 hl1).1
        have hsz1 := hst.touch.size
        have hm2 := hM a1 x pre O1 A1 _ hm (Touch.putObj (S := fun k => w.heap.size ≤ k ∧ ¬ O1 k) A1 (w.heap.size + 1) (.loop { rec .ready none with state := .busy }) ⟨by omega, hn1⟩)
        refine wpIn_mono (hbody _ pre x post O1 a1 _ hx hm2 (by simp; omega) (fun k h => by simp; exact (hst.own k h).2)) ?_
        have fin : ∀ (jump : Option Code) (st : LoopState) (B : World) (O2 : Nat → Prop), (if jump.isNone then LoopState.ready else LoopState.done) = st → Step O1 O2 (A1.putObj (w.heap.size + 1) (.loop { rec .ready none with state := .busy })) B →
            (Instr.endRound (w.heap.size + 1) jump).run P B = .ok (.bool jump.isNone) (B.putObj (w.heap.size + 1) (.loop (rec st jump))) ∧
            Bk st jump (fun k => O2 k ∨ Two k) (B.putObj (w.heap.size + 1) (.loop (rec st jump))) ∧
            ¬ O2 (w.heap.size + 1) ∧ (∀ k, O2 k → (O2 k ∨ Two k) ∧ ¬ Two k ∧ k < (B.putObj (w.heap.size + 1) (.loop (rec st jump))).heap.size) ∧
            Step O' (fun k => O2 k ∨ Two k) A (B.putObj (w.heap.size + 1) (.loop (rec st jump))) := fun jump st B O2 hjs hst2 => by
          have hl2 : (A1.putObj (w.heap.size + 1) (.loop { rec .ready none with state := .busy })).heap[w.heap.size + 1]? = some (.loop { rec .ready none with state := .busy }) := World.putObj_heap_same hlt1
          have hk2 : (A1.putObj (w.heap.size + 1) (.loop { rec .ready none with state := .busy })).heap[w.heap.size]? = some (.deferred (some [])) := (World.putObj_heap_other (by omega)).trans hk1
          have hl3 := hst2.touch.heap hl2 hn1
          have hk3 := hst2.touch.heap hk2 hnD1
          have hlt3 : w.heap.size + 1 < B.heap.size := (Array.getElem?_eq_some_iff.1 hl3).1
          have hszB : A1.heap.size ≤ B.heap.size := by have := hst2.touch.size; simpa using this
          have hO2 : ∀ k, O2 k → ¬ Two k := fun k h hk => by
            have := (hst2.own k h).1
            simp only [World.putObj_size] at this
            rcases hk with rfl | rfl
            · exact this.elim hnD1 (by omega)
            · exact this.elim hn1 (by omega)
          have := run_endRound (P := P) jump hl3
          rw [hjs] at this
          have hrs : rec st jump = { rec .ready none with state := st, pending := jump } := by rw [hrec]
          have this' : (Instr.endRound (w.heap.size + 1) jump).run P B = .ok (.bool jump.isNone) (B.putObj (w.heap.size + 1) (.loop (rec st jump))) := by rw [hrs]; exact this
          refine ⟨this', ⟨World.putObj_heap_same hlt3, (World.putObj_heap_other (by omega)).trans hk3, .inr (.inl rfl), .inr (.inr rfl), by simp; omega⟩, fun h => hO2 _ h (.inr rfl), fun k h => ⟨.inl h, hO2 k h, by simp; exact (hst2.own k h).2⟩, ?_, ?_⟩
          · refine ((hst.touch.transW (Touch.putObj (S := Two) A1 (w.heap.size + 1) _ (.inr rfl)) (U := O') (fun i _ h => (hsub i h).1) (fun i _ h => h.elim (fun e => e ▸ hoD) (fun e => e ▸ hol))).transW hst2.touch (U := O') (fun i _ h => h) (fun i hi h => ?_)).transW
              (Touch.putObj (S := Two) B (w.heap.size + 1) _ (.inr rfl)) (fun i _ h => h) (fun i _ h => h.elim (fun e => e ▸ hoD) (fun e => e ▸ hol))
            rcases hO1 i h with h' | h'
            · exact h'.1
            · omega
          · rintro k (h | h)
            · refine ⟨?_, by simp; exact (hst2.own k h).2⟩
              rcases (hst2.own k h).1 with h' | h'
              · rcases hO1 k h' with h'' | h''
                · exact .inl h''.1
                · exact .inr h''
              · simp only [World.putObj_size] at h'
                exact .inr (by omega)
            · rcases h with rfl | rfl
              · exact ⟨.inl hoD, by simp; omega⟩
              · exact ⟨.inl hol, by simp; omega⟩
        rintro e a3 B hp
        cases e with
        | normal =>
          obtain ⟨O2, hi2, hst2⟩ := hp
          obtain ⟨hr, hb, hno, hs2, hst3⟩ := fin none .ready B O2 rfl hst2
          exact ⟨_, _, hr, .inl ⟨rfl, _, ⟨hb, O2, hI _ _ _ _ hi2 (Touch.putObj _ _ _ ⟨by omega, hno⟩), hs2⟩, hst3⟩⟩
        | ret =>
          obtain ⟨O2, hi2, hst2⟩ := hp
          obtain ⟨hr, hb, hno, hs2, hst3⟩ := fin (some .ret) .done B O2 rfl hst2
          exact ⟨_, _, hr, .inr ⟨rfl, _, ⟨.ret, hb, O2, hIx _ _ _ _ hi2 (Touch.putObj _ _ _ ⟨by omega, hno⟩), hs2⟩, hst3⟩⟩
        | exit id =>
          obtain ⟨O2, hi2, hst2⟩ := hp
          obtain ⟨hr, hb, hno, hs2, hst3⟩ := fin (some (.exit id)) .done B O2 rfl hst2
          exact ⟨_, _, hr, .inr ⟨rfl, _, ⟨.exit id, hb, O2, hIx _ _ _ _ hi2 (Touch.putObj _ _ _ ⟨by omega, hno⟩), hs2⟩, hst3⟩⟩
        | goto t =>
          obtain ⟨O2, hi2, hst2⟩ := hp
          obtain ⟨hr, hb, hno, hs2, hst3⟩ := fin (some (.goto t)) .done B O2 rfl hst2
          exact ⟨_, _, hr, .inr ⟨rfl, _, ⟨.goto t, hb, O2, hIx _ _ _ _ hi2 (Touch.putObj _ _ _ ⟨by omega, hno⟩), hs2⟩, hst3⟩⟩
        | panic ch => exact hp.elim
        | outgrown => exact hp.elim
      | exit id => exact hp.elim
      | goto t => exact hp.elim
      | ret => exact hp.elim
      | panic ch => exact hp.elim
      | outgrown => exact hp.elim
    · exact ⟨⟨hL1, hK1, .inr (.inl rfl), .inr (.inr rfl), by omega⟩, O, hI1, fun k h => ⟨.inl h, fun ht => by have := (hO k h).1; rcases ht with h | h <;> omega, by have := (hO k h).1; omega⟩⟩
    · -- behind the iterator
      rintro e B ⟨rfl, (⟨O', ⟨hl, hk, hoD, hol, hsz⟩, Ou, hi, hsub⟩ | ⟨O', c, ⟨hl, hk, hoD, hol, hsz⟩, Ou, hi, hsub⟩)⟩
      · have hn : ¬ Ou (w.heap.size + 1) := fun h => (hsub _ h).2.1 (.inr rfl)
        have hend := run_endLoop (P := P) hl (by rw [hrec]; simp)
        rw [hrec] at hend
        refine ⟨none, _, hend, hdone w.heap.size Ou _ (Nat.le_refl _) (fun h => (hsub _ h).2.1 (.inl rfl)) (fun k h => by simp; exact (hsub k h).2.2) (hI _ _ _ _ hi (Touch.putObj _ _ _ ⟨by omega, hn⟩)) ((World.putObj_heap_other (by omega)).trans hk)⟩
      · have hn : ¬ Ou (w.heap.size + 1) := fun h => (hsub _ h).2.1 (.inr rfl)
        have hend := run_endLoop (P := P) hl (by rw [hrec]; simp)
        rw [hrec] at hend
        refine ⟨some c, _, hend, hstop w.heap.size c Ou _ (Nat.le_refl _) (fun h => (hsub _ h).2.1 (.inl rfl)) (fun k h => by simp; exact (hsub k h).2.2) (hIx _ _ _ _ hi (Touch.putObj _ _ _ ⟨by omega, hn⟩)) ((World.putObj_heap_other (by omega)).trans hk)⟩

end Go.Proofs.Ytinofjenoapeaaa
