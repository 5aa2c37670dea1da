/- Rules of this claim's own, over any program: calls of yields, predicates and function values; results that lie in memory; a store into a row. No condition. -/
import Derived.RangeFuncNested
import Derived.RangeFuncBound
import Derived.RangeFuncCalls
import Derived.RangeFuncLeaves
import Derived.RangeFuncBox
import Derived.Shelf.Abstract
import Derived.WalkKit
import Derived.OwnWalkIn
import Derived.TacticsInMore
import Derived.LoopNIn
import Derived.LoopIn
import Derived.WalkSpells
import Derived.Deep.Draws
import Derived.Deep.MidRow
import Derived.Deep.WholeRow
import Derived.StillTail
import Derived.Sort.QuietThIn
import Derived.OpenShut
import Derived.ChangeSlices
import Derived.SizedLaws
import Derived.Maps.OwnIn
import Derived.IntWalk
import Derived.Maps.AppendAt
section
namespace Go.Proofs.YtinofjenoapeaaaGreat
open Go.RowKit Go.Shelf
set_option linter.unusedSimpArgs false
set_option linter.unusedVariables false

/-! ### what is left alone -/
structure Touch (S : Nat → Prop) (w w' : World) : Prop where
  os : w'.os = w.os
  tape : w'.tape = w.tape
  output : w'.output = w.output
  size : w.heap.size ≤ w'.heap.size
  block : ∀ k, k < w.heap.size → ¬ S k → w'.heap[k]? = w.heap[k]?

theorem Touch.refl (S : Nat → Prop) (w : World) : Touch S w w := ⟨rfl, rfl, rfl, Nat.le_refl _, fun _ _ _ => rfl⟩
theorem Touch.transW {S T U : Nat → Prop} {a b c : World} (h : Touch S a b) (k : Touch T b c) (hS : ∀ i, i < a.heap.size → S i → U i) (hT : ∀ i, i < a.heap.size → T i → U i) : Touch U a c :=
  ⟨k.os.trans h.os, k.tape.trans h.tape, k.output.trans h.output, Nat.le_trans h.size k.size, fun i hi hn =>
    (k.block i (Nat.lt_of_lt_of_le hi h.size) (fun ht => hn (hT i hi ht))).trans (h.block i hi (fun hs => hn (hS i hi hs)))⟩
theorem Touch.trans {S : Nat → Prop} {a b c : World} (h : Touch S a b) (k : Touch S b c) : Touch S a c := h.transW k (fun _ _ x => x) (fun _ _ x => x)
theorem Touch.mono {S T : Nat → Prop} {a b : World} (h : Touch S a b) (hS : ∀ i, i < a.heap.size → S i → T i) : Touch T a b :=
  ⟨h.os, h.tape, h.output, h.size, fun i hi hn => h.block i hi (fun hs => hn (hS i hi hs))⟩
theorem Touch.alloc (S : Nat → Prop) (w : World) (o : Obj) : Touch S w (w.alloc o) := ⟨rfl, rfl, rfl, by simp, fun k hk _ => Below.heap_alloc w o k hk⟩
theorem Touch.drew (S : Nat → Prop) (w : World) : Touch S w w.drew := ⟨rfl, rfl, rfl, Nat.le_refl _, fun _ _ _ => rfl⟩
theorem Touch.drewN (S : Nat → Prop) (w : World) (n : Nat) : Touch S w (w.drewN n) := ⟨rfl, rfl, rfl, Nat.le_refl _, fun _ _ _ => rfl⟩
theorem Touch.setCell {S : Nat → Prop} (w : World) (p : Addr) (v : Value) (h : S p.block) : Touch S w (w.setCell p v) :=
  ⟨rfl, rfl, rfl, by simp, fun k _ hn => Below.heap_setCell w p v k (fun e => hn (e ▸ h))⟩
theorem Touch.putObj {S : Nat → Prop} (w : World) (l : Nat) (o : Obj) (h : S l) : Touch S w (w.putObj l o) :=
  ⟨rfl, rfl, rfl, by simp, fun k _ hn => World.putObj_heap_other (fun e => hn (e ▸ h))⟩
theorem Touch.of_below {B : Nat} {w w' : World} (h : Below B w w') : Touch (fun k => B ≤ k) w w' := ⟨h.os, h.tape, h.output, h.size, fun k _ hn => h.block k (by omega)⟩
theorem Touch.below {S : Nat → Prop} {w w' : World} (h : Touch S w w') {B : Nat} (hB : B ≤ w.heap.size) (hS : ∀ k, k < B → ¬ S k) : Below B w w' := ⟨h.os, h.tape, h.output, h.size, fun k hk => h.block k (by omega) (hS k hk)⟩
theorem Touch.of_fresh {S : Nat → Prop} {w w' : World} (h : Below w.heap.size w w') : Touch S w w' := (Touch.of_below h).mono (fun _ hi hs => absurd hs (by omega))
theorem Touch.of_grownBy {S : Nat → Prop} {w w' : World} {row : Option Nat} (h : w.grownBy w' row) (hS : ∀ k, row = some k → S k) : Touch S w w' :=
  ⟨h.os, h.tape, h.output, h.size, fun k hk hn => h.block k hk (fun e => hn (hS k e.symm))⟩
theorem Touch.heap {S : Nat → Prop} {w w' : World} (h : Touch S w w') {k : Nat} {o : Obj} (hk : w.heap[k]? = some o) (hn : ¬ S k) : w'.heap[k]? = some o :=
  (h.block k (Array.getElem?_eq_some_iff.1 hk).1 hn).trans hk
theorem Touch.cell {S : Nat → Prop} {w w' : World} (h : Touch S w w') {p : Addr} {v : Value} (hk : w.cell? p = some v) (hn : ¬ S p.block) : w'.cell? p = some v :=
  (World.cell?_of_block (h.block p.block (World.block_lt_of_cell? w p hk) hn)).trans hk
theorem Touch.frozen {S : Nat → Prop} {w w' : World} (h : Touch S w w') {p : Addr} {v : Value} {b : Bool} (hk : w.cell? p = some v) (hf : w.frozen? p = b) (hn : ¬ S p.block) : w'.frozen? p = b :=
  (World.frozen?_of_block (h.block p.block (World.block_lt_of_cell? w p hk) hn)).trans hf
theorem Touch.boxed {S : Nat → Prop} {w w' : World} (h : Touch S w w') {B : Nat} {t : TypeId} {v : Value} (hb : Boxed w B t v) (hn : ¬ S B) : Boxed w' B t v := h.heap hb hn

/-- The fences of which the walks of this claim speak: they let everything in. -/
structure IsWide (F : Fence) : Prop where
  fn : ∀ f, F.fn f
  depth : F.depth = none
  alive : F.alive = false
theorem isWide_wide : IsWide Fence.wide := ⟨fun _ => trivial, rfl, rfl⟩
theorem IsWide.inRound {F : Fence} (h : IsWide F) (l : Nat) : IsWide (F.inRound l) := ⟨h.fn, h.depth, h.alive⟩
theorem IsWide.room {F : Fence} (h : IsWide F) (n : Nat) : F.room n := fun d hd => by rw [h.depth] at hd; cases hd
theorem IsWide.fenced {F : Fence} (h : IsWide F) (P : Program) (m : Machine) : m.fenced P F := by
  intro g _
  exact ⟨fun ha => absurd ha (by rw [h.alive]; decide), .inl (h.fn _), fun _ _ => h.fn _, h.room _⟩
theorem IsWide.steps {F : Fence} (h : IsWide F) {P : Program} {m m' : Machine} (hs : Steps P m m') : StepsIn (Machine.fenced P F) P m m' :=
  (StepsIn.of_steps hs).mono fun m _ => h.fenced P m
theorem IsWide.comes {F : Fence} (h : IsWide F) {P : Program} {m m' : Machine} {e : Ending} (hs : Comes P m m' e) : ComesIn (Machine.fenced P F) P m m' e := by
  cases e with
  | returned v => exact h.steps hs
  | panicked c => exact h.steps hs
  | outgrown => exact hs
theorem IsWide.callsIn {F : Fence} (h : IsWide F) {n : Nat} {P : Program} {f : FuncId} {args : Array Value} {w : World} {R : Ending → World → Prop} (hc : Calls P f args w R) : CallsIn F n P f args w R :=
  ⟨h.fn f, fun cs _ => let ⟨e, w', fr, r, s, x⟩ := hc cs; ⟨e, w', fr, r, h.comes s, x⟩⟩
theorem IsWide.calls {F : Fence} (h : IsWide F) {n : Nat} {P : Program} {f : FuncId} {args : Array Value} {w : World} {R : Ending → World → Prop} (hc : CallsIn F n P f args w R) : Calls P f args w R :=
  fun cs => let ⟨e, w', fr, r, s, x⟩ := hc.2 cs (h.room _); ⟨e, w', fr, r, s.comes, x⟩
theorem IsWide.roundIn {F G : Fence} (hF : IsWide F) (hG : IsWide G) {n m : Nat} {P : Program} {l : Nat} {f : FuncId} {tmps : Array Value} {assign body : Code} {w : World} {R : Ending → World → Prop}
    (h : RoundIn F n P l f tmps assign body w R) : RoundIn G m P l f tmps assign body w R :=
  ⟨hG.fn f, fun c cs _ => let ⟨e, w', r, s⟩ := h.2 c cs (hF.room _); ⟨e, w', r, hG.comes s.comes⟩⟩

/-! ### a call of a function value that may be a loop's yield -/
def YCall (P : Program) (y : Value) (args : Array Value) (W : World) (R : Ending → World → Prop) : Prop :=
  (∃ l fn tmps assign body, y = .func (.yield l) #[] #[] ∧ (Instr.yield l args).run P W = .ok (.round l fn tmps assign body) W ∧ RoundIn Fence.wide 0 P l fn tmps assign body W R)
  ∨ (∃ g lb, y = .func (.func g) #[] lb ∧ Enters P g ∧ Calls P g (args ++ lb) W R)

theorem YCall.mono {P : Program} {y : Value} {args : Array Value} {W : World} {R R' : Ending → World → Prop} (h : YCall P y args W R) (hr : ∀ e w, R e w → R' e w) : YCall P y args W R' := by
  rcases h with ⟨l, fn, tmps, assign, body, hy, hrun, hR⟩ | ⟨g, lb, hy, eg, hc⟩
  · exact .inl ⟨l, fn, tmps, assign, body, hy, hrun, hR.mono hr⟩
  · exact .inr ⟨g, lb, hy, eg, hc.mono hr⟩

section ycall
variable {F : Fence} {n : Nat} {P : Program} {ops : Array Oper} {rest : List Oper} {o : Oper} {a : Act} {w : World} {Q : Exit → Act → World → Prop}

/-- WHAT FOLLOWS THE CALL, by how it ends. -/
def yNext (o : Oper) (a : Act) (K : Act → World → Prop) (Q : Exit → Act → World → Prop) : Ending → World → Prop
  | .returned v, w' => K (a.put o.dst v) w'
  | .panicked chain, w' => Q (.panic chain) a w'
  | .outgrown, _ => LetsOut Q

theorem wpIn_ycall (hF : IsWide F) {f : Operand} {xs : Array Operand} {ts : Array TypeId} (hop : o.op = Op.call { callee := Callee.value f, args := xs, argTypes := ts }) {K : Act → World → Prop}
    {y : Value} {args : Array Value} (hyv : a.eval f = y) (hargs : (xs.toList.map a.eval).toArray = args)
    (hy : YCall P y args w (yNext o a K Q)) : o.wpIn F n P a w K Q := by
  refine ⟨fun _ _ => hF.fn _, ?_⟩
  replace hargs : xs.map a.eval = args := by rw [← hargs, ← Array.toList_map]
  have hsem : Oper.semAt F.round a.eval o = execOp a.eval o := Oper.semAt_eq _ _ _ (fun c => by rw [hop]; exact fun h => by cases h)
  rw [hsem]
  rcases hy with ⟨l, fn, tmps, assign, body, e, hrun, hR⟩ | ⟨g, lb, e, eg, hc⟩
  · have : (execOp a.eval o).run P w = .ok (.round l fn tmps assign body) w := by
      have h2 : (invoke (.fn (.yield l) #[]) args).run P w = .ok (.round l fn tmps assign body) w := by
        simpa [invoke] using hrun
      simp only [execOp, hop, resolve, hyv, e, hargs]
      simpa [Deferred.ofValue, Sem.run_bind, Result.andThen, go_sem] using h2
    rw [this]
    refine ⟨fun hd => absurd hd (by rw [hF.depth]; simp), ?_⟩
    exact (isWide_wide.roundIn hF hR).mono (fun e' w' h => by cases e' <;> exact h)
  · have : (execOp a.eval o).run P w = .ok (.enter g (args ++ lb)) w := by
      have h2 : (invoke (.fn (.func g) lb) args).run P w = .ok (.enter g (args ++ lb)) w := by
        simpa [invoke] using eg (args ++ lb) w
      simp only [execOp, hop, resolve, hyv, e, hargs]
      simpa [Deferred.ofValue, Sem.run_bind, Result.andThen, go_sem] using h2
    rw [this]
    refine ⟨fun hd => absurd hd (by rw [hF.depth]; simp), ?_⟩
    exact hF.callsIn (hc.mono (fun e' w' h => by cases e' <;> exact h))

/-- THE LAW AT A CALL OF A FUNCTION VALUE, in a region's list. -/
theorem wpListIn_ycall (hF : IsWide F) {f : Operand} {xs : Array Operand} {ts : Array TypeId} (hop : o.op = Op.call { callee := Callee.value f, args := xs, argTypes := ts })
    (hw : Region.wanted o (yielded ops a.tmps) = true) {y : Value} {args : Array Value} (hyv : a.eval f = y) (hargs : (xs.toList.map a.eval).toArray = args)
    (hy : YCall P y args w (yNext o a (wpListIn F n P ops Q rest) Q)) : wpListIn F n P ops Q (o :: rest) a w := by
  unfold wpListIn
  rw [if_pos hw]
  exact wpIn_ycall hF hop hyv hargs hy
end ycall

/-! ### what an iterator value gives -/
/-- What one party does to the heap: it turns what it owns (O), and new blocks; what it owns afterwards it owned before, or it is new. -/
structure Step (O O' : Nat → Prop) (A B : World) : Prop where
  touch : Touch O A B
  own : ∀ k, O' k → (O k ∨ A.heap.size ≤ k) ∧ k < B.heap.size

/-- J abides whatever turns blocks from N on that are not owned. -/
def Stable {β : Type} (N : Nat) (J : β → (Nat → Prop) → World → Prop) : Prop :=
  ∀ s O A B, J s O A → Touch (fun k => N ≤ k ∧ ¬ O k) A B → J s O B

def SeqOf {α : Type} (P : Program) (encs : α → Array Value) (xs : List α) (Fp : Nat → Prop) (w : World) (g : Nat) (lb : Array Value) : Prop :=
  ∀ (W : World) (y : Value) (J : List α → (Nat → Prop) → World → Prop) (Jx : Unit → (Nat → Prop) → World → Prop) (O : Nat → Prop),
    (∀ k, Fp k → k < W.heap.size ∧ W.heap[k]? = w.heap[k]?) → (∀ k, O k → k < W.heap.size ∧ ¬ Fp k) → Stable W.heap.size J → Stable W.heap.size Jx →
    (∀ pre x post A O', xs = pre ++ x :: post → J pre O' A → YCall P y (encs x) A (fun e B =>
      (e = .returned (.bool true) ∧ ∃ O'', J (pre ++ [x]) O'' B ∧ Step O' O'' A B) ∨ (e = .returned (.bool false) ∧ ∃ O'', Jx () O'' B ∧ Step O' O'' A B))) →
    J [] O W →
    Calls P g (#[y] ++ lb) W (fun e B => e = .returned (.tuple #[]) ∧ ((∃ O', J xs O' B) ∨ (∃ O', Jx () O' B)))

theorem SeqOf.later {α : Type} {P : Program} {encs : α → Array Value} {xs : List α} {Fp : Nat → Prop} {w w' : World} {g : Nat} {lb : Array Value} (h : SeqOf P encs xs Fp w g lb)
    (hk : ∀ k, Fp k → w'.heap[k]? = w.heap[k]?) : SeqOf P encs xs Fp w' g lb :=
  fun W y J Jx O hW hO hJ hJx hY h0 => h W y J Jx O (fun k hf => ⟨(hW k hf).1, (hW k hf).2.trans (hk k hf)⟩) hO hJ hJx hY h0

theorem SeqOf.mono {α : Type} {P : Program} {encs : α → Array Value} {xs : List α} {Fp Fp' : Nat → Prop} {w : World} {g : Nat} {lb : Array Value} (h : SeqOf P encs xs Fp w g lb)
    (hk : ∀ k, Fp k → Fp' k) : SeqOf P encs xs Fp' w g lb :=
  fun W y J Jx O hW hO hJ hJx hY h0 => h W y J Jx O (fun k hf => hW k (hk k hf)) (fun k ho => ⟨(hO k ho).1, fun hf => (hO k ho).2 (hk k hf)⟩) hJ hJx hY h0

/-- How a round's body may be left. -/
def rangePostQ {α : Type} (I : List α → (Nat → Prop) → World → Prop) (Ix : Code → (Nat → Prop) → World → Prop) (xs : List α) (O : Nat → Prop) (A : World) : Exit → Act → World → Prop
  | .normal, _, B => ∃ O', I xs O' B ∧ Step O O' A B
  | .ret, _, B => ∃ O', Ix .ret O' B ∧ Step O O' A B
  | .exit id, _, B => ∃ O', Ix (.exit id) O' B ∧ Step O O' A B
  | .goto t, _, B => ∃ O', Ix (.goto t) O' B ∧ Step O O' A B
  | .panic _, _, _ => False
  | .outgrown, _, _ => False

/-- How the assignment to the loop's left sides ends. -/
def midPost {α : Type} (M : List α → α → (Nat → Prop) → Act → World → Prop) (pre : List α) (x : α) (O : Nat → Prop) (A : World) : Exit → Act → World → Prop :=
  Exit.then (fun a1 A1 => ∃ O1, M pre x O1 a1 A1 ∧ Step O O1 A A1) (fun _ _ _ => False)

/-- **A RANGE OVER AN ITERATOR VALUE, at an outermost loop.** -/
theorem wpIn_rangeSeq {F : Fence} {n : Nat} {P : Program} {α : Type} {g : Operand} {ps : Array Tmp} {assign body : Code} {Q : Exit → Act → World → Prop} {a : Act} {w : World}
    (hF : IsWide F) (hro : F.round = none) {gf : Nat} {lb : Array Value} (hg : a.eval g = .func (.func gf) #[] lb) (eg : Enters P gf)
    {encs : α → Array Value} {xs : List α} {Fp : Nat → Prop} {w0 : World} (hseq : SeqOf P encs xs Fp w0 gf lb) (hFp : ∀ k, Fp k → k < w.heap.size ∧ w.heap[k]? = w0.heap[k]?) (hps : ∀ x, (encs x).size = ps.size)
    (I : List α → (Nat → Prop) → World → Prop) (Ix : Code → (Nat → Prop) → World → Prop) (hI : Stable w.heap.size I) (hIx : Stable w.heap.size Ix)
    (O : Nat → Prop) (hO : ∀ k, O k → k < w.heap.size ∧ ¬ Fp k) (h0 : I [] O w)
    (M : List α → α → (Nat → Prop) → Act → World → Prop) (hM : ∀ a1 x, Stable w.heap.size (fun pre O A => M pre x O a1 A))
    (hassign : ∀ (l : Nat) (pre : List α) (x : α) (post : List α) (O' : Nat → Prop) (A : World), xs = pre ++ x :: post → I pre O' A → w.heap.size ≤ A.heap.size → (∀ k, O' k → k < A.heap.size) →
      assign.wpIn (F.inRound l) n P (midPost M pre x O' A) { tmps := (ps.zip (encs x)).foldl (fun t (p, v) => t.setIfInBounds p v) a.tmps, defers := [] } A)
    (hbody : ∀ (l : Nat) (pre : List α) (x : α) (post : List α) (O' : Nat → Prop) (a1 : Act) (A : World), xs = pre ++ x :: post → M pre x O' a1 A → w.heap.size ≤ A.heap.size → (∀ k, O' k → k < A.heap.size) →
      body.wpIn (F.inRound l) n P (rangePostQ I Ix (pre ++ [x]) O' A) a1 A)
    (hdone : ∀ (D : Nat) (O' : Nat → Prop) (B : World), w.heap.size ≤ D → ¬ O' D → (∀ k, O' k → k < B.heap.size) → I xs O' B → B.heap[D]? = some (.deferred (some [])) → Q .normal { a with defers := { target := .collected D, args := #[] } :: a.defers } B)
    (hstop : ∀ (D : Nat) (c : Code) (O' : Nat → Prop) (B : World), w.heap.size ≤ D → ¬ O' D → (∀ k, O' k → k < B.heap.size) → Ix c O' B → B.heap[D]? = some (.deferred (some [])) → c.wpIn F n P Q { a with defers := { target := .collected D, args := #[] } :: a.defers } B) :
    (Code.rangeFunc g ps assign body).wpIn F n P Q a w := by
  refine wpIn_rangeFunc ?_
  intro fn hfn
  rw [hro]
  obtain ⟨rec, hrec⟩ : ∃ rec : LoopState → Option Code → Loop, rec = fun st pe => { state := st, pending := pe, fn, tmps := a.tmps, params := ps, assign, body, defers := w.heap.size } := ⟨_, rfl⟩
  obtain ⟨W1, hW1⟩ : ∃ W1, (w.alloc (.deferred (some []))).alloc (.loop (rec .ready none)) = W1 := ⟨_, rfl⟩
  have hs1 : W1.heap.size = w.heap.size + 2 := by rw [← hW1]; simp
  have hL1 : W1.heap[w.heap.size + 1]? = some (.loop (rec .ready none)) := by
    rw [← hW1]; have := World.alloc_heap_new (w.alloc (.deferred (some []))) (.loop (rec .ready none)); rwa [World.size_alloc] at this
  have hK1 : W1.heap[w.heap.size]? = some (.deferred (some [])) := by
    rw [← hW1]; exact (Below.heap_alloc _ _ _ (by simp)).trans (World.alloc_heap_new w _)
  have hT1 : ∀ S, Touch S w W1 := fun S => by rw [← hW1]; exact (Touch.alloc S _ _).trans (Touch.alloc S _ _)
  have hI1 : I [] O W1 := hI _ _ _ _ h0 (hT1 _)
  -- the loop's own two blocks
  have hDl : ∀ k, (k = w.heap.size ∨ k = w.heap.size + 1) → ¬ Fp k := fun k hk hf => by have := (hFp k hf).1; omega
  refine ⟨w.heap.size + 1, [{ target := .collected w.heap.size, args := #[] }], W1, { target := .fn (.func gf) lb, args := #[.func (.yield (w.heap.size + 1)) #[] #[]] }, W1, gf,
    #[.func (.yield (w.heap.size + 1)) #[] #[]] ++ lb, W1, ?_, ?_, ?_, ?_, fun hd => absurd hd (by rw [hF.depth]; simp), ?_⟩
  · rw [← hW1, hrec]; exact run_enterLoop_outer _ _ _ _ _
  · simp only [resolve, hg]
    simp [go_sem]
  · intro f' _; exact hF.fn _
  · have := eg (#[.func (.yield (w.heap.size + 1)) #[] #[]] ++ lb) W1
    simpa [invoke, go_sem] using this
  · refine hF.callsIn ?_
    let Bk : LoopState → Option Code → (Nat → Prop) → World → Prop := fun st pe O' A => A.heap[w.heap.size + 1]? = some (.loop (rec st pe)) ∧ A.heap[w.heap.size]? = some (.deferred (some [])) ∧
      O' w.heap.size ∧ O' (w.heap.size + 1) ∧ w.heap.size + 2 ≤ A.heap.size
    have hBk : ∀ st pe, ∀ O' A B, Bk st pe O' A → Touch (fun k => W1.heap.size ≤ k ∧ ¬ O' k) A B → Bk st pe O' B := by
      rintro st pe O' A B ⟨h1, h2, h3, h4, h5⟩ ht
      exact ⟨ht.heap h1 (fun h => h.2 h4), ht.heap h2 (fun h => h.2 h3), h3, h4, Nat.le_trans h5 ht.size⟩
    -- what the caller of the iterator owns: the user's own, and the two blocks
    let Two : Nat → Prop := fun k => k = w.heap.size ∨ k = w.heap.size + 1
    have hstab : ∀ {β : Type} (J : β → (Nat → Prop) → World → Prop), Stable w.heap.size J → ∀ s (O' Ou : Nat → Prop) A B, (∀ k, Ou k → O' k) → J s Ou A → Touch (fun k => W1.heap.size ≤ k ∧ ¬ O' k) A B → J s Ou B :=
      fun J hJ s O' Ou A B hsub hs ht => hJ _ _ _ _ hs (ht.mono (fun i _ hi => ⟨by omega, fun h => hi.2 (hsub _ h)⟩))
    refine (hseq W1 (.func (.yield (w.heap.size + 1)) #[] #[])
      (fun pre O' A => Bk .ready none O' A ∧ ∃ Ou, I pre Ou A ∧ (∀ k, Ou k → O' k ∧ ¬ Two k ∧ k < A.heap.size))
      (fun _ O' A => ∃ c, Bk .done (some c) O' A ∧ ∃ Ou, Ix c Ou A ∧ (∀ k, Ou k → O' k ∧ ¬ Two k ∧ k < A.heap.size))
      (fun k => O k ∨ Two k) ?_ ?_ ?_ ?_ ?_ ?_).mono ?_
    · intro k hf
      have hk := hFp k hf
      exact ⟨by omega, ((hT1 (fun _ => False)).block k hk.1 (fun h => h)).trans hk.2⟩
    · rintro k (hk | hk)
      · exact ⟨by have := (hO k hk).1; omega, (hO k hk).2⟩
      · exact ⟨by rcases hk with h | h <;> omega, hDl k hk⟩
    · rintro pre O' A B ⟨hb, Ou, hi, hsub⟩ ht
      exact ⟨hBk _ _ _ _ _ hb ht, Ou, hstab I hI pre O' Ou A B (fun k h => (hsub k h).1) hi ht, fun k h => ⟨(hsub k h).1, (hsub k h).2.1, Nat.lt_of_lt_of_le (hsub k h).2.2 ht.size⟩⟩
    · rintro s O' A B ⟨c, hb, Ou, hi, hsub⟩ ht
      exact ⟨c, hBk _ _ _ _ _ hb ht, Ou, hstab Ix hIx c O' Ou A B (fun k h => (hsub k h).1) hi ht, fun k h => ⟨(hsub k h).1, (hsub k h).2.1, Nat.lt_of_lt_of_le (hsub k h).2.2 ht.size⟩⟩
    · -- one round
      rintro pre x post A O' hx ⟨⟨hl, hk, hoD, hol, hsz⟩, Ou, hi, hsub⟩
      have hy := run_yield (P := P) (args := encs x) hl (by rw [hrec]; exact hps x)
      rw [hrec] at hy
      refine .inl ⟨w.heap.size + 1, fn, _, assign, body, rfl, hy, ?_⟩
      refine (hF.roundIn isWide_wide (n := n) (roundIn_of_wpIn hfn ?_))
      refine wpIn_mono (hassign _ pre x post Ou A hx hi (by omega) (fun k h => (hsub k h).2.2)) ?_
      rintro e a1 A1 hp
      cases e with
      | normal =>
        obtain ⟨O1, hm, hst⟩ := hp
        have hO1 : ∀ k, O1 k → O' k ∧ ¬ Two k ∨ A.heap.size ≤ k := fun k h => (hst.own k h).1.imp (fun hu => ⟨(hsub k hu).1, (hsub k hu).2.1⟩) id
        have hnl : ¬ Ou (w.heap.size + 1) := fun h => (hsub _ h).2.1 (.inr rfl)
        have hnD : ¬ Ou w.heap.size := fun h => (hsub _ h).2.1 (.inl rfl)
        have hl1 := hst.touch.heap hl hnl
        have hk1 := hst.touch.heap hk hnD
        refine ⟨A1.putObj (w.heap.size + 1) (.loop { rec .ready none with state := .busy }), run_beginRound hl1 (by rw [hrec]), ?_⟩
        have hn1 : ¬ O1 (w.heap.size + 1) := fun h => by
          rcases hO1 _ h with ⟨_, h'⟩ | h'
          · exact h' (.inr rfl)
          · omega
        have hnD1 : ¬ O1 w.heap.size := fun h => by
          rcases hO1 _ h with ⟨_, h'⟩ | h'
          · exact h' (.inl rfl)
          · omega
        have hlt1 : w.heap.size + 1 < A1.heap.size := (Array.getElem?_eq_some_iff.1 hl1).1
        have hsz1 := hst.touch.size
        have hm2 := hM a1 x pre O1 A1 _ hm (Touch.putObj (S := fun k => w.heap.size ≤ k ∧ ¬ O1 k) A1 (w.heap.size + 1) (.loop { rec .ready none with state := .busy }) ⟨by omega, hn1⟩)
        refine wpIn_mono (hbody _ pre x post O1 a1 _ hx hm2 (by simp; omega) (fun k h => by simp; exact (hst.own k h).2)) ?_
        have fin : ∀ (jump : Option Code) (st : LoopState) (B : World) (O2 : Nat → Prop), (if jump.isNone then LoopState.ready else LoopState.done) = st → Step O1 O2 (A1.putObj (w.heap.size + 1) (.loop { rec .ready none with state := .busy })) B →
            (Instr.endRound (w.heap.size + 1) jump).run P B = .ok (.bool jump.isNone) (B.putObj (w.heap.size + 1) (.loop (rec st jump))) ∧
            Bk st jump (fun k => O2 k ∨ Two k) (B.putObj (w.heap.size + 1) (.loop (rec st jump))) ∧
            ¬ O2 (w.heap.size + 1) ∧ (∀ k, O2 k → (O2 k ∨ Two k) ∧ ¬ Two k ∧ k < (B.putObj (w.heap.size + 1) (.loop (rec st jump))).heap.size) ∧
            Step O' (fun k => O2 k ∨ Two k) A (B.putObj (w.heap.size + 1) (.loop (rec st jump))) := fun jump st B O2 hjs hst2 => by
          have hl2 : (A1.putObj (w.heap.size + 1) (.loop { rec .ready none with state := .busy })).heap[w.heap.size + 1]? = some (.loop { rec .ready none with state := .busy }) := World.putObj_heap_same hlt1
          have hk2 : (A1.putObj (w.heap.size + 1) (.loop { rec .ready none with state := .busy })).heap[w.heap.size]? = some (.deferred (some [])) := (World.putObj_heap_other (by omega)).trans hk1
          have hl3 := hst2.touch.heap hl2 hn1
          have hk3 := hst2.touch.heap hk2 hnD1
          have hlt3 : w.heap.size + 1 < B.heap.size := (Array.getElem?_eq_some_iff.1 hl3).1
          have hszB : A1.heap.size ≤ B.heap.size := by have := hst2.touch.size; simpa using this
          have hO2 : ∀ k, O2 k → ¬ Two k := fun k h hk => by
            have := (hst2.own k h).1
            simp only [World.putObj_size] at this
            rcases hk with rfl | rfl
            · exact this.elim hnD1 (by omega)
            · exact this.elim hn1 (by omega)
          have := run_endRound (P := P) jump hl3
          rw [hjs] at this
          have hrs : rec st jump = { rec .ready none with state := st, pending := jump } := by rw [hrec]
          have this' : (Instr.endRound (w.heap.size + 1) jump).run P B = .ok (.bool jump.isNone) (B.putObj (w.heap.size + 1) (.loop (rec st jump))) := by rw [hrs]; exact this
          refine ⟨this', ⟨World.putObj_heap_same hlt3, (World.putObj_heap_other (by omega)).trans hk3, .inr (.inl rfl), .inr (.inr rfl), by simp; omega⟩, fun h => hO2 _ h (.inr rfl), fun k h => ⟨.inl h, hO2 k h, by simp; exact (hst2.own k h).2⟩, ?_, ?_⟩
          · refine ((hst.touch.transW (Touch.putObj (S := Two) A1 (w.heap.size + 1) _ (.inr rfl)) (U := O') (fun i _ h => (hsub i h).1) (fun i _ h => h.elim (fun e => e ▸ hoD) (fun e => e ▸ hol))).transW hst2.touch (U := O') (fun i _ h => h) (fun i hi h => ?_)).transW
              (Touch.putObj (S := Two) B (w.heap.size + 1) _ (.inr rfl)) (fun i _ h => h) (fun i _ h => h.elim (fun e => e ▸ hoD) (fun e => e ▸ hol))
            rcases hO1 i h with h' | h'
            · exact h'.1
            · omega
          · rintro k (h | h)
            · refine ⟨?_, by simp; exact (hst2.own k h).2⟩
              rcases (hst2.own k h).1 with h' | h'
              · rcases hO1 k h' with h'' | h''
                · exact .inl h''.1
                · exact .inr h''
              · simp only [World.putObj_size] at h'
                exact .inr (by omega)
            · rcases h with rfl | rfl
              · exact ⟨.inl hoD, by simp; omega⟩
              · exact ⟨.inl hol, by simp; omega⟩
        rintro e a3 B hp
        cases e with
        | normal =>
          obtain ⟨O2, hi2, hst2⟩ := hp
          obtain ⟨hr, hb, hno, hs2, hst3⟩ := fin none .ready B O2 rfl hst2
          exact ⟨_, _, hr, .inl ⟨rfl, _, ⟨hb, O2, hI _ _ _ _ hi2 (Touch.putObj _ _ _ ⟨by omega, hno⟩), hs2⟩, hst3⟩⟩
        | ret =>
          obtain ⟨O2, hi2, hst2⟩ := hp
          obtain ⟨hr, hb, hno, hs2, hst3⟩ := fin (some .ret) .done B O2 rfl hst2
          exact ⟨_, _, hr, .inr ⟨rfl, _, ⟨.ret, hb, O2, hIx _ _ _ _ hi2 (Touch.putObj _ _ _ ⟨by omega, hno⟩), hs2⟩, hst3⟩⟩
        | exit id =>
          obtain ⟨O2, hi2, hst2⟩ := hp
          obtain ⟨hr, hb, hno, hs2, hst3⟩ := fin (some (.exit id)) .done B O2 rfl hst2
          exact ⟨_, _, hr, .inr ⟨rfl, _, ⟨.exit id, hb, O2, hIx _ _ _ _ hi2 (Touch.putObj _ _ _ ⟨by omega, hno⟩), hs2⟩, hst3⟩⟩
        | goto t =>
          obtain ⟨O2, hi2, hst2⟩ := hp
          obtain ⟨hr, hb, hno, hs2, hst3⟩ := fin (some (.goto t)) .done B O2 rfl hst2
          exact ⟨_, _, hr, .inr ⟨rfl, _, ⟨.goto t, hb, O2, hIx _ _ _ _ hi2 (Touch.putObj _ _ _ ⟨by omega, hno⟩), hs2⟩, hst3⟩⟩
        | panic ch => exact hp.elim
        | outgrown => exact hp.elim
      | exit id => exact hp.elim
      | goto t => exact hp.elim
      | ret => exact hp.elim
      | panic ch => exact hp.elim
      | outgrown => exact hp.elim
    · exact ⟨⟨hL1, hK1, .inr (.inl rfl), .inr (.inr rfl), by omega⟩, O, hI1, fun k h => ⟨.inl h, fun ht => by have := (hO k h).1; rcases ht with h | h <;> omega, by have := (hO k h).1; omega⟩⟩
    · -- behind the iterator
      rintro e B ⟨rfl, (⟨O', ⟨hl, hk, hoD, hol, hsz⟩, Ou, hi, hsub⟩ | ⟨O', c, ⟨hl, hk, hoD, hol, hsz⟩, Ou, hi, hsub⟩)⟩
      · have hn : ¬ Ou (w.heap.size + 1) := fun h => (hsub _ h).2.1 (.inr rfl)
        have hend := run_endLoop (P := P) hl (by rw [hrec]; simp)
        rw [hrec] at hend
        refine ⟨none, _, hend, hdone w.heap.size Ou _ (Nat.le_refl _) (fun h => (hsub _ h).2.1 (.inl rfl)) (fun k h => by simp; exact (hsub k h).2.2) (hI _ _ _ _ hi (Touch.putObj _ _ _ ⟨by omega, hn⟩)) ((World.putObj_heap_other (by omega)).trans hk)⟩
      · have hn : ¬ Ou (w.heap.size + 1) := fun h => (hsub _ h).2.1 (.inr rfl)
        have hend := run_endLoop (P := P) hl (by rw [hrec]; simp)
        rw [hrec] at hend
        refine ⟨some c, _, hend, hstop w.heap.size c Ou _ (Nat.le_refl _) (fun h => (hsub _ h).2.1 (.inl rfl)) (fun k h => by simp; exact (hsub k h).2.2) (hIx _ _ _ _ hi (Touch.putObj _ _ _ ⟨by omega, hn⟩)) ((World.putObj_heap_other (by omega)).trans hk)⟩

end Go.Proofs.YtinofjenoapeaaaGreat
end
section
namespace Go.Proofs.YtinofjenoapeaaaGreat
open Go.RowKit Go.Shelf
set_option linter.unusedSimpArgs false
set_option linter.unusedVariables false

/-- A value's cells; no rule of the walk's opens it. -/
def cv (v : Value) : Array Value := v.cells
theorem cv_eq (v : Value) : v.cells = cv v := rfl

/-- v is a value of type T, as memory takes it. -/
structure VOf (P : Program) (T : TypeId) (v : Value) : Prop where
  one : (cv v).all (·.oneCell') = true
  size : (P.info? T).map (·.size) = some (cv v).size
  agg : (∃ d, P.underlying T = some d ∧ d.isRow = true ∧ v = .agg (cv v)) ∨ (∃ d, P.underlying T = some d ∧ d.isRow = false ∧ (cv v) = #[v])

/-- Block B is a variable of type T that holds v. -/
def BoxV (w : World) (B : Nat) (T : TypeId) (v : Value) : Prop := w.heap[B]? = some (.cells (cv v) T (0, 0))
theorem BoxV.lt {w : World} {B : Nat} {T : TypeId} {v : Value} (h : BoxV w B T v) : B < w.heap.size := (Array.getElem?_eq_some_iff.1 h).1
theorem BoxV.new (w : World) (T : TypeId) (v : Value) : BoxV (w.alloc (.cells (cv v) T)) w.heap.size T v := World.alloc_heap_new w _
theorem BoxV.alloc {w : World} {B : Nat} {T : TypeId} {v : Value} (h : BoxV w B T v) (o : Obj) : BoxV (w.alloc o) B T v := (Below.heap_alloc w o B h.lt).trans h
theorem BoxV.drew {w : World} {B : Nat} {T : TypeId} {v : Value} (h : BoxV w B T v) : BoxV w.drew B T v := h
theorem BoxV.touch {S : Nat → Prop} {w w' : World} {B : Nat} {T : TypeId} {v : Value} (h : BoxV w B T v) (ht : Touch S w w') (hn : ¬ S B) : BoxV w' B T v := ht.heap h hn
theorem BoxV.set {w : World} {B : Nat} {T : TypeId} {v : Value} (h : BoxV w B T v) (v' : Value) : BoxV (w.setRow B (cv v')) B T v' := setRow_heap w B _ _ _ _ h
theorem BoxV.setOther {w : World} {B : Nat} {T : TypeId} {v : Value} (h : BoxV w B T v) (B' : Nat) (cs : Array Value) (hn : B ≠ B') : BoxV (w.setRow B' cs) B T v := (setRow_other w B' B cs hn).trans h
theorem Touch.setRow {S : Nat → Prop} (w : World) (B : Nat) (cs : Array Value) (h : S B) : Touch S w (w.setRow B cs) :=
  ⟨rfl, rfl, rfl, by simp, fun k _ hn => setRow_other w B k cs (fun e => hn (e ▸ h))⟩
theorem BoxV.cell {w : World} {B : Nat} {T : TypeId} {v : Value} (h : BoxV w B T v) (h1 : (cv v) = #[v]) : w.cell? ⟨B, 0, none⟩ = some v := by
  rw [cell_of_row w B 0 _ T _ h, h1]; rfl
theorem BoxV.setCell {w : World} {B : Nat} {T : TypeId} {v v' : Value} (h : BoxV w B T v) (h1 : cv v = #[v]) (h2 : cv v' = #[v']) : BoxV (w.setCell ⟨B, 0, none⟩ v') B T v' := by
  unfold BoxV
  rw [heap_setCell_same w B 0 _ T v' h, h1, h2]; rfl
theorem BoxV.frozen {w : World} {B : Nat} {T : TypeId} {v : Value} (h : BoxV w B T v) : w.frozen? ⟨B, 0, none⟩ = false := frozen_of_row w B 0 _ T h

section runs
variable {P : Program}
theorem run_loadVar_of (w : World) (b o : Nat) (T : TypeId) (v : Value) (hv : VOf P T v) (hr : w.rangeAt b o (cv v).toList) : (loadVar T ⟨b, o, none⟩).run P w = .ok v w := by
  rcases hv.agg with ⟨d, hu, hd, hag⟩ | ⟨d, hu, hd, h1⟩
  · have := run_loadVar_mid w b o T (cv v).toList d hr hu hd (by rw [hv.size]; simp)
    rw [this]
    simp only [Array.toArray_toList]
    rw [← hag]
  · have hc := hr 0 v (by rw [h1]; rfl)
    have hagg : (isAgg T).run P w = .ok false w := by
      unfold isAgg
      rw [Sem.run_bind, run_underlying hu w]
      cases d <;> simp_all
    simp only [Nat.add_zero] at hc
    simp [loadVar, Sem.run_bind, hagg, hc]
theorem rangeAt_box {w : World} {B : Nat} {T : TypeId} {v : Value} (h : BoxV w B T v) : w.rangeAt B 0 (cv v).toList := by
  intro j u hu
  rw [cell_of_row w B (0 + j) _ T _ h]
  simpa using hu
theorem run_storeVar_of (w : World) (B : Nat) (T T' : TypeId) (v v0 : Value) (hv : VOf P T v) (hb : BoxV w B T' v0) (hs : (cv v0).size = (cv v).size) : (storeVar T ⟨B, 0, none⟩ v).run P w = .ok () (w.setRow B (cv v)) := by
  have := run_storeCells_from (P := P) B T' (cv v).toList 0 (cv v0) w hb (by simp; omega) (fun u hu => (Array.all_eq_true_iff_forall_mem.1 hv.one) u (by simpa using hu))
  cases hq : P.info? T with
  | none => have := hv.size; simp [hq] at this
  | some i =>
    have hsz : (cv v).size = i.size := by have := hv.size; simp [hq] at this; omega
    simp [storeVar, sizeOf, typeInfo, hq, cv_eq, hsz, this]
end runs

section ops
variable {F : Fence} {n : Nat} {P : Program} {ops : Array Oper} {rest : List Oper} {o : Oper} {a : Act} {w : World} {Q : Exit → Act → World → Prop}

theorem wpListIn_val (hF : IsWide F) (hg : Region.wanted o (yielded ops a.tmps) = true) (hnd : ∀ c, o.op ≠ .defer c) {v : Value} {w' : World} (hrun : (execOp a.eval o).run P w = .ok (.value v) w')
    (h : wpListIn F n P ops Q rest (a.put o.dst v) w') : wpListIn F n P ops Q (o :: rest) a w := by
  unfold wpListIn
  rw [if_pos hg]
  refine ⟨fun _ _ => hF.fn _, ?_⟩
  rw [Oper.semAt_eq _ _ _ hnd, hrun]
  exact h
theorem wpListIn_unit (hF : IsWide F) (hg : Region.wanted o (yielded ops a.tmps) = true) (hnd : ∀ c, o.op ≠ .defer c) {w' : World} (hrun : (execOp a.eval o).run P w = .ok .skip w')
    (h : wpListIn F n P ops Q rest (a.put o.dst undef) w') : wpListIn F n P ops Q (o :: rest) a w := by
  unfold wpListIn
  rw [if_pos hg]
  refine ⟨fun _ _ => hF.fn _, ?_⟩
  rw [Oper.semAt_eq _ _ _ hnd, hrun]
  exact h

/-- A load of a value, whatever its cells. -/
theorem wpListIn_loadv (hF : IsWide F) (hg : Region.wanted o (yielded ops a.tmps) = true) (T : TypeId) (x : Operand) (ho : o.op = .load T x) {b off : Nat} (hx : a.eval x = .pointer (some ⟨b, off, none⟩)) {v : Value} (hv : VOf P T v) (hr : w.rangeAt b off (cv v).toList)
    (h : wpListIn F n P ops Q rest (a.put o.dst v) w) : wpListIn F n P ops Q (o :: rest) a w := by
  refine wpListIn_val hF hg (fun c => by rw [ho]; exact fun h => by cases h) ?_ h
  simp [execOp, ho, hx, Instr.loadAt, Instr.sureAddr, Sem.run_bind, run_loadVar_of w b off T v hv hr, Result.andThen]
theorem wpListIn_loadbox (hF : IsWide F) (hg : Region.wanted o (yielded ops a.tmps) = true) (T : TypeId) (x : Operand) (ho : o.op = .load T x) {B : Nat} {T' : TypeId} (hx : a.eval x = .pointer (some ⟨B, 0, none⟩)) {v : Value} (hb : BoxV w B T' v) (hv : VOf P T v)
    (h : wpListIn F n P ops Q rest (a.put o.dst v) w) : wpListIn F n P ops Q (o :: rest) a w :=
  wpListIn_loadv hF hg T x ho hx hv (rangeAt_box hb) h
/-- A parameter or a variable is boxed. -/
theorem wpListIn_boxv (hF : IsWide F) (hg : Region.wanted o (yielded ops a.tmps) = true) (T : TypeId) (x : Operand) (ho : o.op = .box T x) {v : Value} (hx : a.eval x = v)
    (h : wpListIn F n P ops Q rest (a.put o.dst (.pointer (some ⟨w.heap.size, 0, none⟩))) (w.alloc (.cells (cv v) T))) : wpListIn F n P ops Q (o :: rest) a w := by
  refine wpListIn_val hF hg (fun c => by rw [ho]; exact fun h => by cases h) ?_ h
  simp [execOp, ho, hx, Instr.box, newVar, newRow, cv_eq, Sem.run_bind, Result.andThen]
/-- A new variable at its zero value. -/
theorem wpListIn_allocv (hF : IsWide F) (hg : Region.wanted o (yielded ops a.tmps) = true) (T : TypeId) (ho : o.op = .alloc T) {z : Value} (hz : ∀ w, (zeroValue T).run P w = .ok z w)
    (h : wpListIn F n P ops Q rest (a.put o.dst (.pointer (some ⟨w.heap.size, 0, none⟩))) (w.alloc (.cells (cv z) T))) : wpListIn F n P ops Q (o :: rest) a w := by
  refine wpListIn_val hF hg (fun c => by rw [ho]; exact fun h => by cases h) ?_ h
  simp [execOp, ho, Instr.alloc, newVar, newRow, cv_eq, Sem.run_bind, hz, Result.andThen]
/-- A store of a value into a variable. -/
theorem wpListIn_storev (hF : IsWide F) (hg : Region.wanted o (yielded ops a.tmps) = true) (T : TypeId) (x y : Operand) (ho : o.op = .store T x y) {B : Nat} {T' : TypeId} (hx : a.eval x = .pointer (some ⟨B, 0, none⟩)) {v0 v : Value} (hy : a.eval y = v) (hb : BoxV w B T' v0)
    (hv : VOf P T v) (hs : (cv v0).size = (cv v).size)
    (h : wpListIn F n P ops Q rest (a.put o.dst undef) (w.setRow B (cv v))) : wpListIn F n P ops Q (o :: rest) a w := by
  refine wpListIn_unit hF hg (fun c => by rw [ho]; exact fun h => by cases h) ?_ h
  simp [execOp, ho, hx, hy, Instr.storeAt, Instr.sureAddr, Sem.run_bind, run_storeVar_of w B T T' v v0 hv hb hs, Result.andThen]
/-- 'x := v' of a variable that lives in memory: the two operations at once. -/
theorem wpListIn_newv {o2 : Oper} (hF : IsWide F) (hg : Region.wanted o (yielded ops a.tmps) = true) (hg2 : Region.wanted o2 (yielded ops (a.put o.dst (.pointer (some ⟨w.heap.size, 0, none⟩))).tmps) = true) (T : TypeId) (ho : o.op = .alloc T) {z : Value} (hz : ∀ w, (zeroValue T).run P w = .ok z w) (x y : Operand) (ho2 : o2.op = .store T x y)
    {v : Value} (hx : (a.put o.dst (.pointer (some ⟨w.heap.size, 0, none⟩))).eval x = .pointer (some ⟨w.heap.size, 0, none⟩)) (hy : (a.put o.dst (.pointer (some ⟨w.heap.size, 0, none⟩))).eval y = v) (hv : VOf P T v) (hs : (cv z).size = (cv v).size)
    (h : wpListIn F n P ops Q rest ((a.put o.dst (.pointer (some ⟨w.heap.size, 0, none⟩))).put o2.dst undef) (w.alloc (.cells (cv v) T))) : wpListIn F n P ops Q (o :: o2 :: rest) a w := by
  refine wpListIn_allocv hF hg T ho hz ?_
  refine wpListIn_storev hF hg2 T x y ho2 hx hy (BoxV.new w T z) hv hs ?_
  rw [World.setRow_alloc_new]
  exact h
end ops

section calls
variable {F : Fence} {n : Nat} {P : Program} {ops : Array Oper} {rest : List Oper} {o : Oper} {a : Act} {w : World} {Q : Exit → Act → World → Prop}
/-- A call of a known closure, by its contract. -/
theorem wpListIn_callc (hF : IsWide F) {f : Operand} {xs : Array Operand} {ts : Array TypeId} (hop : o.op = Op.call { callee := Callee.value f, args := xs, argTypes := ts })
    (hw : Region.wanted o (yielded ops a.tmps) = true) {g : Nat} {lb args : Array Value} (hf : a.eval f = .func (.func g) #[] lb) (eg : Enters P g) {R : Ending → World → Prop}
    (hc : Calls P g (args ++ lb) w R) (hargs : (xs.toList.map a.eval).toArray = args) (h : ∀ e w', Hid (R e w') → yNext o a (wpListIn F n P ops Q rest) Q e w') : wpListIn F n P ops Q (o :: rest) a w :=
  wpListIn_ycall hF hop hw hf hargs (.inr ⟨g, lb, rfl, eg, hc.mono (fun e w' hr => h e w' hr)⟩)
/-- A call of a declared function, by its contract. -/
theorem wpListIn_callf (hF : IsWide F) (g : Nat) {xs : Array Operand} {ts : Array TypeId} (hop : o.op = Op.call { callee := Callee.value (.func g), args := xs, argTypes := ts })
    (hw : Region.wanted o (yielded ops a.tmps) = true) (eg : Enters P g) {args : Array Value} {R : Ending → World → Prop}
    (hc : Calls P g args w R) (hargs : (xs.toList.map a.eval).toArray = args) (h : ∀ e w', Hid (R e w') → yNext o a (wpListIn F n P ops Q rest) Q e w') : wpListIn F n P ops Q (o :: rest) a w :=
  wpListIn_ycall hF hop hw (y := .func (.func g) #[] #[]) rfl hargs (.inr ⟨g, #[], rfl, eg, by rw [Array.append_empty]; exact hc.mono h⟩)
theorem wpListIn_pass (hF : IsWide F) (hw : Region.wanted o (yielded ops a.tmps) = false) (h : wpListIn F n P ops Q rest (a.put o.dst undef) w) : wpListIn F n P ops Q (o :: rest) a w := by
  unfold wpListIn
  rw [if_neg (by rw [hw]; simp)]
  exact ⟨fun _ _ => hF.fn _, h⟩
theorem YCall.isFunc {y : Value} {args : Array Value} {R : Ending → World → Prop} (h : YCall P y args w R) : ∃ f lb, y = .func f #[] lb := by
  rcases h with ⟨l, fn, tmps, assign, body, hy, _⟩ | ⟨g, lb, hy, _⟩
  · exact ⟨_, _, hy⟩
  · exact ⟨_, _, hy⟩
end calls

/-! ### results that lie in memory -/
theorem results_box1 {P : Program} {fn : Func} {p : Tmp} {T T' : TypeId} (h : fn.results = #[.cell p T]) {tmps : Array Value} {w : World} {B : Nat} {v : Value} (hp : tmps.getD p undef = .pointer (some ⟨B, 0, none⟩)) (hb : BoxV w B T' v) (hv : VOf P T v) :
    (results fn tmps).run P w = .ok v w := by
  have hp' : tmps[p]?.getD undef = .pointer (some ⟨B, 0, none⟩) := by simpa using hp
  simp [results, h, hp', asAddr, run_loadVar_of w B 0 T v hv (rangeAt_box hb)]
theorem results_box2 {P : Program} {fn : Func} {p q : Tmp} {T U T' U' : TypeId} (h : fn.results = #[.cell p T, .cell q U]) {tmps : Array Value} {w : World} {B C : Nat} {v u : Value} (hp : tmps.getD p undef = .pointer (some ⟨B, 0, none⟩)) (hq : tmps.getD q undef = .pointer (some ⟨C, 0, none⟩))
    (hb : BoxV w B T' v) (hc : BoxV w C U' u) (hv : VOf P T v) (hu : VOf P U u) : (results fn tmps).run P w = .ok (.tuple #[v, u]) w := by
  have hp' : tmps[p]?.getD undef = .pointer (some ⟨B, 0, none⟩) := by simpa using hp
  have hq' : tmps[q]?.getD undef = .pointer (some ⟨C, 0, none⟩) := by simpa using hq
  simp [results, h, hp', hq', asAddr, run_loadVar_of w B 0 T v hv (rangeAt_box hb), run_loadVar_of w C 0 U u hu (rangeAt_box hc)]

theorem results_box_tmp {P : Program} {fn : Func} {p q : Tmp} {T T' : TypeId} (h : fn.results = #[.cell p T, .tmp q]) {tmps : Array Value} {w : World} {B : Nat} {v u : Value} (hp : tmps.getD p undef = .pointer (some ⟨B, 0, none⟩)) (hq : tmps.getD q undef = u)
    (hb : BoxV w B T' v) (hv : VOf P T v) : (results fn tmps).run P w = .ok (.tuple #[v, u]) w := by
  have hp' : tmps[p]?.getD undef = .pointer (some ⟨B, 0, none⟩) := by simpa using hp
  have hq' : tmps[q]?.getD undef = u := by simpa using hq
  simp [results, h, hp', hq', asAddr, run_loadVar_of w B 0 T v hv (rangeAt_box hb)]

/-! ### slices of values -/
/-- The slice value v reads as xs in w, its elements of k cells each. -/
def SliceAt (w : World) (k : Nat) (v : Value) (xs : List Value) : Prop :=
  ∃ A c, v = .slice A xs.length c ∧ xs.length ≤ c ∧ (A = none → c = 0) ∧ ∀ i x, xs[i]? = some x → ∃ b o, A = some ⟨b, o, none⟩ ∧ w.rangeAt b (o + i * k) (cv x).toList
/-- The block in which a slice lies. -/
def sliceBlk : Value → Nat → Prop
  | .slice (some a) _ _, b => a.block = b
  | _, _ => False
theorem SliceAt.touch {w w' : World} {k : Nat} {v : Value} {xs : List Value} (h : SliceAt w k v xs) {S : Nat → Prop} (ht : Touch S w w') (hn : ∀ b, sliceBlk v b → ¬ S b) : SliceAt w' k v xs := by
  obtain ⟨A, c, rfl, hc, hA, hx⟩ := h
  refine ⟨A, c, rfl, hc, hA, fun i x hi => ?_⟩
  obtain ⟨b, o, rfl, hr⟩ := hx i x hi
  exact ⟨b, o, rfl, fun j u hu => ht.cell (hr j u hu) (hn b rfl)⟩
theorem SliceAt.same {w w' : World} {k : Nat} {v : Value} {xs : List Value} (h : SliceAt w k v xs) (hn : ∀ b, sliceBlk v b → w'.heap[b]? = w.heap[b]?) : SliceAt w' k v xs := by
  obtain ⟨A, c, rfl, hc, hA, hx⟩ := h
  refine ⟨A, c, rfl, hc, hA, fun i x hi => ?_⟩
  obtain ⟨b, o, rfl, hr⟩ := hx i x hi
  exact ⟨b, o, rfl, fun j u hu => (World.cell?_of_block (hn b rfl)).trans (hr j u hu)⟩

theorem lt_of_same {w w' : World} {k : Nat} (h : k < w.heap.size) (e : w'.heap[k]? = w.heap[k]?) : k < w'.heap.size := by
  rw [Array.getElem?_eq_getElem h] at e
  exact (Array.getElem?_eq_some_iff.1 e).1

/-! ### yield's arguments in the round's temporaries -/
theorem fold1 (p : Tmp) (x : Value) (t : Array Value) : (#[p].zip #[x]).foldl (fun t (p, v) => t.setIfInBounds p v) t = t.setIfInBounds p x := by simp
theorem fold2 (p q : Tmp) (x y : Value) (t : Array Value) : (#[p, q].zip #[x, y]).foldl (fun t (p, v) => t.setIfInBounds p v) t = (t.setIfInBounds p x).setIfInBounds q y := by simp

/-! ### entering a function -/
theorem calls_enter {P : Program} {f : FuncId} {fn : Func} {c : Code} {args : Array Value} {w : World} {R : Ending → World → Prop} (hf : P.funcs[f]? = some fn) (hb : fn.body = some c)
    (h : c.wpIn Fence.wide 0 P (bodyPost P fn R) { tmps := args ++ Array.replicate (fn.ntmps - args.size) undef, defers := [] } w) : Calls P f args w R :=
  isWide_wide.calls (n := 0) (callsIn_of_wp hf hb trivial h rfl)
theorem calls_enterM {P : Program} {f : FuncId} {fn : Func} {c : Code} {args : Array Value} {w : World} {R : Ending → World → Prop} (hf : P.funcs[f]? = some fn) (hb : fn.body = some c)
    (h : c.wpIn Fence.wide 0 P (bodyPostM Fence.wide 0 P fn R) { tmps := args ++ Array.replicate (fn.ntmps - args.size) undef, defers := [] } w) : Calls P f args w R :=
  isWide_wide.calls (n := 0) (callsIn_of_wp_marks hf hb trivial h rfl)
/-- At the end of a function that held one range over a function: the block for its rounds' deferred calls is shut. -/
theorem leaves_one {P : Program} {fn : Func} {tmps : Array Value} {R : Ending → World → Prop} {w : World} {D : Nat} (hD : w.heap[D]? = some (.deferred (some []))) {v : Value} (hr : (results fn tmps).run P (w.putObj D (.deferred none)) = .ok v (w.putObj D (.deferred none)))
    (h : R (.returned v) (w.putObj D (.deferred none))) : LeavesInM Fence.wide 0 P fn tmps R [{ target := .collected D, args := #[] }] .returning w :=
  ⟨by simp, .inl ⟨D, _, rfl, run_takeDeferred hD, _, hr, h⟩⟩

/-! ### what a party owns apart from a footprint -/
def Apart (Fp O : Nat → Prop) (A : World) : Prop := ∀ k, O k → k < A.heap.size ∧ ¬ Fp k
theorem Apart.step {Fp O O' : Nat → Prop} {A B : World} (h : Apart Fp O A) (hF : ∀ k, Fp k → k < A.heap.size) (hs : Step O O' A B) : Apart Fp O' B := fun k hk =>
  ⟨(hs.own k hk).2, fun hf => (hs.own k hk).1.elim (fun ho => (h k ho).2 hf) (fun hn => by have := hF k hf; omega)⟩
theorem Apart.grow {Fp O : Nat → Prop} {A B : World} (h : Apart Fp O A) (hs : A.heap.size ≤ B.heap.size) : Apart Fp O B := fun k hk => ⟨Nat.lt_of_lt_of_le (h k hk).1 hs, (h k hk).2⟩
/-- What a party turns that owns nothing of a footprint leaves the footprint alone. -/
theorem Step.same {O O' Fp : Nat → Prop} {A B : World} (h : Step O O' A B) (ha : Apart Fp O A) (hF : ∀ k, Fp k → k < A.heap.size) {k : Nat} (hk : Fp k) : B.heap[k]? = A.heap[k]? :=
  h.touch.block k (hF k hk) (fun ho => (ha k ho).2 hk)

theorem getElem?_mid {α : Type} (pre : List α) (x : α) (post : List α) : (pre ++ x :: post)[pre.length]? = some x := by simp

end Go.Proofs.YtinofjenoapeaaaGreat
end
section
namespace Go.Proofs.YtinofjenoapeaaaGreat
open Go.RowKit Go.Shelf
set_option linter.unusedSimpArgs false
set_option linter.unusedVariables false

section
variable {F : Fence} {n : Nat} {P : Program} {ops : Array Oper} {md : Region.Mode} {C : World → Prop}

def hUpon (P : Program) (C : World → Prop) (v : Value) : Result Next → Prop
  | .ok (.value u) w' => C w' ∧ u = v
  | .ok .skip w' => C w' ∧ v = undef
  | .ok (.enter f args) w' => Calls P f args w' (fun e w'' => e = .returned v ∧ C w'')
  | _ => False

/-- Operation o, carried out in w, yields v and leaves a world of the class. -/
def hAt (P : Program) (o : Oper) (a : Act) (C : World → Prop) (w : World) (v : Value) : Prop := (∀ c, o.op ≠ .defer c) ∧ hUpon P C v ((execOp a.eval o).run P w)

def hOper (P : Program) (o : Oper) (a : Act) (C : World → Prop) (next : Act → Prop) : Prop := ∃ v, (∀ w, C w → hAt P o a C w v) ∧ next (a.put o.dst v)

/-- The walk in the order of the text. -/
def hList (P : Program) (ops : Array Oper) (C : World → Prop) (Q : Act → Prop) : List Oper → Act → Prop
  | [], a => Q a
  | o :: rest, a => if Region.wanted o (yielded ops a.tmps) then hOper P o a C (hList P ops C Q rest) else hList P ops C Q rest (a.put o.dst undef)

def hOp (P : Program) (ops : Array Oper) (C : World → Prop) (i : Nat) (K : Act → Prop) (a : Act) : Prop :=
  match ops[i]? with
  | none => K a
  | some o => if Region.wanted o (yielded ops a.tmps) then hOper P o a C K else K (a.put o.dst undef)

theorem hOper_mono {o : Oper} {a : Act} {K K' : Act → Prop} (h : ∀ a, K a → K' a) (hh : hOper P o a C K) : hOper P o a C K' :=
  let ⟨v, h1, h2⟩ := hh
  ⟨v, h1, h _ h2⟩

theorem hOp_mono {i : Nat} {a : Act} {K K' : Act → Prop} (h : ∀ a, K a → K' a) (hh : hOp P ops C i K a) : hOp P ops C i K' a := by
  unfold hOp at *
  split
  · exact h _ (by simpa [*] using hh)
  · rename_i o ho
    simp only [ho] at hh
    split
    · rename_i hw; simp only [hw, if_true] at hh; exact hOper_mono h hh
    · rename_i hw; simp only [hw] at hh; exact h _ hh

theorem wpIn_of_h (hF : IsWide F) {o : Oper} {a : Act} {K : Act → Prop} {K' : Act → World → Prop} {Q' : Exit → Act → World → Prop} {w : World} (hw : C w) (h : ∀ a w', C w' → K a → K' a w')
    (hh : hOper P o a C K) : o.wpIn F n P a w K' Q' := by
  obtain ⟨v, h1, h2⟩ := hh
  obtain ⟨hnd, h3⟩ := h1 w hw
  refine ⟨fun _ _ => hF.fn _, ?_⟩
  rw [Oper.semAt_eq _ _ _ hnd]
  generalize (execOp a.eval o).run P w = r at *
  cases r with
  | ok x w' =>
    cases x <;> simp only [hUpon] at h3 <;> simp only [Oper.uponIn]
    case value u =>
      obtain ⟨e1, rfl⟩ := h3
      exact h _ _ e1 h2
    case skip =>
      obtain ⟨e1, rfl⟩ := h3
      exact h _ _ e1 h2
    case enter f args =>
      refine ⟨fun hd => absurd hd (by rw [hF.depth]; simp), ?_⟩
      exact hF.callsIn (h3.mono fun e w'' ⟨he, hw''⟩ => by subst he; exact h _ _ hw'' h2)
  | halt x w' => simp only [hUpon] at h3

theorem wpOpIn_of_hOp (hF : IsWide F) {i : Nat} {a : Act} {K : Act → Prop} {K' : Act → World → Prop} {Q' : Exit → Act → World → Prop} {w : World} (hC : C w) (h : ∀ a w', C w' → K a → K' a w')
    (hh : hOp P ops C i K a) : wpOpIn F n P ops Q' i K' a w := by
  unfold hOp at hh
  unfold wpOpIn
  split
  · rename_i ho; simp only [ho] at hh; exact h _ _ hC hh
  · rename_i o ho
    simp only [ho] at hh
    split
    · rename_i hw; simp only [hw, if_true] at hh; exact wpIn_of_h hF hC h hh
    · rename_i hw; simp only [hw] at hh; exact ⟨fun _ _ => hF.fn _, h _ _ hC hh⟩

/-- In state a, in every world of the class, operation o leaves v in its temporary, and a world of the class. -/
def HYields (P : Program) (ops : Array Oper) (C : World → Prop) (o : Oper) (v : Value) (a : Act) : Prop :=
  (Region.wanted o (yielded ops a.tmps) = true ∧ ∀ w, C w → hAt P o a C w v) ∨ (Region.wanted o (yielded ops a.tmps) = false ∧ v = undef)

theorem HYields.hOp {i : Nat} {o : Oper} {v : Value} {a : Act} (hi : ops[i]? = some o) (hy : HYields P ops C o v a) {K : Act → Prop} (h : K (a.put o.dst v)) : hOp P ops C i K a := by
  unfold Proofs.YtinofjenoapeaaaGreat.hOp
  simp only [hi]
  rcases hy with ⟨hw, hv⟩ | ⟨hw, rfl⟩
  · simp only [hw, if_true]; exact ⟨v, hv, h⟩
  · simp only [hw, Bool.false_eq_true, if_false]; exact h

theorem HYields.of_same {o : Oper} {v : Value} {a a' : Act} (hy : HYields P ops C o v a) (he : execOp a'.eval o = execOp a.eval o)
    (hw : Region.wanted o (yielded ops a'.tmps) = Region.wanted o (yielded ops a.tmps)) : HYields P ops C o v a' := by
  unfold HYields hAt at *
  rw [he, hw]
  exact hy

theorem hYields_of_hOp {i : Nat} {o : Oper} {a : Act} {K : Act → Prop} (hi : ops[i]? = some o) (h : hOp P ops C i K a) : ∃ v, HYields P ops C o v a ∧ K (a.put o.dst v) := by
  unfold hOp at h
  simp only [hi] at h
  by_cases hw : Region.wanted o (yielded ops a.tmps) = true
  · simp only [hw, if_true] at h
    obtain ⟨v, h1, h2⟩ := h
    exact ⟨v, .inl ⟨hw, h1⟩, h2⟩
  · simp only [hw] at h
    exact ⟨undef, .inr ⟨by simpa using hw, rfl⟩, h⟩

theorem hOp_put {j : Nat} {oi oj : Oper} {v : Value} (hj : ops[j]? = some oj) (hap : oi.apart ops oj = true)
    (hsi : ∀ cs b, oi.op ≠ .select cs b) (hsj : ∀ cs b, oj.op ≠ .select cs b) {K : Act → Prop} {a : Act}
    (hy : HYields P ops C oi v a) (h : hOp P ops C j K (a.put oi.dst v)) :
    hOp P ops C j (fun a' => HYields P ops C oi v a' ∧ K (a'.put oi.dst v)) a := by
  obtain ⟨h1, h2, h3⟩ := Oper.apart_spec hap
  have keep : ∀ (a : Act), HYields P ops C oi v a → ∀ u, HYields P ops C oi v (a.put oj.dst u) := fun a hy u =>
    hy.of_same (execOp_put oi hsi a oj.dst u h3) (wanted_put oi a oj.dst u h3)
  unfold hOp at *
  simp only [hj] at *
  rw [wanted_put oj a oi.dst v h1] at h
  split
  · rename_i hw
    simp only [hw, if_true] at h
    obtain ⟨u, hu, hn⟩ := h
    refine ⟨u, fun w hw' => ?_, keep a hy u, by rw [← Act.put_comm a v u h2]; exact hn⟩
    have := hu w hw'
    unfold hAt at *
    rwa [execOp_put oj hsj a oi.dst v h1] at this
  · rename_i hw
    simp only [hw] at h
    exact ⟨keep a hy _, by rw [← Act.put_comm a v undef h2]; exact h⟩

/-- From any point of the head: each operation that may come up is one of the head. -/
def hAnyL (P : Program) (md : Region.Mode) (ops : Array Oper) (C : World → Prop) (m : Nat) (L : Array Bool → Act → Prop) : Nat → Array Bool → Act → Prop
  | 0, listed, a => L listed a
  | f + 1, listed, a =>
    Region.ready md ops listed ≠ [] ∧ ∀ i ∈ Region.ready md ops listed, i < m ∧ hOp P ops C i (hAnyL P md ops C m L f (listed.setIfInBounds i true)) a

theorem wpAnyIn_of_head (hF : IsWide F) {m g : Nat} {L : Array Bool → Act → Prop} {Q' : Exit → Act → World → Prop} (hL : ∀ listed a w, C w → L listed a → wpAnyIn F n P md ops Q' g listed a w) :
    ∀ (f : Nat) (listed : Array Bool) (a : Act) (w : World), C w → hAnyL P md ops C m L f listed a → wpAnyIn F n P md ops Q' (f + g) listed a w
  | 0, listed, a, w, hw, h => by rw [Nat.zero_add]; exact hL _ _ _ hw h
  | f + 1, listed, a, w, hw, h => by
    rw [show f + 1 + g = (f + g) + 1 by omega]
    exact ⟨fun h0 => absurd h0 h.1, fun i hi => wpOpIn_of_hOp hF hw (fun a' w' hw' h' => wpAnyIn_of_head hF hL f _ a' w' hw' h') (h.2 i hi).2⟩

theorem hAnyL_first {m i : Nat} {oi : Oper} {v : Value} {L : Array Bool → Act → Prop} (hi : ops[i]? = some oi) (hsel : ∀ (j : Nat) (o : Oper) cs b, ops[j]? = some o → o.op ≠ .select cs b)
    (hs : Region.sinkB md ops m = true) (hc : Region.chainB md ops m = true) (hn : m < ops.size) (hin : i < m)
    (hdone : ∀ listed a, L listed a → ∀ j ∈ Region.ready md ops listed, m ≤ j) :
    ∀ (f : Nat) (listed : Array Bool) (a : Act), HeadInv md ops m listed →
      (∀ j oj, ops[j]? = some oj → j ≠ i → listed.getD j true = false → (∀ e ∈ oj.after, Region.binds md e = true → e.on ≠ i) → oi.apart ops oj = true) →
      i ∈ Region.ready md ops listed → HYields P ops C oi v a →
      hAnyL P md ops C m L f (listed.setIfInBounds i true) (a.put oi.dst v) → hAnyL P md ops C m L (f + 1) listed a := by
  intro f
  induction f with
  | zero =>
    intro listed a inv _ hr hy H
    have hun := (mem_ready.1 hr).1
    refine ⟨fun h => (by rw [h] at hr; cases hr), fun j hj => ?_⟩
    have hjn : j < m := by
      rcases Nat.lt_or_ge j m with h | h
      · exact h
      · exact absurd hj (tail_waits hs hc hn inv _ i rfl hin hun j h)
    refine ⟨hjn, ?_⟩
    by_cases hji : j = i
    · subst hji; exact hy.hOp hi H
    · have := hdone _ _ H j (ready_mono hj hji)
      omega
  | succ f ih =>
    intro listed a inv hfree hr hy H
    have hun := (mem_ready.1 hr).1
    refine ⟨fun h => (by rw [h] at hr; cases hr), fun j hj => ?_⟩
    have hjn : j < m := by
      rcases Nat.lt_or_ge j m with h | h
      · exact h
      · exact absurd hj (tail_waits hs hc hn inv _ i rfl hin hun j h)
    refine ⟨hjn, ?_⟩
    by_cases hji : j = i
    · subst hji; exact hy.hOp hi H
    · have h1 := (H.2 j (ready_mono hj hji)).2
      obtain ⟨hjun, oj, hoj, hall⟩ := mem_ready.1 hj
      have hnot : ∀ e ∈ oj.after, Region.binds md e = true → e.on ≠ i := fun e he hb heq => by
        have h1 := hall e he hb
        rw [heq, getD_both hun] at h1
        cases h1
      have h2 := hOp_put hoj (hfree j oj hoj hji hjun hnot) (fun cs b => hsel i oi cs b hi) (fun cs b => hsel j oj cs b hoj) hy h1
      have hfree' : ∀ k ok, ops[k]? = some ok → k ≠ i → (listed.setIfInBounds j true).getD k true = false →
          (∀ e ∈ ok.after, Region.binds md e = true → e.on ≠ i) → oi.apart ops ok = true := fun k ok hk hki hun hno => by
        refine hfree k ok hk hki ?_ hno
        by_cases hjk : j = k
        · subst hjk; exact hjun
        · rw [getD_set_ne true hjk] at hun; exact hun
      refine hOp_mono (fun a' h3 => ih (listed.setIfInBounds j true) a' (inv.set hj hjn) hfree' (ready_mono hr (Ne.symm hji)) h3.1 ?_) h2
      rw [Array.setIfInBounds_comm _ _ hji]
      exact h3.2

theorem wpAnyIn_of_seq {Q' : Exit → Act → World → Prop} : ∀ (l : List Oper) (k : Nat) (listed : Array Bool) (a : Act) (w : World), (∀ j, l[j]? = ops[k + j]?) →
    Region.seqB md ops l.length k listed = true → wpListIn F n P ops Q' l a w → wpAnyIn F n P md ops Q' l.length listed a w
  | [], _, _, _, _, _, hB, h => ⟨by simpa [Region.seqB] using hB, h⟩
  | o :: l, k, listed, a, w, hl, hB, h => by
    have h0 : ops[k]? = some o := by simpa using (hl 0).symm
    simp only [List.length_cons, Region.seqB, Bool.and_eq_true, decide_eq_true_eq] at hB
    refine ⟨fun h1 => (by rw [hB.1] at h1; cases h1), fun i hi => ?_⟩
    rw [hB.1] at hi
    have hik : i = k := by simpa using hi
    subst hik
    have hw : wpOpIn F n P ops Q' i (wpListIn F n P ops Q' l) a w := by unfold wpOpIn; simp only [h0]; exact h
    exact wpOpIn_mono (fun a' w' h' => wpAnyIn_of_seq l (i + 1) _ a' w' (fun j => by have := hl (j + 1); simpa [Nat.add_assoc, Nat.add_comm 1 j] using this) hB.2 h') hw

theorem hAnyL_lex {m g : Nat} {Lq : Act → Prop} (hsel : Region.noSelect ops = true) (hs : Region.sinkB md ops m = true) (hc : Region.chainB md ops m = true) (hn : m < ops.size) :
    ∀ (l : List Oper) (k : Nat) (listed : Array Bool) (a : Act), (∀ j, j < l.length → l[j]? = ops[k + j]?) → k + l.length = m → HeadInv md ops m listed →
    Region.lexHead md ops g l.length k listed = true → hList P ops C Lq l a →
    hAnyL P md ops C m (fun listed' a' => Region.seqB md ops g m listed' = true ∧ Lq a') l.length listed a
  | [], k, listed, a, _, hk, _, hB, h => by
    have : k = m := by simpa using hk
    subst this
    exact ⟨by simpa [Region.lexHead] using hB, h⟩
  | o :: l, k, listed, a, hl, hk, inv, hB, h => by
    have h0 : ops[k]? = some o := by simpa using (hl 0 (by simp)).symm
    simp only [List.length_cons, Region.lexHead, Bool.and_eq_true] at hB
    obtain ⟨⟨hr, hf⟩, hB'⟩ := hB
    have hkn : k < m := by simp only [List.length_cons] at hk; omega
    have hr' : k ∈ Region.ready md ops listed := by simpa using hr
    have hst : hOp P ops C k (hList P ops C Lq l) a := by unfold hOp; simp only [h0]; exact h
    obtain ⟨v, hy, hK⟩ := hYields_of_hOp h0 hst
    exact hAnyL_first h0 (Region.noSelect_spec hsel) hs hc hn hkn (fun listed' a' hL => seqB_ready hL.1) l.length listed a inv (Region.free_spec h0 hf) hr' hy
      (hAnyL_lex hsel hs hc hn l (k + 1) _ _ (fun j hj => by have := hl (j + 1) (by simp; omega); simpa [Nat.add_assoc, Nat.add_comm 1 j] using this) (by simp only [List.length_cons] at hk; omega) (inv.set hr' hkn) hB' hK)

/-- **A DRAWN REGION: a head that is quiet in the class C (operations 0 to m - 1), then the others one behind the other.** -/
theorem wpIn_region_head (hF : IsWide F) {id : Nat} {Q : Exit → Act → World → Prop} {a : Act} {w : World} {l : List Oper} (m : Nat) (C : World → Prop) (hm : P.follows .mixedOrders = true) (hB : Region.lexTailB .any l.toArray m = true) (hC : C w.drew)
    (h : hList P l.toArray C (fun a' => ∀ w', C w' → wpListIn F n P l.toArray Q (l.drop m) a' w') (l.take m) a) : (Code.region id l.toArray true).wpIn F n P Q a w := by
  simp only [Region.lexTailB, Bool.and_eq_true, decide_eq_true_eq] at hB
  obtain ⟨⟨⟨⟨hsel, hn⟩, hs⟩, hc⟩, hlex⟩ := hB
  have hn' : m < l.length := by simpa using hn
  have htl : (l.take m).length = m := by simp; omega
  have hdl : (l.drop m).length = l.toArray.size - m := by simp
  have inv0 : HeadInv .any l.toArray m (Array.replicate l.toArray.size false) :=
    ⟨by simp, fun j oj _ hl => (by rw [getD_replicate_false] at hl; cases hl), fun t _ ht => getD_in (by simpa using ht) (getD_replicate_false _ _)⟩
  have H := hAnyL_lex (P := P) (C := C) (md := .any) (g := l.toArray.size - m) hsel hs hc hn (l.take m) 0 _ a (fun j hj => by
    have hj' : j < m := by rw [htl] at hj; exact hj
    simp [hj']) (by simpa using htl) inv0 (by rw [htl]; exact hlex) h
  refine wpIn_region_any hm ?_
  have := wpAnyIn_of_head hF (n := n) (Q' := Q) (g := l.toArray.size - m) (fun listed a' w' hw' hL => by
    have := wpAnyIn_of_seq (F := F) (n := n) (P := P) (md := .any) (Q' := Q) (l.drop m) m listed a' w' (fun j => by simp [List.getElem?_drop]) (by rw [hdl]; exact hL.1) (hL.2 w' hw')
    rwa [hdl] at this) _ _ _ _ hC H
  rw [htl, show m + (l.toArray.size - m) = l.toArray.size by omega] at this
  exact this
end

/-! ### the head's steps -/
section steps
variable {P : Program} {ops : Array Oper} {C : World → Prop} {Q : Act → Prop} {o : Oper} {rest : List Oper} {a : Act}
theorem hList_nil (h : Q a) : hList P ops C Q [] a := h
theorem hList_skip (hw : Region.wanted o (yielded ops a.tmps) = false) (h : hList P ops C Q rest (a.put o.dst undef)) : hList P ops C Q (o :: rest) a := by
  unfold hList; rw [if_neg (by rw [hw]; simp)]; exact h
theorem hList_val {v : Value} (hw : Region.wanted o (yielded ops a.tmps) = true) (hnd : ∀ c, o.op ≠ .defer c) (hrun : ∀ w, C w → (execOp a.eval o).run P w = .ok (.value v) w) (h : hList P ops C Q rest (a.put o.dst v)) : hList P ops C Q (o :: rest) a := by
  unfold hList; rw [if_pos hw]; exact ⟨v, fun w hc => ⟨hnd, by rw [hrun w hc]; exact ⟨hc, rfl⟩⟩, h⟩
theorem hList_move {x : Operand} {v : Value} (hw : Region.wanted o (yielded ops a.tmps) = true) (ho : o.op = .move x) (hx : a.eval x = v) (h : hList P ops C Q rest (a.put o.dst v)) : hList P ops C Q (o :: rest) a :=
  hList_val hw (fun c => by rw [ho]; exact fun h => by cases h) (fun w _ => by simp [execOp, ho, hx]) h
theorem hList_assign {x : Operand} {v : Value} (hw : Region.wanted o (yielded ops a.tmps) = true) (ho : o.op = .assign x) (hx : a.eval x = v) (h : hList P ops C Q rest (a.put o.dst v)) : hList P ops C Q (o :: rest) a :=
  hList_val hw (fun c => by rw [ho]; exact fun h => by cases h) (fun w _ => by simp [execOp, ho, hx]) h
theorem hList_load {T : TypeId} {x : Operand} {v : Value} {b off : Nat} (hw : Region.wanted o (yielded ops a.tmps) = true) (ho : o.op = .load T x) (hx : a.eval x = .pointer (some ⟨b, off, none⟩)) (hv : VOf P T v) (hr : ∀ w, C w → w.rangeAt b off (cv v).toList)
    (h : hList P ops C Q rest (a.put o.dst v)) : hList P ops C Q (o :: rest) a :=
  hList_val hw (fun c => by rw [ho]; exact fun h => by cases h) (fun w hc => by
    simp [execOp, ho, hx, Instr.loadAt, Instr.sureAddr, Sem.run_bind, run_loadVar_of w b off T v hv (hr w hc), Result.andThen]) h
theorem hList_loadbox {T T' : TypeId} {x : Operand} {v : Value} {B : Nat} (hw : Region.wanted o (yielded ops a.tmps) = true) (ho : o.op = .load T x) (hx : a.eval x = .pointer (some ⟨B, 0, none⟩)) (hv : VOf P T v) (hr : ∀ w, C w → BoxV w B T' v)
    (h : hList P ops C Q rest (a.put o.dst v)) : hList P ops C Q (o :: rest) a :=
  hList_load hw ho hx hv (fun w hc => rangeAt_box (hr w hc)) h
/-- A call, by whatever function value. -/
theorem hList_call {f : Operand} {xs : Array Operand} {ts : Array TypeId} {v : Value} {g : Nat} {lb args : Array Value} (hw : Region.wanted o (yielded ops a.tmps) = true)
    (ho : o.op = Op.call { callee := Callee.value f, args := xs, argTypes := ts }) (hf : a.eval f = .func (.func g) #[] lb) (hargs : (xs.toList.map a.eval).toArray = args) (eg : Enters P g)
    (hc : ∀ w, C w → Calls P g (args ++ lb) w (fun e w' => e = .returned v ∧ C w')) (h : hList P ops C Q rest (a.put o.dst v)) : hList P ops C Q (o :: rest) a := by
  unfold hList; rw [if_pos hw]
  refine ⟨v, fun w hcw => ⟨fun c => by rw [ho]; exact (fun h => by cases h), ?_⟩, h⟩
  replace hargs : xs.map a.eval = args := by rw [← hargs, ← Array.toList_map]
  have : (execOp a.eval o).run P w = .ok (.enter g (args ++ lb)) w := by
    have h2 : (invoke (.fn (.func g) lb) args).run P w = .ok (.enter g (args ++ lb)) w := by
      simpa [invoke] using eg (args ++ lb) w
    simp only [execOp, ho, resolve, hf, hargs]
    simpa [Deferred.ofValue, Sem.run_bind, Result.andThen, go_sem] using h2
  rw [this]
  exact hc w hcw
/-- A call of a declared function. -/
theorem hList_callf {xs : Array Operand} {ts : Array TypeId} {v : Value} (g : Nat) {args : Array Value} (hw : Region.wanted o (yielded ops a.tmps) = true)
    (ho : o.op = Op.call { callee := Callee.value (.func g), args := xs, argTypes := ts }) (eg : Enters P g) (hargs : (xs.toList.map a.eval).toArray = args)
    (hc : ∀ w, C w → Calls P g args w (fun e w' => e = .returned v ∧ C w')) (h : hList P ops C Q rest (a.put o.dst v)) : hList P ops C Q (o :: rest) a :=
  hList_call (f := .func g) (lb := #[]) hw ho rfl hargs eg (fun w hw' => by rw [Array.append_empty]; exact hc w hw') h
end steps

end Go.Proofs.YtinofjenoapeaaaGreat
end
section
namespace Go.Proofs.YtinofjenoapeaaaGreat
open Go.RowKit Go.Shelf
set_option linter.unusedSimpArgs false
set_option linter.unusedVariables false

/-- What slices.Values' iterator stands on: its box and the slice's own row. -/
def valFp (Bs : Nat) (sv : Value) : Nat → Prop := fun k => k = Bs ∨ sliceBlk sv k

/-- s is an iterator value that gives xs, standing on the blocks Fp, which lie in w. -/
def IsSeq (P : Program) (xs : List Value) (Fp : Nat → Prop) (w : World) (s : Value) : Prop :=
  ∃ g lb, s = .func (.func g) #[] lb ∧ Enters P g ∧ SeqOf P (fun v => #[v]) xs Fp w g lb ∧ ∀ k, Fp k → k < w.heap.size

/-- f is a function value that tells p of each of xs, standing on the blocks Fp. -/
def IsPred (P : Program) (xs : List Value) (p : Value → Bool) (Fp : Nat → Prop) (w : World) (f : Value) : Prop :=
  ∃ g lb, f = .func (.func g) #[] lb ∧ Enters P g ∧ (∀ k, Fp k → k < w.heap.size) ∧ ∀ W, (∀ k, Fp k → k < W.heap.size ∧ W.heap[k]? = w.heap[k]?) → ∀ x ∈ xs,
    Calls P g (#[x] ++ lb) W (fun e B => e = .returned (.bool (p x)) ∧ Below W.heap.size W B)

theorem IsSeq.later {P : Program} {xs : List Value} {Fp : Nat → Prop} {w w' : World} {s : Value} (h : IsSeq P xs Fp w s) (hw : Below w.heap.size w w') : IsSeq P xs Fp w' s := by
  obtain ⟨g, lb, rfl, eg, hs, hf⟩ := h
  exact ⟨g, lb, rfl, eg, hs.later (fun k hk => hw.block k (hf k hk)), fun k hk => Nat.lt_of_lt_of_le (hf k hk) hw.size⟩
theorem IsSeq.mono {P : Program} {xs : List Value} {Fp Fp' : Nat → Prop} {w : World} {s : Value} (h : IsSeq P xs Fp w s) (hk : ∀ k, Fp k → Fp' k) (hf' : ∀ k, Fp' k → k < w.heap.size) : IsSeq P xs Fp' w s := by
  obtain ⟨g, lb, rfl, eg, hs, hf⟩ := h
  exact ⟨g, lb, rfl, eg, hs.mono hk, hf'⟩
theorem IsPred.later {P : Program} {xs : List Value} {p : Value → Bool} {Fp : Nat → Prop} {w w' : World} {f : Value} (h : IsPred P xs p Fp w f) (hw : Below w.heap.size w w') : IsPred P xs p Fp w' f := by
  obtain ⟨g, lb, rfl, eg, hf, hs⟩ := h
  exact ⟨g, lb, rfl, eg, fun k hk => Nat.lt_of_lt_of_le (hf k hk) hw.size, fun W hW => hs W (fun k hk => ⟨(hW k hk).1, (hW k hk).2.trans (hw.block k (hf k hk))⟩)⟩

/-- One-celled values of types that are no aggregate. -/
theorem vof_one {P : Program} {T : TypeId} {v : Value} {d : TypeDesc} (hu : P.underlying T = some d) (hd : d.isRow = false) (hs : (P.info? T).map (·.size) = some 1) (hc : cv v = #[v]) (h1 : v.oneCell' = true) : VOf P T v :=
  ⟨by rw [hc]; simp [h1], by rw [hc]; exact hs, .inr ⟨d, hu, hd, hc⟩⟩

/-! ### a function value held against nil -/
theorem run_equal_func_nil {P : Program} {T : TypeId} {a b : Array TypeId} {c : Bool} (hu : P.underlying T = some (.func a b c)) (f : Fn) (x y : Array Value) (w : World) : (Op.equal T (.func f x y) .nilFunc).run P w = .ok false w := by
  unfold Op.equal Op.maxDepth
  rw [Op.equalIn]
  simp [Sem.run_bind, run_underlying hu, Result.andThen]
theorem run_equal_nil_nil {P : Program} {T : TypeId} {a b : Array TypeId} {c : Bool} (hu : P.underlying T = some (.func a b c)) (w : World) : (Op.equal T .nilFunc .nilFunc).run P w = .ok true w := by
  unfold Op.equal Op.maxDepth
  rw [Op.equalIn]
  simp [Sem.run_bind, run_underlying hu, Result.andThen]
theorem run_eql_func_nil {P : Program} {T : TypeId} {a b : Array TypeId} {c : Bool} (hu : P.underlying T = some (.func a b c)) (f : Fn) (x y : Array Value) (w : World) : (binOp .eql T (.func f x y) .nilFunc).run P w = .ok (.bool false) w := by
  simp [binOp, Sem.run_bind, run_equal_func_nil hu, Result.andThen]
theorem run_neq_func_nil {P : Program} {T : TypeId} {a b : Array TypeId} {c : Bool} (hu : P.underlying T = some (.func a b c)) (f : Fn) (x y : Array Value) (w : World) : (binOp .neq T (.func f x y) .nilFunc).run P w = .ok (.bool true) w := by
  simp [binOp, Sem.run_bind, run_equal_func_nil hu, Result.andThen]
theorem run_eql_nil_nil {P : Program} {T : TypeId} {a b : Array TypeId} {c : Bool} (hu : P.underlying T = some (.func a b c)) (w : World) : (binOp .eql T .nilFunc .nilFunc).run P w = .ok (.bool true) w := by
  simp [binOp, Sem.run_bind, run_equal_nil_nil hu, Result.andThen]
theorem run_neq_nil_nil {P : Program} {T : TypeId} {a b : Array TypeId} {c : Bool} (hu : P.underlying T = some (.func a b c)) (w : World) : (binOp .neq T .nilFunc .nilFunc).run P w = .ok (.bool false) w := by
  simp [binOp, Sem.run_bind, run_equal_nil_nil hu, Result.andThen]

/-! ### a slice's cells, one behind the other -/
theorem flat_split {α : Type} {k : Nat} : ∀ (ls : List (List α)), (∀ l ∈ ls, l.length = k) → ∀ (j : Nat) (u : α), ls.flatten[j]? = some u → ∃ i r l, j = i * k + r ∧ ls[i]? = some l ∧ l[r]? = some u
  | [], _, j, u, h => by simp at h
  | l :: ls, hk, j, u, h => by
    have hl : l.length = k := hk l (by simp)
    rw [List.flatten_cons] at h
    by_cases hj : j < l.length
    · rw [List.getElem?_append_left hj] at h
      exact ⟨0, j, l, by simp, by simp, h⟩
    · rw [List.getElem?_append_right (by omega)] at h
      obtain ⟨i, r, l', e, h1, h2⟩ := flat_split ls (fun l' h' => hk l' (by simp [h'])) _ u h
      exact ⟨i + 1, r, l', by rw [Nat.succ_mul]; omega, by simpa using h1, h2⟩
theorem flat_at {α : Type} {k : Nat} : ∀ (ls : List (List α)), (∀ l ∈ ls, l.length = k) → ∀ (i r : Nat) (l : List α) (u : α), ls[i]? = some l → l[r]? = some u → ls.flatten[i * k + r]? = some u
  | [], _, i, r, l, u, h, _ => by simp at h
  | l :: ls, hk, i, r, l', u, h, hu => by
    have hl : l.length = k := hk l (by simp)
    rw [List.flatten_cons]
    cases i with
    | zero =>
      simp at h; subst h
      rw [List.getElem?_append_left (by have := (List.getElem?_eq_some_iff.1 hu).1; omega)]
      simpa using hu
    | succ i =>
      rw [List.getElem?_append_right (by rw [Nat.succ_mul]; omega)]
      have := flat_at ls (fun l' h' => hk l' (by simp [h'])) i r l' u (by simpa using h) hu
      rw [← this]; congr 1; rw [Nat.succ_mul]; omega
theorem flat_len {α : Type} {k : Nat} : ∀ (ls : List (List α)), (∀ l ∈ ls, l.length = k) → ls.flatten.length = ls.length * k
  | [], _ => by simp
  | l :: ls, hk => by
    rw [List.flatten_cons, List.length_append, flat_len ls (fun l' h' => hk l' (by simp [h'])), hk l (by simp), List.length_cons, Nat.succ_mul]; omega

/-- All cells of a list of values. -/
def cellsOf (xs : List Value) : List Value := (xs.map fun x => (cv x).toList).flatten
theorem cellsOf_len {k : Nat} {xs : List Value} (hk : ∀ x ∈ xs, (cv x).size = k) : (cellsOf xs).length = xs.length * k := by
  unfold cellsOf
  rw [flat_len (k := k) _ (fun l hl => by obtain ⟨x, hx, rfl⟩ := List.mem_map.1 hl; simpa using hk x hx)]; simp
theorem SliceAt.cells {w : World} {k : Nat} {xs : List Value} (hk : ∀ x ∈ xs, (cv x).size = k) {ad : Addr} {n c : Nat} (h : SliceAt w k (.slice (some ad) n c) xs) : ∀ j u, (cellsOf xs)[j]? = some u → w.cell? (ad.add j) = some u := by
  intro j u hu
  obtain ⟨i, r, l, rfl, h1, h2⟩ := flat_split (k := k) _ (fun l hl => by obtain ⟨x, hx, rfl⟩ := List.mem_map.1 hl; simpa using hk x hx) j u hu
  obtain ⟨A, c', hv, hc, hA, hx⟩ := h
  simp only [List.getElem?_map, Option.map_eq_some_iff] at h1
  obtain ⟨x, hxi, rfl⟩ := h1
  obtain ⟨b, o, e, hr⟩ := hx i x hxi
  injection hv with e1 e2 e3
  rw [← e1] at e; cases e
  rw [Addr.add_mid]
  have := hr r u h2
  rw [← this, Nat.add_assoc]
theorem SliceAt.of_owns {w : World} {base k : Nat} {e : TypeId} {v : Value} {n : Nat} {xs : List Value} (hk : ∀ x ∈ xs, (cv x).size = k) (h : w.ownsRow base e k v n (cellsOf xs)) (hn : n = xs.length) (hnil : v = .slice none 0 0 → xs = []) : SliceAt w k v xs := by
  rcases h.2 with ⟨rfl, h0⟩ | ⟨g, cap, cur, rfl, hb, hg, hle, hm, hsz, htk⟩
  · obtain rfl : xs = [] := hnil rfl
    exact ⟨none, 0, rfl, Nat.le_refl _, fun _ => rfl, fun i x hx => by simp at hx⟩
  · refine ⟨some ⟨g, 0, none⟩, cap, by rw [hn], by omega, (fun h => by cases h), fun i x hx => ⟨g, 0, rfl, ?_⟩⟩
    intro r u hu
    have h1 := flat_at (k := k) (xs.map fun x => (cv x).toList) (fun l hl => by obtain ⟨x, hx, rfl⟩ := List.mem_map.1 hl; simpa using hk x hx) i r (cv x).toList u (by simp [hx]) hu
    rw [cell_of_row w g _ cur e _ hg, ← Array.getElem?_toList]
    rw [show (xs.map fun x => (cv x).toList).flatten = cellsOf xs from rfl, ← htk, List.getElem?_take] at h1
    rw [show 0 + i * k + r = i * k + r by omega]
    split at h1
    · exact h1
    · cases h1
theorem sliceBlk_owns {w : World} {base k n : Nat} {e : TypeId} {v : Value} {xs : List Value} (h : w.ownsRow base e k v n xs) : ∀ b, sliceBlk v b → base ≤ b ∧ b < w.heap.size := by
  intro b hb
  rcases h.2 with ⟨rfl, h0⟩ | ⟨g, cap, cur, rfl, hgb, hg, _⟩
  · exact hb.elim
  · obtain rfl : g = b := hb
    exact ⟨hgb, (Array.getElem?_eq_some_iff.1 hg).1⟩
theorem SliceAt.nil {w : World} {k : Nat} {n c : Nat} {xs : List Value} (h : SliceAt w k (.slice none n c) xs) : xs = [] ∧ n = 0 ∧ c = 0 := by
  obtain ⟨A, c', hv, hc, hA, hx⟩ := h
  injection hv with e1 e2 e3
  have := hA e1.symm
  subst e3 e2
  exact ⟨List.eq_nil_of_length_eq_zero (by omega), by omega, this⟩

/-- What an iterator does that is called with a function that turns one variable alone, and always goes on. -/
theorem IsSeq.drive {P : Program} {xs : List Value} {Fp : Nat → Prop} {w : World} {s : Value} (h : IsSeq P xs Fp w s) (N c : Nat) (hN : ¬ Fp N) (hlt : N < w.heap.size) (ec : Enters P c) (G : List Value → World → Prop)
    (hG : ∀ pre A B, G pre A → A.heap.size ≤ B.heap.size → B.heap[N]? = A.heap[N]? → G pre B)
    (hc : ∀ pre x post A, xs = pre ++ x :: post → w.heap.size ≤ A.heap.size → G pre A → Calls P c #[x, .pointer (some ⟨N, 0, none⟩)] A (fun e B => e = .returned (.bool true) ∧ G (pre ++ [x]) B ∧ Touch (fun k => k = N) A B)) (h0 : G [] w) :
    ∃ g lb, s = .func (.func g) #[] lb ∧ Enters P g ∧ Calls P g (#[.func (.func c) #[] #[.pointer (some ⟨N, 0, none⟩)]] ++ lb) w (fun e B => e = .returned (.tuple #[]) ∧ G xs B ∧ Touch (fun k => k = N) w B) := by
  obtain ⟨g, lb, rfl, eg, hs, hf⟩ := h
  refine ⟨g, lb, rfl, eg, ?_⟩
  refine (hs w (.func (.func c) #[] #[.pointer (some ⟨N, 0, none⟩)]) (fun pre O A => G pre A ∧ O N ∧ (∀ k, O k → k = N) ∧ Touch (fun k => k = N) w A) (fun _ _ _ => False) (fun k => k = N) (fun k hk => ⟨hf k hk, rfl⟩) (fun k hk => ⟨hk ▸ hlt, hk ▸ hN⟩) ?_ (fun _ _ _ _ h _ => h) ?_ ⟨h0, rfl, fun _ h => h, Touch.refl _ _⟩).mono ?_
  · rintro pre O A B ⟨h1, h2, h3, h4⟩ ht
    exact ⟨hG pre A B h1 ht.size (ht.block N (Nat.lt_of_lt_of_le hlt h4.size) (fun h => h.2 h2)), h2, h3, h4.transW ht (fun _ _ h => h) (fun i hi h => by omega)⟩
  · rintro pre x post A O' hx ⟨h1, h2, h3, h4⟩
    refine .inr ⟨c, _, rfl, ec, (hc pre x post A hx h4.size h1).mono ?_⟩
    rintro e B ⟨rfl, hg, ht⟩
    exact .inl ⟨rfl, O', ⟨hg, h2, h3, h4.trans ht⟩, ht.mono (fun i _ h => h ▸ h2), fun k hk => ⟨.inl hk, by rw [h3 k hk]; exact Nat.lt_of_lt_of_le hlt (Nat.le_trans h4.size ht.size)⟩⟩
  · rintro e B ⟨rfl, (⟨O', h1, h2, h3, h4⟩ | ⟨_, h⟩)⟩
    · exact ⟨rfl, h1, h4⟩
    · exact h.elim
/-- A block that holds a list's cells, read as a slice. -/
theorem SliceAt.of_block {w : World} {k B : Nat} {T : TypeId} {xs : List Value} {c : Nat} {row : Nat × Nat} (hk : ∀ x ∈ xs, (cv x).size = k) (h : w.heap[B]? = some (.cells (cellsOf xs).toArray T row)) (hc : xs.length ≤ c) : SliceAt w k (.slice (some ⟨B, 0, none⟩) xs.length c) xs := by
  refine ⟨some ⟨B, 0, none⟩, c, rfl, hc, (fun h => by cases h), fun i x hx => ⟨B, 0, rfl, ?_⟩⟩
  intro r u hu
  have h1 := flat_at (k := k) (xs.map fun x => (cv x).toList) (fun l hl => by obtain ⟨x, hx, rfl⟩ := List.mem_map.1 hl; simpa using hk x hx) i r (cv x).toList u (by simp [hx]) hu
  rw [cell_of_row w B _ _ T row h]
  rw [show 0 + i * k + r = i * k + r by omega]
  simpa [cellsOf] using h1

end Go.Proofs.YtinofjenoapeaaaGreat
end
section
namespace Go.Proofs.YtinofjenoapeaaaGreat
open Go.RowKit Go.Shelf Go.ChangeShapes Go.WideShapes
set_option linter.unusedSimpArgs false
set_option linter.unusedVariables false

theorem arr_open {H : Type} {enc : TypeId × Value → H} {P : Program} {W : World} {base b0 : Nat} {spare : Nat → Bool} {held : Bool} {r : Reach} {t e : TypeId} {n : Nat} {k : IntKind} {v : Value} {d : DataW H} {ps : List MemPlace}
    (hu : P.underlying t = some (.array n e)) (he : P.underlying e = some (.int k)) (hc : P.cellsOf e = 1) (hct : P.cellsOf t = n) (hval : Value.okWide P W r b0 t v) (h : DataW.Trod enc P W base spare held t v d ps) :
    ∃ zs : List Int, zs.length = n ∧ v = .agg (zs.map (Value.int k)).toArray ∧ ∀ z ∈ zs, (Lit.int k z).wf = true := by
  simp only [Value.okWide, hu] at hval
  obtain ⟨cs, rfl, hsz, _⟩ := hval
  obtain ⟨fuel, hf⟩ := h
  obtain ⟨xs, m, _, _, hl, hx, hel⟩ := DataW.trod_array hu hf
  rw [hc] at hel
  have hcs : cs.toList.length = n := by rw [← hct, ← hsz]; simp
  have hall : ∀ i, i < n → ∃ z, cs.toList[i]? = some (.int k z) ∧ (Lit.int k z).wf = true := by
    intro i hi
    have h1 := hel i hi
    have h2 : (xs[i]?).isSome = true := by rw [List.getElem?_eq_getElem (by omega)]; rfl
    obtain ⟨y, hy⟩ := Option.isSome_iff_exists.1 h2
    rw [hy] at h1
    obtain ⟨z, hz, _, hw⟩ := DataW.trod_int he h1
    have := congrArg (fun l => l[0]?) hz
    simp [Value.cells] at this
    exact ⟨z, by simpa using this, hw⟩
  obtain ⟨f, hfe⟩ : ∃ f : Nat → Int, ∀ i, i < n → cs.toList[i]? = some (.int k (f i)) ∧ (Lit.int k (f i)).wf = true := by
    classical
    refine ⟨fun i => if hi : i < n then Classical.choose (hall i hi) else 0, fun i hi => ?_⟩
    simp only [dif_pos hi]
    exact Classical.choose_spec (hall i hi)
  refine ⟨(List.range n).map f, by simp, ?_, ?_⟩
  · congr 1
    apply Array.toList_inj.1
    apply List.ext_getElem?
    intro i
    by_cases hi : i < n
    · rw [(hfe i hi).1]; simp [hi]
    · rw [List.getElem?_eq_none (by omega)]; simp [hi]
  · intro z hz
    obtain ⟨i, hi, rfl⟩ := List.mem_map.1 hz
    exact (hfe i (List.mem_range.1 hi)).2

theorem wf_i16 {n : Int} (h : (Lit.int .i16 n).wf = true) : -32768 ≤ n ∧ n ≤ 32767 := by
  simp [Lit.wf, IntKind.min, IntKind.max, IntKind.signed, IntKind.bits] at h; omega
theorem wf_u8 {n : Int} (h : (Lit.int .u8 n).wf = true) : 0 ≤ n ∧ n ≤ 255 := by
  simp [Lit.wf, IntKind.min, IntKind.max, IntKind.signed, IntKind.bits] at h; omega
theorem wf_i64 {n : Int} (h : (Lit.int .i64 n).wf = true) : -9223372036854775808 ≤ n ∧ n ≤ 9223372036854775807 := by
  simp [Lit.wf, IntKind.min, IntKind.max, IntKind.signed, IntKind.bits] at h; omega

end Go.Proofs.YtinofjenoapeaaaGreat
end
section
namespace Go.Proofs.YtinofjenoapeaaaGreat
open Go.RowKit Go.Shelf
set_option linter.unusedSimpArgs false
set_option linter.unusedVariables false

/-- It returned v, and left alone what was there. -/
def RetB (w : World) (v : Value) (e : Ending) (w' : World) : Prop := e = .returned v ∧ Below w.heap.size w w'
theorem SliceAt.later {w w' : World} {k : Nat} {v : Value} {xs : List Value} (h : SliceAt w k v xs) (hb : Below w.heap.size w w') : SliceAt w' k v xs := by
  obtain ⟨A, c, rfl, hc, hA, hx⟩ := h
  refine ⟨A, c, rfl, hc, hA, fun i x hi => ?_⟩
  obtain ⟨b, o, rfl, hr⟩ := hx i x hi
  exact ⟨b, o, rfl, fun j u hu => (hb.cell (World.block_lt_of_cell? w _ (hr j u hu))).trans (hr j u hu)⟩
theorem grownBy_refl (w : World) (row : Option Nat) : w.grownBy w row := ⟨rfl, rfl, rfl, Nat.le_refl _, fun _ _ _ => rfl⟩
theorem run_append_src_nil {P : Program} (t ty e : TypeId) (i : TypeInfo) (z : Value) (ht : P.underlying t = some (.slice e)) (hi : P.info? e = some i) (hz : i.zero = some z) (a : Option Addr) (n c : Nat) (hn : n ≤ c) (w : World) :
    (Builtin.append_ #[t, t] ty #[.slice a n c, .slice none 0 0]).run P w = .ok (.slice a n c) w := by
  cases a <;> simp [Builtin.append_, run_underlying ht, sizeOf, typeInfo, zeroValue, hi, hz, Builtin.lenOf, hn, run_firstCells_none, storeCells]

/-- append(s, x...): s owned, x read as ys. -/
theorem wpListIn_append_list {F : Fence} {n : Nat} {P : Program} (w : World) {ops : Array Oper} {rest : List Oper} {o : Oper} {a : Act} {Q : Exit → Act → World → Prop}
    (hg : o.guard = none) (s x : Operand) (t : TypeId) (hop : o.op = Op.call { callee := Callee.builtin Builtin.append, args := #[s, x], argTypes := #[t, t] })
    (base : Nat) (e : TypeId) (i : TypeInfo) (z : Value) (size bytes : Nat) (h1 : P.underlying t = some (.slice e)) (h2 : P.info? e = some i) (h3 : i.zero = some z) (h4 : i.size = size) (h5 : i.bytes = bytes) (h6 : z.cells.size = size) (h7 : 0 < size)
    (v : Value) (k : Nat) (xs : List Value) (hs : a.eval s = v) (hown : w.ownsRow base e size v k xs) (ys : List Value) {sv : Value} (hx : a.eval x = sv) (hsl : SliceAt w size sv ys) (hk : ∀ y ∈ ys, (cv y).size = size)
    (h1c : ∀ u ∈ cellsOf ys, u.oneCell' = true) (b1 : k + ys.length ≤ maxLen) (b2 : (k + ys.length) * bytes ≤ 140737488355328) (b3 : base ≤ w.heap.size)
    (hK : ∀ v' w', w'.ownsRow base e size v' (k + ys.length) (xs ++ cellsOf ys) → w.grownBy w' v.ownBlock → (v' = .slice none 0 0 ↔ v = .slice none 0 0 ∧ ys.length = 0) → wpListIn F n P ops Q rest (a.put o.dst v') w') :
    wpListIn F n P ops Q (o :: rest) a w := by
  have hsl' := hsl
  obtain ⟨A, c, rfl, hc, hA, hel⟩ := hsl
  cases A with
  | some ad =>
    exact wpListIn_append_own w hg s x t hop base e i z size bytes h1 h2 h3 h4 h5 h6 h7 v k xs hs hown ad ys.length c (cellsOf ys) hx (cellsOf_len hk) (hsl'.cells hk) h1c b1 b2 b3 hK
  | none =>
    obtain ⟨rfl, _, rfl⟩ := hsl'.nil
    have hv : ∃ av nv cvv, v = .slice av nv cvv ∧ nv ≤ cvv := by
      rcases hown.2 with ⟨rfl, _⟩ | ⟨g, cap, cur, rfl, _, _, hle, _⟩
      · exact ⟨none, 0, 0, rfl, Nat.le_refl _⟩
      · exact ⟨_, _, _, rfl, hle⟩
    obtain ⟨av, nv, cvv, rfl, hle⟩ := hv
    have hrun := run_append_src_nil (P := P) t o.type e i z h1 h2 h3 av nv cvv hle w
    refine wpListIn_plain hg fun K hK' => ?_
    unfold Oper.wpIn
    refine ⟨?_, ?_⟩
    · simp [Oper.about, hop, resolve, Target.leads, Sem.run_pure]
    · rw [Oper.semAt_plain F _ _ (by rw [hop]; intro c hc'; cases hc')]
      simp only [List.length_nil] at hx
      simp [execOp, hop, resolve, invoke, builtin, hs, hx, hrun, Result.andThen]
      exact hK' _ _ (hK _ w (by simpa [cellsOf] using hown) (grownBy_refl _ _) (by simp))

/-- append(s, u), u of one cell. -/
theorem wpListIn_append_one {F : Fence} {n : Nat} {P : Program} (w : World) {ops : Array Oper} {rest : List Oper} {o : Oper} {a : Act} {Q : Exit → Act → World → Prop}
    (hg : o.guard = none) (s x : Operand) (t : TypeId) (hop : o.op = Op.call { callee := Callee.builtin Builtin.append, args := #[s, x], argTypes := #[t, t] })
    (base : Nat) (e : TypeId) (i : TypeInfo) (z : Value) (bytes : Nat) (h1 : P.underlying t = some (.slice e)) (h2 : P.info? e = some i) (h3 : i.zero = some z) (h4 : i.size = 1) (h5 : i.bytes = bytes) (h6 : z.cells.size = 1)
    (v : Value) (k : Nat) (xs : List Value) (hs : a.eval s = v) (hown : w.ownsRow base e 1 v k xs) (ad : Addr) (u : Value) (hx : a.eval x = .slice (some ad) 1 1) (hc : w.cell? ad = some u) (hu : u.oneCell' = true)
    (b1 : k + 1 ≤ maxLen) (b2 : (k + 1) * bytes ≤ 140737488355328) (b3 : base ≤ w.heap.size)
    (hK : ∀ g cap w', Hid (w'.ownsRow base e 1 (.slice (some ⟨g, 0, none⟩) (k + 1) cap) (k + 1) (xs ++ [u])) → Hid (w.grownBy w' v.ownBlock) → wpListIn F n P ops Q rest (a.put o.dst (.slice (some ⟨g, 0, none⟩) (k + 1) cap)) w') :
    wpListIn F n P ops Q (o :: rest) a w := by
  refine wpListIn_append_own w hg s x t hop base e i z 1 bytes h1 h2 h3 h4 h5 h6 (by decide) v k xs hs hown ad 1 1 [u] hx rfl (fun j u' hj => ?_) (fun u' hu' => by simp at hu'; subst hu'; exact hu) b1 b2 b3 (fun v' w' ho hg' hn => ?_)
  · match j, hj with
    | 0, hj => simp at hj; subst hj; simpa [Addr.add] using hc
  · rcases ho.2 with ⟨rfl, h0⟩ | ⟨g, cap, cur, rfl, _⟩
    · simp at h0
    · exact hK g cap w' ho hg'

/-- A block of a list's cells, owned. -/
theorem owns_new {w : World} {base : Nat} {e : TypeId} {k n : Nat} {xs : List Value} (hb : base ≤ w.heap.size) (hl : xs.length = n * k) (hn : n ≤ maxLen) :
    (w.alloc (.cells xs.toArray e)).ownsRow base e k (.slice (some ⟨w.heap.size, 0, none⟩) n n) n xs :=
  ⟨hl, .inr ⟨w.heap.size, n, xs.toArray, rfl, hb, World.alloc_heap_new w _, Nat.le_refl _, hn, by simpa using hl, by simp [← hl]⟩⟩
end Go.Proofs.YtinofjenoapeaaaGreat
end
section
namespace Go.Proofs.YtinofjenoapeaaaGreat
open Go.RowKit Go.Shelf
set_option linter.unusedSimpArgs false
set_option linter.unusedVariables false
section
variable {P : Program} {ops : Array Oper} {C : World → Prop} {Q : Act → Prop} {o : Oper} {rest : List Oper} {a : Act}
theorem rangeAt_one {w : World} {b off : Nat} {v : Value} (h1 : cv v = #[v]) (h : w.cell? ⟨b, off, none⟩ = some v) : w.rangeAt b off (cv v).toList := by
  intro j u hu
  rw [h1] at hu
  match j, hu with
  | 0, hu => simp at hu; subst hu; simpa using h
theorem hList_cell {T : TypeId} {x : Operand} {v : Value} {b off : Nat} (hw : Region.wanted o (yielded ops a.tmps) = true) (ho : o.op = .load T x) (hx : a.eval x = .pointer (some ⟨b, off, none⟩)) (hv : VOf P T v) (h1 : cv v = #[v]) (hr : ∀ w, C w → w.cell? ⟨b, off, none⟩ = some v)
    (h : hList P ops C Q rest (a.put o.dst v)) : hList P ops C Q (o :: rest) a :=
  hList_load hw ho hx hv (fun w hc => rangeAt_one h1 (hr w hc)) h
end
end Go.Proofs.YtinofjenoapeaaaGreat
end
section
namespace Go.Proofs.YtinofjenoapeaaaGreat
open Go.RowKit Go.Shelf
set_option linter.unusedSimpArgs false
set_option linter.unusedVariables false

section
variable {F : Fence} {n : Nat} {P : Program} {ops : Array Oper} {md : Region.Mode} {D : Array Bool → World → Prop}

/-- Operation i, coming up in state a in whatever world stands then, yields v. -/
def gAt (P : Program) (i : Nat) (o : Oper) (a : Act) (D : Array Bool → World → Prop) (v : Value) : Prop :=
  (∀ c, o.op ≠ .defer c) ∧ ∀ listed w, D listed w → listed.getD i true = false → hUpon P (D (listed.setIfInBounds i true)) v ((execOp a.eval o).run P w)
/-- Operation i is passed over. -/
def gPass (i : Nat) (D : Array Bool → World → Prop) : Prop := ∀ listed w, D listed w → listed.getD i true = false → D (listed.setIfInBounds i true) w

def gOp (P : Program) (ops : Array Oper) (D : Array Bool → World → Prop) (i : Nat) (K : Act → Prop) (a : Act) : Prop :=
  match ops[i]? with
  | none => False
  | some o => if Region.wanted o (yielded ops a.tmps) then ∃ v, gAt P i o a D v ∧ K (a.put o.dst v) else gPass i D ∧ K (a.put o.dst undef)

/-- The walk in the order of the text. -/
def gList (P : Program) (ops : Array Oper) (D : Array Bool → World → Prop) (Q : Act → Prop) : Nat → List Oper → Act → Prop
  | _, [], a => Q a
  | k, o :: rest, a => if Region.wanted o (yielded ops a.tmps) then ∃ v, gAt P k o a D v ∧ gList P ops D Q (k + 1) rest (a.put o.dst v) else gPass k D ∧ gList P ops D Q (k + 1) rest (a.put o.dst undef)

theorem gOp_mono {i : Nat} {a : Act} {K K' : Act → Prop} (h : ∀ a, K a → K' a) (hh : gOp P ops D i K a) : gOp P ops D i K' a := by
  unfold gOp at *
  split
  · rename_i ho; simp only [ho] at hh
  · rename_i o ho
    simp only [ho] at hh
    split
    · rename_i hw; simp only [hw, if_true] at hh; obtain ⟨v, h1, h2⟩ := hh; exact ⟨v, h1, h _ h2⟩
    · rename_i hw; simp only [hw] at hh; exact ⟨hh.1, h _ hh.2⟩

theorem wpOpIn_of_gOp (hF : IsWide F) {i : Nat} {a : Act} {K : Act → Prop} {K' : Act → World → Prop} {Q' : Exit → Act → World → Prop} {w : World} {listed : Array Bool} (hD : D listed w) (hun : listed.getD i true = false)
    (h : ∀ a w', D (listed.setIfInBounds i true) w' → K a → K' a w') (hh : gOp P ops D i K a) : wpOpIn F n P ops Q' i K' a w := by
  unfold gOp at hh
  unfold wpOpIn
  split
  · rename_i ho; simp only [ho] at hh
  · rename_i o ho
    simp only [ho] at hh
    split
    · rename_i hw
      simp only [hw, if_true] at hh
      obtain ⟨v, ⟨hnd, h1⟩, h2⟩ := hh
      have h3 := h1 listed w hD hun
      refine ⟨fun _ _ => hF.fn _, ?_⟩
      rw [Oper.semAt_eq _ _ _ hnd]
      generalize (execOp a.eval o).run P w = r at *
      cases r with
      | ok x w' =>
        cases x <;> simp only [hUpon] at h3 <;> simp only [Oper.uponIn]
        case value u =>
          obtain ⟨e1, rfl⟩ := h3
          exact h _ _ e1 h2
        case skip =>
          obtain ⟨e1, rfl⟩ := h3
          exact h _ _ e1 h2
        case enter f args =>
          refine ⟨fun hd => absurd hd (by rw [hF.depth]; simp), ?_⟩
          exact hF.callsIn (h3.mono fun e w'' ⟨he, hw''⟩ => by subst he; exact h _ _ hw'' h2)
      | halt x w' => simp only [hUpon] at h3
    · rename_i hw; simp only [hw] at hh; exact ⟨fun _ _ => hF.fn _, h _ _ (hh.1 _ _ hD hun) hh.2⟩

/-- In state a operation i leaves v in its temporary. -/
def GYields (P : Program) (ops : Array Oper) (D : Array Bool → World → Prop) (i : Nat) (o : Oper) (v : Value) (a : Act) : Prop :=
  (Region.wanted o (yielded ops a.tmps) = true ∧ gAt P i o a D v) ∨ (Region.wanted o (yielded ops a.tmps) = false ∧ gPass i D ∧ v = undef)

theorem GYields.gOp {i : Nat} {o : Oper} {v : Value} {a : Act} (hi : ops[i]? = some o) (hy : GYields P ops D i o v a) {K : Act → Prop} (h : K (a.put o.dst v)) : gOp P ops D i K a := by
  unfold Proofs.YtinofjenoapeaaaGreat.gOp
  simp only [hi]
  rcases hy with ⟨hw, hv⟩ | ⟨hw, hp, rfl⟩
  · simp only [hw, if_true]; exact ⟨v, hv, h⟩
  · simp only [hw, Bool.false_eq_true, if_false]; exact ⟨hp, h⟩

theorem GYields.of_same {i : Nat} {o : Oper} {v : Value} {a a' : Act} (hy : GYields P ops D i o v a) (he : execOp a'.eval o = execOp a.eval o)
    (hw : Region.wanted o (yielded ops a'.tmps) = Region.wanted o (yielded ops a.tmps)) : GYields P ops D i o v a' := by
  unfold GYields gAt at *
  rw [he, hw]
  exact hy

theorem gYields_of_gOp {i : Nat} {o : Oper} {a : Act} {K : Act → Prop} (hi : ops[i]? = some o) (h : gOp P ops D i K a) : ∃ v, GYields P ops D i o v a ∧ K (a.put o.dst v) := by
  unfold gOp at h
  simp only [hi] at h
  by_cases hw : Region.wanted o (yielded ops a.tmps) = true
  · simp only [hw, if_true] at h
    obtain ⟨v, h1, h2⟩ := h
    exact ⟨v, .inl ⟨hw, h1⟩, h2⟩
  · simp only [hw] at h
    exact ⟨undef, .inr ⟨by simpa using hw, h.1, rfl⟩, h.2⟩

theorem gOp_put {i j : Nat} {oi oj : Oper} {v : Value} (hj : ops[j]? = some oj) (hap : oi.apart ops oj = true)
    (hsi : ∀ cs b, oi.op ≠ .select cs b) (hsj : ∀ cs b, oj.op ≠ .select cs b) {K : Act → Prop} {a : Act}
    (hy : GYields P ops D i oi v a) (h : gOp P ops D j K (a.put oi.dst v)) :
    gOp P ops D j (fun a' => GYields P ops D i oi v a' ∧ K (a'.put oi.dst v)) a := by
  obtain ⟨h1, h2, h3⟩ := Oper.apart_spec hap
  have keep : ∀ (a : Act), GYields P ops D i oi v a → ∀ u, GYields P ops D i oi v (a.put oj.dst u) := fun a hy u =>
    hy.of_same (execOp_put oi hsi a oj.dst u h3) (wanted_put oi a oj.dst u h3)
  unfold gOp at *
  simp only [hj] at *
  rw [wanted_put oj a oi.dst v h1] at h
  split
  · rename_i hw
    simp only [hw, if_true] at h
    obtain ⟨u, hu, hn⟩ := h
    refine ⟨u, ?_, keep a hy u, by rw [← Act.put_comm a v u h2]; exact hn⟩
    unfold gAt at *
    rwa [execOp_put oj hsj a oi.dst v h1] at hu
  · rename_i hw
    simp only [hw] at h
    exact ⟨h.1, keep a hy _, by rw [← Act.put_comm a v undef h2]; exact h.2⟩

def gAnyL (P : Program) (md : Region.Mode) (ops : Array Oper) (D : Array Bool → World → Prop) (L : Array Bool → Act → Prop) : Nat → Array Bool → Act → Prop
  | 0, listed, a => Region.ready md ops listed = [] ∧ L listed a
  | f + 1, listed, a =>
    Region.ready md ops listed ≠ [] ∧ ∀ i ∈ Region.ready md ops listed, gOp P ops D i (gAnyL P md ops D L f (listed.setIfInBounds i true)) a

theorem wpAnyIn_of_gAny (hF : IsWide F) {L : Array Bool → Act → Prop} {Q' : Exit → Act → World → Prop} (hL : ∀ listed a w, D listed w → L listed a → Q' .normal a w) :
    ∀ (f : Nat) (listed : Array Bool) (a : Act) (w : World), D listed w → gAnyL P md ops D L f listed a → wpAnyIn F n P md ops Q' f listed a w
  | 0, listed, a, w, hw, h => ⟨h.1, hL _ _ _ hw h.2⟩
  | f + 1, listed, a, w, hw, h =>
    ⟨fun h0 => absurd h0 h.1, fun i hi => wpOpIn_of_gOp hF hw (mem_ready.1 hi).1 (fun a' w' hw' h' => wpAnyIn_of_gAny hF hL f _ a' w' hw' h') (h.2 i hi)⟩

theorem gAnyL_first {i : Nat} {oi : Oper} {v : Value} {L : Array Bool → Act → Prop} (hi : ops[i]? = some oi) (hsel : ∀ (j : Nat) (o : Oper) cs b, ops[j]? = some o → o.op ≠ .select cs b) :
    ∀ (f : Nat) (listed : Array Bool) (a : Act),
      (∀ j oj, ops[j]? = some oj → j ≠ i → listed.getD j true = false → (∀ e ∈ oj.after, Region.binds md e = true → e.on ≠ i) → oi.apart ops oj = true) →
      i ∈ Region.ready md ops listed → GYields P ops D i oi v a →
      gAnyL P md ops D L f (listed.setIfInBounds i true) (a.put oi.dst v) → gAnyL P md ops D L (f + 1) listed a := by
  intro f
  induction f with
  | zero =>
    intro listed a _ hr hy H
    refine ⟨fun h => (by rw [h] at hr; cases hr), fun j hj => ?_⟩
    by_cases hji : j = i
    · subst hji; exact hy.gOp hi H
    · have := ready_mono hj hji
      rw [H.1] at this; cases this
  | succ f ih =>
    intro listed a hfree hr hy H
    have hun := (mem_ready.1 hr).1
    refine ⟨fun h => (by rw [h] at hr; cases hr), fun j hj => ?_⟩
    by_cases hji : j = i
    · subst hji; exact hy.gOp hi H
    · have h1 := H.2 j (ready_mono hj hji)
      obtain ⟨hjun, oj, hoj, hall⟩ := mem_ready.1 hj
      have hnot : ∀ e ∈ oj.after, Region.binds md e = true → e.on ≠ i := fun e he hb heq => by
        have h1 := hall e he hb
        rw [heq, getD_both hun] at h1
        cases h1
      have h2 := gOp_put hoj (hfree j oj hoj hji hjun hnot) (fun cs b => hsel i oi cs b hi) (fun cs b => hsel j oj cs b hoj) hy h1
      have hfree' : ∀ k ok, ops[k]? = some ok → k ≠ i → (listed.setIfInBounds j true).getD k true = false →
          (∀ e ∈ ok.after, Region.binds md e = true → e.on ≠ i) → oi.apart ops ok = true := fun k ok hk hki hun hno => by
        refine hfree k ok hk hki ?_ hno
        by_cases hjk : j = k
        · subst hjk; exact hjun
        · rw [getD_set_ne true hjk] at hun; exact hun
      refine gOp_mono (fun a' h3 => ih (listed.setIfInBounds j true) a' hfree' (ready_mono hr (Ne.symm hji)) h3.1 ?_) h2
      rw [Array.setIfInBounds_comm _ _ hji]
      exact h3.2

/-- All operations are done. -/
def AllDone (listed : Array Bool) (m : Nat) : Prop := (∀ j, listed.getD j true = true) ∧ listed.size = m
theorem gAnyL_lex {Lq : Act → Prop} (hsel : Region.noSelect ops = true) :
    ∀ (l : List Oper) (k : Nat) (listed : Array Bool) (a : Act), (∀ j, l[j]? = ops[k + j]?) → (∀ j, listed.getD j true = false → k ≤ j ∧ j < ops.size) → listed.size = ops.size →
    Region.lexFrom md ops l.length k listed = true → gList P ops D Lq k l a →
    gAnyL P md ops D (fun listed' a' => AllDone listed' ops.size ∧ Lq a') l.length listed a
  | [], k, listed, a, hl, hall, hsz, hB, h => by
    refine ⟨by simpa [Region.lexFrom] using hB, ⟨fun j => ?_, hsz⟩, h⟩
    cases hq : listed.getD j true with
    | true => rfl
    | false =>
      obtain ⟨h1, h2⟩ := hall j hq
      have := hl (j - k)
      rw [show k + (j - k) = j by omega, Array.getElem?_eq_getElem h2] at this
      simp at this
  | o :: l, k, listed, a, hl, hall, hsz, hB, h => by
    have h0 : ops[k]? = some o := by simpa using (hl 0).symm
    simp only [List.length_cons, Region.lexFrom, Bool.and_eq_true] at hB
    obtain ⟨⟨hr, hf⟩, hB'⟩ := hB
    have hr' : k ∈ Region.ready md ops listed := by simpa using hr
    have hst : gOp P ops D k (gList P ops D Lq (k + 1) l) a := by unfold gOp; simp only [h0]; exact h
    obtain ⟨v, hy, hK⟩ := gYields_of_gOp h0 hst
    refine gAnyL_first h0 (Region.noSelect_spec hsel) l.length listed a (Region.free_spec h0 hf) hr' hy
      (gAnyL_lex hsel l (k + 1) _ _ (fun j => by have := hl (j + 1); simpa [Nat.add_assoc, Nat.add_comm 1 j] using this) (fun j hj => ?_) (by simpa using hsz) hB' hK)
    by_cases hjk : k = j
    · subst hjk
      have hlt : k < listed.size := by
        have := (mem_ready.1 hr').1
        rcases Nat.lt_or_ge k listed.size with h' | h'
        · exact h'
        · simp [Array.getElem?_eq_none h'] at this
      simp [hlt] at hj
    · rw [getD_set_ne true hjk] at hj
      have := hall j hj
      omega

/-- **A DRAWN REGION, WHOLE.** -/
theorem wpIn_region_free (hF : IsWide F) {id : Nat} {Q : Exit → Act → World → Prop} {a : Act} {w : World} {l : List Oper} (D : Array Bool → World → Prop) (hm : P.follows .mixedOrders = true) (hB : Region.lexB .any l.toArray = true)
    (hD : D (Array.replicate l.length false) w.drew) (h : gList P l.toArray D (fun a' => ∀ listed w', AllDone listed l.length → D listed w' → Q .normal a' w') 0 l a) : (Code.region id l.toArray true).wpIn F n P Q a w := by
  simp only [Region.lexB, Bool.and_eq_true] at hB
  refine wpIn_region_any hm ?_
  have H := gAnyL_lex (P := P) (D := D) (md := .any) hB.1 l 0 (Array.replicate l.toArray.size false) a (by simp) (fun j hj => by
    refine ⟨Nat.zero_le _, ?_⟩
    rcases Nat.lt_or_ge j l.toArray.size with h' | h'
    · exact h'
    · exfalso
      rw [Array.getD_eq_getD_getElem?, Array.getElem?_eq_none (by simpa using h')] at hj
      cases hj) (by simp) (by simpa using hB.2) h
  have := wpAnyIn_of_gAny (F := F) (n := n) (P := P) (md := .any) hF (Q' := Q) (fun listed a' w' hd hL => hL.2 listed w' hL.1 hd) _ _ _ _ (by simpa using hD) H
  simpa using this
end

/-! ### one operation that writes: 's'; what stands is told by whether it is done -/
/-- What stands: G false ahead of operation s, G true behind it. -/
def oneD (s : Nat) (G : Bool → World → Prop) : Array Bool → World → Prop := fun listed w => G (listed.getD s false) w
section steps
variable {P : Program} {ops : Array Oper} {Q : Act → Prop} {o : Oper} {rest : List Oper} {a : Act} {s k : Nat} {G : Bool → World → Prop}
theorem hUpon_mono {C C' : World → Prop} {v : Value} {r : Result Next} (h : ∀ w, C w → C' w) (hr : hUpon P C v r) : hUpon P C' v r := by
  cases r with
  | ok x w' =>
    cases x <;> simp only [hUpon] at *
    case value u => exact ⟨h _ hr.1, hr.2⟩
    case skip => exact ⟨h _ hr.1, hr.2⟩
    case enter f args => exact hr.mono fun e w'' ⟨he, hw⟩ => ⟨he, h _ hw⟩
  | halt x w' => simp only [hUpon] at hr
theorem oneD_other {listed : Array Bool} {w : World} (hk : k ≠ s) : oneD s G (listed.setIfInBounds k true) w = oneD s G listed w := by
  unfold oneD; rw [getD_set_ne false hk]
theorem gList_nil (h : Q a) : gList P ops (oneD s G) Q k [] a := h
theorem gList_skip (hk : k ≠ s) (hw : Region.wanted o (yielded ops a.tmps) = false) (h : gList P ops (oneD s G) Q (k + 1) rest (a.put o.dst undef)) : gList P ops (oneD s G) Q k (o :: rest) a := by
  unfold gList; rw [if_neg (by rw [hw]; simp)]; exact ⟨fun listed w hd _ => by rw [oneD_other hk]; exact hd, h⟩
theorem gList_at {v : Value} (hk : k ≠ s) (hw : Region.wanted o (yielded ops a.tmps) = true) (hnd : ∀ c, o.op ≠ .defer c) (hrun : ∀ b w, G b w → hUpon P (G b) v ((execOp a.eval o).run P w)) (h : gList P ops (oneD s G) Q (k + 1) rest (a.put o.dst v)) : gList P ops (oneD s G) Q k (o :: rest) a := by
  unfold gList; rw [if_pos hw]; exact ⟨v, ⟨hnd, fun listed w hd _ => hUpon_mono (fun w' hw' => by rw [oneD_other hk]; exact hw') (hrun _ w hd)⟩, h⟩
theorem gList_val {v : Value} (hk : k ≠ s) (hw : Region.wanted o (yielded ops a.tmps) = true) (hnd : ∀ c, o.op ≠ .defer c) (hrun : ∀ w, (execOp a.eval o).run P w = .ok (.value v) w) (h : gList P ops (oneD s G) Q (k + 1) rest (a.put o.dst v)) : gList P ops (oneD s G) Q k (o :: rest) a :=
  gList_at hk hw hnd (fun b w hg => by rw [hrun w]; exact ⟨hg, rfl⟩) h
theorem gList_load {T : TypeId} {x : Operand} {v : Value} {b off : Nat} (hk : k ≠ s) (hw : Region.wanted o (yielded ops a.tmps) = true) (ho : o.op = .load T x) (hx : a.eval x = .pointer (some ⟨b, off, none⟩)) (hv : VOf P T v) (hr : ∀ d w, G d w → w.rangeAt b off (cv v).toList)
    (h : gList P ops (oneD s G) Q (k + 1) rest (a.put o.dst v)) : gList P ops (oneD s G) Q k (o :: rest) a :=
  gList_at hk hw (fun c => by rw [ho]; exact fun h => by cases h) (fun d w hg => by
    have : (execOp a.eval o).run P w = .ok (.value v) w := by simp [execOp, ho, hx, Instr.loadAt, Instr.sureAddr, Sem.run_bind, run_loadVar_of w b off T v hv (hr d w hg), Result.andThen]
    rw [this]; exact ⟨hg, rfl⟩) h
theorem gList_loadbox {T T' : TypeId} {x : Operand} {v : Value} {B : Nat} (hk : k ≠ s) (hw : Region.wanted o (yielded ops a.tmps) = true) (ho : o.op = .load T x) (hx : a.eval x = .pointer (some ⟨B, 0, none⟩)) (hv : VOf P T v) (hr : ∀ d w, G d w → BoxV w B T' v)
    (h : gList P ops (oneD s G) Q (k + 1) rest (a.put o.dst v)) : gList P ops (oneD s G) Q k (o :: rest) a :=
  gList_load hk hw ho hx hv (fun d w hg => rangeAt_box (hr d w hg)) h
theorem gList_callf {xs : Array Operand} {ts : Array TypeId} {v : Value} (g : Nat) {args : Array Value} (hk : k ≠ s) (hw : Region.wanted o (yielded ops a.tmps) = true)
    (ho : o.op = Op.call { callee := Callee.value (.func g), args := xs, argTypes := ts }) (eg : Enters P g) (hargs : (xs.toList.map a.eval).toArray = args)
    (hc : ∀ d w, G d w → Calls P g args w (fun e w' => e = .returned v ∧ G d w')) (h : gList P ops (oneD s G) Q (k + 1) rest (a.put o.dst v)) : gList P ops (oneD s G) Q k (o :: rest) a := by
  refine gList_at hk hw (fun c => by rw [ho]; exact (fun h => by cases h)) (fun d w hg => ?_) h
  replace hargs : xs.map a.eval = args := by rw [← hargs, ← Array.toList_map]
  have : (execOp a.eval o).run P w = .ok (.enter g args) w := by
    have h2 : (invoke (.fn (.func g) #[]) args).run P w = .ok (.enter g args) w := by
      simpa [invoke] using eg args w
    have he : a.eval (.func g) = .func (.func g) #[] #[] := rfl
    simp only [execOp, ho, resolve, hargs, he]
    simpa [Deferred.ofValue, Sem.run_bind, Result.andThen, go_sem] using h2
  rw [this]
  exact hc d w hg
/-- The store itself. -/
theorem gList_store {T T' : TypeId} {x y : Operand} {B : Nat} {v v0 : Value} (hk : k = s) (hsz : s < ops.size) (hw : Region.wanted o (yielded ops a.tmps) = true) (ho : o.op = .store T x y) (hx : a.eval x = .pointer (some ⟨B, 0, none⟩)) (hy : a.eval y = v)
    (hv : VOf P T v) (hb : ∀ w, G false w → BoxV w B T' v0) (hs : (cv v0).size = (cv v).size) (hG : ∀ w, G false w → G true (w.setRow B (cv v)))
    (h : gList P ops (oneD s G) Q (k + 1) rest (a.put o.dst undef)) : gList P ops (oneD s G) Q k (o :: rest) a := by
  subst hk
  unfold gList; rw [if_pos hw]
  refine ⟨undef, ⟨(fun c => by rw [ho]; exact (fun h => by cases h)), fun listed w hd hun => ?_⟩, h⟩
  have hlt : k < listed.size := by
    rcases Nat.lt_or_ge k listed.size with h' | h'
    · exact h'
    · simp [Array.getElem?_eq_none h'] at hun
  unfold oneD at hd ⊢
  rw [getD_both hun] at hd
  rw [show (listed.setIfInBounds k true).getD k false = true from by simp [hlt]]
  have : (execOp a.eval o).run P w = .ok .skip (w.setRow B (cv v)) := by simp [execOp, ho, hx, hy, Instr.storeAt, Instr.sureAddr, Sem.run_bind, run_storeVar_of w B T T' v v0 hv (hb w hd) hs, Result.andThen]
  rw [this]
  exact ⟨hG w hd, rfl⟩
theorem oneD_done {m : Nat} {listed : Array Bool} {w : World} (hall : AllDone listed m) (hs : s < m) (h : oneD s G listed w) : G true w := by
  unfold oneD at h
  have := hall.1 s
  rw [← hall.2] at hs
  simp [hs] at this h
  rwa [this] at h
end steps
/-- What stands around one store into the variable B: only B has turned, beside new blocks; it holds v0, and v behind the store. -/
def boxG (B : Nat) (W : World) (T : TypeId) (v0 v : Value) (d : Bool) (w : World) : Prop := Touch (fun k => k = B) W w ∧ BoxV w B T (if d then v else v0)
def BelowBox (B : Nat) (W : World) (T : TypeId) (v : Value) (w : World) : Prop := Touch (fun k => k = B) W w ∧ BoxV w B T v
theorem boxG.later {B : Nat} {W : World} {T : TypeId} {v0 v : Value} {d : Bool} {w w' : World} (h : boxG B W T v0 v d w) (hb : Below w.heap.size w w') : boxG B W T v0 v d w' :=
  ⟨h.1.trans (Touch.of_fresh hb), (hb.block _ h.2.lt).trans h.2⟩
theorem boxG.store {B : Nat} {W : World} {T : TypeId} {v0 v : Value} {w : World} (h : boxG B W T v0 v false w) : boxG B W T v0 v true (w.setRow B (cv v)) :=
  ⟨h.1.trans (Touch.setRow _ _ _ rfl), h.2.set v⟩
end Go.Proofs.YtinofjenoapeaaaGreat
end
section
namespace Go.Proofs.YtinofjenoapeaaaGreat
open Go.RowKit Go.Shelf
set_option linter.unusedSimpArgs false
set_option linter.unusedVariables false
theorem wpListIn_append_oneA {F : Fence} {n : Nat} {P : Program} (w : World) {ops : Array Oper} {rest : List Oper} {o : Oper} {a : Act} {Q : Exit → Act → World → Prop}
    (hg : o.guard = none) (s x : Operand) (t : TypeId) (hop : o.op = Op.call { callee := Callee.builtin Builtin.append, args := #[s, x], argTypes := #[t, t] })
    (base : Nat) (e : TypeId) (i : TypeInfo) (z : Value) (bytes : Nat) (h1 : P.underlying t = some (.slice e)) (h2 : P.info? e = some i) (h3 : i.zero = some z) (h4 : i.size = 1) (h5 : i.bytes = bytes) (h6 : z.cells.size = 1)
    (v : Value) (k : Nat) (xs : List Value) (hs : a.eval s = v) (hown : w.ownsRow base e 1 v k xs) (ad : Addr) (u : Value) (hx : a.eval x = .slice (some ad) 1 1) (hc : w.cell? ad = some u) (hu : u.oneCell' = true)
    (b1 : k + 1 ≤ maxLen) (b2 : (k + 1) * bytes ≤ 140737488355328) (b3 : base ≤ w.heap.size)
    (hK : ∀ g cap w', Hid (w'.ownsRow base e 1 (.slice (some ⟨g, 0, none⟩) (k + 1) cap) (k + 1) (xs ++ [u])) → Hid (w.grownBy w' v.ownBlock) → Hid (some g = v.ownBlock ∨ g = w.heap.size) → wpListIn F n P ops Q rest (a.put o.dst (.slice (some ⟨g, 0, none⟩) (k + 1) cap)) w') :
    wpListIn F n P ops Q (o :: rest) a w := by
  refine wpListIn_append_own_at w hg s x t hop base e i z 1 bytes h1 h2 h3 h4 h5 h6 (by decide) v k xs hs hown ad 1 1 [u] hx rfl (fun j u' hj => ?_) (fun u' hu' => by simp at hu'; subst hu'; exact hu) b1 b2 b3 (fun v' w' ho hg' hn hat => ?_)
  · match j, hj with
    | 0, hj => simp at hj; subst hj; simpa [Addr.add] using hc
  · rcases ho.2 with ⟨rfl, h0⟩ | ⟨g, cap, cur, rfl, _⟩
    · simp at h0
    · refine hK g cap w' ho hg' ?_
      rcases hat with h | h
      · exact .inl h
      · exact .inr (by simpa [Value.ownBlock] using h)
end Go.Proofs.YtinofjenoapeaaaGreat
end
section
namespace Go.Proofs.YtinofjenoapeaaaGreat
open Go.RowKit Go.Shelf
set_option linter.unusedSimpArgs false
set_option linter.unusedVariables false

/-! ### parties -/
/-- What is said of some blocks, and of no others. -/
structure Ch where
  p : (Nat → Prop) → World → Prop
  st : ∀ {O : Nat → Prop} {A B : World}, p O A → A.heap.size ≤ B.heap.size → (∀ k, O k → B.heap[k]? = A.heap[k]?) → p O B
  lt : ∀ {O : Nat → Prop} {A : World}, p O A → ∀ k, O k → k < A.heap.size

def Shr (R : List Ch) (O : Nat → Prop) (w : World) : Prop := ∀ r ∈ R, ∃ O', r.p O' w ∧ ∀ k, O' k → O k
def Sep : List Ch → (Nat → Prop) → World → Prop
  | [], _, _ => True
  | c :: cs, O, w => ∃ O1, c.p O1 w ∧ (∀ k, O1 k → O k) ∧ Sep cs (fun k => O k ∧ ¬ O1 k) w

theorem Sep.mono {w : World} : ∀ {C : List Ch} {O O' : Nat → Prop}, (∀ k, O k → O' k) → Sep C O w → Sep C O' w
  | [], _, _, _, _ => trivial
  | c :: cs, O, O', h, ⟨O1, h1, h2, h3⟩ => ⟨O1, h1, fun k hk => h k (h2 k hk), Sep.mono (C := cs) (fun k hk => ⟨h k hk.1, hk.2⟩) h3⟩
theorem Sep.keep {A B : World} (hs : A.heap.size ≤ B.heap.size) : ∀ {C : List Ch} {O : Nat → Prop}, (∀ k, O k → B.heap[k]? = A.heap[k]?) → Sep C O A → Sep C O B
  | [], _, _, _ => trivial
  | c :: cs, O, h, ⟨O1, h1, h2, h3⟩ => ⟨O1, c.st h1 hs (fun k hk => h k (h2 k hk)), h2, Sep.keep hs (C := cs) (fun k hk => h k hk.1) h3⟩
theorem Shr.keep {A B : World} {R : List Ch} {O : Nat → Prop} (hs : A.heap.size ≤ B.heap.size) (h : ∀ k, O k → B.heap[k]? = A.heap[k]?) (hR : Shr R O A) : Shr R O B := fun r hr =>
  let ⟨O', h1, h2⟩ := hR r hr
  ⟨O', r.st h1 hs (fun k hk => h k (h2 k hk)), h2⟩
theorem Sep.swap {w : World} {a b : Ch} {D : List Ch} {O : Nat → Prop} (h : Sep (a :: b :: D) O w) : Sep (b :: a :: D) O w := by
  obtain ⟨Oa, h1, h2, Ob, h3, h4, h5⟩ := h
  refine ⟨Ob, h3, fun k hk => (h4 k hk).1, Oa, h1, fun k hk => ⟨h2 k hk, fun hb => (h4 k hb).2 hk⟩, h5.mono fun k hk => ⟨⟨hk.1.1, hk.2⟩, hk.1.2⟩⟩
theorem Sep.perm {w : World} {C D : List Ch} (h : C.Perm D) : ∀ {O : Nat → Prop}, Sep C O w → Sep D O w := by
  induction h with
  | nil => exact fun h => h
  | cons a _ ih => exact fun ⟨O1, h1, h2, h3⟩ => ⟨O1, h1, h2, ih h3⟩
  | swap a b l => exact fun h => h.swap
  | trans _ _ ih1 ih2 => exact fun h => ih2 (ih1 h)
theorem Sep.split {w : World} : ∀ {D E : List Ch} {O : Nat → Prop}, Sep (D ++ E) O w → ∃ O1, (∀ k, O1 k → O k) ∧ Sep D O1 w ∧ Sep E (fun k => O k ∧ ¬ O1 k) w
  | [], E, O, h => ⟨fun _ => False, fun _ h => h.elim, trivial, Sep.mono (fun k hk => ⟨hk, fun h => h⟩) h⟩
  | c :: D, E, O, ⟨Oc, h1, h2, h3⟩ => by
    obtain ⟨O1, g1, g2, g3⟩ := Sep.split (D := D) h3
    exact ⟨fun k => Oc k ∨ O1 k, fun k hk => hk.elim (h2 k) (fun h => (g1 k h).1), ⟨Oc, h1, fun k hk => .inl hk, g2.mono fun k hk => ⟨.inr hk, (g1 k hk).2⟩⟩, g3.mono fun k hk => ⟨hk.1.1, fun h => h.elim hk.1.2 hk.2⟩⟩
theorem Sep.join {w : World} : ∀ {D E : List Ch} {O1 O2 O : Nat → Prop}, Sep D O1 w → Sep E O2 w → (∀ k, O1 k → ¬ O2 k) → (∀ k, O1 k → O k) → (∀ k, O2 k → O k) → Sep (D ++ E) O w
  | [], E, _, _, _, _, h2, _, _, h5 => h2.mono h5
  | c :: D, E, O1, O2, O, ⟨Oc, h1, hc, h3⟩, h2, hd, h4, h5 =>
    ⟨Oc, h1, fun k hk => h4 k (hc k hk), Sep.join (D := D) h3 h2 (fun k hk => hd k hk.1) (fun k hk => ⟨h4 k hk.1, hk.2⟩) (fun k hk => ⟨h5 k hk, fun ho => hd k (hc k ho) hk⟩)⟩
theorem Sep.has {w : World} {c : Ch} : ∀ {C : List Ch} {O : Nat → Prop}, c ∈ C → Sep C O w → ∃ O1, c.p O1 w ∧ ∀ k, O1 k → O k
  | _ :: cs, O, hm, ⟨O1, h1, h2, h3⟩ => by
    rcases List.mem_cons.1 hm with rfl | hm
    · exact ⟨O1, h1, h2⟩
    · obtain ⟨O2, g1, g2⟩ := Sep.has hm h3
      exact ⟨O2, g1, fun k hk => (g2 k hk).1⟩

/-! ### a state of the world: what is shared (R) stays as it is; what is owned (C) may turn -/
structure St (W0 : World) (X : Nat → Prop) (R C : List Ch) (w : World) : Prop where
  touch : Touch X W0 w
  parts : ∃ OR OC, Shr R OR w ∧ Sep C OC w ∧ (∀ k, OR k → k < w.heap.size) ∧ (∀ k, OC k → ¬ OR k ∧ k < w.heap.size ∧ (X k ∨ W0.heap.size ≤ k))

section st
variable {W0 : World} {X : Nat → Prop} {R C : List Ch} {w w' : World}
theorem St.start (W : World) (R : List Ch) (h : ∀ r ∈ R, ∃ O, r.p O W) : St W (fun _ => False) R [] W :=
  ⟨Touch.refl _ _, fun k => k < W.heap.size, fun _ => False, fun r hr => let ⟨O, ho⟩ := h r hr; ⟨O, ho, r.lt ho⟩, trivial, fun _ h => h, fun _ h => h.elim⟩
theorem St.hasR (h : St W0 X R C w) {r : Ch} (hr : r ∈ R) : ∃ O, r.p O w := let ⟨_, _, h1, _⟩ := h.parts; let ⟨O, h2, _⟩ := h1 r hr; ⟨O, h2⟩
theorem St.hasC (h : St W0 X R C w) {c : Ch} (hc : c ∈ C) : ∃ O, c.p O w := let ⟨_, _, _, h1, _⟩ := h.parts; let ⟨O, h2, _⟩ := Sep.has hc h1; ⟨O, h2⟩
theorem St.has (h : St W0 X R C w) {c : Ch} (hc : c ∈ C ∨ c ∈ R) : ∃ O, c.p O w := hc.elim h.hasC h.hasR
theorem St.below (h : St W0 (fun _ => False) R C w) : Below W0.heap.size W0 w := h.touch.below (Nat.le_refl _) (fun _ _ h => h)
theorem St.size (h : St W0 X R C w) : W0.heap.size ≤ w.heap.size := h.touch.size
theorem St.perm (h : St W0 X R C w) {D : List Ch} (hp : C.Perm D) : St W0 X R D w :=
  ⟨h.touch, let ⟨OR, OC, h1, h2, h3, h4⟩ := h.parts; ⟨OR, OC, h1, h2.perm hp, h3, h4⟩⟩
theorem St.subR (h : St W0 X R C w) {R' : List Ch} (hs : ∀ r ∈ R', r ∈ R) : St W0 X R' C w :=
  ⟨h.touch, let ⟨OR, OC, h1, h2, h3, h4⟩ := h.parts; ⟨OR, OC, fun r hr => h1 r (hs r hr), h2, h3, h4⟩⟩
/-- **One step**: the parties D act, and become D'. -/
theorem St.stepL {D D' E : List Ch} (h : St W0 X R (D ++ E) w)
    (hD : ∀ O, Sep D O w → (∀ k, O k → k < w.heap.size) → ∃ O', Touch O w w' ∧ Sep D' O' w' ∧ ∀ k, O' k → (O k ∨ w.heap.size ≤ k) ∧ k < w'.heap.size) : St W0 X R (D' ++ E) w' := by
  obtain ⟨ht, OR, OC, h1, h2, h3, h4⟩ := h
  obtain ⟨O1, g1, g2, g3⟩ := h2.split
  obtain ⟨O', t1, t2, t3⟩ := hD O1 g2 (fun k hk => (h4 k (g1 k hk)).2.1)
  refine ⟨ht.transW t1 (fun _ _ h => h) (fun i hi ho => (h4 i (g1 i ho)).2.2.elim id (fun h => by omega)), OR, fun k => O' k ∨ (OC k ∧ ¬ O1 k), ?_, ?_, fun k hk => Nat.lt_of_lt_of_le (h3 k hk) t1.size, ?_⟩
  · exact h1.keep t1.size (fun k hk => t1.block k (h3 k hk) (fun ho => (h4 k (g1 k ho)).1 hk))
  · refine Sep.join t2 (g3.keep t1.size (fun k hk => t1.block k (h4 k hk.1).2.1 hk.2)) (fun k hk hk' => ?_) (fun k hk => .inl hk) (fun k hk => .inr hk)
    rcases (t3 k hk).1 with h | h
    · exact hk'.2 h
    · have := (h4 k hk'.1).2.1; omega
  · rintro k (hk | hk)
    · have h5 := t3 k hk
      rcases h5.1 with h | h
      · exact ⟨(h4 k (g1 k h)).1, h5.2, (h4 k (g1 k h)).2.2⟩
      · exact ⟨fun hr => by have := h3 k hr; omega, h5.2, .inr (by have := ht.size; omega)⟩
    · exact ⟨(h4 k hk.1).1, Nat.lt_of_lt_of_le (h4 k hk.1).2.1 t1.size, (h4 k hk.1).2.2⟩
/-- New blocks alone: a new party. -/
theorem St.newL {D' : List Ch} (h : St W0 X R C w) (hb : Below w.heap.size w w') (hD : ∃ O', Sep D' O' w' ∧ ∀ k, O' k → w.heap.size ≤ k ∧ k < w'.heap.size) : St W0 X R (D' ++ C) w' :=
  St.stepL (D := []) h (fun O _ _ => let ⟨O', h1, h2⟩ := hD; ⟨O', Touch.of_fresh hb, h1, fun k hk => ⟨.inr (h2 k hk).1, (h2 k hk).2⟩⟩)
theorem St.new {c : Ch} (h : St W0 X R C w) (hb : Below w.heap.size w w') (hD : ∃ O', c.p O' w' ∧ ∀ k, O' k → w.heap.size ≤ k) : St W0 X R (c :: C) w' :=
  St.newL (D' := [c]) h hb (let ⟨O', h1, h2⟩ := hD; ⟨O', ⟨O', h1, fun _ h => h, trivial⟩, fun k hk => ⟨h2 k hk, c.lt h1 k hk⟩⟩)
theorem St.later (h : St W0 X R C w) (hb : Below w.heap.size w w') : St W0 X R C w' := St.newL (D' := []) h hb ⟨fun _ => False, trivial, fun _ h => h.elim⟩
theorem St.upd {c c' : Ch} {E : List Ch} (h : St W0 X R (c :: E) w) (hD : ∀ O, c.p O w → ∃ O', Touch O w w' ∧ c'.p O' w' ∧ ∀ k, O' k → O k ∨ w.heap.size ≤ k) : St W0 X R (c' :: E) w' := by
  refine St.stepL (D := [c]) (D' := [c']) h (fun O hs hlt => ?_)
  obtain ⟨O1, h1, h2, _⟩ := hs
  obtain ⟨O', g1, g2, g3⟩ := hD O1 h1
  exact ⟨O', g1.mono (fun i _ hi => h2 i hi), ⟨O', g2, fun _ h => h, trivial⟩, fun k hk => ⟨(g3 k hk).imp (h2 k) id, c'.lt g2 k hk⟩⟩
theorem St.drop {c : Ch} {E : List Ch} (h : St W0 X R (c :: E) w) : St W0 X R E w :=
  St.stepL (D := [c]) (D' := []) h (fun O _ _ => ⟨fun _ => False, Touch.refl _ _, trivial, fun _ h => h.elim⟩)
/-- A new thing that is shared: it stands on what was shared, and on new blocks. -/
theorem St.addR {r : Ch} (h : St W0 X R C w) (hb : Below w.heap.size w w') (hr : ∀ OR, Shr R OR w → (∀ k, OR k → k < w.heap.size) → ∃ O, r.p O w' ∧ ∀ k, O k → OR k ∨ w.heap.size ≤ k) : St W0 X (r :: R) C w' := by
  obtain ⟨ht, OR, OC, h1, h2, h3, h4⟩ := h
  obtain ⟨O, g1, g2⟩ := hr OR h1 h3
  have tb : Touch (fun _ => False) w w' := Touch.of_fresh hb
  refine ⟨ht.trans (Touch.of_fresh hb), fun k => OR k ∨ O k, OC, ?_, ?_, ?_, ?_⟩
  · intro r' hr'
    rcases List.mem_cons.1 hr' with rfl | hr'
    · exact ⟨O, g1, fun k hk => .inr hk⟩
    · obtain ⟨O', h5, h6⟩ := h1 r' hr'
      exact ⟨O', r'.st h5 tb.size (fun k hk => tb.block k (h3 k (h6 k hk)) (fun h => h)), fun k hk => .inl (h6 k hk)⟩
  · exact h2.keep tb.size (fun k hk => tb.block k (h4 k hk).2.1 (fun h => h))
  · rintro k (hk | hk)
    · exact Nat.lt_of_lt_of_le (h3 k hk) tb.size
    · exact r.lt g1 k hk
  · intro k hk
    refine ⟨?_, Nat.lt_of_lt_of_le (h4 k hk).2.1 tb.size, (h4 k hk).2.2⟩
    rintro (ho | ho)
    · exact (h4 k hk).1 ho
    · rcases g2 k ho with h5 | h5
      · exact (h4 k hk).1 h5
      · have := (h4 k hk).2.1; omega
/-- What was owned becomes shared. -/
theorem St.freeze {c r : Ch} {E : List Ch} (h : St W0 X R (c :: E) w) (hc : ∀ O, c.p O w → ∃ O', r.p O' w ∧ ∀ k, O' k → O k) : St W0 X (r :: R) E w := by
  obtain ⟨ht, OR, OC, h1, ⟨O1, g1, g2, g3⟩, h3, h4⟩ := h
  obtain ⟨O', t1, t2⟩ := hc O1 g1
  refine ⟨ht, fun k => OR k ∨ O1 k, fun k => OC k ∧ ¬ O1 k, ?_, g3, ?_, ?_⟩
  · intro r' hr'
    rcases List.mem_cons.1 hr' with rfl | hr'
    · exact ⟨O', t1, fun k hk => .inr (t2 k hk)⟩
    · obtain ⟨O2, h5, h6⟩ := h1 r' hr'
      exact ⟨O2, h5, fun k hk => .inl (h6 k hk)⟩
  · rintro k (hk | hk)
    · exact h3 k hk
    · exact (h4 k (g2 k hk)).2.1
  · rintro k ⟨hk, hn⟩
    exact ⟨fun h => h.elim (h4 k hk).1 hn, (h4 k hk).2⟩
end st

/-! ### places of a party in a list -/
/-- E holds c, D beside it. -/
def Pick (E : List Ch) (c : Ch) (D : List Ch) : Prop := E.Perm (c :: D)
theorem Pick.here {c : Ch} {D : List Ch} : Pick (c :: D) c D := List.Perm.refl _
theorem Pick.there {b c : Ch} {E D : List Ch} (h : Pick E c D) : Pick (b :: E) c (b :: D) := (List.Perm.cons b h).trans (List.Perm.swap c b D)
/-- E holds c at a place; E' holds c' there. -/
def Turn (E : List Ch) (c c' : Ch) (E' : List Ch) : Prop := ∃ D, Pick E c D ∧ Pick E' c' D
theorem Turn.here {c c' : Ch} {D : List Ch} : Turn (c :: D) c c' (c' :: D) := ⟨D, Pick.here, Pick.here⟩
theorem Turn.there {b c c' : Ch} {E E' : List Ch} (h : Turn E c c' E') : Turn (b :: E) c c' (b :: E') := let ⟨D, h1, h2⟩ := h; ⟨b :: D, h1.there, h2.there⟩
theorem St.turn {W0 : World} {X : Nat → Prop} {R E E' : List Ch} {w w' : World} {c c' : Ch} (h : St W0 X R E w) (ht : Turn E c c' E') (hD : ∀ O, c.p O w → ∃ O', Touch O w w' ∧ c'.p O' w' ∧ ∀ k, O' k → O k ∨ w.heap.size ≤ k) : St W0 X R E' w' :=
  let ⟨_, h1, h2⟩ := ht
  ((h.perm h1).upd hD).perm h2.symm
/-- All of D lies in E. -/
inductive Holds : List Ch → List Ch → Prop
  | nil {E : List Ch} : Holds E []
  | cons {E E1 D : List Ch} {c : Ch} : Pick E c E1 → Holds E1 D → Holds E (c :: D)
  | rest {E : List Ch} : Holds E E
  | skip {E D : List Ch} {c : Ch} : Holds E D → Holds (c :: E) D
theorem Holds.sub {E D : List Ch} (h : Holds E D) : ∃ G, E.Perm (D ++ G) := by
  induction h with
  | nil => exact ⟨_, List.Perm.refl _⟩
  | cons hp _ ih => obtain ⟨G, hg⟩ := ih; exact ⟨G, hp.trans (List.Perm.cons _ hg)⟩
  | rest => exact ⟨[], by rw [List.append_nil]⟩
  | skip _ ih => obtain ⟨G, hg⟩ := ih; exact ⟨_ :: G, (List.Perm.cons _ hg).trans List.perm_middle.symm⟩
theorem St.keep {W0 : World} {X : Nat → Prop} {R E D : List Ch} {w : World} (h : St W0 X R E w) (hh : Holds E D) : St W0 X R D w := by
  obtain ⟨G, hg⟩ := hh.sub
  have h1 := h.perm (hg.trans List.perm_append_comm)
  exact St.stepL (D := G) (D' := []) h1 (fun O _ _ => ⟨fun _ => False, Touch.refl _ _, trivial, fun _ h => h.elim⟩)

/-! ### what is known of the temporaries -/
theorem beq_ne {i j : Nat} (h : ¬ i = j) : Nat.beq i j = false := by
  cases e : Nat.beq i j
  · rfl
  · exact absurd (Nat.eq_of_beq_eq_true e) h
def lk (i : Nat) : List (Nat × Value) → Option Value
  | [] => none
  | (j, v) :: l => bif Nat.beq i j then some v else lk i l
structure Kn (n : Nat) (l : List (Nat × Value)) (d : List Deferred) (a : Act) : Prop where
  size : a.tmps.size = n
  defers : a.defers = d
  at_ : ∀ i v, lk i l = some v → a.tmps[i]? = some v
def ev (l : List (Nat × Value)) : Operand → Option Value
  | .tmp t => lk t l
  | .const v => some v
  | .global g => some (.pointer (some ⟨g, 0, none⟩))
  | .func f => some (.func (.func f) #[] #[])
def evs (l : List (Nat × Value)) : List Operand → Option (List Value)
  | [] => some []
  | x :: xs => match ev l x, evs l xs with | some v, some vs => some (v :: vs) | _, _ => none
/-- Does an operation run? -/
def gdL (ops : List Oper) (l : List (Nat × Value)) (o : Oper) : Option Bool :=
  match o.guard with
  | none => some true
  | some (j, b) => match (ops[j]?).bind (·.dst) with
    | some t => match lk t l with
      | some (.bool c) => some (c == b)
      | some (.tuple _) => some false
      | _ => none
    | none => none

section kn
variable {n : Nat} {l : List (Nat × Value)} {d : List Deferred} {a : Act}
theorem Kn.put (h : Kn n l d a) {t : Nat} (ht : Nat.blt t n = true) (v : Value) : Kn n ((t, v) :: l) d (a.put (some t) v) := by
  have ht' : t < n := by simpa [Nat.blt_eq] using ht
  refine ⟨by simp [Act.put, h.size], by simp [Act.put, h.defers], fun i u hi => ?_⟩
  simp only [lk] at hi
  by_cases e : i = t
  · subst e
    rw [show Nat.beq i i = true from Nat.beq_refl i] at hi
    simp only [cond_true, Option.some.injEq] at hi
    subst hi
    simp [Act.put, h.size, ht']
  · rw [beq_ne e] at hi
    simp only [cond_false] at hi
    have := h.at_ i u hi
    simp only [Act.put]
    rw [Array.getElem?_setIfInBounds_ne (fun e' => e e'.symm)]
    exact this
theorem Kn.put0 (h : Kn n l d a) (v : Value) : Kn n l d (a.put none v) := h
theorem Kn.sub (h : Kn n l d a) {l' : List (Nat × Value)} (hs : ∀ i v, lk i l' = some v → lk i l = some v) : Kn n l' d a := ⟨h.size, h.defers, fun i v hi => h.at_ i v (hs i v hi)⟩
theorem Kn.eval (h : Kn n l d a) {x : Operand} {v : Value} (hx : ev l x = some v) : a.eval x = v := by
  cases x with
  | tmp t =>
    have := h.at_ t v hx
    simp [Act.eval, this]
  | const c => exact Option.some.inj hx
  | global g => exact Option.some.inj hx
  | func f => exact Option.some.inj hx
theorem Kn.evals (h : Kn n l d a) : ∀ {xs : List Operand} {vs : List Value}, evs l xs = some vs → xs.map a.eval = vs
  | [], vs, hx => by simp [evs] at hx; simp [hx]
  | x :: xs, vs, hx => by
    simp only [evs] at hx
    split at hx
    · rename_i v us e1 e2
      cases hx
      rw [List.map_cons, h.eval e1, Kn.evals h e2]
    · cases hx
theorem Kn.wanted (h : Kn n l d a) {ops : List Oper} {o : Oper} {b : Bool} (hg : gdL ops l o = some b) : Region.wanted o (yielded ops.toArray a.tmps) = b := by
  unfold gdL at hg
  unfold Region.wanted
  split at hg
  · rename_i e; rw [e]; exact Option.some.inj hg
  · rename_i j c e
    rw [e]
    split at hg
    · rename_i t e2
      split at hg
      · rename_i b' e3
        have := h.at_ t _ e3
        have hy : yielded ops.toArray a.tmps j = some b' := by
          unfold yielded
          rw [show (ops.toArray[j]?) = ops[j]? from by simp, e2]
          simp [this]
        simp only [hy]
        have := Option.some.inj hg
        rw [← this]
        cases b' <;> cases c <;> rfl
      · rename_i q e3
        have := h.at_ t _ e3
        have hy : yielded ops.toArray a.tmps j = none := by
          unfold yielded
          rw [show (ops.toArray[j]?) = ops[j]? from by simp, e2]
          simp [this]
        simp only [hy]
        rw [← Option.some.inj hg]
        rfl
      · cases hg
    · cases hg
/-- The temporaries of a call at its begin. -/
def argL : Nat → List Value → List (Nat × Value)
  | _, [] => []
  | k, v :: vs => (k, v) :: argL (k + 1) vs
theorem lk_argL : ∀ (vs : List Value) (k i : Nat) (v : Value), lk i (argL k vs) = some v → ∃ j, i = k + j ∧ vs[j]? = some v
  | [], k, i, v, h => by simp [argL, lk] at h
  | u :: vs, k, i, v, h => by
    simp only [argL, lk] at h
    by_cases e : i = k
    · subst e
      rw [show Nat.beq i i = true from Nat.beq_refl i] at h
      exact ⟨0, rfl, by simpa using h⟩
    · rw [beq_ne e] at h
      obtain ⟨j, e1, e2⟩ := lk_argL vs (k + 1) i v h
      exact ⟨j + 1, by omega, by simpa using e2⟩
theorem Kn.start (vs : List Value) (n : Nat) (h : vs.length ≤ n) : Kn n (argL 0 vs) [] { tmps := vs.toArray ++ Array.replicate (n - vs.toArray.size) undef, defers := [] } := by
  refine ⟨by simp; omega, rfl, fun i v hi => ?_⟩
  obtain ⟨j, rfl, hj⟩ := lk_argL vs 0 i v hi
  have := (List.getElem?_eq_some_iff.1 hj).1
  simp only [Nat.zero_add]
  rw [Array.getElem?_append_left (by simpa using this)]
  simpa using hj
end kn

/-! ### a predicate of a frame and a world, by what is known of both -/
def Nx (K : Act → World → Prop) (n : Nat) (l : List (Nat × Value)) (d : List Deferred) (W0 : World) (X : Nat → Prop) (R C : List Ch) : Prop := ∀ a w, Kn n l d a → St W0 X R C w → K a w

section code
variable {F : Fence} {m : Nat} {P : Program} {Q : Exit → Act → World → Prop} {K : Act → World → Prop} {n : Nat} {l : List (Nat × Value)} {d : List Deferred} {W0 : World} {X : Nat → Prop} {R C : List Ch}
theorem Nx.weak {l' : List (Nat × Value)} {R' C' : List Ch} (h : Nx K n l' d W0 X R' C') (hl : ∀ i v, lk i l' = some v → lk i l = some v) (hR : ∀ r ∈ R', r ∈ R) (hC : Holds C C') : Nx K n l d W0 X R C :=
  fun a w ha hw => h a w (ha.sub hl) ((hw.subR hR).keep hC)
theorem nx_seq {x y : Code} (h : Nx (x.wpIn F m P (Exit.then (y.wpIn F m P Q) Q)) n l d W0 X R C) : Nx ((Code.seq x y).wpIn F m P Q) n l d W0 X R C := fun a w ha hw => wpIn_seq (h a w ha hw)
theorem nx_block {id : Nat} {x : Code} (h : Nx (x.wpIn F m P (Exit.inBlock id Q)) n l d W0 X R C) : Nx ((Code.block id x).wpIn F m P Q) n l d W0 X R C := fun a w ha hw => wpIn_block (h a w ha hw)
theorem nx_cond_t {c : Operand} {x y : Code} (hc : ev l c = some (.bool true)) (h : Nx (x.wpIn F m P Q) n l d W0 X R C) : Nx ((Code.cond c x y).wpIn F m P Q) n l d W0 X R C := fun a w ha hw => wpIn_cond_true (ha.eval hc) (h a w ha hw)
theorem nx_cond_f {c : Operand} {x y : Code} (hc : ev l c = some (.bool false)) (h : Nx (y.wpIn F m P Q) n l d W0 X R C) : Nx ((Code.cond c x y).wpIn F m P Q) n l d W0 X R C := fun a w ha hw => wpIn_cond_false (ha.eval hc) (h a w ha hw)
theorem nx_cond {c : Operand} {x y : Code} {b : Bool} (hc : ev l c = some (.bool b)) (h1 : b = true → Nx (x.wpIn F m P Q) n l d W0 X R C) (h2 : b = false → Nx (y.wpIn F m P Q) n l d W0 X R C) : Nx ((Code.cond c x y).wpIn F m P Q) n l d W0 X R C :=
  fun a w ha hw => wpIn_cond_split (ha.eval hc) (fun e => h1 e a w ha hw) (fun e => h2 e a w ha hw)
theorem nx_skip (h : Nx (Q .normal) n l d W0 X R C) : Nx (Code.skip.wpIn F m P Q) n l d W0 X R C := fun a w ha hw => wpIn_skip (h a w ha hw)
theorem nx_exit {id : Nat} (h : Nx (Q (.exit id)) n l d W0 X R C) : Nx ((Code.exit id).wpIn F m P Q) n l d W0 X R C := fun a w ha hw => wpIn_exit (h a w ha hw)
theorem nx_ret (h : Nx (Q .ret) n l d W0 X R C) : Nx (Code.ret.wpIn F m P Q) n l d W0 X R C := fun a w ha hw => wpIn_ret (h a w ha hw)
theorem nx_region {id : Nat} {ops : List Oper} (h : Nx (wpListIn F m P ops.toArray Q ops) n l d W0 X R C) : Nx ((Code.region id ops.toArray false).wpIn F m P Q) n l d W0 X R C := fun a w ha hw => wpIn_region_lit (h a w ha hw)
/-- A loop: one of a family of states stands at the head of each round. -/
theorem nx_loop {c : Code} {ι : Type} (L : ι → List (Nat × Value)) (RR CC : ι → List Ch) (μ : ι → Nat) (i0 : ι) (h0 : ∀ j v, lk j (L i0) = some v → lk j l = some v) (hR : ∀ r ∈ RR i0, r ∈ R) (hC : Holds C (CC i0))
    (h : ∀ i, Nx (c.wpIn F m P (Exit.then (fun a w => ∃ j, μ j < μ i ∧ Kn n (L j) d a ∧ St W0 X (RR j) (CC j) w) Q)) n (L i) d W0 X (RR i) (CC i)) : Nx ((Code.loop c).wpIn F m P Q) n l d W0 X R C := by
  intro a w ha hw
  -- the least measure of the states that stand
  classical
  let I : Act → World → Prop := fun a w => ∃ j, Kn n (L j) d a ∧ St W0 X (RR j) (CC j) w
  have key : ∀ k i a w, μ i = k → Kn n (L i) d a → St W0 X (RR i) (CC i) w → (Code.loop c).wpIn F m P Q a w := by
    intro k i a w hk ha hw
    let J : Nat → Act → World → Prop := fun k a w => ∃ j, μ j = k ∧ Kn n (L j) d a ∧ St W0 X (RR j) (CC j) w
    have hex : ∀ a w, I a w → ∃ k, J k a w := fun a w ⟨j, h1, h2⟩ => ⟨μ j, j, rfl, h1, h2⟩
    have least : ∀ a w, I a w → ∃ k, J k a w ∧ ∀ k', k' < k → ¬ J k' a w := fun a w hi => by
      obtain ⟨k, hk⟩ := hex a w hi
      induction k using Nat.strongRecOn with
      | _ k ih =>
        by_cases hq : ∃ k', k' < k ∧ J k' a w
        · obtain ⟨k', hlt, hj⟩ := hq; exact ih k' hlt hj
        · exact ⟨k, hk, fun k' hlt hj => hq ⟨k', hlt, hj⟩⟩
    let M : Act → World → Nat := fun a w => if hi : I a w then (least a w hi).choose else 0
    have hM : ∀ a w (hi : I a w), J (M a w) a w ∧ ∀ k', k' < M a w → ¬ J k' a w := fun a w hi => by
      have := (least a w hi).choose_spec
      simp only [M, dif_pos hi]
      exact this
    have hle : ∀ a w j, Kn n (L j) d a → St W0 X (RR j) (CC j) w → M a w ≤ μ j := fun a w j h1 h2 => by
      have := (hM a w ⟨j, h1, h2⟩).2 (μ j)
      rcases Nat.lt_or_ge (μ j) (M a w) with h | h
      · exact absurd ⟨j, rfl, h1, h2⟩ (this h)
      · exact h
    refine wpIn_loop I M ⟨i, ha, hw⟩ (fun a1 w1 hi => ?_)
    obtain ⟨⟨j, hj, g1, g2⟩, _⟩ := hM a1 w1 hi
    refine wpIn_mono (h j a1 w1 g1 g2) ?_
    intro e a2 w2 hq
    cases e with
    | normal =>
      obtain ⟨j2, hlt, h3, h4⟩ := hq
      exact ⟨⟨j2, h3, h4⟩, Nat.lt_of_le_of_lt (hle a2 w2 j2 h3 h4) (by rw [← hj]; exact hlt)⟩
    | exit id => exact hq
    | goto t => exact hq
    | ret => exact hq
    | panic ch => exact hq
    | outgrown => exact hq
  exact key (μ i0) i0 a w rfl (ha.sub h0) ((hw.subR hR).keep hC)
/-- Ways meet again: one of a family of states stands between two pieces of code. -/
theorem nx_cut {x y : Code} {ι : Type} (L : ι → List (Nat × Value)) (RR CC : ι → List Ch) (h : Nx (x.wpIn F m P (Exit.then (fun a w => ∃ j, Kn n (L j) d a ∧ St W0 X (RR j) (CC j) w) Q)) n l d W0 X R C) (h2 : ∀ i, Nx (y.wpIn F m P Q) n (L i) d W0 X (RR i) (CC i)) : Nx ((Code.seq x y).wpIn F m P Q) n l d W0 X R C := by
  intro a w ha hw
  refine wpIn_seq (wpIn_mono (h a w ha hw) ?_)
  intro e a2 w2 hq
  cases e with
  | normal => obtain ⟨j, h3, h4⟩ := hq; exact h2 j a2 w2 h3 h4
  | exit id => exact hq
  | goto t => exact hq
  | ret => exact hq
  | panic ch => exact hq
  | outgrown => exact hq
/-- The end of a piece of code that a cut or a loop asks for. -/
theorem nx_meet {ι : Type} {L : ι → List (Nat × Value)} {RR CC : ι → List Ch} (i : ι) (hl : ∀ j v, lk j (L i) = some v → lk j l = some v) (hR : ∀ r ∈ RR i, r ∈ R) (hC : Holds C (CC i)) : Nx (fun a w => ∃ j, Kn n (L j) d a ∧ St W0 X (RR j) (CC j) w) n l d W0 X R C :=
  fun a w ha hw => ⟨i, ha.sub hl, (hw.subR hR).keep hC⟩
theorem nx_again {ι : Type} {L : ι → List (Nat × Value)} {RR CC : ι → List Ch} {μ : ι → Nat} {k : Nat} (i : ι) (hμ : μ i < k) (hl : ∀ j v, lk j (L i) = some v → lk j l = some v) (hR : ∀ r ∈ RR i, r ∈ R) (hC : Holds C (CC i)) : Nx (fun a w => ∃ j, μ j < k ∧ Kn n (L j) d a ∧ St W0 X (RR j) (CC j) w) n l d W0 X R C :=
  fun a w ha hw => ⟨i, hμ, ha.sub hl, (hw.subR hR).keep hC⟩

/-! exits -/
theorem nq_then_n {K : Act → World → Prop} (h : Nx K n l d W0 X R C) : Nx (Exit.then K Q .normal) n l d W0 X R C := h
theorem nq_then_r {K : Act → World → Prop} (h : Nx (Q .ret) n l d W0 X R C) : Nx (Exit.then K Q .ret) n l d W0 X R C := h
theorem nq_then_x {K : Act → World → Prop} {id : Nat} (h : Nx (Q (.exit id)) n l d W0 X R C) : Nx (Exit.then K Q (.exit id)) n l d W0 X R C := h
theorem nq_blk_n {id : Nat} (h : Nx (Q .normal) n l d W0 X R C) : Nx (Exit.inBlock id Q .normal) n l d W0 X R C := h
theorem nq_blk_r {id : Nat} (h : Nx (Q .ret) n l d W0 X R C) : Nx (Exit.inBlock id Q .ret) n l d W0 X R C := h
theorem nq_blk_hit {id : Nat} (h : Nx (Q .normal) n l d W0 X R C) : Nx (Exit.inBlock id Q (.exit id)) n l d W0 X R C := fun a w ha hw => by
  simp only [Exit.inBlock, if_true]; exact h a w ha hw
theorem nq_blk_miss {id j : Nat} (hj : Nat.beq j id = false) (h : Nx (Q (.exit j)) n l d W0 X R C) : Nx (Exit.inBlock id Q (.exit j)) n l d W0 X R C := fun a w ha hw => by
  have : j ≠ id := by rintro rfl; rw [Nat.beq_refl] at hj; cases hj
  simp only [Exit.inBlock, if_neg this]; exact h a w ha hw

/-! a region in the order of the text -/
theorem nl_nil {ops : Array Oper} (h : Nx (Q .normal) n l d W0 X R C) : Nx (wpListIn F m P ops Q []) n l d W0 X R C := h
/-- One operation, what follows it, and how it fails. -/
def OpN (F : Fence) (m : Nat) (P : Program) (o : Oper) (K : Act → World → Prop) (Q : Exit → Act → World → Prop) : Act → World → Prop := fun a w => o.wpIn F m P a w K Q
theorem nl_op1 {ops rest : List Oper} {o : Oper} (hg : gdL ops l o = some true) (h : Nx (OpN F m P o (wpListIn F m P ops.toArray Q rest) Q) n l d W0 X R C) : Nx (wpListIn F m P ops.toArray Q (o :: rest)) n l d W0 X R C := fun a w ha hw => by
  unfold wpListIn
  rw [if_pos (ha.wanted hg)]
  exact h a w ha hw
/-- No way out but the next operation. -/
def QF : Exit → Act → World → Prop := fun _ _ _ => False
theorem wpIn_ofF {o : Oper} {a : Act} {w : World} {K : Act → World → Prop} (h : o.wpIn F m P a w K QF) : o.wpIn F m P a w K Q := by
  refine ⟨h.1, ?_⟩
  have h4 := h.2
  generalize (Oper.semAt F.round a.eval o).run P w = r at *
  cases r with
  | ok x w' =>
    cases x <;> simp only [Oper.uponIn] at h4 ⊢
    case value u => exact h4
    case skip => exact h4
    case defer dd => exact h4
    case enter f args =>
      refine ⟨h4.1, h4.2.1, fun cs hr => ?_⟩
      obtain ⟨e, w'', fr, h5, h6⟩ := h4.2.2 cs hr
      refine ⟨e, w'', fr, ?_, h6⟩
      cases e with
      | returned u => exact h5
      | panicked ch => exact h5.elim
      | outgrown => obtain ⟨_, _, h5⟩ := h5; exact h5.elim
    case row r args => exact h4
    case round l f tm asg bo =>
      refine ⟨h4.1, h4.2.1, fun c cs hr => ?_⟩
      obtain ⟨e, w'', h5, h6⟩ := h4.2.2 c cs hr
      refine ⟨e, w'', ?_, h6⟩
      cases e with
      | returned u => exact h5
      | panicked ch => exact h5.elim
      | outgrown => obtain ⟨_, _, h5⟩ := h5; exact h5.elim
  | halt x w' =>
    cases x <;> simp only [Oper.uponIn] at h4
    all_goals exact h4.elim
/-- The next operation; what follows it stands behind a letter. -/
theorem nl_op {ops rest : List Oper} {o : Oper} (hg : gdL ops l o = some true) (h : ∀ K, (∀ l' R' C', Nx (wpListIn F m P ops.toArray Q rest) n l' d W0 X R' C' → Nx K n l' d W0 X R' C') → Nx (OpN F m P o K QF) n l d W0 X R C) : Nx (wpListIn F m P ops.toArray Q (o :: rest)) n l d W0 X R C := fun a w ha hw => by
  unfold wpListIn
  rw [if_pos (ha.wanted hg)]
  exact wpIn_ofF (h _ (fun _ _ _ h => h) a w ha hw)
theorem nl_pass (hF : IsWide F) {ops rest : List Oper} {o : Oper} {t : Nat} (hg : gdL ops l o = some false) (hd : o.dst = some t) (ht : Nat.blt t n = true) (h : Nx (wpListIn F m P ops.toArray Q rest) n ((t, undef) :: l) d W0 X R C) : Nx (wpListIn F m P ops.toArray Q (o :: rest)) n l d W0 X R C := fun a w ha hw => by
  unfold wpListIn
  rw [if_neg (by rw [ha.wanted hg]; simp)]
  exact ⟨fun _ _ => hF.fn _, by rw [hd]; exact h _ w (ha.put ht _) hw⟩
end code

/-! ### entering a function, and leaving it -/
theorem calls_nx {P : Program} {f : FuncId} {fn : Func} {c : Code} {vs : List Value} {w : World} {G : Ending → World → Prop} {W0 : World} {X : Nat → Prop} {R C : List Ch} (hf : P.funcs[f]? = some fn) (hb : fn.body = some c) {n : Nat} (hnt : fn.ntmps = n) (hn : Nat.ble vs.length n = true)
    (h : Nx (c.wpIn Fence.wide 0 P (bodyPostM Fence.wide 0 P fn G)) n (argL 0 vs) [] W0 X R C) (hw : St W0 X R C w) : Calls P f vs.toArray w G :=
  by subst hnt; exact calls_enterM hf hb (h _ w (Kn.start vs fn.ntmps (by simpa [Nat.ble_eq] using hn)) hw)
/-- A contract: whatever state with R and C stands, the call returns one of a family of values, and leaves a state with its R' and C'. -/
def Ct (P : Program) (g : FuncId) (vs : List Value) (W0 : World) (X : Nat → Prop) (R C : List Ch) (ι : Type) (ret : ι → Value) (R' C' : ι → List Ch) : Prop :=
  ∀ w, St W0 X R C w → Calls P g vs.toArray w (fun e w' => ∃ i, e = .returned (ret i) ∧ St W0 X (R' i) (C' i) w')
/-- The blocks of deferred calls, in a function that held ranges over functions. -/
def dfr (Ds : List Nat) : List Deferred := Ds.map fun D => { target := .collected D, args := #[] }
def DfrC (D : Nat) : Ch where
  p O w := w.heap[D]? = some (.deferred (some [])) ∧ ∀ k, O k ↔ k = D
  st h _ hk := ⟨(hk D ((h.2 D).2 rfl)).trans h.1, h.2⟩
  lt h k hk := by rw [(h.2 k).1 hk]; exact (Array.getElem?_eq_some_iff.1 h.1).1
def DoneC (D : Nat) : Ch where
  p O w := w.heap[D]? = some (.deferred none) ∧ ∀ k, O k ↔ k = D
  st h _ hk := ⟨(hk D ((h.2 D).2 rfl)).trans h.1, h.2⟩
  lt h k hk := by rw [(h.2 k).1 hk]; exact (Array.getElem?_eq_some_iff.1 h.1).1
theorem DfrC.shut {D : Nat} {w : World} {O : Nat → Prop} (h : (DfrC D).p O w) : ∃ O', Touch O w (w.putObj D (.deferred none)) ∧ (DoneC D).p O' (w.putObj D (.deferred none)) ∧ ∀ k, O' k → O k ∨ w.heap.size ≤ k :=
  ⟨O, Touch.putObj _ _ _ ((h.2 D).2 rfl), ⟨World.putObj_heap_same (Array.getElem?_eq_some_iff.1 h.1).1, h.2⟩, fun k hk => .inl hk⟩
theorem leaves_all {P : Program} {fn : Func} {tmps : Array Value} {G : Ending → World → Prop} {W0 : World} {X : Nat → Prop} {R : List Ch} {v : Value}
    : ∀ (Ds : List Nat) {C : List Ch} {w : World}, St W0 X R (Ds.map DfrC ++ C) w → (∀ w', St W0 X R C w' → (results fn tmps).run P w' = .ok v w' ∧ G (.returned v) w') → LeavesInM Fence.wide 0 P fn tmps G (dfr Ds) .returning w
  | [], C, w, hw, h => by
    obtain ⟨h1, h2⟩ := h w hw
    exact ⟨v, h1, h2⟩
  | D :: Ds, C, w, hw, h => by
    have hd : w.heap[D]? = some (.deferred (some [])) := let ⟨_, h1⟩ := hw.hasC (c := DfrC D) (by simp); h1.1
    have h1 : St W0 X R (DoneC D :: (Ds.map DfrC ++ C)) (w.putObj D (.deferred none)) := St.upd hw (fun O ho => DfrC.shut ho)
    exact ⟨by simp, .inl ⟨D, _, rfl, run_takeDeferred hd, leaves_all Ds h1.drop h⟩⟩
section leave
variable {P : Program} {fn : Func} {G : Ending → World → Prop} {n : Nat} {l : List (Nat × Value)} {W0 : World} {X : Nat → Prop} {R C C1 : List Ch} {Ds : List Nat} {v : Value}
/-- The function returns v. -/
theorem nx_done (hC : Holds C (Ds.map DfrC ++ C1)) (hr : ∀ a w, Kn n l (dfr Ds) a → St W0 X R C1 w → (results fn a.tmps).run P w = .ok v w) (hG : ∀ w, St W0 X R C1 w → G (.returned v) w) : Nx (bodyPostM Fence.wide 0 P fn G .ret) n l (dfr Ds) W0 X R C := fun a w ha hw => by
  have : bodyPostM Fence.wide 0 P fn G .ret a w = LeavesInM Fence.wide 0 P fn a.tmps G a.defers .returning w := rfl
  rw [this, ha.defers]
  exact leaves_all Ds (hw.keep hC) (fun w' hw' => ⟨hr a w' ha hw', hG w' hw'⟩)
theorem nx_done_n (h : Nx (bodyPostM Fence.wide 0 P fn G .ret) n l (dfr Ds) W0 X R C) : Nx (bodyPostM Fence.wide 0 P fn G .normal) n l (dfr Ds) W0 X R C := h
theorem res_none (h : fn.results = #[]) {a : Act} {w : World} : (results fn a.tmps).run P w = .ok (.tuple #[]) w := results_none h _ _ _
theorem res_tmp {d : List Deferred} {t : Nat} (h : fn.results = #[.tmp t]) (hv : lk t l = some v) {a : Act} {w : World} (ha : Kn n l d a) : (results fn a.tmps).run P w = .ok v w := by
  have := ha.at_ t v hv
  have h2 : a.tmps.getD t undef = v := by simp [this]
  simp [results, h, this]
theorem res_tmp2 {d : List Deferred} {t s : Nat} {u : Value} (h : fn.results = #[.tmp t, .tmp s]) (hv : lk t l = some v) (hu : lk s l = some u) {a : Act} {w : World} (ha : Kn n l d a) : (results fn a.tmps).run P w = .ok (.tuple #[v, u]) w := by
  have h1 := ha.at_ t v hv
  have h2 := ha.at_ s u hu
  simp [results, h, h1, h2]
theorem res_tmp3 {d : List Deferred} {t s r : Nat} {u x : Value} (h : fn.results = #[.tmp t, .tmp s, .tmp r]) (hv : lk t l = some v) (hu : lk s l = some u) (hx : lk r l = some x) {a : Act} {w : World} (ha : Kn n l d a) : (results fn a.tmps).run P w = .ok (.tuple #[v, u, x]) w := by
  have h1 := ha.at_ t v hv
  have h2 := ha.at_ s u hu
  have h3 := ha.at_ r x hx
  simp [results, h, h1, h2, h3]
/-- The end of a function by a contract. -/
theorem nx_end {ι : Type} {ret : ι → Value} {R' C' : ι → List Ch} {d : List Deferred} (Ds : List Nat) (hd : d = dfr Ds) (i : ι) (hr : ∀ a w, Kn n l d a → St W0 X R (C' i) w → (results fn a.tmps).run P w = .ok (ret i) w) (hR : ∀ r ∈ R' i, r ∈ R) (hC : Holds C (Ds.map DfrC ++ C' i)) :
    Nx (bodyPostM Fence.wide 0 P fn (fun e w' => ∃ i, e = .returned (ret i) ∧ St W0 X (R' i) (C' i) w') .ret) n l d W0 X R C := by
  subst hd
  exact nx_done hC hr (fun w hw => ⟨i, rfl, hw.subR hR⟩)
theorem nx_end_n {ι : Type} {ret : ι → Value} {R' C' : ι → List Ch} {d : List Deferred} (Ds : List Nat) (hd : d = dfr Ds) (i : ι) (hr : ∀ a w, Kn n l d a → St W0 X R (C' i) w → (results fn a.tmps).run P w = .ok (ret i) w) (hR : ∀ r ∈ R' i, r ∈ R) (hC : Holds C (Ds.map DfrC ++ C' i)) :
    Nx (bodyPostM Fence.wide 0 P fn (fun e w' => ∃ i, e = .returned (ret i) ∧ St W0 X (R' i) (C' i) w') .normal) n l d W0 X R C := nx_end Ds hd i hr hR hC
/-- The same, where results lie in memory: C1 holds them. -/
theorem nx_endc {ι : Type} {ret : ι → Value} {R' C' : ι → List Ch} {d : List Deferred} (Ds : List Nat) (C1 : List Ch) (hd : d = dfr Ds) (i : ι) (hr : ∀ a w, Kn n l d a → St W0 X R C1 w → (results fn a.tmps).run P w = .ok (ret i) w) (hR : ∀ r ∈ R' i, r ∈ R) (hC : Holds C (Ds.map DfrC ++ C1)) (hC1 : Holds C1 (C' i)) :
    Nx (bodyPostM Fence.wide 0 P fn (fun e w' => ∃ i, e = .returned (ret i) ∧ St W0 X (R' i) (C' i) w') .ret) n l d W0 X R C := by
  subst hd
  exact nx_done hC hr (fun w hw => ⟨i, rfl, (hw.subR hR).keep hC1⟩)
end leave
end Go.Proofs.YtinofjenoapeaaaGreat
end
section
namespace Go.Proofs.YtinofjenoapeaaaGreat
open Go.RowKit Go.Shelf
set_option linter.unusedSimpArgs false
set_option linter.unusedVariables false

/-! ### parties: a variable, a slice that is read, a slice that is owned -/
def ptr (B : Nat) : Value := .pointer (some ⟨B, 0, none⟩)
def BoxC (B : Nat) (T : TypeId) (v : Value) : Ch where
  p O w := BoxV w B T v ∧ ∀ k, O k ↔ k = B
  st h _ hk := ⟨(hk B ((h.2 B).2 rfl)).trans h.1, h.2⟩
  lt h k hk := by rw [(h.2 k).1 hk]; exact h.1.lt
def SlC (k : Nat) (v : Value) (xs : List Value) : Ch where
  p O w := SliceAt w k v xs ∧ (xs ≠ [] → ∀ b, sliceBlk v b → O b) ∧ ∀ b, O b → b < w.heap.size
  st {O A B} h hs hk := by
    refine ⟨?_, h.2.1, fun b hb => Nat.lt_of_lt_of_le (h.2.2 b hb) hs⟩
    by_cases hx : xs = []
    · subst hx
      obtain ⟨A', c, h1, h2, h3, _⟩ := h.1
      exact ⟨A', c, h1, h2, h3, fun i x hi => by simp at hi⟩
    · exact h.1.same (fun b hb => hk b (h.2.1 hx b hb))
  lt h k hk := h.2.2 k hk
theorem SlC.mk {k : Nat} {v : Value} {xs : List Value} {w : World} (h : SliceAt w k v xs) (h1 : ∀ x ∈ xs, (cv x).size ≠ 0) : ∃ O, (SlC k v xs).p O w := ⟨fun b => b < w.heap.size, h, fun hx b hb => by
  cases xs with
  | nil => exact absurd rfl hx
  | cons x xs =>
    obtain ⟨A, c, rfl, hc, hA, hel⟩ := h
    obtain ⟨b', o, rfl, hr⟩ := hel 0 x rfl
    obtain ⟨u, hu⟩ : ∃ u, (cv x).toList[0]? = some u := by
      have := h1 x (by simp)
      exact ⟨(cv x)[0], by simp⟩
    have h2 := World.block_lt_of_cell? w _ (hr 0 u hu)
    obtain rfl : b' = b := hb
    exact h2, fun b hb => hb⟩
/-- A row of the call's own: v reads as xs; its elements are of type e, k cells each. -/
def RowC (e : TypeId) (k : Nat) (v : Value) (xs : List Value) : Ch where
  p O w := w.ownsRow 0 e k v xs.length (cellsOf xs) ∧ (v = .slice none 0 0 → xs = []) ∧ (∀ x ∈ xs, (cv x).size = k) ∧ ∀ j, O j ↔ v.ownBlock = some j
  st {O A B} h hs hk := by
    refine ⟨⟨h.1.1, ?_⟩, h.2⟩
    rcases h.1.2 with h1 | ⟨g, cap, cur, rfl, h2, h3, h4⟩
    · exact .inl h1
    · exact .inr ⟨g, cap, cur, rfl, h2, (hk g ((h.2.2.2 g).2 rfl)).trans h3, h4⟩
  lt {O A} h k hk := by
    have hb := (h.2.2.2 k).1 hk
    rcases h.1.2 with ⟨rfl, _⟩ | ⟨g, cap, cur, rfl, h2, h3, h4⟩
    · cases hb
    · cases hb; exact (Array.getElem?_eq_some_iff.1 h3).1
theorem RowC.sl {e : TypeId} {k : Nat} {v : Value} {xs : List Value} {O : Nat → Prop} {w : World} (h : (RowC e k v xs).p O w) : SliceAt w k v xs := SliceAt.of_owns h.2.2.1 h.1 rfl h.2.1
theorem RowC.slC {e : TypeId} {k : Nat} {v : Value} {xs : List Value} {O : Nat → Prop} {w : World} (h : (RowC e k v xs).p O w) : ∃ O', (SlC k v xs).p O' w ∧ ∀ j, O' j → O j :=
  ⟨O, ⟨RowC.sl h, fun _ b hb => (h.2.2.2 b).2 (by cases v <;> simp [sliceBlk] at hb; rename_i a n c; cases a <;> simp [sliceBlk] at hb; simp [Value.ownBlock, hb]), (RowC e k v xs).lt h⟩, fun _ h => h⟩
/-- In every world of a class, c stands. -/
def Has (G : World → Prop) (c : Ch) : Prop := ∀ w, G w → ∃ O, c.p O w
theorem Has.r {W0 : World} {X : Nat → Prop} {R C : List Ch} {c : Ch} (h : c ∈ R) : Has (St W0 X R C) c := fun w hw => hw.hasR h
theorem Has.c {W0 : World} {X : Nat → Prop} {R C : List Ch} {c : Ch} (h : c ∈ C) : Has (St W0 X R C) c := fun w hw => hw.hasC h
/-- The class of worlds in which all of some parties stand. -/
def Gk (Kc Kr : List Ch) (w : World) : Prop := (∀ c ∈ Kc, ∃ O, c.p O w) ∧ ∀ c ∈ Kr, ∃ O, c.p O w
theorem Has.kc {Kc Kr : List Ch} {c : Ch} (h : c ∈ Kc) : Has (Gk Kc Kr) c := fun w hw => hw.1 c h
theorem Has.kr {Kc Kr : List Ch} {c : Ch} (h : c ∈ Kr) : Has (Gk Kc Kr) c := fun w hw => hw.2 c h
/-- In every world of a class, v reads as xs. -/
def Rdg (G : World → Prop) (k : Nat) (v : Value) (xs : List Value) : Prop := ∀ w, G w → SliceAt w k v xs
theorem Has.sl {G : World → Prop} {k : Nat} {v : Value} {xs : List Value} (h : Has G (SlC k v xs)) : Rdg G k v xs := fun w hw => let ⟨_, h1⟩ := h w hw; h1.1
theorem Has.row {G : World → Prop} {e : TypeId} {k : Nat} {v : Value} {xs : List Value} (h : Has G (RowC e k v xs)) : Rdg G k v xs := fun w hw => let ⟨_, h1⟩ := h w hw; RowC.sl h1
theorem Has.box {G : World → Prop} {B : Nat} {T : TypeId} {v : Value} (h : Has G (BoxC B T v)) {w : World} (hw : G w) : BoxV w B T v := let ⟨_, h1⟩ := h w hw; h1.1
/-- Where an element of a slice lies. -/
def elemP (v : Value) (k i : Nat) : Value := match v with | .slice (some a) _ _ => .pointer (some ⟨a.block, a.off + i * k, none⟩) | _ => .pointer none
/-- One-celled types. -/
def oneT (P : Program) (T : TypeId) : Bool := match P.underlying T, P.info? T with | some d, some i => !d.isRow && i.size == 1 | _, _ => false
theorem vof1 {P : Program} {T : TypeId} {v : Value} (hT : oneT P T = true) (hc : cv v = #[v]) (h1 : v.oneCell' = true) : VOf P T v := by
  unfold oneT at hT
  split at hT
  · rename_i d i e1 e2
    simp at hT
    exact vof_one e1 (by simpa using hT.1) (by rw [e2]; simp [hT.2]) hc h1
  · cases hT
/-- Types of k cells that are rows. -/
def aggT (P : Program) (T : TypeId) (k : Nat) : Bool := match P.underlying T, P.info? T with | some d, some i => d.isRow && i.size == k | _, _ => false
theorem vofk {P : Program} {T : TypeId} {cs : Array Value} {k : Nat} (hT : aggT P T k = true) (hk : cs.size = k) (h1 : cs.toList.all (·.oneCell') = true) : VOf P T (.agg cs) := by
  replace h1 : cs.all (·.oneCell') = true := by rw [← Array.all_toList]; exact h1
  unfold aggT at hT
  split at hT
  · rename_i d i e1 e2
    simp at hT
    exact ⟨h1, by rw [e2]; show some i.size = some cs.size; rw [hT.2, hk], .inl ⟨d, e1, hT.1, rfl⟩⟩
  · cases hT

def memB : List Nat → Nat → Bool
  | [], _ => false
  | x :: xs, n => bif Nat.beq x n then true else memB xs n
/-- The types of this program that are rows: structs and arrays. -/
def rowT (T : Nat) : Bool := memB [7, 8, 13, 14, 18, 19, 32, 33, 48, 49, 64, 65, 72, 73, 81, 87, 88, 154, 155, 156, 157, 158, 166, 167, 168, 169] T
theorem vofkr {P : Program} {T : TypeId} {cs : Array Value} {k : Nat} (hr : rowT T = true) (hT : aggT P T k = true) (hk : cs.size = k) (h1 : cs.toList.all (·.oneCell') = true) : VOf P T (.agg cs) := vofk hT hk h1

def lget : List Value → Nat → Option Value
  | [], _ => none
  | x :: _, 0 => some x
  | _ :: xs, n + 1 => lget xs n
theorem lget_eq : ∀ (xs : List Value) (i : Nat), lget xs i = xs[i]?
  | [], _ => by simp [lget]
  | _ :: _, 0 => by simp [lget]
  | _ :: xs, n + 1 => by simp [lget, lget_eq xs n]
/-- A cell of a row. -/
def cellAt (v : Value) (i : Nat) : Option Value := match v with
  | .agg cs => lget cs.toList i
  | _ => none
theorem cellAt_cv {v u : Value} {i : Nat} (h : cellAt v i = some u) : (cv v)[i]? = some u := by
  unfold cellAt at h
  split at h
  · rw [lget_eq] at h; simpa [cv, Value.cells] using h
  · cases h

section yl
variable {P : Program} {G : World → Prop} {n : Nat} {l : List (Nat × Value)} {d : List Deferred} {o : Oper} {v : Value}
/-- Operation o yields v in every world of a class, and leaves it alone. -/
structure Yl (P : Program) (G : World → Prop) (n : Nat) (l : List (Nat × Value)) (d : List Deferred) (o : Oper) (v : Value) : Prop where
  nd : ∀ c, o.op ≠ .defer c
  run : ∀ a w, Kn n l d a → G w → (execOp a.eval o).run P w = .ok (.value v) w
/-- It yields v1 where p, and v2 where not. -/
def Yc (P : Program) (G : World → Prop) (n : Nat) (l : List (Nat × Value)) (d : List Deferred) (o : Oper) (p : Prop) (v1 v2 : Value) : Prop := (p → Yl P G n l d o v1) ∧ (¬ p → Yl P G n l d o v2)

theorem yl_move {x : Operand} (ho : o.op = .move x) (hx : ev l x = some v) : Yl P G n l d o v := ⟨(fun c => by rw [ho]; exact (fun h => by cases h)), (fun a w ha hw => by simp [execOp, ho, ha.eval hx])⟩
theorem yl_assign {x : Operand} (ho : o.op = .assign x) (hx : ev l x = some v) : Yl P G n l d o v := ⟨(fun c => by rw [ho]; exact (fun h => by cases h)), (fun a w ha hw => by simp [execOp, ho, ha.eval hx])⟩
theorem yl_not {T : TypeId} {x : Operand} {b : Bool} (ho : o.op = .unOp .not T x) (hx : ev l x = some (.bool b)) : Yl P G n l d o (.bool (!b)) := ⟨(fun c => by rw [ho]; exact (fun h => by cases h)), (fun a w ha hw => by simp [execOp, ho, ha.eval hx, Op.unary, Result.andThen])⟩
theorem yl_not_t {T : TypeId} {x : Operand} (ho : o.op = .unOp .not T x) (hx : ev l x = some (.bool true)) : Yl P G n l d o (.bool false) := yl_not ho hx
theorem yl_not_f {T : TypeId} {x : Operand} (ho : o.op = .unOp .not T x) (hx : ev l x = some (.bool false)) : Yl P G n l d o (.bool true) := yl_not ho hx
theorem yl_neg {T : TypeId} {x : Operand} {i : Int} (ho : o.op = .unOp .neg T x) (hx : ev l x = some (.int .i64 i)) (hb : -9223372036854775808 < i ∧ i ≤ 9223372036854775807) : Yl P G n l d o (.int .i64 (-i)) := ⟨(fun c => by rw [ho]; exact (fun h => by cases h)), (fun a w ha hw => by
  have : IntKind.i64.wrap (-i) = -i := IntWalk.i64_in _ (by omega)
  simp [execOp, ho, ha.eval hx, Op.unary, Op.intArith, Result.andThen, this])⟩
theorem yl_pick_t {c x y : Operand} (ho : o.op = .pick c x y) (hc : ev l c = some (.bool true)) (hx : ev l x = some v) : Yl P G n l d o v := ⟨(fun c => by rw [ho]; exact (fun h => by cases h)), (fun a w ha hw => by simp [execOp, ho, ha.eval hx, ha.eval hc, asBool, Result.andThen])⟩
theorem yl_pick_f {c x y : Operand} (ho : o.op = .pick c x y) (hc : ev l c = some (.bool false)) (hx : ev l y = some v) : Yl P G n l d o v := ⟨(fun c => by rw [ho]; exact (fun h => by cases h)), (fun a w ha hw => by simp [execOp, ho, ha.eval hx, ha.eval hc, asBool, Result.andThen])⟩
theorem yl_extract {x : Operand} {i : Nat} {vs : Array Value} (ho : o.op = .extract x i) (hx : ev l x = some (.tuple vs)) (hi : lget vs.toList i = some v) : Yl P G n l d o v := ⟨(fun c => by rw [ho]; exact (fun h => by cases h)), (fun a w ha hw => by
  have hi : vs[i]? = some v := by rw [lget_eq] at hi; simpa using hi
  simp [execOp, ho, ha.eval hx, Instr.extract, hi, Result.andThen])⟩
theorem yl_func {f : Fn} {xs : Array Operand} {vs : List Value} (ho : o.op = .makeFunc f #[] xs) (hx : evs l xs.toList = some vs) : Yl P G n l d o (.func f #[] vs.toArray) := ⟨(fun c => by rw [ho]; exact (fun h => by cases h)), (fun a w ha hw => by
  have e := ha.evals hx
  have e2 : xs.map a.eval = vs.toArray := by rw [← e, ← Array.toList_map]
  simp [execOp, ho, Instr.makeFunc, e2, Result.andThen])⟩
theorem yl_nilCheck {x : Operand} {p : Addr} (ho : o.op = .nilCheck x) (hx : ev l x = some (.pointer (some p))) : Yl P G n l d o (.pointer (some p)) := ⟨(fun c => by rw [ho]; exact (fun h => by cases h)), (fun a w ha hw => by simp [execOp, ho, ha.eval hx, Result.andThen])⟩

/-! whole numbers -/
theorem yl_int {b : BinOp} {T T2 : TypeId} {x y : Operand} {k : IntKind} {i j : Int} (ho : o.op = .binOp b T x y T2) (hx : ev l x = some (.int k i)) (hy : ev l y = some (.int k j)) (hr : ∀ w, (binOp b T (.int k i) (.int k j)).run P w = .ok v w) : Yl P G n l d o v := ⟨(fun c => by rw [ho]; exact (fun h => by cases h)), (fun a w ha hw => by
  have hg : (eqGuard b T x y (.int k i) (.int k j)).run P w = .ok () w := by unfold eqGuard; cases b <;> simp
  simp [execOp, ho, ha.eval hx, ha.eval hy, Sem.run_bind, hg, hr w, Result.andThen])⟩
theorem yl_add {T T2 : TypeId} {x y : Operand} {i j : Int} (ho : o.op = .binOp .add T x y T2) (hx : ev l x = some (.int .i64 i)) (hy : ev l y = some (.int .i64 j)) (hb : -9223372036854775808 ≤ i + j ∧ i + j ≤ 9223372036854775807) : Yl P G n l d o (.int .i64 (i + j)) := yl_int ho hx hy (fun w => by simp [binOp, Op.intArith, IntWalk.i64_in _ hb])
theorem yl_sub {T T2 : TypeId} {x y : Operand} {i j : Int} (ho : o.op = .binOp .sub T x y T2) (hx : ev l x = some (.int .i64 i)) (hy : ev l y = some (.int .i64 j)) (hb : -9223372036854775808 ≤ i - j ∧ i - j ≤ 9223372036854775807) : Yl P G n l d o (.int .i64 (i - j)) := yl_int ho hx hy (fun w => by simp [binOp, Op.intArith, IntWalk.i64_in _ hb])
theorem yl_mul {T T2 : TypeId} {x y : Operand} {i j : Int} (ho : o.op = .binOp .mul T x y T2) (hx : ev l x = some (.int .i64 i)) (hy : ev l y = some (.int .i64 j)) (hb : -9223372036854775808 ≤ i * j ∧ i * j ≤ 9223372036854775807) : Yl P G n l d o (.int .i64 (i * j)) := yl_int ho hx hy (fun w => by simp [binOp, Op.intArith, IntWalk.i64_in _ hb])
theorem yl_addw {T T2 : TypeId} {x y : Operand} {k : IntKind} {i j : Int} (ho : o.op = .binOp .add T x y T2) (hx : ev l x = some (.int k i)) (hy : ev l y = some (.int k j)) : Yl P G n l d o (.int k (k.wrap (i + j))) := yl_int ho hx hy (fun w => by simp [binOp, Op.intArith])
theorem yl_subw {T T2 : TypeId} {x y : Operand} {k : IntKind} {i j : Int} (ho : o.op = .binOp .sub T x y T2) (hx : ev l x = some (.int k i)) (hy : ev l y = some (.int k j)) : Yl P G n l d o (.int k (k.wrap (i - j))) := yl_int ho hx hy (fun w => by simp [binOp, Op.intArith])
theorem yc_lss {T T2 : TypeId} {x y : Operand} {k : IntKind} {i j : Int} (ho : o.op = .binOp .lss T x y T2) (hx : ev l x = some (.int k i)) (hy : ev l y = some (.int k j)) : Yc P G n l d o (i < j) (.bool true) (.bool false) :=
  ⟨fun hc => yl_int ho hx hy (fun w => by simp [binOp, Op.intCmp, hc]), fun hc => yl_int ho hx hy (fun w => by simp [binOp, Op.intCmp, hc])⟩
theorem yc_leq {T T2 : TypeId} {x y : Operand} {k : IntKind} {i j : Int} (ho : o.op = .binOp .leq T x y T2) (hx : ev l x = some (.int k i)) (hy : ev l y = some (.int k j)) : Yc P G n l d o (i ≤ j) (.bool true) (.bool false) :=
  ⟨fun hc => yl_int ho hx hy (fun w => by simp [binOp, Op.intCmp, hc]), fun hc => yl_int ho hx hy (fun w => by simp [binOp, Op.intCmp, hc])⟩
theorem yc_gtr {T T2 : TypeId} {x y : Operand} {k : IntKind} {i j : Int} (ho : o.op = .binOp .gtr T x y T2) (hx : ev l x = some (.int k i)) (hy : ev l y = some (.int k j)) : Yc P G n l d o (j < i) (.bool true) (.bool false) :=
  ⟨fun hc => yl_int ho hx hy (fun w => by simp [binOp, Op.intCmp, hc]), fun hc => yl_int ho hx hy (fun w => by simp [binOp, Op.intCmp, hc])⟩
theorem yc_geq {T T2 : TypeId} {x y : Operand} {k : IntKind} {i j : Int} (ho : o.op = .binOp .geq T x y T2) (hx : ev l x = some (.int k i)) (hy : ev l y = some (.int k j)) : Yc P G n l d o (j ≤ i) (.bool true) (.bool false) :=
  ⟨fun hc => yl_int ho hx hy (fun w => by simp [binOp, Op.intCmp, hc]), fun hc => yl_int ho hx hy (fun w => by simp [binOp, Op.intCmp, hc])⟩
theorem yc_eql {T T2 : TypeId} {x y : Operand} {k : IntKind} {i j : Int} (ho : o.op = .binOp .eql T x y T2) (hx : ev l x = some (.int k i)) (hy : ev l y = some (.int k j)) : Yc P G n l d o (i = j) (.bool true) (.bool false) :=
  ⟨fun hc => yl_int ho hx hy (fun w => by simp [binOp, Op.intCmp, hc]), fun hc => yl_int ho hx hy (fun w => by simp [binOp, Op.intCmp, hc])⟩
theorem yc_neq {T T2 : TypeId} {x y : Operand} {k : IntKind} {i j : Int} (ho : o.op = .binOp .neq T x y T2) (hx : ev l x = some (.int k i)) (hy : ev l y = some (.int k j)) : Yc P G n l d o (i = j) (.bool false) (.bool true) :=
  ⟨fun hc => yl_int ho hx hy (fun w => by simp [binOp, Op.intCmp, hc]), fun hc => yl_int ho hx hy (fun w => by simp [binOp, Op.intCmp, hc])⟩
/-- Operations whose runs are given. -/
theorem yl_bin {b : BinOp} {T T2 : TypeId} {x y : Operand} {u1 u2 : Value} (ho : o.op = .binOp b T x y T2) (hx : ev l x = some u1) (hy : ev l y = some u2) (hr : ∀ w, (do eqGuard b T x y u1 u2; binOp b T u1 u2 : Sem Value).run P w = .ok v w) : Yl P G n l d o v := ⟨(fun c => by rw [ho]; exact (fun h => by cases h)), (fun a w ha hw => by
  have := hr w
  rw [Sem.run_bind] at this
  simp only [execOp, ho, ha.eval hx, ha.eval hy, Sem.run_bind]
  rw [this]; rfl)⟩
theorem yl_conv {S T : TypeId} {x : Operand} {u : Value} (ho : o.op = .convert S T x) (hx : ev l x = some u) (hr : ∀ w, (convert S T u).run P w = .ok v w) : Yl P G n l d o v := ⟨(fun c => by rw [ho]; exact (fun h => by cases h)), (fun a w ha hw => by simp only [execOp, ho, ha.eval hx, Sem.run_bind, hr w]; rfl)⟩
theorem yl_fieldAddr {S : TypeId} {x : Operand} {f : Nat} {u : Value} (ho : o.op = .fieldAddr S x f) (hx : ev l x = some u) (hr : ∀ w, (Instr.fieldAt S u f).run P w = .ok v w) : Yl P G n l d o v := ⟨(fun c => by rw [ho]; exact (fun h => by cases h)), (fun a w ha hw => by simp only [execOp, ho, ha.eval hx, Sem.run_bind, hr w]; rfl)⟩
theorem yl_field {S : TypeId} {x : Operand} {f : Nat} {u : Value} (ho : o.op = .field S x f) (hx : ev l x = some u) (hr : ∀ w, (Instr.field S u f).run P w = .ok v w) : Yl P G n l d o v := ⟨(fun c => by rw [ho]; exact (fun h => by cases h)), (fun a w ha hw => by simp only [execOp, ho, ha.eval hx, Sem.run_bind, hr w]; rfl)⟩
theorem yl_indexAddr {T : TypeId} {x y : Operand} {u1 u2 : Value} (ho : o.op = .indexAddr T x y) (hx : ev l x = some u1) (hy : ev l y = some u2) (hr : ∀ w, (Instr.indexAt T u1 u2).run P w = .ok v w) : Yl P G n l d o v := ⟨(fun c => by rw [ho]; exact (fun h => by cases h)), (fun a w ha hw => by simp only [execOp, ho, ha.eval hx, ha.eval hy, Sem.run_bind, hr w]; rfl)⟩
theorem yl_build {T : TypeId} {ps : Array (Nat × Operand)} {us : List (Nat × Value)} (ho : o.op = .build T ps) (hx : evs l (ps.toList.map (·.2)) = some (us.map (·.2))) (hi : ps.toList.map (·.1) = us.map (·.1)) (hr : ∀ w, (Instr.build T us.toArray).run P w = .ok v w) : Yl P G n l d o v := ⟨(fun c => by rw [ho]; exact (fun h => by cases h)), (fun a w ha hw => by
    have e := ha.evals hx
    have e2 : (ps.map fun (i, x) => (i, a.eval x)) = us.toArray := by
      have h3 : ps.toList.map (fun p => (p.1, a.eval p.2)) = us := by
        apply List.ext_getElem?
        intro k
        have h4 := congrArg (fun l : List Nat => l[k]?) hi
        have h5 := congrArg (fun l : List Value => l[k]?) e
        simp only [List.getElem?_map, List.map_map] at h4 h5 ⊢
        cases hp : ps.toList[k]? with
        | none => rw [hp] at h4; cases hu : us[k]? with
          | none => rfl
          | some q => rw [hu] at h4; cases h4
        | some p =>
          rw [hp] at h4 h5
          cases hu : us[k]? with
          | none => rw [hu] at h4; cases h4
          | some q => rw [hu] at h4 h5; simp at h4 h5 ⊢; exact Prod.ext h4 h5
      rw [← h3, ← Array.toList_map]
    simp only [execOp, ho, Sem.run_bind, e2, hr w]; rfl)⟩
/-- The types of slices of elements of k cells. -/
def slT (P : Program) (T : TypeId) (k : Nat) : Bool := match P.underlying T with | some (.slice e) => (match P.info? e with | some i => i.size == k | none => false) | _ => false
theorem yl_index {T : TypeId} {x y : Operand} {k i : Nat} {u : Value} {xs : List Value} (ho : o.op = .indexAddr T x y) (hx : ev l x = some u) (hy : ev l y = some (.int .i64 (i : Int))) (hr : Rdg G k u xs) (hT : slT P T k = true) (hi : i < xs.length) : Yl P G n l d o (elemP u k i) := ⟨(fun c => by rw [ho]; exact (fun h => by cases h)), (fun a w ha hw => by
    obtain ⟨A, c, rfl, hc, hA, hel⟩ := hr w hw
    obtain ⟨b, o', rfl, _⟩ := hel i xs[i] (by simp [hi])
    unfold slT at hT
    split at hT
    · rename_i e hu
      split at hT
      · rename_i info hinfo
        simp at hT
        have hsz : (sizeOf e).run P w = .ok k w := by simp [sizeOf, typeInfo, hinfo, hT]
        have hi0 : (i : Int) < xs.length := by omega
        simp only [execOp, ho, ha.eval hx, ha.eval hy, Instr.indexAt, asIntOf, Sem.run_bind, run_underlying hu, Result.andThen, Sem.run_pure]
        simp [Sem.run_bind, hsz, hi, elemP, Addr.add_mid, Result.andThen]
      · cases hT
    · cases hT)⟩
/-- An index of any spelling. -/
theorem yl_index_z {T : TypeId} {x y : Operand} {k : Nat} {z : Int} {u : Value} {xs : List Value} (ho : o.op = .indexAddr T x y) (hx : ev l x = some u) (hy : ev l y = some (.int .i64 z)) (hr : Rdg G k u xs) (hT : slT P T k = true) (h0 : 0 ≤ z) (hi : z < xs.length) : Yl P G n l d o (elemP u k z.toNat) :=
  yl_index (i := z.toNat) ho hx (by rw [hy, Int.toNat_of_nonneg h0]) hr hT (by omega)
/-- An element of a slice is loaded, whole. -/
theorem yl_load_elem {T : TypeId} {x : Operand} {k i : Nat} {u y : Value} {xs : List Value} (ho : o.op = .load T x) (hx : ev l x = some (elemP u k i)) (hr : Rdg G k u xs) (hy : xs[i]? = some y) (hv : VOf P T y) : Yl P G n l d o y := ⟨(fun c => by rw [ho]; exact (fun h => by cases h)), (fun a w ha hw => by
    obtain ⟨A, c, rfl, hc, hA, hel⟩ := hr w hw
    obtain ⟨b, o', rfl, hra⟩ := hel i y hy
    have e := ha.eval hx
    simp only [elemP] at e
    simp [execOp, ho, e, Instr.loadAt, Instr.sureAddr, Sem.run_bind, run_loadVar_of w b (o' + i * k) T y hv hra, Result.andThen])⟩
theorem yl_load {T T' : TypeId} {x : Operand} {B : Nat} (ho : o.op = .load T x) (hx : ev l x = some (ptr B)) (hm : Has G (BoxC B T' v)) (hv : VOf P T v) : Yl P G n l d o v := ⟨(fun c => by rw [ho]; exact (fun h => by cases h)), (fun a w ha hw => by
    have e : a.eval x = .pointer (some ⟨B, 0, none⟩) := ha.eval hx
    simp [execOp, ho, e, Instr.loadAt, Instr.sureAddr, Sem.run_bind, run_loadVar_of w B 0 T v hv (rangeAt_box (hm.box hw)), Result.andThen])⟩
/-- A field of one cell of a variable. -/
theorem yl_load_cell {T T' : TypeId} {x : Operand} {B off : Nat} {u : Value} (ho : o.op = .load T x) (hx : ev l x = some (.pointer (some ⟨B, off, none⟩))) (hm : Has G (BoxC B T' u)) (hu : cellAt u off = some v) (h1 : cv v = #[v]) (hv : VOf P T v) : Yl P G n l d o v := ⟨(fun c => by rw [ho]; exact (fun h => by cases h)), (fun a w ha hw => by
    have hu := cellAt_cv hu
    have hr : w.rangeAt B off (cv v).toList := by
      intro j u' hj
      rw [h1] at hj
      match j, hj with
      | 0, hj =>
        simp at hj; subst hj
        rw [Nat.add_zero, cell_of_row w B off _ T' _ (hm.box hw)]; exact hu
    simp [execOp, ho, ha.eval hx, Instr.loadAt, Instr.sureAddr, Sem.run_bind, run_loadVar_of w B off T v hv hr, Result.andThen])⟩
def isSlT (P : Program) (T : TypeId) : Bool := match P.underlying T with | some (.slice _) => true | _ => false
theorem yl_len {x : Operand} {T : TypeId} {k : Nat} {u : Value} {xs : List Value} (ho : o.op = Op.call { callee := Callee.builtin Builtin.len, args := #[x], argTypes := #[T] }) (hx : ev l x = some u) (hr : Rdg G k u xs) (hT : isSlT P T = true) : Yl P G n l d o (.int .i64 (xs.length : Int)) := ⟨(fun c => by rw [ho]; exact (fun h => by cases h)), (fun a w ha hw => by
    obtain ⟨A, c, rfl, hc, hA, hel⟩ := hr w hw
    unfold isSlT at hT
    split at hT
    · rename_i e hu
      simp [execOp, ho, resolve, invoke, builtin, ha.eval hx, Builtin.len_, run_underlying hu, Sem.run_bind, Result.andThen, goInt]
    · cases hT)⟩
theorem yl_len_s {x : Operand} {T : TypeId} {q : Option Addr} {i c : Nat} (ho : o.op = Op.call { callee := Callee.builtin Builtin.len, args := #[x], argTypes := #[T] }) (hx : ev l x = some (.slice q i c)) (hT : isSlT P T = true) : Yl P G n l d o (.int .i64 (i : Int)) := ⟨(fun c => by rw [ho]; exact (fun h => by cases h)), (fun a w ha hw => by
    unfold isSlT at hT
    split at hT
    · rename_i e hu
      simp [execOp, ho, resolve, invoke, builtin, ha.eval hx, Builtin.len_, run_underlying hu, Sem.run_bind, Result.andThen, goInt]
    · cases hT)⟩
end yl

section ops
variable {F : Fence} {m : Nat} {P : Program} {Q : Exit → Act → World → Prop} {K : Act → World → Prop} {n : Nat} {l : List (Nat × Value)} {d : List Deferred} {W0 : World} {X : Nat → Prop} {R C : List Ch} {o : Oper} {t : Nat} {v : Value}

/-! ### an operation in general -/
theorem on_yl (hF : IsWide F) (hd : o.dst = some t) (ht : Nat.blt t n = true) (hy : Yl P (St W0 X R C) n l d o v) (h : Nx K n ((t, v) :: l) d W0 X R C) : Nx (OpN F m P o K Q) n l d W0 X R C := fun a w ha hw => by
  refine ⟨fun _ _ => hF.fn _, ?_⟩
  rw [Oper.semAt_eq _ _ _ hy.nd, hy.run a w ha hw]
  show K (a.put o.dst v) w
  rw [hd]
  exact h _ w (ha.put ht v) hw
theorem on_E (hF : IsWide F) (hd : o.dst = some t) (ht : Nat.blt t n = true) (h : ∃ v, Yl P (St W0 X R C) n l d o v ∧ Nx K n ((t, v) :: l) d W0 X R C) : Nx (OpN F m P o K Q) n l d W0 X R C := let ⟨_, h1, h2⟩ := h; on_yl hF hd ht h1 h2
theorem on_yc (hF : IsWide F) {p : Prop} {v1 v2 : Value} (hd : o.dst = some t) (ht : Nat.blt t n = true) (hy : Yc P (St W0 X R C) n l d o p v1 v2) (h1 : p → Nx K n ((t, v1) :: l) d W0 X R C) (h2 : ¬ p → Nx K n ((t, v2) :: l) d W0 X R C) : Nx (OpN F m P o K Q) n l d W0 X R C := by
  by_cases hp : p
  · exact on_yl hF hd ht (hy.1 hp) (h1 hp)
  · exact on_yl hF hd ht (hy.2 hp) (h2 hp)
theorem on_Ec (hF : IsWide F) (hd : o.dst = some t) (ht : Nat.blt t n = true) (h : ∃ p v1 v2, Yc P (St W0 X R C) n l d o p v1 v2 ∧ (p → Nx K n ((t, v1) :: l) d W0 X R C) ∧ (¬ p → Nx K n ((t, v2) :: l) d W0 X R C)) : Nx (OpN F m P o K Q) n l d W0 X R C := let ⟨_, _, _, h1, h2, h3⟩ := h; on_yc hF hd ht h1 h2 h3
theorem on_world (hF : IsWide F) (hnd : ∀ c, o.op ≠ .defer c) (hd : o.dst = some t) (ht : Nat.blt t n = true) {ι : Type} (vv : ι → Value) (R' C' : ι → List Ch)
    (hrun : ∀ a w, Kn n l d a → St W0 X R C w → ∃ i w', (execOp a.eval o).run P w = .ok (.value (vv i)) w' ∧ St W0 X (R' i) (C' i) w')
    (h : ∀ i, Nx K n ((t, vv i) :: l) d W0 X (R' i) (C' i)) : Nx (OpN F m P o K Q) n l d W0 X R C := fun a w ha hw => by
  refine ⟨fun _ _ => hF.fn _, ?_⟩
  obtain ⟨i, w', h1, h2⟩ := hrun a w ha hw
  rw [Oper.semAt_eq _ _ _ hnd, h1]
  show K (a.put o.dst (vv i)) w'
  rw [hd]
  exact h i _ w' (ha.put ht _) h2
theorem on_unit (hF : IsWide F) (hnd : ∀ c, o.op ≠ .defer c) (hd : o.dst = none) {R' C' : List Ch}
    (hrun : ∀ a w, Kn n l d a → St W0 X R C w → ∃ w', (execOp a.eval o).run P w = .ok .skip w' ∧ St W0 X R' C' w')
    (h : Nx K n l d W0 X R' C') : Nx (OpN F m P o K Q) n l d W0 X R C := fun a w ha hw => by
  refine ⟨fun _ _ => hF.fn _, ?_⟩
  obtain ⟨w', h1, h2⟩ := hrun a w ha hw
  rw [Oper.semAt_eq _ _ _ hnd, h1]
  show K (a.put o.dst undef) w'
  rw [hd]
  exact h _ w' ha h2

/-! ### variables -/
theorem BoxC.new (w : World) (T : TypeId) (v : Value) : ∃ O', (BoxC w.heap.size T v).p O' (w.alloc (.cells (cv v) T)) ∧ ∀ k, O' k → w.heap.size ≤ k := ⟨fun k => k = w.heap.size, ⟨BoxV.new w T v, fun _ => Iff.rfl⟩, fun k hk => by omega⟩
theorem on_box (hF : IsWide F) {T : TypeId} {x : Operand} (ho : o.op = .box T x) (hd : o.dst = some t) (ht : Nat.blt t n = true) (hx : ev l x = some v) (h : ∀ B, Nx K n ((t, ptr B) :: l) d W0 X R (BoxC B T v :: C)) : Nx (OpN F m P o K Q) n l d W0 X R C :=
  on_world hF (fun c => by rw [ho]; exact fun h => by cases h) hd ht ptr (fun _ => R) (fun B => BoxC B T v :: C) (fun a w ha hw => by
    refine ⟨w.heap.size, w.alloc (.cells (cv v) T), ?_, hw.new ((Below.refl _ _).alloc (Nat.le_refl _) _) (BoxC.new w T v)⟩
    simp [execOp, ho, ha.eval hx, Instr.box, newVar, newRow, cv_eq, Sem.run_bind, Result.andThen, ptr]) h
theorem on_alloc (hF : IsWide F) {T : TypeId} {z : Value} (ho : o.op = .alloc T) (hz : ∀ w, (zeroValue T).run P w = .ok z w) (hd : o.dst = some t) (ht : Nat.blt t n = true) (h : ∀ B, Nx K n ((t, ptr B) :: l) d W0 X R (BoxC B T z :: C)) : Nx (OpN F m P o K Q) n l d W0 X R C :=
  on_world hF (fun c => by rw [ho]; exact fun h => by cases h) hd ht ptr (fun _ => R) (fun B => BoxC B T z :: C) (fun a w ha hw => by
    refine ⟨w.heap.size, w.alloc (.cells (cv z) T), ?_, hw.new ((Below.refl _ _).alloc (Nat.le_refl _) _) (BoxC.new w T z)⟩
    simp [execOp, ho, Instr.alloc, newVar, newRow, cv_eq, Sem.run_bind, hz, Result.andThen, ptr]) h
theorem on_store (hF : IsWide F) {T T' : TypeId} {x y : Operand} {B : Nat} {v0 : Value} {C' : List Ch} (ho : o.op = .store T x y) (hd : o.dst = none) (hx : ev l x = some (ptr B)) (hy : ev l y = some v) (hm : Turn C (BoxC B T' v0) (BoxC B T' v) C') (hv : VOf P T v) (hs : (cv v0).size = (cv v).size)
    (h : Nx K n l d W0 X R C') : Nx (OpN F m P o K Q) n l d W0 X R C :=
  on_unit hF (fun c => by rw [ho]; exact fun h => by cases h) hd (R' := R) (C' := C') (fun a w ha hw => by
    have hb : BoxV w B T' v0 := by
      obtain ⟨D, h1, h2⟩ := hm
      obtain ⟨_, h3⟩ := (hw.perm h1).hasC (c := BoxC B T' v0) (by simp)
      exact h3.1
    have e : a.eval x = .pointer (some ⟨B, 0, none⟩) := ha.eval hx
    refine ⟨w.setRow B (cv v), ?_, hw.turn hm (fun O ho => ⟨O, Touch.setRow _ _ _ ((ho.2 B).2 rfl), ⟨hb.set v, ho.2⟩, fun k hk => .inl hk⟩)⟩
    simp [execOp, ho, e, ha.eval hy, Instr.storeAt, Instr.sureAddr, Sem.run_bind, run_storeVar_of w B T T' v v0 hv hb hs, Result.andThen]) h

/-! ### calls -/
theorem on_call (hF : IsWide F) {g : FuncId} {xs : Array Operand} {ts : Array TypeId} {vs : List Value} {ι : Type} {ret : ι → Value} {R' C' : ι → List Ch} (ho : o.op = Op.call { callee := Callee.value (.func g), args := xs, argTypes := ts }) (hd : o.dst = some t) (ht : Nat.blt t n = true)
    (hx : evs l xs.toList = some vs) (eg : Enters P g) (hc : Ct P g vs W0 X R C ι ret R' C') (h : ∀ i, Nx K n ((t, ret i) :: l) d W0 X (R' i) (C' i)) : Nx (OpN F m P o K Q) n l d W0 X R C := fun a w ha hw => by
  have e := ha.evals hx
  refine wpIn_ycall hF ho (y := .func (.func g) #[] #[]) (args := vs.toArray) rfl (by rw [e]) (.inr ⟨g, #[], rfl, eg, ?_⟩)
  rw [Array.append_empty]
  refine (hc w hw).mono ?_
  rintro e w' ⟨i, rfl, h2⟩
  show K (a.put o.dst (ret i)) w'
  rw [hd]
  exact h i _ w' (ha.put ht _) h2
theorem on_callG (hF : IsWide F) {g : FuncId} {xs : Array Operand} {ts : Array TypeId} {vs : List Value} {ι : Type} {ret : ι → Value} {R' C' : ι → List Ch} (eg : Enters P g) (ho : o.op = Op.call { callee := Callee.value (.func g), args := xs, argTypes := ts }) (hd : o.dst = some t) (ht : Nat.blt t n = true)
    (hx : evs l xs.toList = some vs) (hc : Ct P g vs W0 X R C ι ret R' C') (h : ∀ i, Nx K n ((t, ret i) :: l) d W0 X (R' i) (C' i)) : Nx (OpN F m P o K Q) n l d W0 X R C := on_call hF ho hd ht hx eg hc h
/-- A call of a known closure. -/
theorem on_callc (hF : IsWide F) {f : Operand} {g : Nat} {lb : List Value} {xs : Array Operand} {ts : Array TypeId} {vs : List Value} {ι : Type} {ret : ι → Value} {R' C' : ι → List Ch} (ho : o.op = Op.call { callee := Callee.value f, args := xs, argTypes := ts }) (hd : o.dst = some t) (ht : Nat.blt t n = true)
    (hf : ev l f = some (.func (.func g) #[] lb.toArray)) (hx : evs l xs.toList = some vs) (eg : Enters P g) (hc : Ct P g (vs ++ lb) W0 X R C ι ret R' C') (h : ∀ i, Nx K n ((t, ret i) :: l) d W0 X (R' i) (C' i)) : Nx (OpN F m P o K Q) n l d W0 X R C := fun a w ha hw => by
  have e := ha.evals hx
  refine wpIn_ycall hF ho (y := .func (.func g) #[] lb.toArray) (args := vs.toArray) (ha.eval hf) (by rw [e]) (.inr ⟨g, lb.toArray, rfl, eg, ?_⟩)
  have hc' := hc w hw
  rw [show (vs ++ lb).toArray = vs.toArray ++ lb.toArray by simp] at hc'
  refine hc'.mono ?_
  rintro e w' ⟨i, rfl, h2⟩
  show K (a.put o.dst (ret i)) w'
  rw [hd]
  exact h i _ w' (ha.put ht _) h2
/-- A call of a function value of which a contract is known, whatever it is: a yield, a closure. -/
def Yv (P : Program) (y : Value) (vs : List Value) (W0 : World) (X : Nat → Prop) (R C : List Ch) (ι : Type) (ret : ι → Value) (R' C' : ι → List Ch) : Prop :=
  ∀ w, St W0 X R C w → YCall P y vs.toArray w (fun e w' => ∃ i, e = .returned (ret i) ∧ St W0 X (R' i) (C' i) w')
theorem on_callv (hF : IsWide F) {f : Operand} {y : Value} {xs : Array Operand} {ts : Array TypeId} {vs : List Value} {ι : Type} {ret : ι → Value} {R' C' : ι → List Ch} (ho : o.op = Op.call { callee := Callee.value f, args := xs, argTypes := ts }) (hd : o.dst = some t) (ht : Nat.blt t n = true)
    (hf : ev l f = some y) (hx : evs l xs.toList = some vs) (hc : Yv P y vs W0 X R C ι ret R' C') (h : ∀ i, Nx K n ((t, ret i) :: l) d W0 X (R' i) (C' i)) : Nx (OpN F m P o K Q) n l d W0 X R C := fun a w ha hw => by
  have e := ha.evals hx
  refine wpIn_ycall hF ho (y := y) (args := vs.toArray) (ha.eval hf) (by rw [e]) ((hc w hw).mono ?_)
  rintro e w' ⟨i, rfl, h2⟩
  show K (a.put o.dst (ret i)) w'
  rw [hd]
  exact h i _ w' (ha.put ht _) h2
/-- A contract that only computes, or makes new blocks that nobody names. -/
theorem Ct.of_retB {g : FuncId} {vs : List Value} (h : ∀ w, St W0 X R C w → Calls P g vs.toArray w (RetB w v)) : Ct P g vs W0 X R C Unit (fun _ => v) (fun _ => R) (fun _ => C) := fun w hw =>
  (h w hw).mono fun e w' ⟨h1, h2⟩ => ⟨(), h1, hw.later h2⟩
theorem Ct.retB {g : FuncId} {vs : List Value} {w : World} (h : Ct P g vs w (fun _ => False) R [] Unit (fun _ => v) (fun _ => R) (fun _ => [])) (hw : ∀ r ∈ R, ∃ O, r.p O w) : Calls P g vs.toArray w (RetB w v) :=
  (h w (St.start w R hw)).mono fun e w' ⟨_, h1, h2⟩ => ⟨h1, h2.below⟩
end ops

end Go.Proofs.YtinofjenoapeaaaGreat
end
section
namespace Go.Proofs.YtinofjenoapeaaaGreat
open Go.RowKit Go.Shelf
set_option linter.unusedSimpArgs false
set_option linter.unusedVariables false

section
variable {F : Fence} {m : Nat} {P : Program} {ops : Array Oper} {G : World → Prop} {kd : Nat → Nat} {Q : Exit → Act → World → Prop}

/-- Operation o yields v in every world of a class, and leaves the world alone. -/
def FY (P : Program) (ops : Array Oper) (G : World → Prop) (o : Oper) (v : Value) (a : Act) : Prop :=
  (Region.wanted o (yielded ops a.tmps) = true ∧ (∀ c, o.op ≠ .defer c) ∧ ∀ w, G w → (execOp a.eval o).run P w = .ok (.value v) w) ∨ (Region.wanted o (yielded ops a.tmps) = false ∧ v = undef)
/-- An operation that is bound to its place. -/
def CO (F : Fence) (m : Nat) (P : Program) (ops : Array Oper) (o : Oper) (a : Act) (w : World) (K : Act → World → Prop) : Prop :=
  if Region.wanted o (yielded ops a.tmps) then o.wpIn F m P a w K (fun _ _ _ => False) else K (a.put o.dst undef) w
def dRun (F : Fence) (m : Nat) (P : Program) (ops : Array Oper) (G : World → Prop) (kd : Nat → Nat) (Q : Exit → Act → World → Prop) : List Nat → Array Bool → Act → World → Prop
  | [], _, a, w => Q .normal a w
  | i :: rest, listed, a, w => if listed.getD i true = true then dRun F m P ops G kd Q rest listed a w else
      ∃ o, ops[i]? = some o ∧
        ((kd i = 0 ∧ ∃ v, FY P ops (fun _ => True) o v a ∧ dRun F m P ops G kd Q rest listed (a.put o.dst v) w) ∨
         (kd i = 1 ∧ ∃ v, FY P ops G o v a ∧ dRun F m P ops G kd Q rest listed (a.put o.dst v) w) ∨
         (kd i = 2 ∧ (∀ c, o.op ≠ .defer c) ∧ CO F m P ops o a w (fun a' w' => G w' ∧ dRun F m P ops G kd Q rest listed a' w')) ∨
         (kd i = 3 ∧ (∀ c, o.op ≠ .defer c) ∧ CO F m P ops o a w (fun a' w' => dRun F m P ops G kd Q rest listed a' w')))

def Un (listed : Array Bool) (j : Nat) : Prop := listed.getD j true = false
instance (listed : Array Bool) (j : Nat) : Decidable (Un listed j) := inferInstanceAs (Decidable (_ = _))
theorem un_set_ne {listed : Array Bool} {i j : Nat} (h : i ≠ j) : Un (listed.setIfInBounds i true) j ↔ Un listed j := by unfold Un; rw [getD_set_ne true h]
theorem not_un_set {listed : Array Bool} {i : Nat} : ¬ Un (listed.setIfInBounds i true) i := by
  unfold Un
  rcases Nat.lt_or_ge i listed.size with h | h
  · simp [h]
  · simp [Array.getElem?_eq_none h]
theorem not_un {listed : Array Bool} {i : Nat} : ¬ Un listed i ↔ listed.getD i true = true := by unfold Un; cases listed.getD i true <;> simp

theorem dRun_congr : ∀ (l : List Nat) {listed listed' : Array Bool}, (∀ i ∈ l, listed.getD i true = listed'.getD i true) → dRun F m P ops G kd Q l listed = dRun F m P ops G kd Q l listed'
  | [], _, _, _ => rfl
  | i :: rest, listed, listed', h => by
    have ih := dRun_congr rest (listed := listed) (listed' := listed') (fun j hj => h j (by simp [hj]))
    funext a w
    simp only [dRun, ih, h i (by simp)]

def waitsB (ops : Array Oper) : List Nat → List Nat → Bool
  | _, [] => true
  | seen, j :: post => (match ops[j]? with | none => false | some oj => oj.after.any fun e => Region.binds .any e && seen.contains e.on) && waitsB ops (j :: seen) post
def ordB (ops : Array Oper) (kd : Nat → Nat) (reads : List Nat) : List Nat → Bool
  | [] => true
  | i :: rest => !rest.contains i && (match ops[i]? with
      | none => false
      | some o => o.after.all (fun e => !Region.binds .any e || (!(i :: rest).contains e.on && decide (e.on < ops.size))) &&
          (if kd i < 2 then rest.all (fun j => match ops[j]? with | none => false | some oj => oj.after.any (fun e => Region.binds .any e && e.on == i) || o.apart ops oj) else waitsB ops [i] rest) &&
          (kd i != 3 || reads.all (fun k => o.after.any fun e => Region.binds .any e && e.on == k))) && ordB ops kd reads rest

/-- All that an operation waits for that is listed is listed too. -/
def DC (ops : Array Oper) (listed : Array Bool) : Prop := ∀ j oj, ops[j]? = some oj → ¬ Un listed j → ∀ e ∈ oj.after, Region.binds .any e = true → ¬ Un listed e.on
theorem DC.set {listed : Array Bool} (h : DC ops listed) {j : Nat} (hj : j ∈ Region.ready .any ops listed) : DC ops (listed.setIfInBounds j true) := by
  intro k ok hk hl e he hb
  by_cases hkj : k = j
  · subst hkj
    obtain ⟨_, o, ho, hall⟩ := mem_ready.1 hj
    rw [hk] at ho; cases ho
    have := hall e he hb
    rw [not_un]
    by_cases hek : k = e.on
    · rw [← hek]; exact not_un.1 not_un_set
    · rw [getD_set_ne true hek]
      rcases Nat.lt_or_ge e.on listed.size with h' | h'
      · simp [h'] at this ⊢; exact this
      · simp [Array.getElem?_eq_none h'] at this
  · rw [un_set_ne (Ne.symm hkj)] at hl
    by_cases hek : j = e.on
    · rw [← hek]; exact not_un_set
    · rw [un_set_ne hek]; exact h k ok hk hl e he hb

theorem waits_spec {listed : Array Bool} (hdc : DC ops listed) : ∀ (post seen : List Nat), waitsB ops seen post = true → (∀ k ∈ seen, Un listed k) → (∀ k ∈ post, Un listed k ∧ k ∉ Region.ready .any ops listed)
  | [], _, _, _ => fun k hk => by simp at hk
  | j :: post, seen, h, hs => by
    simp only [waitsB, Bool.and_eq_true] at h
    obtain ⟨h1, h2⟩ := h
    have hj : Un listed j ∧ j ∉ Region.ready .any ops listed := by
      cases ho : ops[j]? with
      | none => simp [ho] at h1
      | some oj =>
        simp only [ho] at h1
        obtain ⟨e, he, hb⟩ := Array.any_eq_true'.1 h1
        simp only [Bool.and_eq_true, List.contains_iff_mem] at hb
        have hu := hs e.on hb.2
        refine ⟨?_, fun hr => ?_⟩
        · by_cases hn : Un listed j
          · exact hn
          · exact absurd hu (hdc j oj ho hn e he hb.1)
        · obtain ⟨_, o, ho', hall⟩ := mem_ready.1 hr
          rw [ho] at ho'; cases ho'
          have := hall e he hb.1
          have h3 := getD_both hu
          rw [this] at h3; cases h3
    intro k hk
    rcases List.mem_cons.1 hk with rfl | hk
    · exact hj
    · exact waits_spec hdc post (j :: seen) h2 (fun k' hk' => by
        rcases List.mem_cons.1 hk' with rfl | hk'
        · exact hj.1
        · exact hs k' hk') k hk

theorem FY.put {G : World → Prop} {oi oj : Oper} {v : Value} {a a' : Act} (hsi : ∀ cs b, oi.op ≠ .select cs b) (hap : oi.apart ops oj = true) {u : Value} (ht : a'.tmps = (a.put oj.dst u).tmps) (hy : FY P ops G oi v a) : FY P ops G oi v a' := by
  obtain ⟨h1, h2, h3⟩ := Oper.apart_spec hap
  have ee : a'.eval = (a.put oj.dst u).eval := by funext x; cases x <;> simp [Act.eval, ht]
  unfold FY at *
  rw [ht, ee, execOp_put oi hsi a oj.dst u h3, wanted_put oi a oj.dst u h3]
  exact hy

theorem put_defers (a : Act) (d d' : Option Tmp) (v u : Value) (dd : Deferred) (h : ∀ x, d = some x → d' ≠ some x) : ({ a.put d v with defers := dd :: (a.put d v).defers } : Act).put d' u = (({ a with defers := dd :: a.defers } : Act).put d' u).put d v := by
  have : ({ a.put d v with defers := dd :: (a.put d v).defers } : Act) = ({ a with defers := dd :: a.defers } : Act).put d v := by cases d <;> rfl
  rw [this]; exact Act.put_comm _ _ _ h
/-- An operation, carried out ahead of another one's yield. -/
theorem CO.swap (hF : IsWide F) {oi oj : Oper} {v : Value} {a : Act} {w : World} (hap : oi.apart ops oj = true) (hsj : ∀ cs b, oj.op ≠ .select cs b) (hnd : ∀ c, oj.op ≠ .defer c) {K : Act → World → Prop} (h : CO F m P ops oj (a.put oi.dst v) w K) :
    CO F m P ops oj a w (fun a' w' => (∃ u, a'.tmps = (a.put oj.dst u).tmps) ∧ K (a'.put oi.dst v) w') := by
  obtain ⟨h1, h2, h3⟩ := Oper.apart_spec hap
  unfold CO at *
  rw [wanted_put oj a oi.dst v h1] at h
  split
  · rename_i hw
    rw [if_pos hw] at h
    refine ⟨fun f hf => hF.fn f, ?_⟩
    · have h4 := h.2
      rw [Oper.semAt_eq _ _ _ hnd, execOp_put oj hsj a oi.dst v h1] at h4
      rw [Oper.semAt_eq _ _ _ hnd]
      generalize (execOp a.eval oj).run P w = r at *
      have hp : ∀ u, (a.put oi.dst v).put oj.dst u = (a.put oj.dst u).put oi.dst v := fun u => Act.put_comm a v u h2
      have hv : ∀ u w', K ((a.put oi.dst v).put oj.dst u) w' → (∃ u', (a.put oj.dst u).tmps = (a.put oj.dst u').tmps) ∧ K ((a.put oj.dst u).put oi.dst v) w' := fun u w' hk => ⟨⟨u, rfl⟩, by rw [← hp]; exact hk⟩
      cases r with
      | ok x w' =>
        cases x <;> simp only [Oper.uponIn] at h4 ⊢
        case value u => exact hv u w' h4
        case skip => exact hv undef w' h4
        case defer dd => exact ⟨⟨undef, by cases oj.dst <;> rfl⟩, by rw [← put_defers a oi.dst oj.dst v undef dd h2]; exact h4⟩
        case enter f args =>
          refine ⟨h4.1, h4.2.1, fun cs hr => ?_⟩
          obtain ⟨e, w'', fr, h5, h6⟩ := h4.2.2 cs hr
          refine ⟨e, w'', fr, ?_, h6⟩
          cases e with
          | returned u => exact hv u w'' h5
          | panicked ch => exact h5.elim
          | outgrown => exact h5
        case row r args =>
          refine ⟨h4.1, fun c cs hr => ?_⟩
          obtain ⟨u, w'', h5, h6⟩ := h4.2 c cs hr
          exact ⟨u, w'', hv u w'' h5, h6⟩
        case round l f tm asg bo =>
          refine ⟨h4.1, h4.2.1, fun c cs hr => ?_⟩
          obtain ⟨e, w'', h5, h6⟩ := h4.2.2 c cs hr
          refine ⟨e, w'', ?_, h6⟩
          cases e with
          | returned u => exact hv u w'' h5
          | panicked ch => exact h5.elim
          | outgrown => exact h5
      | halt x w' =>
        cases x <;> simp only [Oper.uponIn] at h4
        all_goals exact h4.elim
  · rename_i hw
    rw [if_neg hw] at h
    exact ⟨⟨undef, rfl⟩, by rw [← Act.put_comm a v undef h2]; exact h⟩
theorem CO.mono {o : Oper} {a : Act} {w : World} {K K' : Act → World → Prop} (hk : ∀ a w, K a w → K' a w) (h : CO F m P ops o a w K) : CO F m P ops o a w K' := by
  unfold CO at *
  split
  · rename_i hw; rw [if_pos hw] at h; exact Oper.wpIn_mono hk h
  · rename_i hw; rw [if_neg hw] at h; exact hk _ _ h
theorem CO.op (hF : IsWide F) {i : Nat} {o : Oper} (hi : ops[i]? = some o) {a : Act} {w : World} {K : Act → World → Prop} (h : CO F m P ops o a w K) : wpOpIn F m P ops Q i K a w := by
  unfold wpOpIn CO at *
  simp only [hi]
  split
  · rename_i hw
    rw [if_pos hw] at h
    refine ⟨h.1, ?_⟩
    have h4 := h.2
    generalize (Oper.semAt F.round a.eval o).run P w = r at *
    cases r with
    | ok x w' =>
      cases x <;> simp only [Oper.uponIn] at h4 ⊢
      case value u => exact h4
      case skip => exact h4
      case defer dd => exact h4
      case enter f args =>
        refine ⟨h4.1, h4.2.1, fun cs hr => ?_⟩
        obtain ⟨e, w'', fr, h5, h6⟩ := h4.2.2 cs hr
        refine ⟨e, w'', fr, ?_, h6⟩
        cases e with
        | returned u => exact h5
        | panicked ch => exact h5.elim
        | outgrown => obtain ⟨_, _, h5⟩ := h5; exact h5.elim
      case row r args => exact h4
      case round l f tm asg bo =>
        refine ⟨h4.1, h4.2.1, fun c cs hr => ?_⟩
        obtain ⟨e, w'', h5, h6⟩ := h4.2.2 c cs hr
        refine ⟨e, w'', ?_, h6⟩
        cases e with
        | returned u => exact h5
        | panicked ch => exact h5.elim
        | outgrown => obtain ⟨_, _, h5⟩ := h5; exact h5.elim
    | halt x w' =>
      cases x <;> simp only [Oper.uponIn] at h4
      all_goals exact h4.elim
  · rename_i hw
    rw [if_neg hw] at h
    exact ⟨fun _ _ => hF.fn _, h⟩
theorem FY.op (hF : IsWide F) {G : World → Prop} {i : Nat} {o : Oper} {v : Value} (hi : ops[i]? = some o) {a : Act} {w : World} {K : Act → World → Prop} (hy : FY P ops G o v a) (hw : G w) (h : K (a.put o.dst v) w) : wpOpIn F m P ops Q i K a w := by
  unfold wpOpIn
  simp only [hi]
  rcases hy with ⟨h1, h2, h3⟩ | ⟨h1, rfl⟩
  · rw [if_pos h1]
    refine ⟨fun _ _ => hF.fn _, ?_⟩
    rw [Oper.semAt_eq _ _ _ h2, h3 w hw]
    exact h
  · rw [if_neg (by rw [h1]; simp)]
    exact ⟨fun _ _ => hF.fn _, h⟩
theorem FY.co (hF : IsWide F) {G : World → Prop} {o : Oper} {v : Value} {a : Act} {w : World} {K : Act → World → Prop} (hy : FY P ops G o v a) (hw : G w) (h : K (a.put o.dst v) w) : CO F m P ops o a w K := by
  unfold CO
  rcases hy with ⟨h1, h2, h3⟩ | ⟨h1, rfl⟩
  · rw [if_pos h1]
    refine ⟨fun _ _ => hF.fn _, ?_⟩
    rw [Oper.semAt_eq _ _ _ h2, h3 w hw]
    exact h
  · rw [if_neg (by rw [h1]; simp)]
    exact h

/-- What may come next, at an operation that is ready. -/
def SwapG (F : Fence) (m : Nat) (P : Program) (ops : Array Oper) (G : World → Prop) (kd : Nat → Nat) (Q : Exit → Act → World → Prop) (j : Nat) (l : List Nat) (listed : Array Bool) (a : Act) (w : World) : Prop :=
  ∃ oj, ops[j]? = some oj ∧ ((∃ GG, (kd j = 0 ∧ GG = (fun _ => True) ∨ kd j = 1 ∧ GG = G) ∧ ∃ v, FY P ops GG oj v a ∧ dRun F m P ops G kd Q l (listed.setIfInBounds j true) (a.put oj.dst v) w) ∨
    ((kd j = 2 ∨ kd j = 3) ∧ (∀ c, oj.op ≠ .defer c) ∧ CO F m P ops oj a w (fun a' w' => (kd j = 2 → G w') ∧ dRun F m P ops G kd Q l (listed.setIfInBounds j true) a' w')))
theorem head_ready {listed : Array Bool} {i : Nat} {rest : List Nat} {o : Oper} (hsz : listed.size = ops.size) (ho : ops[i]? = some o) (hl : Un listed i) (hun : ∀ k, Un listed k → k ∈ i :: rest)
    (hdeps : (o.after.all fun e => !Region.binds .any e || (!(i :: rest).contains e.on && decide (e.on < ops.size))) = true) : i ∈ Region.ready .any ops listed :=
  mem_ready.2 ⟨hl, o, ho, fun e he hb => by
    have := Array.all_eq_true_iff_forall_mem.1 hdeps e he
    simp only [hb, Bool.not_true, Bool.false_or, Bool.and_eq_true, decide_eq_true_eq, Bool.not_eq_true'] at this
    have h5 : ¬ Un listed e.on := fun hu => by
      have h7 := hun e.on hu
      have h8 := this.1
      rw [← Bool.not_eq_true, List.contains_iff_mem] at h8
      exact h8 h7
    rw [not_un] at h5
    have h6 : e.on < listed.size := by rw [hsz]; exact this.2
    simp [h6] at h5 ⊢
    exact h5⟩
theorem apart_symm {x y : Oper} (h : x.apart ops y = true) : y.apart ops x = true := by
  obtain ⟨q1, q2, q3⟩ := Oper.apart_spec h
  simp only [Oper.apart, Bool.and_eq_true]
  refine ⟨?_, ?_⟩
  · cases hdj : y.dst with
    | none => rfl
    | some z =>
      simp only [Bool.and_eq_true, Bool.not_eq_true', bne_iff_ne]
      refine ⟨by simpa using q3 z hdj, fun e => q2 z e hdj⟩
  · cases hdo : x.dst with
    | none => rfl
    | some z => simpa using q1 z hdo
theorem swap (hF : IsWide F) (hsel : ∀ (j : Nat) (o : Oper) cs b, ops[j]? = some o → o.op ≠ .select cs b) {reads : List Nat} {j : Nat} :
    ∀ (l : List Nat) (listed : Array Bool) (a : Act) (w : World), listed.size = ops.size → ordB ops kd reads l = true → (∀ k, Un listed k → k ∈ l) → DC ops listed → j ∈ Region.ready .any ops listed →
      dRun F m P ops G kd Q l listed a w → SwapG F m P ops G kd Q j l listed a w
  | [], listed, a, w, _, _, hun, _, hj, _ => by
    have := hun j (mem_ready.1 hj).1
    cases this
  | i :: rest, listed, a, w, hsz, hB, hun, hdc, hj, h => by
    simp only [ordB, Bool.and_eq_true] at hB
    obtain ⟨⟨hni, hmid⟩, hrest⟩ := hB
    have hni' : i ∉ rest := by simpa using hni
    by_cases hl : Un listed i
    · -- the head is not listed yet
      have hsz' : ∀ k, (listed.setIfInBounds k true).size = ops.size := fun k => by simpa using hsz
      simp only [dRun] at h
      rw [if_neg (by rw [← not_un]; exact fun hc => hc hl)] at h
      obtain ⟨o, ho, h⟩ := h
      simp only [ho, Bool.and_eq_true] at hmid
      obtain ⟨⟨hdeps, hfree⟩, hharsh⟩ := hmid
      by_cases hij : j = i
      · subst hij
        refine ⟨o, ho, ?_⟩
        have hc : dRun F m P ops G kd Q (j :: rest) (listed.setIfInBounds j true) = dRun F m P ops G kd Q rest listed := by
          funext a w
          simp only [dRun]
          rw [if_pos (not_un.1 not_un_set)]
          rw [dRun_congr rest (listed := listed.setIfInBounds j true) (listed' := listed) (fun k hk => getD_set_ne true (fun e => hni' (e ▸ hk)))]
        rw [hc]
        rcases h with ⟨hk, v, hy, h⟩ | ⟨hk, v, hy, h⟩ | ⟨hk, hnd, h⟩ | ⟨hk, hnd, h⟩
        · exact .inl ⟨_, .inl ⟨hk, rfl⟩, v, hy, h⟩
        · exact .inl ⟨_, .inr ⟨hk, rfl⟩, v, hy, h⟩
        · exact .inr ⟨.inl hk, hnd, h.mono fun a' w' hw => ⟨fun _ => hw.1, hw.2⟩⟩
        · exact .inr ⟨.inr hk, hnd, h.mono fun a' w' hw => ⟨fun h2 => by omega, hw⟩⟩
      · -- another one comes first
        have hjr : j ∈ rest := by
          have := hun j (mem_ready.1 hj).1
          rcases List.mem_cons.1 this with h' | h'
          · exact absurd h' hij
          · exact h'
        have hfr : ∀ v GG, kd i < 2 → FY P ops GG o v a → dRun F m P ops G kd Q rest listed (a.put o.dst v) w → (kd i = 0 ∧ GG = (fun _ => True) ∨ kd i = 1 ∧ GG = G) → SwapG F m P ops G kd Q j (i :: rest) listed a w := fun v GG hk hy h hkd => by
          obtain ⟨hjun, oj, hoj, hall⟩ := mem_ready.1 hj
          rw [if_pos hk, List.all_eq_true] at hfree
          have hap : o.apart ops oj = true := by
            have h5 := hfree j hjr
            simp only [hoj, Bool.or_eq_true] at h5
            rcases h5 with h5 | h5
            · obtain ⟨e, he, hb⟩ := Array.any_eq_true'.1 h5
              simp only [Bool.and_eq_true, beq_iff_eq] at hb
              have := hall e he hb.1
              rw [hb.2] at this
              have h6 := getD_both hl
              rw [this] at h6; cases h6
            · exact h5
          have hsi : ∀ cs b, o.op ≠ .select cs b := fun cs b => hsel i o cs b ho
          have hsj : ∀ cs b, oj.op ≠ .select cs b := fun cs b => hsel j oj cs b hoj
          obtain ⟨q1, q2, q3⟩ := Oper.apart_spec hap
          have hir := head_ready hsz ho hl hun hdeps
          have h1 : dRun F m P ops G kd Q rest (listed.setIfInBounds i true) (a.put o.dst v) w := by
            rw [dRun_congr rest (listed := listed.setIfInBounds i true) (listed' := listed) (fun k hk => getD_set_ne true (fun e => hni' (e ▸ hk)))]
            exact h
          obtain ⟨oj', hoj', h2⟩ := swap hF hsel rest (listed.setIfInBounds i true) (a.put o.dst v) w (hsz' i) hrest (fun k hk => by
            by_cases hik : i = k
            · subst hik; exact absurd hk not_un_set
            · rw [un_set_ne hik] at hk
              rcases List.mem_cons.1 (hun k hk) with h' | h'
              · exact absurd h'.symm hik
              · exact h') (hdc.set hir) (ready_mono hj hij) h1
          rw [hoj] at hoj'; cases hoj'
          -- the head, behind the other one
          have hhead : ∀ (a' : Act) (w' : World), (∃ u, a'.tmps = (a.put oj.dst u).tmps) → dRun F m P ops G kd Q rest ((listed.setIfInBounds i true).setIfInBounds j true) (a'.put o.dst v) w' → dRun F m P ops G kd Q (i :: rest) (listed.setIfInBounds j true) a' w' := fun a' w' ⟨u, hu⟩ hd => by
            simp only [dRun]
            have hlj : Un (listed.setIfInBounds j true) i := (un_set_ne hij).2 hl
            rw [if_neg (by rw [← not_un]; exact fun hc => hc hlj)]
            have hcg : dRun F m P ops G kd Q rest ((listed.setIfInBounds i true).setIfInBounds j true) = dRun F m P ops G kd Q rest (listed.setIfInBounds j true) := by
              refine dRun_congr rest fun k hk => ?_
              rw [Array.setIfInBounds_comm _ _ (Ne.symm hij)]
              exact getD_set_ne true (fun e : i = k => hni' (e ▸ hk))
            rw [hcg] at hd
            refine ⟨o, ho, ?_⟩
            rcases hkd with ⟨hk0, rfl⟩ | ⟨hk1, rfl⟩
            · exact .inl ⟨hk0, v, hy.put hsi hap hu, hd⟩
            · exact .inr (.inl ⟨hk1, v, hy.put hsi hap hu, hd⟩)
          refine ⟨oj, hoj, ?_⟩
          rcases h2 with ⟨GG', hk', v', hy', hd'⟩ | ⟨hk', hnd', hd'⟩
          · refine .inl ⟨GG', hk', v', ?_, ?_⟩
            · unfold FY at hy' ⊢
              rw [execOp_put oj hsj a o.dst v q1, wanted_put oj a o.dst v q1] at hy'
              exact hy'
            · refine hhead _ _ ⟨v', rfl⟩ ?_
              rw [← Act.put_comm a v v' q2]; exact hd'
          · refine .inr ⟨hk', hnd', (CO.swap hF hap hsj hnd' hd').mono ?_⟩
            rintro a' w' ⟨hu, hg', hd⟩
            exact ⟨hg', hhead a' w' hu hd⟩
        rcases h with ⟨hk, v, hy, h⟩ | ⟨hk, v, hy, h⟩ | ⟨hk, hnd, h⟩ | ⟨hk, hnd, h⟩
        · exact hfr v _ (by omega) hy h (.inl ⟨hk, rfl⟩)
        · exact hfr v _ (by omega) hy h (.inr ⟨hk, rfl⟩)
        · exfalso
          rw [if_neg (by omega)] at hfree
          exact (waits_spec hdc rest [i] hfree (fun k hk => by simp at hk; subst hk; exact hl) j hjr).2 hj
        · exfalso
          rw [if_neg (by omega)] at hfree
          exact (waits_spec hdc rest [i] hfree (fun k hk => by simp at hk; subst hk; exact hl) j hjr).2 hj
    · have hc : ∀ (listed' : Array Bool), listed'.getD i true = true → dRun F m P ops G kd Q (i :: rest) listed' = dRun F m P ops G kd Q rest listed' := fun listed' h' => by
        funext a w; simp only [dRun]; rw [if_pos h']
      rw [hc listed (not_un.1 hl)] at h
      have hij : j ≠ i := fun e => hl (e ▸ (mem_ready.1 hj).1)
      unfold SwapG
      rw [hc (listed.setIfInBounds j true) (by rw [getD_set_ne true hij]; exact not_un.1 hl)]
      exact swap hF hsel rest listed a w hsz hrest (fun k hk => by
        rcases List.mem_cons.1 (hun k hk) with h' | h'
        · exact absurd hk (h' ▸ hl)
        · exact h') hdc hj h

theorem harsh_spec {reads : List Nat} {j : Nat} {listed : Array Bool} (hj : j ∈ Region.ready .any ops listed) (hk : kd j = 3) : ∀ (l : List Nat), j ∈ l → ordB ops kd reads l = true → ∀ k ∈ reads, ¬ Un listed k
  | [], h, _ => by cases h
  | i :: rest, hm, hB => by
    simp only [ordB, Bool.and_eq_true] at hB
    obtain ⟨⟨hni, hmid⟩, hrest⟩ := hB
    rcases List.mem_cons.1 hm with rfl | hm
    · intro k hk1 hu
      obtain ⟨_, o, ho, hall⟩ := mem_ready.1 hj
      simp only [ho, Bool.and_eq_true] at hmid
      have hharsh := hmid.2
      simp only [hk, bne_self_eq_false, Bool.false_or, List.all_eq_true] at hharsh
      obtain ⟨e, he, hb⟩ := Array.any_eq_true'.1 (hharsh k hk1)
      simp only [Bool.and_eq_true, beq_iff_eq] at hb
      have h5 := hall e he hb.1
      rw [hb.2] at h5
      have := getD_both hu
      rw [h5] at this; cases this
    · exact harsh_spec hj hk rest hm hrest

theorem filter_set {listed : Array Bool} {j : Nat} : ∀ (l : List Nat), j ∈ l → l.Nodup → Un listed j → (l.filter fun k => decide (Un (listed.setIfInBounds j true) k)).length + 1 = (l.filter fun k => decide (Un listed k)).length
  | [], h, _, _ => by cases h
  | i :: rest, hm, hnd, hu => by
    obtain ⟨h1, h2⟩ := List.nodup_cons.1 hnd
    by_cases e : i = j
    · subst e
      rw [List.filter_cons, List.filter_cons, if_neg (by simp [not_un_set]), if_pos (by simpa using hu), List.length_cons]
      congr 1
      rw [List.filter_congr (q := fun k => decide (Un listed k)) (fun k hk => by
        have : i ≠ k := fun e => h1 (e ▸ hk)
        rw [decide_eq_decide]; exact un_set_ne this)]
    · have hm' : j ∈ rest := (List.mem_cons.1 hm).resolve_left (fun e' => e e'.symm)
      have ih := filter_set (listed := listed) rest hm' h2 hu
      rw [List.filter_cons, List.filter_cons]
      by_cases hi : Un listed i
      · rw [if_pos (by simpa using (un_set_ne (Ne.symm e)).2 hi), if_pos (by simpa using hi), List.length_cons, List.length_cons]; omega
      · rw [if_neg (by simpa using fun h => hi ((un_set_ne (Ne.symm e)).1 h)), if_neg (by simpa using hi)]; exact ih

theorem ord_nodup {reads : List Nat} : ∀ (l : List Nat), ordB ops kd reads l = true → l.Nodup
  | [], _ => List.nodup_nil
  | i :: rest, hB => by
    simp only [ordB, Bool.and_eq_true] at hB
    exact List.nodup_cons.2 ⟨by simpa using hB.1.1, ord_nodup rest hB.2⟩

theorem dRun_any (hF : IsWide F) (hsel : ∀ (j : Nat) (o : Oper) cs b, ops[j]? = some o → o.op ≠ .select cs b) {reads : List Nat} (hreads : ∀ k, k < ops.size → kd k = 1 → k ∈ reads) {l : List Nat} (hB : ordB ops kd reads l = true) (hlt : ∀ k ∈ l, k < ops.size) :
    ∀ (f : Nat) (listed : Array Bool) (a : Act) (w : World), (l.filter fun k => decide (Un listed k)).length = f → listed.size = ops.size → (∀ k, Un listed k → k ∈ l) → DC ops listed → (G w ∨ ∀ k ∈ reads, ¬ Un listed k) →
      dRun F m P ops G kd Q l listed a w → wpAnyIn F m P .any ops Q f listed a w
  | 0, listed, a, w, hf, hsz, hun, hdc, hg, h => by
    have hall : ∀ k ∈ l, ¬ Un listed k := fun k hk hu => by
      have : k ∈ l.filter fun k => decide (Un listed k) := List.mem_filter.2 ⟨hk, by simpa using hu⟩
      rw [List.eq_nil_of_length_eq_zero hf] at this
      cases this
    refine ⟨List.eq_nil_iff_forall_not_mem.2 fun j hj => hall j (hun j (mem_ready.1 hj).1) (mem_ready.1 hj).1, ?_⟩
    have : ∀ (l' : List Nat), (∀ k ∈ l', ¬ Un listed k) → dRun F m P ops G kd Q l' listed a w → Q .normal a w := fun l' => by
      induction l' with
      | nil => exact fun _ h => h
      | cons i rest ih =>
        intro h1 h2
        simp only [dRun] at h2
        rw [if_pos (not_un.1 (h1 i (by simp)))] at h2
        exact ih (fun k hk => h1 k (by simp [hk])) h2
    exact this l hall h
  | f + 1, listed, a, w, hf, hsz, hun, hdc, hg, h => by
    refine ⟨fun h0 => ?_, fun j hj => ?_⟩
    · -- somebody is ready
      exfalso
      have : ∀ (l' : List Nat), ordB ops kd reads l' = true → (∀ k, Un listed k → k ∈ l') → (l'.filter fun k => decide (Un listed k)) ≠ [] → ∃ j, j ∈ Region.ready .any ops listed := fun l' => by
        induction l' with
        | nil => exact fun _ _ h => absurd rfl h
        | cons i rest ih =>
          intro h1 h2 h3
          simp only [ordB, Bool.and_eq_true] at h1
          by_cases hi : Un listed i
          · cases ho : ops[i]? with
            | none => simp [ho] at h1
            | some o =>
              simp only [ho, Bool.and_eq_true] at h1
              exact ⟨i, head_ready hsz ho hi h2 h1.1.2.1.1⟩
          · refine ih h1.2 (fun k hk => ?_) (by rw [List.filter_cons, if_neg (by simpa using hi)] at h3; exact h3)
            rcases List.mem_cons.1 (h2 k hk) with rfl | h'
            · exact absurd hk hi
            · exact h'
      obtain ⟨j, hj⟩ := this l hB hun (fun e => by rw [e] at hf; simp at hf)
      rw [h0] at hj; cases hj
    · have hju := (mem_ready.1 hj).1
      have hjl := hun j hju
      have hcount : (l.filter fun k => decide (Un (listed.setIfInBounds j true) k)).length = f := by have := filter_set (listed := listed) l hjl (ord_nodup l hB) hju; omega
      have hsz' : (listed.setIfInBounds j true).size = ops.size := by simpa using hsz
      have hun' : ∀ k, Un (listed.setIfInBounds j true) k → k ∈ l := fun k hk => by
        by_cases e : j = k
        · subst e; exact hjl
        · exact hun k ((un_set_ne e).1 hk)
      have hkeep : (∀ k ∈ reads, ¬ Un listed k) → ∀ k ∈ reads, ¬ Un (listed.setIfInBounds j true) k := fun h5 k hk hu => by
        by_cases e : j = k
        · subst e; exact not_un_set hu
        · exact h5 k hk ((un_set_ne e).1 hu)
      have go := fun a' w' hg' h' => dRun_any hF hsel hreads hB hlt f (listed.setIfInBounds j true) a' w' hcount hsz' hun' (hdc.set hj) hg' h'
      obtain ⟨oj, hoj, h2⟩ := swap hF hsel l listed a w hsz hB hun hdc hj h
      rcases h2 with ⟨GG, hk, v, hy, hd⟩ | ⟨hk, hnd, hd⟩
      · rcases hk with ⟨hk, rfl⟩ | ⟨hk, rfl⟩
        · exact hy.op hF hoj trivial (go _ _ (hg.imp id hkeep) hd)
        · have hgw : GG w := hg.elim id (fun h5 => absurd hju (h5 j (hreads j (hlt j hjl) hk)))
          exact hy.op hF hoj hgw (go _ _ (.inl hgw) hd)
      · refine (hd.mono ?_).op hF hoj
        rintro a' w' ⟨hg', hd'⟩
        refine go a' w' ?_ hd'
        rcases hk with hk | hk
        · exact .inl (hg' hk)
        · exact .inr (hkeep (harsh_spec hj hk l hjl hB))

/-- The static test of an order. -/
def drawB (ops : Array Oper) (kd : Nat → Nat) (ord : List Nat) : Bool :=
  Region.noSelect ops && (ord.length == ops.size) && (List.range ops.size).all (fun k => ord.contains k) && ord.all (fun k => decide (k < ops.size)) && ordB ops kd ((List.range ops.size).filter fun k => kd k == 1) ord
/-- **A DRAWN REGION, in an order that is given.** -/
theorem wpIn_drawn (hF : IsWide F) {id : Nat} {a : Act} {w : World} {l : List Oper} (ord : List Nat) (hm : P.follows .mixedOrders = true) (hB : drawB l.toArray kd ord = true) (hG : G w.drew)
    (h : dRun F m P l.toArray G kd Q ord (Array.replicate l.length false) a w.drew) : (Code.region id l.toArray true).wpIn F m P Q a w := by
  simp only [drawB, Bool.and_eq_true, beq_iff_eq, List.all_eq_true, List.contains_iff_mem, List.mem_range, decide_eq_true_eq] at hB
  obtain ⟨⟨⟨⟨h1, h2⟩, h3⟩, h4⟩, h5⟩ := hB
  refine wpIn_region_any hm ?_
  have hu0 : ∀ k, k < l.length → Un (Array.replicate l.length false) k := fun k hk => by unfold Un; simp [hk]
  have hu1 : ∀ k, Un (Array.replicate l.length false) k → k < l.length := fun k hk => by
    rcases Nat.lt_or_ge k l.length with h' | h'
    · exact h'
    · unfold Un at hk; simp [Array.getElem?_eq_none (show (Array.replicate l.length false).size ≤ k by simpa using h')] at hk
  refine dRun_any hF (Region.noSelect_spec h1) (fun k hk hk1 => List.mem_filter.2 ⟨List.mem_range.2 hk, by simpa using hk1⟩) h5 (fun k hk => h4 k hk) _ _ a _ ?_ (by simp) (fun k hk => h3 k (by simpa using hu1 k hk)) ?_ (.inl hG) h
  · rw [List.filter_eq_self.2 (fun k hk => by simpa using hu0 k (by simpa using h4 k hk))]; exact h2
  · intro j oj hj hn
    exact absurd (hu0 j (by simpa using (Array.getElem?_eq_some_iff.1 hj).1)) hn
end
end Go.Proofs.YtinofjenoapeaaaGreat
end
section
namespace Go.Proofs.YtinofjenoapeaaaGreat
open Go.RowKit Go.Shelf
set_option linter.unusedSimpArgs false
set_option linter.unusedVariables false

/-- The kinds of a region's operations: 0 computes, 1 reads, 2 acts and leaves alone what is read, 3 acts when all is read. -/
def kdL (ks : List Nat) (i : Nat) : Nat := (ks[i]?).getD 0
def dRun0 (F : Fence) (m : Nat) (P : Program) (ops : List Oper) (G : World → Prop) (ks : List Nat) (Q : Exit → Act → World → Prop) : List Nat → Act → World → Prop
  | [], a, w => Q .normal a w
  | i :: rest, a, w => ∃ o, ops[i]? = some o ∧
        ((kdL ks i = 0 ∧ ∃ v, FY P ops.toArray (fun _ => True) o v a ∧ dRun0 F m P ops G ks Q rest (a.put o.dst v) w) ∨
         (kdL ks i = 1 ∧ ∃ v, FY P ops.toArray G o v a ∧ dRun0 F m P ops G ks Q rest (a.put o.dst v) w) ∨
         (kdL ks i = 2 ∧ (∀ c, o.op ≠ .defer c) ∧ CO F m P ops.toArray o a w (fun a' w' => G w' ∧ dRun0 F m P ops G ks Q rest a' w')) ∨
         (kdL ks i = 3 ∧ (∀ c, o.op ≠ .defer c) ∧ CO F m P ops.toArray o a w (fun a' w' => dRun0 F m P ops G ks Q rest a' w')))
theorem dRun0_dRun {F : Fence} {m : Nat} {P : Program} {ops : List Oper} {G : World → Prop} {ks : List Nat} {Q : Exit → Act → World → Prop} {listed : Array Bool} : ∀ (l : List Nat) (a : Act) (w : World), (∀ i ∈ l, listed.getD i true = false) → dRun0 F m P ops G ks Q l a w → dRun F m P ops.toArray G (kdL ks) Q l listed a w
  | [], _, _, _, h => h
  | i :: rest, a, w, hl, h => by
    have ih := fun a w => dRun0_dRun (F := F) (m := m) (P := P) (ops := ops) (G := G) (ks := ks) (Q := Q) rest a w (fun j hj => hl j (by simp [hj]))
    obtain ⟨o, ho, h⟩ := h
    simp only [dRun]
    rw [if_neg (by rw [hl i (by simp)]; simp)]
    refine ⟨o, by simpa using ho, ?_⟩
    rcases h with ⟨hk, v, hy, h⟩ | ⟨hk, v, hy, h⟩ | ⟨hk, hnd, h⟩ | ⟨hk, hnd, h⟩
    · exact .inl ⟨hk, v, hy, ih _ _ h⟩
    · exact .inr (.inl ⟨hk, v, hy, ih _ _ h⟩)
    · exact .inr (.inr (.inl ⟨hk, hnd, h.mono fun a w hh => ⟨hh.1, ih _ _ hh.2⟩⟩))
    · exact .inr (.inr (.inr ⟨hk, hnd, h.mono fun a w hh => ih _ _ hh⟩))

section drawn
variable {F : Fence} {m : Nat} {P : Program} {Q : Exit → Act → World → Prop} {n : Nat} {l : List (Nat × Value)} {d : List Deferred} {W0 : World} {X : Nat → Prop} {R C Kc Kr : List Ch} {o : Oper} {t : Nat} {v : Value} {ops : List Oper} {ks rest : List Nat} {i k : Nat} {G : World → Prop} {K : Act → World → Prop}
def Sub2 (Kc Kr C R : List Ch) : Prop := (∀ c ∈ Kc, c ∈ C ∨ c ∈ R) ∧ (∀ c ∈ Kr, c ∈ C ∨ c ∈ R)
theorem St.gk {w : World} (h : St W0 X R C w) (hK : Sub2 Kc Kr C R) : Gk Kc Kr w := ⟨fun c hc => h.has (hK.1 c hc), fun c hc => h.has (hK.2 c hc)⟩
theorem sub2_same : Sub2 C R C R := ⟨fun _ h => .inl h, fun _ h => .inr h⟩
theorem sub2_mk (h1 : ∀ c ∈ Kc, c ∈ C) (h2 : ∀ c ∈ Kr, c ∈ R) : Sub2 Kc Kr C R := ⟨fun c h => .inl (h1 c h), fun c h => .inr (h2 c h)⟩
/-- A region that draws; what follows it stands behind a letter. -/
theorem nd_region (hF : IsWide F) {id : Nat} (ks ord : List Nat) (Kc Kr : List Ch) (hm : P.follows .mixedOrders = true) (hB : drawB ops.toArray (kdL ks) ord = true) (hK : Sub2 Kc Kr C R)
    (h : ∀ Q', (∀ l' R' C', Nx (Q .normal) n l' d W0 X R' C' → Nx (Q' .normal) n l' d W0 X R' C') → Nx (dRun0 F m P ops (Gk Kc Kr) ks Q' ord) n l d W0 X R C) : Nx ((Code.region id ops.toArray true).wpIn F m P Q) n l d W0 X R C := fun a w ha hw => by
  have hw' : St W0 X R C w.drew := hw.later ⟨rfl, rfl, rfl, Nat.le_refl _, fun _ _ => rfl⟩
  refine wpIn_drawn hF ord hm hB (hw'.gk hK) (dRun0_dRun ord a w.drew (fun i hi => ?_) (h Q (fun _ _ _ h => h) a _ ha hw'))
  simp only [drawB, Bool.and_eq_true, beq_iff_eq, List.all_eq_true, List.contains_iff_mem, List.mem_range, decide_eq_true_eq] at hB
  have := hB.1.2 i hi
  simp at this
  simp [this]
theorem nd_nil (h : Nx (Q .normal) n l d W0 X R C) : Nx (dRun0 F m P ops G ks Q []) n l d W0 X R C := h
/-- One operation of such a region, by its kind. -/
def OpD (F : Fence) (m : Nat) (P : Program) (G : World → Prop) (k : Nat) (o : Oper) (K : Act → World → Prop) : Act → World → Prop := fun a w =>
  (k = 0 ∧ ∃ v, ((∀ c, o.op ≠ .defer c) ∧ ∀ w, (execOp a.eval o).run P w = .ok (.value v) w) ∧ K (a.put o.dst v) w) ∨
  (k = 1 ∧ ∃ v, ((∀ c, o.op ≠ .defer c) ∧ ∀ w, G w → (execOp a.eval o).run P w = .ok (.value v) w) ∧ K (a.put o.dst v) w) ∨
  (k = 2 ∧ (∀ c, o.op ≠ .defer c) ∧ o.wpIn F m P a w (fun a' w' => G w' ∧ K a' w') QF) ∨
  (k = 3 ∧ (∀ c, o.op ≠ .defer c) ∧ o.wpIn F m P a w K QF)
theorem nd_go (hi : ops[i]? = some o) (hg : gdL ops l o = some true) (hk : kdL ks i = k) (h : ∀ K, (∀ l' R' C', Nx (dRun0 F m P ops G ks Q rest) n l' d W0 X R' C' → Nx K n l' d W0 X R' C') → Nx (OpD F m P G k o K) n l d W0 X R C) : Nx (dRun0 F m P ops G ks Q (i :: rest)) n l d W0 X R C := fun a w ha hw => by
  have hwt := ha.wanted hg
  have h1 := h _ (fun _ _ _ h => h) a w ha hw
  subst hk
  refine ⟨o, hi, ?_⟩
  rcases h1 with ⟨hk, v, ⟨h1, h2⟩, h3⟩ | ⟨hk, v, ⟨h1, h2⟩, h3⟩ | ⟨hk, h1, h2⟩ | ⟨hk, h1, h2⟩
  · exact .inl ⟨hk, v, .inl ⟨hwt, h1, fun w _ => h2 w⟩, h3⟩
  · exact .inr (.inl ⟨hk, v, .inl ⟨hwt, h1, h2⟩, h3⟩)
  · refine .inr (.inr (.inl ⟨hk, h1, ?_⟩))
    unfold CO; rw [if_pos hwt]; exact h2
  · refine .inr (.inr (.inr ⟨hk, h1, ?_⟩))
    unfold CO; rw [if_pos hwt]; exact h2
theorem od_E (hd : o.dst = some t) (ht : Nat.blt t n = true) (h : ∃ v, Yl P (fun _ => True) n l d o v ∧ Nx K n ((t, v) :: l) d W0 X R C) : Nx (OpD F m P G 0 o K) n l d W0 X R C := fun a w ha hw => by
  obtain ⟨v, hy, h2⟩ := h
  exact .inl ⟨rfl, v, ⟨hy.nd, fun w => hy.run a w ha trivial⟩, by rw [hd]; exact h2 _ w (ha.put ht v) hw⟩
theorem od_R (hd : o.dst = some t) (ht : Nat.blt t n = true) (h : ∃ v, Yl P G n l d o v ∧ Nx K n ((t, v) :: l) d W0 X R C) : Nx (OpD F m P G 1 o K) n l d W0 X R C := fun a w ha hw => by
  obtain ⟨v, hy, h2⟩ := h
  exact .inr (.inl ⟨rfl, v, ⟨hy.nd, fun w hw => hy.run a w ha hw⟩, by rw [hd]; exact h2 _ w (ha.put ht v) hw⟩)
theorem od_Ec (hd : o.dst = some t) (ht : Nat.blt t n = true) (h : ∃ p v1 v2, Yc P (fun _ => True) n l d o p v1 v2 ∧ (p → Nx K n ((t, v1) :: l) d W0 X R C) ∧ (¬ p → Nx K n ((t, v2) :: l) d W0 X R C)) : Nx (OpD F m P G 0 o K) n l d W0 X R C := by
  obtain ⟨p, v1, v2, h1, h2, h3⟩ := h
  by_cases hp : p
  · exact od_E hd ht ⟨_, h1.1 hp, h2 hp⟩
  · exact od_E hd ht ⟨_, h1.2 hp, h3 hp⟩
theorem od_act (hnd : ∀ c, o.op ≠ .defer c) (h : ∀ K', (∀ l' R' C', Sub2 Kc Kr C' R' → Nx K n l' d W0 X R' C' → Nx K' n l' d W0 X R' C') → Nx (OpN F m P o K' QF) n l d W0 X R C) : Nx (OpD F m P (Gk Kc Kr) 2 o K) n l d W0 X R C := fun a w ha hw =>
  .inr (.inr (.inl ⟨rfl, hnd, h _ (fun l' R' C' hs hk a w ha hw => ⟨hw.gk hs, hk a w ha hw⟩) a w ha hw⟩))
theorem od_last (hnd : ∀ c, o.op ≠ .defer c) (h : Nx (OpN F m P o K QF) n l d W0 X R C) : Nx (OpD F m P G 3 o K) n l d W0 X R C := fun a w ha hw => .inr (.inr (.inr ⟨rfl, hnd, h a w ha hw⟩))
/-- An operation whose guard is off. -/
theorem nd_pass (hi : ops[i]? = some o) (hg : gdL ops l o = some false) (hk : Nat.ble (kdL ks i) 1 = true) (hd : o.dst = some t) (ht : Nat.blt t n = true)
    (h : Nx (dRun0 F m P ops G ks Q rest) n ((t, undef) :: l) d W0 X R C) : Nx (dRun0 F m P ops G ks Q (i :: rest)) n l d W0 X R C := fun a w ha hw => by
  have hf : ∀ G, FY P ops.toArray G o undef a := fun G => .inr ⟨ha.wanted hg, rfl⟩
  have hn : dRun0 F m P ops G ks Q rest (a.put o.dst undef) w := by rw [hd]; exact h _ w (ha.put ht undef) hw
  have hk' : kdL ks i ≤ 1 := by simpa [Nat.ble_eq] using hk
  refine ⟨o, hi, ?_⟩
  rcases Nat.eq_zero_or_pos (kdL ks i) with h0 | h0
  · exact .inl ⟨h0, undef, hf _, hn⟩
  · exact .inr (.inl ⟨by omega, undef, hf _, hn⟩)
theorem nd_pass2 (hi : ops[i]? = some o) (hg : gdL ops l o = some false) (hk : kdL ks i = 2) (hnd : ∀ c, o.op ≠ .defer c) (hK : Sub2 Kc Kr C R) (hd : o.dst = some t) (ht : Nat.blt t n = true)
    (h : Nx (dRun0 F m P ops (Gk Kc Kr) ks Q rest) n ((t, undef) :: l) d W0 X R C) : Nx (dRun0 F m P ops (Gk Kc Kr) ks Q (i :: rest)) n l d W0 X R C := fun a w ha hw => by
  have hn : dRun0 F m P ops (Gk Kc Kr) ks Q rest (a.put o.dst undef) w := by rw [hd]; exact h _ w (ha.put ht undef) hw
  refine ⟨o, hi, .inr (.inr (.inl ⟨hk, hnd, ?_⟩))⟩
  unfold CO
  rw [if_neg (by rw [ha.wanted hg]; simp)]
  exact ⟨hw.gk hK, hn⟩
theorem nd_pass3 (hi : ops[i]? = some o) (hg : gdL ops l o = some false) (hk : kdL ks i = 3) (hnd : ∀ c, o.op ≠ .defer c) (hd : o.dst = some t) (ht : Nat.blt t n = true)
    (h : Nx (dRun0 F m P ops G ks Q rest) n ((t, undef) :: l) d W0 X R C) : Nx (dRun0 F m P ops G ks Q (i :: rest)) n l d W0 X R C := fun a w ha hw => by
  have hn : dRun0 F m P ops G ks Q rest (a.put o.dst undef) w := by rw [hd]; exact h _ w (ha.put ht undef) hw
  refine ⟨o, hi, .inr (.inr (.inr ⟨hk, hnd, ?_⟩))⟩
  unfold CO
  rw [if_neg (by rw [ha.wanted hg]; simp)]
  exact hn
end drawn
/-! ### small tactics' lemmas -/
theorem sub_nil {l : List (Nat × Value)} : ∀ j v, lk j [] = some v → lk j l = some v := fun j v h => by cases h
theorem sub_cons {l l' : List (Nat × Value)} {i : Nat} {u : Value} (h : lk i l = some u) (hs : ∀ j v, lk j l' = some v → lk j l = some v) : ∀ j v, lk j ((i, u) :: l') = some v → lk j l = some v := fun j v hj => by
  simp only [lk] at hj
  by_cases e : j = i
  · subst e
    rw [show Nat.beq j j = true from Nat.beq_refl j] at hj
    simp only [cond_true] at hj
    rw [h]; exact hj
  · rw [beq_ne e] at hj
    exact hs j v hj
theorem all_nil {p : Ch → Prop} : ∀ c ∈ ([] : List Ch), p c := fun c h => by cases h
theorem all_cons {Kp : List Ch} {p : Ch → Prop} {b : Ch} (h : p b) (hs : ∀ c ∈ Kp, p c) : ∀ c ∈ b :: Kp, p c := fun c hc => (List.mem_cons.1 hc).elim (fun e => e ▸ h) (hs c)
theorem all_app {A B : List Ch} {p : Ch → Prop} (h1 : ∀ c ∈ A, p c) (h2 : ∀ c ∈ B, p c) : ∀ c ∈ A ++ B, p c := fun c hc => (List.mem_append.1 hc).elim (h1 c) (h2 c)
theorem sub_tail {A B : List Ch} {b : Ch} (h : ∀ r ∈ A, r ∈ B) : ∀ r ∈ A, r ∈ b :: B := fun r hr => List.mem_cons_of_mem _ (h r hr)
end Go.Proofs.YtinofjenoapeaaaGreat
end
section
namespace Go.Proofs.YtinofjenoapeaaaGreat
open Go.RowKit Go.Shelf
set_option linter.unusedSimpArgs false
set_option linter.unusedVariables false

/-- One of a family of lists of parties. -/
def ExC {ι : Type} (f : ι → List Ch) : Ch where
  p O A := (∃ i, Sep (f i) O A) ∧ ∀ k, O k → k < A.heap.size
  st h hs hk := ⟨let ⟨i, h1⟩ := h.1; ⟨i, h1.keep hs hk⟩, fun k h1 => Nat.lt_of_lt_of_le (h.2 k h1) hs⟩
  lt h := h.2
section ex
variable {W0 : World} {X : Nat → Prop} {R C E : List Ch} {w : World} {ι : Type} {f : ι → List Ch}
theorem St.exC (h : St W0 X R (ExC f :: E) w) : ∃ i, St W0 X R (f i ++ E) w := by
  obtain ⟨ht, OR, OC, h1, ⟨O1, ⟨⟨i, hs⟩, _⟩, h2, h3⟩, h4, h5⟩ := h
  exact ⟨i, ht, OR, OC, h1, Sep.join hs h3 (fun k hk hk' => hk'.2 hk) h2 (fun k hk => hk.1), h4, h5⟩
theorem St.toEx (i : ι) (h : St W0 X R (f i ++ E) w) : St W0 X R (ExC f :: E) w := by
  obtain ⟨ht, OR, OC, h1, h2, h4, h5⟩ := h
  obtain ⟨O1, g1, g2, g3⟩ := h2.split
  exact ⟨ht, OR, OC, h1, ⟨O1, ⟨⟨i, g2⟩, fun k hk => (h5 k (g1 k hk)).2.1⟩, g1, g3⟩, h4, h5⟩
end ex

/-- A client of an iterator: what its function asks for and leaves, behind each part of what is given. -/
def YS {α : Type} (P : Program) (y : Value) (RY : List Ch) (V : α → List Value → Prop) (D : α → List Value → List Ch) (J JX : List α → Ch) (xs : List α) : Prop :=
  ∀ pre x post, xs = pre ++ x :: post → ∀ vs, V x vs → ∀ W0 X R E, (∀ r ∈ RY, r ∈ R) → Yv P y vs W0 X R (D x vs ++ (J pre :: E)) Bool Value.bool (fun _ => R) (fun b => (bif b then J (pre ++ [x]) else JX (pre ++ [x])) :: E)
/-- A part of what is given at which one may have stopped. -/
def Upto {α : Type} (xs : List α) : Type := { q : List α // ∃ pre x post, q = pre ++ [x] ∧ xs = pre ++ x :: post }
def itC {α : Type} (xs : List α) (S : List α → List Ch) (J JX : List α → Ch) (E : List Ch) : Option (Upto xs) → List Ch
  | none => J xs :: (S xs ++ E)
  | some q => JX q.1 :: (S q.1 ++ E)
/-- s is an iterator value that gives xs, as values V and parties D, in any state that holds RS; S is its own. -/
def ItS {α : Type} (P : Program) (V : α → List Value → Prop) (D : α → List Value → List Ch) (S : List α → List Ch) (xs : List α) (s : Value) (RS : List Ch) : Prop :=
  ∃ g lb, s = .func (.func g) #[] (List.toArray lb) ∧ Enters P g ∧ ∀ y RY J JX, YS P y RY V D J JX xs → (∃ f lb', y = .func f #[] lb') → ∀ W0 X R E, (∀ r ∈ RS, r ∈ R) → (∀ r ∈ RY, r ∈ R) →
    Ct P g (y :: lb) W0 X R (J [] :: (S [] ++ E)) (Option (Upto xs)) (fun _ => .tuple #[]) (fun _ => R) (itC xs S J JX E)
theorem ItS.mono {α : Type} {P : Program} {V : α → List Value → Prop} {D : α → List Value → List Ch} {S : List α → List Ch} {xs : List α} {s : Value} {RS RS' : List Ch} (h : ItS P V D S xs s RS) (hs : ∀ r ∈ RS, r ∈ RS') : ItS P V D S xs s RS' :=
  let ⟨g, lb, h1, h2, h3⟩ := h
  ⟨g, lb, h1, h2, fun y RY J JX hy hf W0 X R E hR => h3 y RY J JX hy hf W0 X R E (fun r hr => hR r (hs r hr))⟩
/-- The plain iterators of values. -/
def It (P : Program) (xs : List Value) (s : Value) (RS : List Ch) : Prop := ItS P (fun x vs => vs = [x]) (fun _ _ => []) (fun _ => []) xs s RS
theorem ItS.isFunc {α : Type} {P : Program} {V : α → List Value → Prop} {D : α → List Value → List Ch} {S : List α → List Ch} {xs : List α} {s : Value} {RS : List Ch} (h : ItS P V D S xs s RS) : ∃ f lb, s = .func f #[] lb := let ⟨_, _, h1, _⟩ := h; ⟨_, _, h1⟩
/-- f is a function value that tells p of each of xs, in any state that holds RF. -/
def PredS (P : Program) (xs : List Value) (p : Value → Bool) (f : Value) (RF : List Ch) : Prop :=
  ∃ g lb, f = .func (.func g) #[] (List.toArray lb) ∧ Enters P g ∧ ∀ W0 X R C, (∀ r ∈ RF, r ∈ R) → ∀ x ∈ xs, Ct P g (x :: lb) W0 X R C Unit (fun _ => .bool (p x)) (fun _ => R) (fun _ => C)
/-- f is a function value that makes F of each of xs. -/
def FunS (P : Program) (xs : List Value) (G : Value → Value) (f : Value) (RF : List Ch) : Prop :=
  ∃ g lb, f = .func (.func g) #[] (List.toArray lb) ∧ Enters P g ∧ ∀ W0 X R C, (∀ r ∈ RF, r ∈ R) → ∀ x ∈ xs, Ct P g (x :: lb) W0 X R C Unit (fun _ => G x) (fun _ => R) (fun _ => C)
theorem YS.at {α : Type} {P : Program} {y : Value} {RY : List Ch} {V : α → List Value → Prop} {D : α → List Value → List Ch} {J JX : List α → Ch} {xs : List α} (h : YS P y RY V D J JX xs) {pre post : List α} {x : α} (hx : xs = pre ++ x :: post) {vs : List Value} (hv : V x vs) {W0 : World} {X : Nat → Prop} {R C E : List Ch} (hR : ∀ r ∈ RY, r ∈ R)
    (hC : C.Perm (D x vs ++ (J pre :: E))) : Yv P y vs W0 X R C Bool Value.bool (fun _ => R) (fun b => (bif b then J (pre ++ [x]) else JX (pre ++ [x])) :: E) := fun w hw => h pre x post hx vs hv W0 X R E hR w (hw.perm hC)

/-! ### a range over an iterator value -/
def LoopC (L : Nat) (r : Loop) : Ch where
  p O w := w.heap[L]? = some (.loop r) ∧ ∀ k, O k ↔ k = L
  st h _ hk := ⟨(hk L ((h.2 L).2 rfl)).trans h.1, h.2⟩
  lt h k hk := by rw [(h.2 k).1 hk]; exact (Array.getElem?_eq_some_iff.1 h.1).1
def jcode : Option Nat → Code
  | none => .ret
  | some id => .exit id
/-- How a round's body may be left: CN on, CX out. -/
def RQ {ι κ : Type} (PN : ι → Prop) (CN : ι → List Ch) (PX : Option Nat → κ → Prop) (CX : Option Nat → κ → List Ch) (W0 : World) (X : Nat → Prop) (R E : List Ch) : Exit → Act → World → Prop
  | .normal, _, w => ∃ i, PN i ∧ St W0 X R (CN i ++ E) w
  | .ret, _, w => ∃ k, PX none k ∧ St W0 X R (CX none k ++ E) w
  | .exit id, _, w => ∃ k, PX (some id) k ∧ St W0 X R (CX (some id) k ++ E) w
  | _, _, _ => False
section rq
variable {ι κ : Type} {PN : ι → Prop} {CN : ι → List Ch} {PX : Option Nat → κ → Prop} {CX : Option Nat → κ → List Ch} {W0 : World} {X : Nat → Prop} {R R1 E C : List Ch} {n : Nat} {l : List (Nat × Value)} {d : List Deferred}
theorem rq_n (i : ι) (hp : PN i) (hR : ∀ r ∈ R, r ∈ R1) (hC : Holds C (CN i ++ E)) : Nx (RQ PN CN PX CX W0 X R E .normal) n l d W0 X R1 C := fun a w ha hw => ⟨i, hp, (hw.subR hR).keep hC⟩
theorem rq_r (k : κ) (hp : PX none k) (hR : ∀ r ∈ R, r ∈ R1) (hC : Holds C (CX none k ++ E)) : Nx (RQ PN CN PX CX W0 X R E .ret) n l d W0 X R1 C := fun a w ha hw => ⟨k, hp, (hw.subR hR).keep hC⟩
theorem rq_x {id : Nat} (k : κ) (hp : PX (some id) k) (hR : ∀ r ∈ R, r ∈ R1) (hC : Holds C (CX (some id) k ++ E)) : Nx (RQ PN CN PX CX W0 X R E (.exit id)) n l d W0 X R1 C := fun a w ha hw => ⟨k, hp, (hw.subR hR).keep hC⟩
end rq
/-- The temporaries of a round: yield's arguments in the parameters. -/
def argsL : List Tmp → List Value → List (Nat × Value) → List (Nat × Value)
  | p :: ps, v :: vs, l => argsL ps vs ((p, v) :: l)
  | _, _, l => l
theorem Kn.args {n : Nat} : ∀ (ps : List Tmp) (vs : List Value) (l : List (Nat × Value)) (t : Array Value), ps.all (fun p => Nat.blt p n) = true → Kn n l [] { tmps := t, defers := [] } →
    Kn n (argsL ps vs l) [] { tmps := (ps.zip vs).foldl (fun t (p, v) => t.setIfInBounds p v) t, defers := [] }
  | [], _, l, t, _, h => by simpa [argsL] using h
  | p :: ps, [], l, t, _, h => by simpa [argsL] using h
  | p :: ps, v :: vs, l, t, hp, h => by
    simp only [List.all_cons, Bool.and_eq_true] at hp
    exact Kn.args ps vs _ _ hp.2 (h.put hp.1 v)

section range
variable {F : Fence} {m : Nat} {P : Program} {Q : Exit → Act → World → Prop} {n : Nat} {l : List (Nat × Value)} {d : List Deferred} {W0 : World} {X : Nat → Prop} {R C : List Ch} {α ι κ : Type}
/-- **A RANGE OVER AN ITERATOR VALUE.** CC: the state behind each part of what is given; CX: the state of who leaves. -/
theorem nx_range (hF : IsWide F) (hro : F.round = none) {g : Operand} {ps : List Tmp} {assign body : Code} {s : Value} {V : α → List Value → Prop} {D : α → List Value → List Ch} {S : List α → List Ch} {xs : List α} {RS : List Ch} (hg : ev l g = some s) (hs : ItS P V D S xs s RS) (hRS : ∀ r ∈ RS, r ∈ R)
    (hps : ps.all (fun p => Nat.blt p n) = true) (hpl : ∀ x vs, V x vs → vs.length = ps.length)
    (PP : List α → ι → Prop) (CC : List α → ι → List Ch) (PX : List α → Option Nat → κ → Prop) (CX : List α → Option Nat → κ → List Ch) (i0 : ι) (h0 : PP [] i0) (hC : Holds C (S [] ++ CC [] i0))
    (hround : ∀ lp pre x post, xs = pre ++ x :: post → ∀ vs, V x vs → ∀ i, PP pre i → ∀ W0 X R', (∀ r ∈ R, r ∈ R') → ∀ E K,
      (∀ l' R1 C1 C', (∀ r ∈ R', r ∈ R1) → Holds C' (C1 ++ E) → (∀ E', Nx (body.wpIn (F.inRound lp) m P (RQ (PP (pre ++ [x])) (CC (pre ++ [x])) (PX (pre ++ [x])) (CX (pre ++ [x])) W0 X R' E')) n l' [] W0 X R1 (C1 ++ E')) → Nx K n l' [] W0 X R1 C') →
      Nx (assign.wpIn (F.inRound lp) m P (Exit.then K QF)) n (argsL ps vs l) [] W0 X R' (D x vs ++ (CC pre i ++ E)))
    (hdone : ∀ i, PP xs i → ∀ M, Nx (Q .normal) n l ({ target := .collected M, args := #[] } :: d) W0 X R (DfrC M :: (S xs ++ CC xs i)))
    (hstop : ∀ pre x post, xs = pre ++ x :: post → ∀ j k, PX (pre ++ [x]) j k → ∀ M, Nx ((jcode j).wpIn F m P Q) n l ({ target := .collected M, args := #[] } :: d) W0 X R (DfrC M :: (S (pre ++ [x]) ++ CX (pre ++ [x]) j k))) :
    Nx ((Code.rangeFunc g ps.toArray assign body).wpIn F m P Q) n l d W0 X R C := by
  intro a w ha hw
  obtain ⟨gf, lb, rfl, eg, hseq⟩ := hs
  refine wpIn_rangeFunc ?_
  intro fn hfn
  rw [hro]
  obtain ⟨rec, hrec⟩ : ∃ rec : LoopState → Option Code → Loop, rec = fun st pe => { state := st, pending := pe, fn, tmps := a.tmps, params := ps.toArray, assign, body, defers := w.heap.size } := ⟨_, rfl⟩
  obtain ⟨W1, hW1⟩ : ∃ W1, (w.alloc (.deferred (some []))).alloc (.loop (rec .ready none)) = W1 := ⟨_, rfl⟩
  have hs1 : W1.heap.size = w.heap.size + 2 := by rw [← hW1]; simp
  have hL1 : W1.heap[w.heap.size + 1]? = some (.loop (rec .ready none)) := by
    rw [← hW1]; have := World.alloc_heap_new (w.alloc (.deferred (some []))) (.loop (rec .ready none)); rwa [World.size_alloc] at this
  have hK1 : W1.heap[w.heap.size]? = some (.deferred (some [])) := by
    rw [← hW1]; exact (Below.heap_alloc _ _ _ (by simp)).trans (World.alloc_heap_new w _)
  have hb1 : Below w.heap.size w W1 := by rw [← hW1]; exact ((Below.refl _ _).alloc (Nat.le_refl _) _).alloc (by simp) _
  -- the state ahead of the call
  have st1 : St W0 X R (([LoopC (w.heap.size + 1) (rec .ready none)] ++ [DfrC w.heap.size]) ++ (S [] ++ CC [] i0)) W1 :=
    (hw.keep hC).newL hb1 ⟨fun k => k = w.heap.size + 1 ∨ k = w.heap.size, ⟨fun k => k = w.heap.size + 1, ⟨hL1, fun _ => Iff.rfl⟩, fun k hk => .inl hk, ⟨fun k => k = w.heap.size, ⟨hK1, fun _ => Iff.rfl⟩, fun k hk => ⟨.inr hk, by omega⟩, trivial⟩⟩, fun k hk => by omega⟩
  let Lp := w.heap.size + 1
  let J : List α → Ch := fun pre => ExC (ι := { i // PP pre i }) (fun i => LoopC Lp (rec .ready none) :: CC pre i.1)
  let JX : List α → Ch := fun q => ExC (ι := { jk : Option Nat × κ // PX q jk.1 jk.2 }) (fun jk => LoopC Lp (rec .done (some (jcode jk.1.1))) :: CX q jk.1.1 jk.1.2)
  have st2 : St W0 X R (J [] :: (S [] ++ [DfrC w.heap.size])) W1 := by
    refine St.toEx (f := fun i : { i // PP [] i } => LoopC Lp (rec .ready none) :: CC [] i.1) ⟨i0, h0⟩ (st1.perm ?_)
    show (LoopC Lp (rec .ready none) :: DfrC w.heap.size :: (S [] ++ CC [] i0)).Perm (LoopC Lp (rec .ready none) :: (CC [] i0 ++ (S [] ++ [DfrC w.heap.size])))
    refine List.Perm.cons _ ?_
    have h1 : (DfrC w.heap.size :: (S [] ++ CC [] i0)).Perm ((S [] ++ CC [] i0) ++ [DfrC w.heap.size]) := (List.perm_append_singleton _ _).symm
    refine h1.trans ?_
    rw [← List.append_assoc]
    exact List.Perm.append_right _ List.perm_append_comm
  -- the rounds
  have hY : YS P (.func (.yield Lp) #[] #[]) R V D J JX xs := by
    intro pre x post hx vs hv W0' X' R' E hR' B hB
    have hB' := hB.perm List.perm_middle
    obtain ⟨⟨i, hi⟩, hB2⟩ := hB'.exC
    have hl : B.heap[Lp]? = some (.loop (rec .ready none)) := by
      obtain ⟨_, h1⟩ := hB2.hasC (c := LoopC Lp (rec .ready none)) (by simp)
      exact h1.1
    have hy := run_yield (P := P) (args := vs.toArray) hl (by rw [hrec]; simpa using hpl x vs hv)
    rw [hrec] at hy
    refine .inl ⟨Lp, fn, _, assign, body, rfl, hy, ?_⟩
    refine (hF.roundIn isWide_wide (n := m) (roundIn_of_wpIn hfn ?_))
    have hkn : Kn n l [] { tmps := a.tmps, defers := [] } := ⟨ha.size, rfl, ha.at_⟩
    have hka := Kn.args ps vs l a.tmps hps hkn
    have hz : (ps.toArray.zip vs.toArray).foldl (fun tmps (t, a) => tmps.setIfInBounds t a) a.tmps = (ps.zip vs).foldl (fun t (p, v) => t.setIfInBounds p v) a.tmps := by
      rw [List.zip_toArray]; simp
    rw [hz]
    -- the state, the round's own parts ahead
    have hB3 : St W0' X' R' (D x vs ++ (CC pre i ++ (LoopC Lp (rec .ready none) :: E))) B := by
      refine hB2.perm ?_
      show (LoopC Lp (rec .ready none) :: (CC pre i ++ (D x vs ++ E))).Perm _
      refine List.Perm.trans ?_ (List.Perm.append_left _ List.perm_middle.symm)
      refine List.Perm.trans ?_ List.perm_middle.symm
      refine List.Perm.cons _ ?_
      rw [← List.append_assoc, ← List.append_assoc]
      exact List.Perm.append_right _ List.perm_append_comm
    refine wpIn_mono (hround Lp pre x post hx vs hv i hi W0' X' R' hR' (LoopC Lp (rec .ready none) :: E)
      (fun a1 A1 => ∃ w2, (Instr.beginRound Lp).run P A1 = .ok () w2 ∧ body.wpIn (F.inRound Lp) m P (roundPost P Lp (fun e w' => ∃ b, e = .returned (.bool b) ∧ St W0' X' R' ((bif b then J (pre ++ [x]) else JX (pre ++ [x])) :: E) w')) a1 w2) ?_ _ B hka hB3) ?_
    · intro l' R1 C1 C' hR1 hC' hbody a1 A1 ha1 hA1
      have g1 : St W0' X' R1 (C1 ++ (LoopC Lp (rec .ready none) :: E)) A1 := hA1.keep hC'
      have g2 := g1.perm List.perm_middle
      have hl1 : A1.heap[Lp]? = some (.loop (rec .ready none)) := by
        obtain ⟨_, h1⟩ := g2.hasC (c := LoopC Lp (rec .ready none)) (by simp)
        exact h1.1
      refine ⟨A1.putObj Lp (.loop { rec .ready none with state := .busy }), run_beginRound hl1 (by rw [hrec]), ?_⟩
      have turnL : ∀ (r r' : Loop) (E' : List Ch) (A : World) (RR : List Ch), St W0' X' RR (LoopC Lp r :: E') A → St W0' X' RR (LoopC Lp r' :: E') (A.putObj Lp (.loop r')) := fun r r' E' A RR h =>
        h.upd (fun O ho => ⟨O, Touch.putObj _ _ _ ((ho.2 Lp).2 rfl), ⟨World.putObj_heap_same (Array.getElem?_eq_some_iff.1 ho.1).1, ho.2⟩, fun k hk => .inl hk⟩)
      have g3 := turnL _ { rec .ready none with state := .busy } _ _ _ g2
      have g4 := g3.perm (List.perm_middle (l₁ := C1) (l₂ := E)).symm
      refine wpIn_mono (hbody (LoopC Lp { rec .ready none with state := .busy } :: E) a1 _ ha1 g4) ?_
      have hrs : ∀ st pe, rec st pe = { rec .ready none with state := st, pending := pe } := fun st pe => by rw [hrec]
      have fin : ∀ (jump : Option Code) (st : LoopState) (C2 : List Ch) (A : World), (if jump.isNone then LoopState.ready else LoopState.done) = st → St W0' X' R' (C2 ++ (LoopC Lp { rec .ready none with state := .busy } :: E)) A →
          (Instr.endRound Lp jump).run P A = .ok (.bool jump.isNone) (A.putObj Lp (.loop (rec st jump))) ∧ St W0' X' R' ((LoopC Lp (rec st jump) :: C2) ++ E) (A.putObj Lp (.loop (rec st jump))) := fun jump st C2 A hst h => by
        have h1 := h.perm List.perm_middle
        have hl2 : A.heap[Lp]? = some (.loop { rec .ready none with state := .busy }) := by
          obtain ⟨_, h2⟩ := h1.hasC (c := LoopC Lp { rec .ready none with state := .busy }) (by simp)
          exact h2.1
        have h3 := run_endRound (P := P) jump hl2
        rw [hst] at h3
        refine ⟨by rw [h3, hrs st jump], ?_⟩
        exact turnL _ (rec st jump) _ _ _ h1
      rintro e a3 A3 hp
      cases e with
      | normal =>
        obtain ⟨i', hp1, hp2⟩ := hp
        obtain ⟨q1, q2⟩ := fin none .ready _ A3 rfl hp2
        exact ⟨_, _, q1, true, rfl, St.toEx (f := fun i : { i // PP (pre ++ [x]) i } => LoopC Lp (rec .ready none) :: CC (pre ++ [x]) i.1) ⟨i', hp1⟩ q2⟩
      | ret =>
        obtain ⟨k, hp1, hp2⟩ := hp
        obtain ⟨q1, q2⟩ := fin (some .ret) .done _ A3 rfl hp2
        exact ⟨_, _, q1, false, rfl, St.toEx (f := fun jk : { jk : Option Nat × κ // PX (pre ++ [x]) jk.1 jk.2 } => LoopC Lp (rec .done (some (jcode jk.1.1))) :: CX (pre ++ [x]) jk.1.1 jk.1.2) ⟨(none, k), hp1⟩ q2⟩
      | exit id =>
        obtain ⟨k, hp1, hp2⟩ := hp
        obtain ⟨q1, q2⟩ := fin (some (.exit id)) .done _ A3 rfl hp2
        exact ⟨_, _, q1, false, rfl, St.toEx (f := fun jk : { jk : Option Nat × κ // PX (pre ++ [x]) jk.1 jk.2 } => LoopC Lp (rec .done (some (jcode jk.1.1))) :: CX (pre ++ [x]) jk.1.1 jk.1.2) ⟨(some id, k), hp1⟩ q2⟩
      | goto t => exact hp.elim
      | panic ch => exact hp.elim
      | outgrown => exact hp.elim
    · rintro e a1 A1 hp
      cases e with
      | normal => exact hp
      | exit id => exact hp.elim
      | goto t => exact hp.elim
      | ret => exact hp.elim
      | panic ch => exact hp.elim
      | outgrown => exact hp.elim
  refine ⟨w.heap.size + 1, [{ target := .collected w.heap.size, args := #[] }], W1, { target := .fn (.func gf) lb.toArray, args := #[.func (.yield (w.heap.size + 1)) #[] #[]] }, W1, gf,
    #[.func (.yield (w.heap.size + 1)) #[] #[]] ++ lb.toArray, W1, ?_, ?_, ?_, ?_, fun hd => absurd hd (by rw [hF.depth]; simp), ?_⟩
  · rw [← hW1, hrec]; exact run_enterLoop_outer _ _ _ _ _
  · have hgv : a.eval g = .func (.func gf) #[] lb.toArray := ha.eval hg
    simp only [resolve, hgv]
    simp [go_sem]
  · intro f' _; exact hF.fn _
  · have := eg (#[.func (.yield (w.heap.size + 1)) #[] #[]] ++ lb.toArray) W1
    simpa [invoke, go_sem] using this
  · refine hF.callsIn ?_
    have hcall := hseq (.func (.yield Lp) #[] #[]) R J JX hY ⟨_, _, rfl⟩ W0 X R [DfrC w.heap.size] hRS (fun _ h => h) W1 st2
    have he : ((.func (.yield Lp) #[] #[] :: lb).toArray : Array Value) = #[.func (.yield (w.heap.size + 1)) #[] #[]] ++ lb.toArray := by simp [Lp]
    rw [he] at hcall
    refine hcall.mono ?_
    rintro e B ⟨q, rfl, hB⟩
    have turnL : ∀ (r r' : Loop) (E' : List Ch) (A : World), St W0 X R (LoopC Lp r :: E') A → St W0 X R E' (A.putObj Lp (.loop r')) := fun r r' E' A h =>
      St.drop (c := LoopC Lp r') (h.upd (fun O ho => ⟨O, Touch.putObj _ _ _ ((ho.2 Lp).2 rfl), ⟨World.putObj_heap_same (Array.getElem?_eq_some_iff.1 ho.1).1, ho.2⟩, fun k hk => .inl hk⟩))
    have hka : ∀ M, Kn n l ({ target := .collected M, args := #[] } :: d) { a with defers := [{ target := .collected M, args := #[] }] ++ a.defers } := fun M => ⟨ha.size, by simp [ha.defers], ha.at_⟩
    cases q with
    | none =>
      obtain ⟨⟨i, hi⟩, h1⟩ := St.exC (f := fun i : { i // PP xs i } => LoopC Lp (rec .ready none) :: CC xs i.1) hB
      have hl : B.heap[Lp]? = some (.loop (rec .ready none)) := by
        obtain ⟨_, h2⟩ := h1.hasC (c := LoopC Lp (rec .ready none)) (by simp)
        exact h2.1
      have hend := run_endLoop (P := P) hl (by rw [hrec]; simp)
      rw [hrec] at hend
      refine ⟨none, _, hend, ?_⟩
      have h2 := turnL (rec .ready none) { state := .exhausted, pending := none, fn, tmps := a.tmps, params := ps.toArray, assign, body, defers := w.heap.size } _ _ h1
      refine hdone i hi w.heap.size _ _ (hka _) (h2.perm ?_)
      show (CC xs i ++ (S xs ++ [DfrC w.heap.size])).Perm _
      rw [← List.append_assoc]
      exact (List.perm_append_singleton _ _).trans (List.Perm.cons _ List.perm_append_comm)
    | some q =>
      obtain ⟨q, pre, x, post, rfl, hx⟩ := q
      obtain ⟨⟨⟨j, k⟩, hjk⟩, h1⟩ := St.exC (f := fun jk : { jk : Option Nat × κ // PX (pre ++ [x]) jk.1 jk.2 } => LoopC Lp (rec .done (some (jcode jk.1.1))) :: CX (pre ++ [x]) jk.1.1 jk.1.2) hB
      have hl : B.heap[Lp]? = some (.loop (rec .done (some (jcode j)))) := by
        obtain ⟨_, h2⟩ := h1.hasC (c := LoopC Lp (rec .done (some (jcode j)))) (by simp)
        exact h2.1
      have hend := run_endLoop (P := P) hl (by rw [hrec]; simp)
      rw [hrec] at hend
      refine ⟨some (jcode j), _, hend, ?_⟩
      have h2 := turnL (rec .done (some (jcode j))) { state := .exhausted, pending := some (jcode j), fn, tmps := a.tmps, params := ps.toArray, assign, body, defers := w.heap.size } _ _ h1
      refine hstop pre x post hx j k hjk w.heap.size _ _ (hka _) (h2.perm ?_)
      show (CX (pre ++ [x]) j k ++ (S (pre ++ [x]) ++ [DfrC w.heap.size])).Perm _
      rw [← List.append_assoc]
      exact (List.perm_append_singleton _ _).trans (List.Perm.cons _ List.perm_append_comm)
end range
end Go.Proofs.YtinofjenoapeaaaGreat
end
section
namespace Go.Proofs.YtinofjenoapeaaaGreat
open Go.RowKit Go.Shelf
set_option linter.unusedSimpArgs false
set_option linter.unusedVariables false

/-! ### what is frozen, what is begun -/
section frz
variable {K : Act → World → Prop} {n : Nat} {l : List (Nat × Value)} {d : List Deferred} {W0 : World} {X : Nat → Prop} {R C E : List Ch}
theorem nx_frz (c : Ch) (hp : Pick C c E) (h : Nx K n l d W0 X (c :: R) E) : Nx K n l d W0 X R C := fun a w ha hw => h a w ha ((hw.perm hp).freeze (fun O ho => ⟨O, ho, fun _ h => h⟩))
theorem nx_frzRow {e : TypeId} {k : Nat} {v : Value} {xs : List Value} (hp : Pick C (RowC e k v xs) E) (h : Nx K n l d W0 X (SlC k v xs :: R) E) : Nx K n l d W0 X R C := fun a w ha hw => h a w ha ((hw.perm hp).freeze (fun O ho => RowC.slC ho))
theorem RowC.nil (e : TypeId) (k : Nat) (w : World) : (RowC e k (.slice none 0 0) []).p (fun _ => False) w := ⟨⟨by simp [cellsOf], .inl ⟨rfl, rfl⟩⟩, fun _ => rfl, fun x hx => by simp at hx, fun j => ⟨fun h => h.elim, fun h => by cases h⟩⟩
theorem nx_nilRow (e : TypeId) (k : Nat) (h : Nx K n l d W0 X R (RowC e k (.slice none 0 0) [] :: C)) : Nx K n l d W0 X R C := fun a w ha hw =>
  h a w ha (hw.new (Below.refl _ _) ⟨fun _ => False, RowC.nil e k w, fun _ h => h.elim⟩)
theorem nx_perm (hp : C.Perm E) (h : Nx K n l d W0 X R E) : Nx K n l d W0 X R C := fun a w ha hw => h a w ha (hw.perm hp)
theorem nx_keep (hp : Holds C E) (h : Nx K n l d W0 X R E) : Nx K n l d W0 X R C := fun a w ha hw => h a w ha (hw.keep hp)
theorem nx_lk {l' : List (Nat × Value)} (hl : ∀ j v, lk j l' = some v → lk j l = some v) (h : Nx K n l' d W0 X R C) : Nx K n l d W0 X R C := fun a w ha hw => h a w (ha.sub hl) hw
/-- What a party tells. -/
theorem nx_fact {φ : Prop} (hφ : ∀ w, St W0 X R C w → φ) (h : φ → Nx K n l d W0 X R C) : Nx K n l d W0 X R C := fun a w ha hw => h (hφ w hw) a w ha hw
end frz
/-- A slice value's shape. -/
theorem Rdg.shape {W0 : World} {X : Nat → Prop} {R C : List Ch} {k : Nat} {v : Value} {xs : List Value} (h : Rdg (St W0 X R C) k v xs) : ∀ w, St W0 X R C w → ∃ a c, v = .slice a xs.length c ∧ (xs ≠ [] → ∃ b o, a = some ⟨b, o, none⟩) ∧ (a = none → c = 0) := fun w hw => by
  obtain ⟨A, c, h1, h2, h3, h4⟩ := h w hw
  refine ⟨A, c, h1, fun hx => ?_, h3⟩
  cases xs with
  | nil => exact absurd rfl hx
  | cons x xs => obtain ⟨b, o, h5, _⟩ := h4 0 x rfl; exact ⟨b, o, h5⟩

/-! ### function values and slices held against nil -/
def isFnT (P : Program) (T : TypeId) : Bool := match P.underlying T with | some (.func _ _ _) => true | _ => false
def isPtT (P : Program) (T : TypeId) : Bool := match P.underlying T with | some (.pointer _) => true | _ => false
section nils
variable {P : Program} {G : World → Prop} {n : Nat} {l : List (Nat × Value)} {d : List Deferred} {o : Oper}
theorem yl_eql_fn {f : Fn} {a1 a2 : Array Value} {T T2 : TypeId} {x y : Operand} (ho : o.op = .binOp .eql T x y T2) (hx : ev l x = some (.func f a1 a2)) (hy : ev l y = some .nilFunc) (hT : isFnT P T = true) : Yl P G n l d o (.bool false) := yl_bin ho hx hy (fun w => by
  have hg : (eqGuard .eql T x y (.func f a1 a2) .nilFunc).run P w = .ok () w := by unfold eqGuard; simp
  have he : (Op.equal T (.func f a1 a2) .nilFunc).run P w = .ok false w := by
    unfold isFnT at hT
    split at hT
    · rename_i hu
      unfold Op.equal Op.maxDepth; rw [Op.equalIn]; simp [Sem.run_bind, run_underlying hu, Result.andThen]
    · cases hT
  simp [Sem.run_bind, hg, binOp, he, Result.andThen])
theorem yl_neq_fn {f : Fn} {a1 a2 : Array Value} {T T2 : TypeId} {x y : Operand} (ho : o.op = .binOp .neq T x y T2) (hx : ev l x = some (.func f a1 a2)) (hy : ev l y = some .nilFunc) (hT : isFnT P T = true) : Yl P G n l d o (.bool true) := yl_bin ho hx hy (fun w => by
  have hg : (eqGuard .neq T x y (.func f a1 a2) .nilFunc).run P w = .ok () w := by unfold eqGuard; simp
  have he : (Op.equal T (.func f a1 a2) .nilFunc).run P w = .ok false w := by
    unfold isFnT at hT
    split at hT
    · rename_i hu
      unfold Op.equal Op.maxDepth; rw [Op.equalIn]; simp [Sem.run_bind, run_underlying hu, Result.andThen]
    · cases hT
  simp [Sem.run_bind, hg, binOp, he, Result.andThen])
theorem yl_eql_fn0  {T T2 : TypeId} {x y : Operand} (ho : o.op = .binOp .eql T x y T2) (hx : ev l x = some .nilFunc) (hy : ev l y = some .nilFunc) (hT : isFnT P T = true) : Yl P G n l d o (.bool true) := yl_bin ho hx hy (fun w => by
  have hg : (eqGuard .eql T x y .nilFunc .nilFunc).run P w = .ok () w := by unfold eqGuard; simp
  have he : (Op.equal T .nilFunc .nilFunc).run P w = .ok true w := by
    unfold isFnT at hT
    split at hT
    · rename_i hu
      unfold Op.equal Op.maxDepth; rw [Op.equalIn]; simp [Sem.run_bind, run_underlying hu, Result.andThen]
    · cases hT
  simp [Sem.run_bind, hg, binOp, he, Result.andThen])
theorem yl_neq_fn0  {T T2 : TypeId} {x y : Operand} (ho : o.op = .binOp .neq T x y T2) (hx : ev l x = some .nilFunc) (hy : ev l y = some .nilFunc) (hT : isFnT P T = true) : Yl P G n l d o (.bool false) := yl_bin ho hx hy (fun w => by
  have hg : (eqGuard .neq T x y .nilFunc .nilFunc).run P w = .ok () w := by unfold eqGuard; simp
  have he : (Op.equal T .nilFunc .nilFunc).run P w = .ok true w := by
    unfold isFnT at hT
    split at hT
    · rename_i hu
      unfold Op.equal Op.maxDepth; rw [Op.equalIn]; simp [Sem.run_bind, run_underlying hu, Result.andThen]
    · cases hT
  simp [Sem.run_bind, hg, binOp, he, Result.andThen])
theorem yl_eql_pt {q : Addr} {T T2 : TypeId} {x y : Operand} (ho : o.op = .binOp .eql T x y T2) (hx : ev l x = some (.pointer (some q))) (hy : ev l y = some (.pointer none)) (hT : isPtT P T = true) : Yl P G n l d o (.bool false) := yl_bin ho hx hy (fun w => by
  have hg : (eqGuard .eql T x y (.pointer (some q)) (.pointer none)).run P w = .ok () w := by unfold eqGuard; simp
  have he : (Op.equal T (.pointer (some q)) (.pointer none)).run P w = .ok false w := by
    unfold isPtT at hT
    split at hT
    · rename_i hu
      unfold Op.equal Op.maxDepth; rw [Op.equalIn]; simp [Sem.run_bind, run_underlying hu, Result.andThen]
    · cases hT
  simp [Sem.run_bind, hg, binOp, he, Result.andThen])
theorem yl_neq_pt {q : Addr} {T T2 : TypeId} {x y : Operand} (ho : o.op = .binOp .neq T x y T2) (hx : ev l x = some (.pointer (some q))) (hy : ev l y = some (.pointer none)) (hT : isPtT P T = true) : Yl P G n l d o (.bool true) := yl_bin ho hx hy (fun w => by
  have hg : (eqGuard .neq T x y (.pointer (some q)) (.pointer none)).run P w = .ok () w := by unfold eqGuard; simp
  have he : (Op.equal T (.pointer (some q)) (.pointer none)).run P w = .ok false w := by
    unfold isPtT at hT
    split at hT
    · rename_i hu
      unfold Op.equal Op.maxDepth; rw [Op.equalIn]; simp [Sem.run_bind, run_underlying hu, Result.andThen]
    · cases hT
  simp [Sem.run_bind, hg, binOp, he, Result.andThen])
theorem yl_eql_pt0  {T T2 : TypeId} {x y : Operand} (ho : o.op = .binOp .eql T x y T2) (hx : ev l x = some (.pointer none)) (hy : ev l y = some (.pointer none)) (hT : isPtT P T = true) : Yl P G n l d o (.bool true) := yl_bin ho hx hy (fun w => by
  have hg : (eqGuard .eql T x y (.pointer none) (.pointer none)).run P w = .ok () w := by unfold eqGuard; simp
  have he : (Op.equal T (.pointer none) (.pointer none)).run P w = .ok true w := by
    unfold isPtT at hT
    split at hT
    · rename_i hu
      unfold Op.equal Op.maxDepth; rw [Op.equalIn]; simp [Sem.run_bind, run_underlying hu, Result.andThen]
    · cases hT
  simp [Sem.run_bind, hg, binOp, he, Result.andThen])
theorem yl_neq_pt0  {T T2 : TypeId} {x y : Operand} (ho : o.op = .binOp .neq T x y T2) (hx : ev l x = some (.pointer none)) (hy : ev l y = some (.pointer none)) (hT : isPtT P T = true) : Yl P G n l d o (.bool false) := yl_bin ho hx hy (fun w => by
  have hg : (eqGuard .neq T x y (.pointer none) (.pointer none)).run P w = .ok () w := by unfold eqGuard; simp
  have he : (Op.equal T (.pointer none) (.pointer none)).run P w = .ok true w := by
    unfold isPtT at hT
    split at hT
    · rename_i hu
      unfold Op.equal Op.maxDepth; rw [Op.equalIn]; simp [Sem.run_bind, run_underlying hu, Result.andThen]
    · cases hT
  simp [Sem.run_bind, hg, binOp, he, Result.andThen])
theorem yl_eql_sl {q : Addr} {i c : Nat} {T T2 : TypeId} {x y : Operand} (ho : o.op = .binOp .eql T x y T2) (hx : ev l x = some (.slice (some q) i c)) (hy : ev l y = some (.slice none 0 0)) (hT : isSlT P T = true) : Yl P G n l d o (.bool false) := yl_bin ho hx hy (fun w => by
  have hg : (eqGuard .eql T x y (.slice (some q) i c) (.slice none 0 0)).run P w = .ok () w := by unfold eqGuard; simp
  have he : (Op.equal T (.slice (some q) i c) (.slice none 0 0)).run P w = .ok false w := by
    unfold isSlT at hT
    split at hT
    · rename_i hu
      unfold Op.equal Op.maxDepth; rw [Op.equalIn]; simp [Sem.run_bind, run_underlying hu, Result.andThen]
    · cases hT
  simp [Sem.run_bind, hg, binOp, he, Result.andThen])
theorem yl_neq_sl {q : Addr} {i c : Nat} {T T2 : TypeId} {x y : Operand} (ho : o.op = .binOp .neq T x y T2) (hx : ev l x = some (.slice (some q) i c)) (hy : ev l y = some (.slice none 0 0)) (hT : isSlT P T = true) : Yl P G n l d o (.bool true) := yl_bin ho hx hy (fun w => by
  have hg : (eqGuard .neq T x y (.slice (some q) i c) (.slice none 0 0)).run P w = .ok () w := by unfold eqGuard; simp
  have he : (Op.equal T (.slice (some q) i c) (.slice none 0 0)).run P w = .ok false w := by
    unfold isSlT at hT
    split at hT
    · rename_i hu
      unfold Op.equal Op.maxDepth; rw [Op.equalIn]; simp [Sem.run_bind, run_underlying hu, Result.andThen]
    · cases hT
  simp [Sem.run_bind, hg, binOp, he, Result.andThen])
theorem yl_eql_sl0 {i c : Nat} {T T2 : TypeId} {x y : Operand} (ho : o.op = .binOp .eql T x y T2) (hx : ev l x = some (.slice none i c)) (hy : ev l y = some (.slice none 0 0)) (hT : isSlT P T = true) : Yl P G n l d o (.bool true) := yl_bin ho hx hy (fun w => by
  have hg : (eqGuard .eql T x y (.slice none i c) (.slice none 0 0)).run P w = .ok () w := by unfold eqGuard; simp
  have he : (Op.equal T (.slice none i c) (.slice none 0 0)).run P w = .ok true w := by
    unfold isSlT at hT
    split at hT
    · rename_i hu
      unfold Op.equal Op.maxDepth; rw [Op.equalIn]; simp [Sem.run_bind, run_underlying hu, Result.andThen]
    · cases hT
  simp [Sem.run_bind, hg, binOp, he, Result.andThen])
theorem yl_neq_sl0 {i c : Nat} {T T2 : TypeId} {x y : Operand} (ho : o.op = .binOp .neq T x y T2) (hx : ev l x = some (.slice none i c)) (hy : ev l y = some (.slice none 0 0)) (hT : isSlT P T = true) : Yl P G n l d o (.bool false) := yl_bin ho hx hy (fun w => by
  have hg : (eqGuard .neq T x y (.slice none i c) (.slice none 0 0)).run P w = .ok () w := by unfold eqGuard; simp
  have he : (Op.equal T (.slice none i c) (.slice none 0 0)).run P w = .ok true w := by
    unfold isSlT at hT
    split at hT
    · rename_i hu
      unfold Op.equal Op.maxDepth; rw [Op.equalIn]; simp [Sem.run_bind, run_underlying hu, Result.andThen]
    · cases hT
  simp [Sem.run_bind, hg, binOp, he, Result.andThen])
def isBoT (P : Program) (T : TypeId) : Bool := match P.underlying T with | some .bool => true | _ => false
theorem run_eq_bool {T : TypeId} (hT : isBoT P T = true) (b c : Bool) (w : World) : (Op.equal T (.bool b) (.bool c)).run P w = .ok (b == c) w := by
  unfold isBoT at hT
  split at hT
  · rename_i hu
    unfold Op.equal Op.maxDepth; rw [Op.equalIn]; simp [Sem.run_bind, run_underlying hu, Result.andThen]
  · cases hT
theorem yl_eql_bo {T T2 : TypeId} {x y : Operand} {b c : Bool} (ho : o.op = .binOp .eql T x y T2) (hx : ev l x = some (.bool b)) (hy : ev l y = some (.bool c)) (hT : isBoT P T = true) : Yl P G n l d o (.bool (b == c)) := yl_bin ho hx hy (fun w => by
  have hg : (eqGuard .eql T x y (.bool b) (.bool c)).run P w = .ok () w := by unfold eqGuard; simp
  simp [Sem.run_bind, hg, binOp, run_eq_bool hT, Result.andThen])
theorem yl_neq_bo {T T2 : TypeId} {x y : Operand} {b c : Bool} (ho : o.op = .binOp .neq T x y T2) (hx : ev l x = some (.bool b)) (hy : ev l y = some (.bool c)) (hT : isBoT P T = true) : Yl P G n l d o (.bool (!(b == c))) := yl_bin ho hx hy (fun w => by
  have hg : (eqGuard .neq T x y (.bool b) (.bool c)).run P w = .ok () w := by unfold eqGuard; simp
  simp [Sem.run_bind, hg, binOp, run_eq_bool hT, Result.andThen])
end nils

/-! ### rows that are made, and appended to -/
def IsSl (v : Value) : Prop := ∃ a b c, v = .slice a b c
/-- Slice values. -/
def SV : Type := { v : Value // IsSl v }
/-- The facts of a type of slices that append wants: its elements' type, their cells and bytes. -/
def apT (P : Program) (t e k by_ : Nat) : Bool := match P.underlying t, P.info? e with
  | some (.slice e'), some i => e' == e && i.size == k && i.bytes == by_ && (match i.zero with | some z => z.cells.size == k | none => false) && decide (0 < k)
  | _, _ => false
theorem apT_spec {P : Program} {t e k by_ : Nat} (h : apT P t e k by_ = true) : ∃ i z, P.underlying t = some (.slice e) ∧ P.info? e = some i ∧ i.zero = some z ∧ i.size = k ∧ i.bytes = by_ ∧ z.cells.size = k ∧ 0 < k := by
  unfold apT at h
  split at h
  · rename_i e' i h1 h2
    cases hz : i.zero with
    | none => simp [hz] at h
    | some z =>
      simp [hz] at h
      obtain ⟨⟨⟨⟨rfl, h3⟩, h4⟩, h5⟩, h6⟩ := h
      exact ⟨i, z, h1, h2, hz, h3, h4, h5, h6⟩
  · cases h
/-- Values of k cells, each cell one. -/
def Cel (k : Nat) (ys : List Value) : Prop := ∀ y ∈ ys, (cv y).size = k ∧ ∀ u ∈ (cv y).toList, u.oneCell' = true
theorem Cel.of {P : Program} {T k : Nat} {ys : List Value} (h : ∀ y ∈ ys, VOf P T y) (hk : (P.info? T).map (·.size) = some k) : Cel k ys := fun y hy => by
  have h1 := h y hy
  refine ⟨by have := h1.size; rw [hk] at this; exact (Option.some.inj this).symm, fun u hu => Array.all_eq_true_iff_forall_mem.1 h1.one u (by simpa using hu)⟩
theorem Cel.nil {k : Nat} : Cel k [] := fun y hy => by cases hy
theorem Cel.cons {k : Nat} {y : Value} {ys : List Value} (h1 : (cv y).size = k) (h2 : (cv y).all (·.oneCell') = true) (h : Cel k ys) : Cel k (y :: ys) := fun z hz => by
  rcases List.mem_cons.1 hz with rfl | hz
  · exact ⟨h1, fun u hu => Array.all_eq_true_iff_forall_mem.1 h2 u (by simpa using hu)⟩
  · exact h z hz
theorem RowC.mkp {e k : Nat} {v : Value} {xs : List Value} {w : World} {O : Nat → Prop} (h : w.ownsRow 0 e k v xs.length (cellsOf xs)) (hn : v = .slice none 0 0 → xs = []) (hk : ∀ x ∈ xs, (cv x).size = k) (hO : ∀ j, O j ↔ v.ownBlock = some j) : (RowC e k v xs).p O w := ⟨h, hn, hk, hO⟩
theorem cellsOf_append (xs ys : List Value) : cellsOf (xs ++ ys) = cellsOf xs ++ cellsOf ys := by simp [cellsOf]
section rows
variable {F : Fence} {m : Nat} {P : Program} {Q : Exit → Act → World → Prop} {K : Act → World → Prop} {n : Nat} {l : List (Nat × Value)} {d : List Deferred} {W0 : World} {X : Nat → Prop} {R C E : List Ch} {o : Oper} {t : Nat} {v : Value}
/-- append(s, x...): s is the call's own. -/
theorem on_append (hF : IsWide F) {s x : Operand} {T e k by_ : Nat} {u : Value} {xs ys : List Value} (ho : o.op = Op.call { callee := Callee.builtin Builtin.append, args := #[s, x], argTypes := #[T, T] }) (hd : o.dst = some t) (ht : Nat.blt t n = true) (hs : ev l s = some v) (hx : ev l x = some u)
    (hm : Pick C (RowC e k v xs) E) (hT : apT P T e k by_ = true) (hr : Rdg (St W0 X R C) k u ys) (hc : Cel k ys) (b1 : xs.length + ys.length ≤ maxLen) (b2 : (xs.length + ys.length) * by_ ≤ 140737488355328)
    (h : ∀ v' : SV, Nx K n ((t, v'.1) :: l) d W0 X R (RowC e k v'.1 (xs ++ ys) :: E)) : Nx (OpN F m P o K Q) n l d W0 X R C :=
  on_world hF (fun c => by rw [ho]; exact (fun h => by cases h)) hd ht (fun v' : SV => v'.1) (fun _ => R) (fun v' => RowC e k v'.1 (xs ++ ys) :: E) (fun a w ha hw => by
    obtain ⟨i, z, t1, t2, t3, t4, t5, t6, t7⟩ := apT_spec hT
    have hsl := hr w hw
    have hw' := hw.perm hm
    obtain ⟨O, hrow⟩ := hw'.hasC (c := RowC e k v xs) (by simp)
    have hown : w.ownsRow 0 e k v xs.length (cellsOf xs) := hrow.1
    have hargs : ∀ v' w', (Builtin.append_ #[T, T] o.type #[v, u]).run P w = .ok v' w' → (execOp a.eval o).run P w = .ok (.value v') w' := fun v' w' hv => by
      simp [execOp, ho, resolve, invoke, builtin, ha.eval hs, ha.eval hx, hv, Result.andThen]
    have hsl' := hsl
    obtain ⟨A, c, rfl, hcc, hA, hel⟩ := hsl
    cases A with
    | some ad =>
      obtain ⟨v', w', hrun, h2, h3, h4, h5⟩ := run_append_own_at (P := P) w 0 T o.type e i z k by_ t1 t2 t3 t4 t5 t6 t7 v xs.length (cellsOf xs) hown ad ys.length c (cellsOf ys) (cellsOf_len (fun y hy => (hc y hy).1)) (hsl'.cells (fun y hy => (hc y hy).1))
        (fun q hq => by
          obtain ⟨y, hy, hq'⟩ : ∃ y ∈ ys, q ∈ (cv y).toList := by
            unfold cellsOf at hq; rw [List.mem_flatten] at hq
            obtain ⟨l', h1, h2⟩ := hq
            obtain ⟨y, hy, rfl⟩ := List.mem_map.1 h1
            exact ⟨y, hy, h2⟩
          exact (hc y hy).2 q hq') b1 b2 (Nat.zero_le _)
      have hsl2 : IsSl v' := by rcases h2.2 with ⟨rfl, _⟩ | ⟨g, cap, cur, rfl, _⟩ <;> exact ⟨_, _, _, rfl⟩
      refine ⟨⟨v', hsl2⟩, w', hargs v' w' hrun, hw'.upd (fun O hO => ?_)⟩
      refine ⟨fun j => v'.ownBlock = some j, ?_, ?_, ?_⟩
      · exact Touch.of_grownBy h3 (fun j hj => (hO.2.2.2 j).2 hj)
      · refine RowC.mkp (by rw [cellsOf_append, List.length_append]; exact h2) (fun hv => ?_) (fun q hq => ?_) (fun _ => Iff.rfl)
        · obtain ⟨e1, e2⟩ := h4.1 hv
          rw [hO.2.1 e1, List.eq_nil_of_length_eq_zero e2]; rfl
        · rcases List.mem_append.1 hq with hq | hq
          · exact hO.2.2.1 q hq
          · exact (hc q hq).1
      · intro j hj
        rcases h5 with h5 | h5
        · exact .inl ((hO.2.2.2 j).2 (h5 ▸ hj))
        · rw [h5] at hj; cases hj; exact .inr (Nat.le_refl _)
    | none =>
      obtain ⟨rfl, _, rfl⟩ := hsl'.nil
      have hv : ∃ av nv cvv, v = .slice av nv cvv ∧ nv ≤ cvv := by
        rcases hown.2 with ⟨rfl, _⟩ | ⟨g, cap, cur, rfl, _, _, hle, _⟩
        · exact ⟨none, 0, 0, rfl, Nat.le_refl _⟩
        · exact ⟨_, _, _, rfl, hle⟩
      obtain ⟨av, nv, cvv, rfl, hle⟩ := hv
      have hrun := run_append_src_nil (P := P) T o.type e i z t1 t2 t3 av nv cvv hle w
      exact ⟨⟨_, _, _, _, rfl⟩, w, hargs _ _ hrun, by rw [List.append_nil]; exact hw'⟩) h
/-- The row that a literal of a slice makes. -/
def partsL : Nat → List Value → List (Nat × Value)
  | _, [] => []
  | i, v :: vs => (i, v) :: partsL (i + 1) vs
theorem set_all : ∀ (us : List Value) (j0 off : Nat) (cs : Array Value), off + j0 + us.length ≤ cs.size → ((us.zipIdx j0).foldl (fun cs (c, j) => cs.setIfInBounds (off + j) c) cs).toList = cs.toList.take (off + j0) ++ us ++ cs.toList.drop (off + j0 + us.length)
  | [], j0, off, cs, _ => by simp
  | u :: us, j0, off, cs, h => by
    simp only [List.zipIdx_cons, List.foldl_cons, List.length_cons] at h ⊢
    rw [set_all us (j0 + 1) off _ (by simp; omega)]
    have h1 : off + j0 < cs.toList.length := by simp; omega
    simp only [Array.toList_setIfInBounds]
    rw [List.take_set, List.drop_set]
    have e1 : (List.take (off + (j0 + 1)) cs.toList).set (off + j0) u = cs.toList.take (off + j0) ++ [u] := by
      rw [show off + (j0 + 1) = off + j0 + 1 by omega, List.take_succ_eq_append_getElem h1, List.set_append_right _ _ (by simp; omega)]
      simp [Nat.min_eq_left (Nat.le_of_lt h1)]
      have hz : cs.toList.length = cs.size := by simp
      have : off + j0 - min (off + j0) cs.size = 0 := by omega
      simp [this]
    rw [e1, if_pos (by omega), show off + (j0 + 1) + us.length = off + j0 + (us.length + 1) by omega]
    simp
theorem fill_all {k : Nat} : ∀ (vs : List Value) (i : Nat) (cs : Array Value), (∀ v ∈ vs, v.cells.size = k) → cs.size = (i + vs.length) * k → ∃ cs', Instr.fill (fun i => some (i * k, k)) cs (partsL i vs) = some cs' ∧ cs'.toList = cs.toList.take (i * k) ++ (vs.map fun v => v.cells.toList).flatten
  | [], i, cs, _, h => ⟨cs, rfl, by simp at h; simp [List.take_of_length_le (show cs.toList.length ≤ i * k by simp [h])]⟩
  | v :: vs, i, cs, hk, h => by
    have hv := hk v (by simp)
    simp only [List.length_cons] at h
    have hsz : (i + (vs.length + 1)) * k = i * k + (vs.length * k + k) := by rw [Nat.add_mul, Nat.succ_mul]
    simp only [partsL, Instr.fill, hv]
    rw [if_neg (by simp; omega)]
    have hset : (v.cells.zipIdx.foldl (fun cs x => cs.setIfInBounds (i * k + x.2) x.1) cs).toList = cs.toList.take (i * k) ++ v.cells.toList ++ cs.toList.drop (i * k + k) := by
      have := set_all v.cells.toList 0 (i * k) cs (by simp; omega)
      simp only [Array.length_toList, hv, Nat.add_zero] at this
      rw [← this, ← Array.foldl_toList, Array.toList_zipIdx]
    obtain ⟨cs', h1, h2⟩ := fill_all vs (i + 1) (v.cells.zipIdx.foldl (fun cs x => cs.setIfInBounds (i * k + x.2) x.1) cs) (fun u hu => hk u (by simp [hu])) (by
      have h3 := congrArg List.length hset
      simp only [Array.length_toList, List.length_append, List.length_take, List.length_drop] at h3
      rw [h3, hv, Nat.add_mul, Nat.add_mul]; omega)
    refine ⟨cs', h1, ?_⟩
    rw [h2, hset]
    have hl : (cs.toList.take (i * k) ++ v.cells.toList).length = (i + 1) * k := by simp [hv, Nat.succ_mul]; omega
    rw [List.take_append_of_le_length (by rw [hl]; exact Nat.le_refl _), List.take_of_length_le (by rw [hl]; exact Nat.le_refl _)]
    simp
theorem run_buildSlice {T e k by_ : Nat} (hT : apT P T e k by_ = true) (vs : List Value) (hk : ∀ v ∈ vs, (cv v).size = k) (hn : vs.length * k ≤ 16777216) (w : World) :
    (Instr.buildSlice T vs.length (partsL 0 vs).toArray).run P w = .ok (.slice (some ⟨w.heap.size, 0, none⟩) vs.length vs.length) (w.alloc (.cells (cellsOf vs).toArray e)) := by
  obtain ⟨i, z, t1, t2, t3, t4, t5, t6, t7⟩ := apT_spec hT
  have hsz : (sizeOf e).run P w = .ok k w := by simp [sizeOf, typeInfo, t2, t4]
  have hze : (zeroValue e).run P w = .ok z w := by simp [zeroValue, typeInfo, t2, t3]
  have key : ∀ zc : Array Value, zc.size = vs.length * k → ∃ cs', Instr.fill (fun i => some (i * k, k)) zc (partsL 0 vs) = some cs' ∧ cs' = (cellsOf vs).toArray := fun zc hz => by
    obtain ⟨cs', h1, h2⟩ := fill_all (k := k) vs 0 zc hk (by rw [hz]; simp)
    refine ⟨cs', h1, ?_⟩
    rw [← Array.toArray_toList (xs := cs'), h2]
    simp [cellsOf, cv]
  unfold Instr.buildSlice
  simp only [Sem.run_bind, run_underlying t1, Result.andThen, hsz]
  rw [if_neg (by simpa using hn)]
  by_cases h0 : vs.length * k = 0
  · obtain ⟨cs', h1, rfl⟩ := key #[] (by simp [h0])
    have hr0 : ∀ f : Nat → Value, Array.map f (Array.range 0) = #[] := fun f => by rw [show Array.range 0 = #[] from rfl]; simp
    simp only [h0, if_true, Sem.run_pure, hr0]
    simp [Sem.run_bind, Sem.run_pure, h1, newRow, Result.andThen]
  · obtain ⟨cs', h1, rfl⟩ := key ((Array.range (vs.length * k)).map (fun j => z.cells[j % z.cells.size]!)) (by simp)
    simp only [h0, if_false, Sem.run_bind, hze, Result.andThen, Sem.run_pure]
    simp [Sem.run_bind, Sem.run_pure, h1, newRow, Result.andThen]
theorem on_buildSlice (hF : IsWide F) {T e k by_ c : Nat} {ps : Array (Nat × Operand)} {vs : List Value} (ho : o.op = .buildSlice T c ps) (hd : o.dst = some t) (ht : Nat.blt t n = true) (hx : evs l (ps.toList.map (·.2)) = some vs) (hi : ps.toList.map (·.1) = List.range vs.length) (hc : c = vs.length) (hT : apT P T e k by_ = true) (hk : Cel k vs) (hn : vs.length * k ≤ 16777216)
    (h : ∀ B, Nx K n ((t, .slice (some ⟨B, 0, none⟩) c c) :: l) d W0 X R (RowC e k (.slice (some ⟨B, 0, none⟩) c c) vs :: C)) : Nx (OpN F m P o K Q) n l d W0 X R C :=
  on_world hF (fun c => by rw [ho]; exact (fun h => by cases h)) hd ht (fun B => .slice (some ⟨B, 0, none⟩) c c) (fun _ => R) (fun B => RowC e k (.slice (some ⟨B, 0, none⟩) c c) vs :: C) (fun a w ha hw => by
    have e1 := ha.evals hx
    have e2 : (ps.map fun (i, x) => (i, a.eval x)) = (partsL 0 vs).toArray := by
      have h3 : ∀ (q : List (Nat × Operand)) (j : Nat) (us : List Value), q.map (·.1) = List.range' j us.length → (q.map (·.2)).map a.eval = us → q.map (fun p => (p.1, a.eval p.2)) = partsL j us := fun q => by
        induction q with
        | nil => intro j us h1 h2; cases us with
          | nil => rfl
          | cons u us => cases h2
        | cons p q ih =>
          intro j us h1 h2
          cases us with
          | nil => cases h2
          | cons u us =>
            simp only [List.map_cons, List.length_cons, List.range'_succ, List.cons.injEq] at h1 h2
            simp only [List.map_cons, partsL]
            rw [h1.1, h2.1, ih (j + 1) us h1.2 h2.2]
      have := h3 ps.toList 0 vs (by rw [hi, List.range_eq_range']) e1
      rw [← this, ← Array.toList_map]
    have hrun := run_buildSlice hT vs (fun v hv => (hk v hv).1) hn w
    refine ⟨w.heap.size, w.alloc (.cells (cellsOf vs).toArray e), ?_, ?_⟩
    · subst hc
      simp only [execOp, ho, Sem.run_bind, e2, hrun, Result.andThen]; rfl
    · refine hw.new ((Below.refl _ _).alloc (Nat.le_refl _) _) ⟨fun j => j = w.heap.size, ⟨?_, (fun h => by cases h), fun x hx => (hk x hx).1, fun j => ⟨fun h => by simp [Value.ownBlock, h], fun h => by simp [Value.ownBlock] at h; exact h.symm⟩⟩, fun j hj => by omega⟩
      subst hc
      refine ⟨cellsOf_len (fun x hx => (hk x hx).1), .inr ⟨w.heap.size, vs.length, (cellsOf vs).toArray, rfl, Nat.zero_le _, World.alloc_heap_new w _, Nat.le_refl _, ?_, ?_, ?_⟩⟩
      · obtain ⟨_, _, _, _, _, _, _, _, t7⟩ := apT_spec hT
        have : vs.length ≤ vs.length * k := Nat.le_mul_of_pos_right _ t7
        unfold maxLen; omega
      · simp [cellsOf_len (fun x hx => (hk x hx).1)]
      · rw [List.take_of_length_le (by simp [cellsOf_len (fun x hx => (hk x hx).1)])]) h
end rows

/-! ### loops whose rounds leave deferred calls -/
section loopD
variable {F : Fence} {m : Nat} {P : Program} {Q : Exit → Act → World → Prop} {n : Nat} {l : List (Nat × Value)} {W0 : World} {X : Nat → Prop} {R C : List Ch}
theorem nx_loopD {c : Code} {ι : Type} (Ds : List Nat) (L : ι → List (Nat × Value)) (RR CC : ι → List Ch) (DD : ι → List Nat) (μ : ι → Nat) (i0 : ι) (hd : DD i0 = Ds) (h0 : ∀ j v, lk j (L i0) = some v → lk j l = some v) (hR : ∀ r ∈ RR i0, r ∈ R) (hC : Holds C (CC i0))
    (h : ∀ i, Nx (c.wpIn F m P (Exit.then (fun a w => ∃ j, μ j < μ i ∧ Kn n (L j) (dfr (DD j)) a ∧ St W0 X (RR j) (CC j) w) Q)) n (L i) (dfr (DD i)) W0 X (RR i) (CC i)) : Nx ((Code.loop c).wpIn F m P Q) n l (dfr Ds) W0 X R C := by
  intro a w ha hw
  classical
  let J : Nat → Act → World → Prop := fun k a w => ∃ j, μ j = k ∧ Kn n (L j) (dfr (DD j)) a ∧ St W0 X (RR j) (CC j) w
  let I : Act → World → Prop := fun a w => ∃ k, J k a w
  have least : ∀ a w, I a w → ∃ k, J k a w ∧ ∀ k', k' < k → ¬ J k' a w := fun a w hi => by
    obtain ⟨k, hk⟩ := hi
    induction k using Nat.strongRecOn with
    | _ k ih =>
      by_cases hq : ∃ k', k' < k ∧ J k' a w
      · obtain ⟨k', hlt, hj⟩ := hq; exact ih k' hlt hj
      · exact ⟨k, hk, fun k' hlt hj => hq ⟨k', hlt, hj⟩⟩
  let M : Act → World → Nat := fun a w => if hi : I a w then (least a w hi).choose else 0
  have hM : ∀ a w (hi : I a w), J (M a w) a w ∧ ∀ k', k' < M a w → ¬ J k' a w := fun a w hi => by
    have := (least a w hi).choose_spec
    simp only [M, dif_pos hi]
    exact this
  have hle : ∀ a w j, Kn n (L j) (dfr (DD j)) a → St W0 X (RR j) (CC j) w → M a w ≤ μ j := fun a w j h1 h2 => by
    have := (hM a w ⟨μ j, j, rfl, h1, h2⟩).2 (μ j)
    rcases Nat.lt_or_ge (μ j) (M a w) with h | h
    · exact absurd ⟨j, rfl, h1, h2⟩ (this h)
    · exact h
  refine wpIn_loop I M ⟨μ i0, i0, rfl, by rw [hd]; exact ha.sub h0, (hw.subR hR).keep hC⟩ (fun a1 w1 hi => ?_)
  obtain ⟨⟨j, hj, g1, g2⟩, _⟩ := hM a1 w1 hi
  refine wpIn_mono (h j a1 w1 g1 g2) ?_
  intro e a2 w2 hq
  cases e with
  | normal =>
    obtain ⟨j2, hlt, h3, h4⟩ := hq
    exact ⟨⟨μ j2, j2, rfl, h3, h4⟩, Nat.lt_of_le_of_lt (hle a2 w2 j2 h3 h4) (by rw [← hj]; exact hlt)⟩
  | exit id => exact hq
  | goto t => exact hq
  | ret => exact hq
  | panic ch => exact hq
  | outgrown => exact hq
theorem nx_againD {ι : Type} {L : ι → List (Nat × Value)} {RR CC : ι → List Ch} {DD : ι → List Nat} {μ : ι → Nat} {k : Nat} {Ds : List Nat} {d : List Deferred} (i : ι) (hμ : μ i < k) (hd : d = dfr Ds) (hD : DD i = Ds) (hl : ∀ j v, lk j (L i) = some v → lk j l = some v) (hR : ∀ r ∈ RR i, r ∈ R) (hC : Holds C (CC i)) : Nx (fun a w => ∃ j, μ j < k ∧ Kn n (L j) (dfr (DD j)) a ∧ St W0 X (RR j) (CC j) w) n l d W0 X R C :=
  fun a w ha hw => ⟨i, hμ, by rw [hD, ← hd]; exact ha.sub hl, (hw.subR hR).keep hC⟩
end loopD
end Go.Proofs.YtinofjenoapeaaaGreat
end
section
namespace Go.Proofs.YtinofjenoapeaaaGreat
open Go.RowKit Go.Shelf
set_option linter.unusedSimpArgs false
set_option linter.unusedVariables false
section calls
variable {F : Fence} {m : Nat} {P : Program} {Q : Exit → Act → World → Prop} {K : Act → World → Prop} {n : Nat} {l : List (Nat × Value)} {d : List Deferred} {W0 : World} {X : Nat → Prop} {R C E : List Ch} {o : Oper} {t : Nat} {v : Value} {α : Type}
/-- A call of the client's function, in an iterator. -/
theorem on_yield (hF : IsWide F) {f : Operand} {y : Value} {xs : Array Operand} {ts : Array TypeId} {vs : List Value} {RY : List Ch} {V : α → List Value → Prop} {D : α → List Value → List Ch} {J JX : List α → Ch} {zs : List α}
    (hY : YS P y RY V D J JX zs) (pre : List α) (x : α) (post : List α) (hz : zs = pre ++ x :: post) (ho : o.op = Op.call { callee := Callee.value f, args := xs, argTypes := ts }) (hd : o.dst = some t) (ht : Nat.blt t n = true) (hf : ev l f = some y) (hx : evs l xs.toList = some vs) (hv : V x vs) (hR : ∀ r ∈ RY, r ∈ R) (hD : D x vs = []) (hp : Pick C (J pre) E)
    (h1 : Nx K n ((t, .bool true) :: l) d W0 X R (J (pre ++ [x]) :: E)) (h2 : Nx K n ((t, .bool false) :: l) d W0 X R (JX (pre ++ [x]) :: E)) : Nx (OpN F m P o K Q) n l d W0 X R C :=
  on_callv hF ho hd ht hf hx (hY.at hz hv hR (by rw [hD]; exact hp)) (fun b => by cases b; exact h2; exact h1)
/-- The same, handing over what is made. -/
theorem on_yieldD (hF : IsWide F) {f : Operand} {y : Value} {xs : Array Operand} {ts : Array TypeId} {vs : List Value} {RY : List Ch} {V : α → List Value → Prop} {D : α → List Value → List Ch} {J JX : List α → Ch} {zs : List α}
    (hY : YS P y RY V D J JX zs) (pre : List α) (x : α) (post : List α) (hz : zs = pre ++ x :: post) (ho : o.op = Op.call { callee := Callee.value f, args := xs, argTypes := ts }) (hd : o.dst = some t) (ht : Nat.blt t n = true) (hf : ev l f = some y) (hx : evs l xs.toList = some vs) (hv : V x vs) (hR : ∀ r ∈ RY, r ∈ R) (hp : C.Perm (D x vs ++ (J pre :: E)))
    (h1 : Nx K n ((t, .bool true) :: l) d W0 X R (J (pre ++ [x]) :: E)) (h2 : Nx K n ((t, .bool false) :: l) d W0 X R (JX (pre ++ [x]) :: E)) : Nx (OpN F m P o K Q) n l d W0 X R C :=
  on_callv hF ho hd ht hf hx (hY.at hz hv hR hp) (fun b => by cases b; exact h2; exact h1)
/-- A call of a predicate value: both ways. -/
theorem on_pred (hF : IsWide F) {f : Operand} {y x : Value} {xs : Array Operand} {ts : Array TypeId} {zs : List Value} {p : Value → Bool} {RF : List Ch} (hP : PredS P zs p y RF) (ho : o.op = Op.call { callee := Callee.value f, args := xs, argTypes := ts }) (hd : o.dst = some t) (ht : Nat.blt t n = true) (hf : ev l f = some y) (hx : evs l xs.toList = some [x]) (hm : x ∈ zs) (hR : ∀ r ∈ RF, r ∈ R)
    (h1 : p x = true → Nx K n ((t, .bool true) :: l) d W0 X R C) (h2 : p x = false → Nx K n ((t, .bool false) :: l) d W0 X R C) : Nx (OpN F m P o K Q) n l d W0 X R C := by
  obtain ⟨g, lb, rfl, eg, h⟩ := hP
  refine on_callc hF ho hd ht hf hx eg (vs := [x]) (h W0 X R C hR x hm) (fun _ => ?_)
  cases hp : p x with
  | true => exact h1 hp
  | false => exact h2 hp
theorem on_fun (hF : IsWide F) {f : Operand} {y x : Value} {xs : Array Operand} {ts : Array TypeId} {zs : List Value} {G : Value → Value} {RF : List Ch} (hP : FunS P zs G y RF) (ho : o.op = Op.call { callee := Callee.value f, args := xs, argTypes := ts }) (hd : o.dst = some t) (ht : Nat.blt t n = true) (hf : ev l f = some y) (hx : evs l xs.toList = some [x]) (hm : x ∈ zs) (hR : ∀ r ∈ RF, r ∈ R)
    (h : Nx K n ((t, G x) :: l) d W0 X R C) : Nx (OpN F m P o K Q) n l d W0 X R C := by
  obtain ⟨g, lb, rfl, eg, hc⟩ := hP
  exact on_callc hF ho hd ht hf hx eg (vs := [x]) (hc W0 X R C hR x hm) (fun _ => h)
/-- A call of a function that tells a bool: both ways. -/
theorem on_callb (hF : IsWide F) {g : FuncId} {xs : Array Operand} {ts : Array TypeId} {vs : List Value} {b : Bool} (ho : o.op = Op.call { callee := Callee.value (.func g), args := xs, argTypes := ts }) (hd : o.dst = some t) (ht : Nat.blt t n = true)
    (hx : evs l xs.toList = some vs) (eg : Enters P g) (hc : Ct P g vs W0 X R C Unit (fun _ => .bool b) (fun _ => R) (fun _ => C)) (h1 : b = true → Nx K n ((t, .bool true) :: l) d W0 X R C) (h2 : b = false → Nx K n ((t, .bool false) :: l) d W0 X R C) : Nx (OpN F m P o K Q) n l d W0 X R C :=
  on_call hF ho hd ht hx eg hc (fun _ => by
    cases hb : b with
    | true => exact h1 hb
    | false => exact h2 hb)
theorem Ct.pre {g : FuncId} {vs : List Value} {C0 : List Ch} {ι : Type} {ret : ι → Value} {R' C' : ι → List Ch} (h : Ct P g vs W0 X R C0 ι ret R' C') (hp : C.Perm C0) : Ct P g vs W0 X R C ι ret R' C' := fun w hw => h w (hw.perm hp)
theorem PredS.isFunc {zs : List Value} {p : Value → Bool} {y : Value} {RF : List Ch} (h : PredS P zs p y RF) : ∃ f a b, y = .func f a b := let ⟨_, _, h1, _⟩ := h; ⟨_, _, _, h1⟩
theorem FunS.isFunc {zs : List Value} {G : Value → Value} {y : Value} {RF : List Ch} (h : FunS P zs G y RF) : ∃ f a b, y = .func f a b := let ⟨_, _, h1, _⟩ := h; ⟨_, _, _, h1⟩
theorem ItS.isFn {V : α → List Value → Prop} {D : α → List Value → List Ch} {S : List α → List Ch} {xs : List α} {s : Value} {RS : List Ch} (h : ItS P V D S xs s RS) : ∃ f a b, s = .func f a b := let ⟨_, _, h1, _⟩ := h; ⟨_, _, _, h1⟩
end calls
theorem vof_func {P : Program} {T : TypeId} {s : Value} (hT : oneT P T = true) (h : ∃ f a b, s = .func f a b) : VOf P T s := by obtain ⟨f, a, b, rfl⟩ := h; exact vof1 hT rfl rfl
theorem vof_slice {P : Program} {T : TypeId} {s : Value} (hT : oneT P T = true) (h : ∃ a b c, s = .slice a b c) : VOf P T s := by obtain ⟨f, a, b, rfl⟩ := h; exact vof1 hT rfl rfl

/-! ### results that lie in memory -/
section res
variable {P : Program} {fn : Func} {n : Nat} {l : List (Nat × Value)} {d : List Deferred} {W0 : World} {X : Nat → Prop} {R C : List Ch} {v u : Value} {a : Act} {w : World}
theorem res_cell {p B : Nat} {T T' : TypeId} (h : fn.results = #[.cell p T]) (hp : lk p l = some (ptr B)) (hm : BoxC B T' v ∈ C) (hv : VOf P T v) (ha : Kn n l d a) (hw : St W0 X R C w) : (results fn a.tmps).run P w = .ok v w := by
  obtain ⟨_, hb⟩ := hw.hasC hm
  exact results_box1 h (by have := ha.at_ p _ hp; simp [this, ptr]) hb.1 hv
theorem res_cell2 {p q B B2 : Nat} {T T' U U' : TypeId} (h : fn.results = #[.cell p T, .cell q U]) (hp : lk p l = some (ptr B)) (hq : lk q l = some (ptr B2)) (hm : BoxC B T' v ∈ C) (hm2 : BoxC B2 U' u ∈ C) (hv : VOf P T v) (hu : VOf P U u) (ha : Kn n l d a) (hw : St W0 X R C w) : (results fn a.tmps).run P w = .ok (.tuple #[v, u]) w := by
  obtain ⟨_, hb⟩ := hw.hasC hm
  obtain ⟨_, hb2⟩ := hw.hasC hm2
  exact results_box2 h (by have := ha.at_ p _ hp; simp [this, ptr]) (by have := ha.at_ q _ hq; simp [this, ptr]) hb.1 hb2.1 hv hu
theorem res_cell_tmp {p q B : Nat} {T T' : TypeId} (h : fn.results = #[.cell p T, .tmp q]) (hp : lk p l = some (ptr B)) (hq : lk q l = some u) (hm : BoxC B T' v ∈ C) (hv : VOf P T v) (ha : Kn n l d a) (hw : St W0 X R C w) : (results fn a.tmps).run P w = .ok (.tuple #[v, u]) w := by
  obtain ⟨_, hb⟩ := hw.hasC hm
  exact results_box_tmp h (by have := ha.at_ p _ hp; simp [this, ptr]) (by have := ha.at_ q _ hq; simp [this]) hb.1 hv
end res
end Go.Proofs.YtinofjenoapeaaaGreat
end
