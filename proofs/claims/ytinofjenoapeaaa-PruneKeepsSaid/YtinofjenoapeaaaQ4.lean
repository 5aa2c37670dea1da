/- Words of this claim's own, over any program: iterator values and predicate values, and what they stand on. No condition. -/
import Derived.Test.YtinofjenoapeaaaQ3
namespace Go.Proofs.Ytinofjenoapeaaa
open Go.RowKit Go.Shelf
set_option linter.unusedSimpArgs false
set_option linter.unusedVariables false

/-- What slices.Values' iterator stands on: its box and the slice's own row. -/
def valFp (Bs : Nat) (sv : Value) : Nat → Prop := fun k => k = Bs ∨ sliceBlk sv k

/-- s is an iterator value that gives xs, standing on the blocks Fp, which lie in w. -/
def IsSeq (P : Program) (xs : List Value) (Fp : Nat → Prop) (w : World) (s : Value) : Prop :=
  ∃ g lb, s = .func (.func g) #[] lb ∧ Enters P g ∧ SeqOf P (fun v => #[v]) xs Fp w g lb ∧ ∀ k, Fp k → k < w.heap.size

/-- f is a function value that tells p of each of xs, standing on the blocks Fp. -/
def IsPred (P : Program) (xs : List Value) (p : Value → Bool) (Fp : Nat → Prop) (w : World) (f : Value) : Prop :=
  ∃ g lb, f = .func (.func g) #[] lb ∧ Enters P g ∧ (∀ k, Fp k → k < w.heap.size) ∧ ∀ W, (∀ k, Fp k → k < W.heap.size ∧ W.heap[k]? = w.heap[k]?) → ∀ x ∈ xs,
    Calls P g (#[x] ++ lb) W (fun e B => e = .returned (.bool (p x)) ∧ Below W.heap.size W B)

theorem IsSeq.later {P : Program} {xs : List Value} {Fp : Nat → Prop} {w w' : World} {s : Value} (h : IsSeq P xs Fp w s) (hw : Below w.heap.size w w') : IsSeq P xs Fp w' s := by
  obtain ⟨g, lb, rfl, eg, hs, hf⟩ := h
  exact ⟨g, lb, rfl, eg, hs.later (fun k hk => hw.block k (hf k hk)), fun k hk => Nat.lt_of_lt_of_le (hf k hk) hw.size⟩
theorem IsSeq.mono {P : Program} {xs : List Value} {Fp Fp' : Nat → Prop} {w : World} {s : Value} (h : IsSeq P xs Fp w s) (hk : ∀ k, Fp k → Fp' k) (hf' : ∀ k, Fp' k → k < w.heap.size) : IsSeq P xs Fp' w s := by
  obtain ⟨g, lb, rfl, eg, hs, hf⟩ := h
  exact ⟨g, lb, rfl, eg, hs.mono hk, hf'⟩
theorem IsPred.later {P : Program} {xs : List Value} {p : Value → Bool} {Fp : Nat → Prop} {w w' : World} {f : Value} (h : IsPred P xs p Fp w f) (hw : Below w.heap.size w w') : IsPred P xs p Fp w' f := by
  obtain ⟨g, lb, rfl, eg, hf, hs⟩ := h
  exact ⟨g, lb, rfl, eg, fun k hk => Nat.lt_of_lt_of_le (hf k hk) hw.size, fun W hW => hs W (fun k hk => ⟨(hW k hk).1, (hW k hk).2.trans (hw.block k (hf k hk))⟩)⟩

/-- One-celled values of types that are no aggregate. -/
theorem vof_one {P : Program} {T : TypeId} {v : Value} {d : TypeDesc} (hu : P.underlying T = some d) (hd : d.isRow = false) (hs : (P.info? T).map (·.size) = some 1) (hc : cv v = #[v]) (h1 : v.oneCell' = true) : VOf P T v :=
  ⟨by rw [hc]; simp [h1], by rw [hc]; exact hs, .inr ⟨d, hu, hd, hc⟩⟩

/-! ### a function value held against nil -/
theorem run_equal_func_nil {P : Program} {T : TypeId} {a b : Array TypeId} {c : Bool} (hu : P.underlying T = some (.func a b c)) (f : Fn) (x y : Array Value) (w : World) : (Op.equal T (.func f x y) .nilFunc).run P w = .ok false w := by
  unfold Op.equal Op.maxDepth
  rw [Op.equalIn]
  simp [Sem.run_bind, run_underlying hu, Result.andThen]
theorem run_equal_nil_nil {P : Program} {T : TypeId} {a b : Array TypeId} {c : Bool} (hu : P.underlying T = some (.func a b c)) (w : World) : (Op.equal T .nilFunc .nilFunc).run P w = .ok true w := by
  unfold Op.equal Op.maxDepth
  rw [Op.equalIn]
  simp [Sem.run_bind, run_underlying hu, Result.andThen]
theorem run_eql_func_nil {P : Program} {T : TypeId} {a b : Array TypeId} {c : Bool} (hu : P.underlying T = some (.func a b c)) (f : Fn) (x y : Array Value) (w : World) : (binOp .eql T (.func f x y) .nilFunc).run P w = .ok (.bool false) w := by
  simp [binOp, Sem.run_bind, run_equal_func_nil hu, Result.andThen]
theorem run_neq_func_nil {P : Program} {T : TypeId} {a b : Array TypeId} {c : Bool} (hu : P.underlying T = some (.func a b c)) (f : Fn) (x y : Array Value) (w : World) : (binOp .neq T (.func f x y) .nilFunc).run P w = .ok (.bool true) w := by
  simp [binOp, Sem.run_bind, run_equal_func_nil hu, Result.andThen]
theorem run_eql_nil_nil {P : Program} {T : TypeId} {a b : Array TypeId} {c : Bool} (hu : P.underlying T = some (.func a b c)) (w : World) : (binOp .eql T .nilFunc .nilFunc).run P w = .ok (.bool true) w := by
  simp [binOp, Sem.run_bind, run_equal_nil_nil hu, Result.andThen]
theorem run_neq_nil_nil {P : Program} {T : TypeId} {a b : Array TypeId} {c : Bool} (hu : P.underlying T = some (.func a b c)) (w : World) : (binOp .neq T .nilFunc .nilFunc).run P w = .ok (.bool false) w := by
  simp [binOp, Sem.run_bind, run_equal_nil_nil hu, Result.andThen]

/-! ### a slice's cells, one behind the other -/
theorem flat_split {α : Type} {k : Nat} : ∀ (ls : List (List α)), (∀ l ∈ ls, l.length = k) → ∀ (j : Nat) (u : α), ls.flatten[j]? = some u → ∃ i r l, j = i * k + r ∧ ls[i]? = some l ∧ l[r]? = some u
  | [], _, j, u, h => by simp at h
  | l :: ls, hk, j, u, h => by
    have hl : l.length = k := hk l (by simp)
    rw [List.flatten_cons] at h
    by_cases hj : j < l.length
    · rw [List.getElem?_append_left hj] at h
      exact ⟨0, j, l, by simp, by simp, h⟩
    · rw [List.getElem?_append_right (by omega)] at h
      obtain ⟨i, r, l', e, h1, h2⟩ := flat_split ls (fun l' h' => hk l' (by simp [h'])) _ u h
      exact ⟨i + 1, r, l', by rw [Nat.succ_mul]; omega, by simpa using h1, h2⟩
theorem flat_at {α : Type} {k : Nat} : ∀ (ls : List (List α)), (∀ l ∈ ls, l.length = k) → ∀ (i r : Nat) (l : List α) (u : α), ls[i]? = some l → l[r]? = some u → ls.flatten[i * k + r]? = some u
  | [], _, i, r, l, u, h, _ => by simp at h
  | l :: ls, hk, i, r, l', u, h, hu => by
    have hl : l.length = k := hk l (by simp)
    rw [List.flatten_cons]
    cases i with
    | zero =>
      simp at h; subst h
      rw [List.getElem?_append_left (by have := (List.getElem?_eq_some_iff.1 hu).1; omega)]
      simpa using hu
    | succ i =>
      rw [List.getElem?_append_right (by rw [Nat.succ_mul]; omega)]
      have := flat_at ls (fun l' h' => hk l' (by simp [h'])) i r l' u (by simpa using h) hu
      rw [← this]; congr 1; rw [Nat.succ_mul]; omega
theorem flat_len {α : Type} {k : Nat} : ∀ (ls : List (List α)), (∀ l ∈ ls, l.length = k) → ls.flatten.length = ls.length * k
  | [], _ => by simp
  | l :: ls, hk => by
    rw [List.flatten_cons, List.length_append, flat_len ls (fun l' h' => hk l' (by simp [h'])), hk l (by simp), List.length_cons, Nat.succ_mul]; omega

/-- All cells of a list of values. -/
def cellsOf (xs : List Value) : List Value := (xs.map fun x => (cv x).toList).flatten
theorem cellsOf_len {k : Nat} {xs : List Value} (hk : ∀ x ∈ xs, (cv x).size = k) : (cellsOf xs).length = xs.length * k := by
  unfold cellsOf
  rw [flat_len (k := k) _ (fun l hl => by obtain ⟨x, hx, rfl⟩ := List.mem_map.1 hl; simpa using hk x hx)]; simp
theorem SliceAt.cells {w : World} {k : Nat} {xs : List Value} (hk : ∀ x ∈ xs, (cv x).size = k) {ad : Addr} {n c : Nat} (h : SliceAt w k (.slice (some ad) n c) xs) : ∀ j u, (cellsOf xs)[j]? = some u → w.cell? (ad.add j) = some u := by
  intro j u hu
  obtain ⟨i, r, l, rfl, h1, h2⟩ := flat_split (k := k) _ (fun l hl => by obtain ⟨x, hx, rfl⟩ := List.mem_map.1 hl; simpa using hk x hx) j u hu
  obtain ⟨A, c', hv, hc, hA, hx⟩ := h
  simp only [List.getElem?_map, Option.map_eq_some_iff] at h1
  obtain ⟨x, hxi, rfl⟩ := h1
  obtain ⟨b, o, e, hr⟩ := hx i x hxi
  injection hv with e1 e2 e3
  rw [← e1] at e; cases e
  rw [Addr.add_mid]
  have := hr r u h2
  rw [← this, Nat.add_assoc]
theorem SliceAt.of_owns {w : World} {base k : Nat} {e : TypeId} {v : Value} {n : Nat} {xs : List Value} (hk : ∀ x ∈ xs, (cv x).size = k) (h : w.ownsRow base e k v n (cellsOf xs)) (hn : n = xs.length) (hnil : v = .slice none 0 0 → xs = []) : SliceAt w k v xs := by
  rcases h.2 with ⟨rfl, h0⟩ | ⟨g, cap, cur, rfl, hb, hg, hle, hm, hsz, htk⟩
  · obtain rfl : xs = [] := hnil rfl
    exact ⟨none, 0, rfl, Nat.le_refl _, fun _ => rfl, fun i x hx => by simp at hx⟩
  · refine ⟨some ⟨g, 0, none⟩, cap, by rw [hn], by omega, (fun h => by cases h), fun i x hx => ⟨g, 0, rfl, ?_⟩⟩
    intro r u hu
    have h1 := flat_at (k := k) (xs.map fun x => (cv x).toList) (fun l hl => by obtain ⟨x, hx, rfl⟩ := List.mem_map.1 hl; simpa using hk x hx) i r (cv x).toList u (by simp [hx]) hu
    rw [cell_of_row w g _ cur e _ hg, ← Array.getElem?_toList]
    rw [show (xs.map fun x => (cv x).toList).flatten = cellsOf xs from rfl, ← htk, List.getElem?_take] at h1
    rw [show 0 + i * k + r = i * k + r by omega]
    split at h1
    · exact h1
    · cases h1
theorem sliceBlk_owns {w : World} {base k n : Nat} {e : TypeId} {v : Value} {xs : List Value} (h : w.ownsRow base e k v n xs) : ∀ b, sliceBlk v b → base ≤ b ∧ b < w.heap.size := by
  intro b hb
  rcases h.2 with ⟨rfl, h0⟩ | ⟨g, cap, cur, rfl, hgb, hg, _⟩
  · exact hb.elim
  · obtain rfl : g = b := hb
    exact ⟨hgb, (Array.getElem?_eq_some_iff.1 hg).1⟩
theorem SliceAt.nil {w : World} {k : Nat} {n c : Nat} {xs : List Value} (h : SliceAt w k (.slice none n c) xs) : xs = [] ∧ n = 0 ∧ c = 0 := by
  obtain ⟨A, c', hv, hc, hA, hx⟩ := h
  injection hv with e1 e2 e3
  have := hA e1.symm
  subst e3 e2
  exact ⟨List.eq_nil_of_length_eq_zero (by omega), by omega, this⟩

/-- What an iterator does that is called with a function that turns one variable alone, and always goes on. -/
theorem IsSeq.drive {P : Program} {xs : List Value} {Fp : Nat → Prop} {w : World} {s : Value} (h : IsSeq P xs Fp w s) (N c : Nat) (hN : ¬ Fp N) (hlt : N < w.heap.size) (ec : Enters P c) (G : List Value → World → Prop)
    (hG : ∀ pre A B, G pre A → A.heap.size ≤ B.heap.size → B.heap[N]? = A.heap[N]? → G pre B)
    (hc : ∀ pre x post A, xs = pre ++ x :: post → w.heap.size ≤ A.heap.size → G pre A → Calls P c #[x, .pointer (some ⟨N, 0, none⟩)] A (fun e B => e = .returned (.bool true) ∧ G (pre ++ [x]) B ∧ Touch (fun k => k = N) A B)) (h0 : G [] w) :
    ∃ g lb, s = .func (.func g) #[] lb ∧ Enters P g ∧ Calls P g (#[.func (.func c) #[] #[.pointer (some ⟨N, 0, none⟩)]] ++ lb) w (fun e B => e = .returned (.tuple #[]) ∧ G xs B ∧ Touch (fun k => k = N) w B) := by
  obtain ⟨g, lb, rfl, eg, hs, hf⟩ := h
  refine ⟨g, lb, rfl, eg, ?_⟩
  refine (hs w (.func (.func c) #[] #[.pointer (some ⟨N, 0, none⟩)]) (fun pre O A => G pre A ∧ O N ∧ (∀ k, O k → k = N) ∧ Touch (fun k => k = N) w A) (fun _ _ _ => False) (fun k => k = N) (fun k hk => ⟨hf k hk, rfl⟩) (fun k hk => ⟨hk ▸ hlt, hk ▸ hN⟩) ?_ (fun _ _ _ _ h _ => h) ?_ ⟨h0, rfl, fun _ h => h, Touch.refl _ _⟩).mono ?_
  · rintro pre O A B ⟨h1, h2, h3, h4⟩ ht
    exact ⟨hG pre A B h1 ht.size (ht.block N (Nat.lt_of_lt_of_le hlt h4.size) (fun h => h.2 h2)), h2, h3, h4.transW ht (fun _ _ h => h) (fun i hi h => by omega)⟩
  · rintro pre x post A O' hx ⟨h1, h2, h3, h4⟩
    refine .inr ⟨c, _, rfl, ec, (hc pre x post A hx h4.size h1).mono ?_⟩
    rintro e B ⟨rfl, hg, ht⟩
    exact .inl ⟨rfl, O', ⟨hg, h2, h3, h4.trans ht⟩, ht.mono (fun i _ h => h ▸ h2), fun k hk => ⟨.inl hk, by rw [h3 k hk]; exact Nat.lt_of_lt_of_le hlt (Nat.le_trans h4.size ht.size)⟩⟩
  · rintro e B ⟨rfl, (⟨O', h1, h2, h3, h4⟩ | ⟨_, h⟩)⟩
    · exact ⟨rfl, h1, h4⟩
    · exact h.elim
/-- A block that holds a list's cells, read as a slice. -/
theorem SliceAt.of_block {w : World} {k B : Nat} {T : TypeId} {xs : List Value} {c : Nat} {row : Nat × Nat} (hk : ∀ x ∈ xs, (cv x).size = k) (h : w.heap[B]? = some (.cells (cellsOf xs).toArray T row)) (hc : xs.length ≤ c) : SliceAt w k (.slice (some ⟨B, 0, none⟩) xs.length c) xs := by
  refine ⟨some ⟨B, 0, none⟩, c, rfl, hc, (fun h => by cases h), fun i x hx => ⟨B, 0, rfl, ?_⟩⟩
  intro r u hu
  have h1 := flat_at (k := k) (xs.map fun x => (cv x).toList) (fun l hl => by obtain ⟨x, hx, rfl⟩ := List.mem_map.1 hl; simpa using hk x hx) i r (cv x).toList u (by simp [hx]) hu
  rw [cell_of_row w B _ _ T row h]
  rw [show 0 + i * k + r = i * k + r by omega]
  simpa [cellsOf] using h1

end Go.Proofs.Ytinofjenoapeaaa
