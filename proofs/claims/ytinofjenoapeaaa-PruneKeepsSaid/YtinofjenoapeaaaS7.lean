/- Rules of this claim's own, over any program: bits, strings, conversions; plain: a list's runs. No condition. -/
import Derived.Test.YtinofjenoapeaaaS6
namespace Go.Proofs.Ytinofjenoapeaaa
open Go.RowKit Go.Shelf
set_option linter.unusedSimpArgs false
set_option linter.unusedVariables false
section yl
variable {P : Program} {G : World → Prop} {n : Nat} {l : List (Nat × Value)} {d : List Deferred} {o : Oper}
theorem yl_and {T T2 : TypeId} {x y : Operand} {k : IntKind} {i j : Int} (ho : o.op = .binOp .and T x y T2) (hx : ev l x = some (.int k i)) (hy : ev l y = some (.int k j)) : Yl P G n l d o (.int k (bits .and k i j)) := yl_int ho hx hy (fun w => by simp [binOp, intBits_and])
theorem yl_or {T T2 : TypeId} {x y : Operand} {k : IntKind} {i j : Int} (ho : o.op = .binOp .or T x y T2) (hx : ev l x = some (.int k i)) (hy : ev l y = some (.int k j)) : Yl P G n l d o (.int k (bits .or k i j)) := yl_int ho hx hy (fun w => by simp [binOp, intBits_or])
theorem yl_xor {T T2 : TypeId} {x y : Operand} {k : IntKind} {i j : Int} (ho : o.op = .binOp .xor T x y T2) (hx : ev l x = some (.int k i)) (hy : ev l y = some (.int k j)) : Yl P G n l d o (.int k (bits .xor k i j)) := yl_int ho hx hy (fun w => by simp [binOp, intBits_xor])
def isIT (P : Program) (T : TypeId) (k : IntKind) : Bool := match P.underlying T with | some (.int k') => k' == k | _ => false
def hasU (P : Program) (T : TypeId) : Bool := (P.underlying T).isSome
theorem yl_conv_w {S T : TypeId} {x : Operand} {k k' : IntKind} {i : Int} (ho : o.op = .convert S T x) (hx : ev l x = some (.int k' i)) (hS : hasU P S = true) (hT : isIT P T k = true) : Yl P G n l d o (.int k (k.wrap i)) := yl_conv ho hx (fun w => by
  unfold isIT at hT
  split at hT
  · rename_i k2 hu
    obtain rfl : k2 = k := by simpa using hT
    unfold hasU at hS
    obtain ⟨t, ht⟩ := Option.isSome_iff_exists.1 hS
    simp [convert, Sem.run_bind, run_underlying ht, run_underlying hu, Result.andThen, Conv.intToInt]
  · cases hT)
theorem yl_conv_i {S T : TypeId} {x : Operand} {k' : IntKind} {i : Int} (ho : o.op = .convert S T x) (hx : ev l x = some (.int k' i)) (hS : hasU P S = true) (hT : isIT P T .i64 = true) (hb : -9223372036854775808 ≤ i ∧ i ≤ 9223372036854775807) : Yl P G n l d o (.int .i64 i) := by
  have := yl_conv_w (k := .i64) (G := G) (d := d) (n := n) ho hx hS hT
  rwa [IntWalk.i64_in _ hb] at this
theorem yl_conv_u8 {S T : TypeId} {x : Operand} {k' : IntKind} {i : Int} (ho : o.op = .convert S T x) (hx : ev l x = some (.int k' i)) (hS : hasU P S = true) (hT : isIT P T .u8 = true) (hb : 0 ≤ i ∧ i < 256) : Yl P G n l d o (.int .u8 i) := by
  have := yl_conv_w (k := .u8) (G := G) (d := d) (n := n) ho hx hS hT
  have e : IntKind.u8.wrap i = i := by simp [IntKind.wrap, IntKind.signed, IntKind.bits]; omega
  rwa [e] at this
theorem yl_conv_u16 {S T : TypeId} {x : Operand} {k' : IntKind} {i : Int} (ho : o.op = .convert S T x) (hx : ev l x = some (.int k' i)) (hS : hasU P S = true) (hT : isIT P T .u16 = true) (hb : 0 ≤ i ∧ i < 65536) : Yl P G n l d o (.int .u16 i) := by
  have := yl_conv_w (k := .u16) (G := G) (d := d) (n := n) ho hx hS hT
  have e : IntKind.u16.wrap i = i := by simp [IntKind.wrap, IntKind.signed, IntKind.bits]; omega
  rwa [e] at this
theorem yl_conv_u32 {S T : TypeId} {x : Operand} {k' : IntKind} {i : Int} (ho : o.op = .convert S T x) (hx : ev l x = some (.int k' i)) (hS : hasU P S = true) (hT : isIT P T .u32 = true) (hb : 0 ≤ i ∧ i < 4294967296) : Yl P G n l d o (.int .u32 i) := by
  have := yl_conv_w (k := .u32) (G := G) (d := d) (n := n) ho hx hS hT
  have e : IntKind.u32.wrap i = i := by simp [IntKind.wrap, IntKind.signed, IntKind.bits]; omega
  rwa [e] at this
theorem yl_conv_u64 {S T : TypeId} {x : Operand} {k' : IntKind} {i : Int} (ho : o.op = .convert S T x) (hx : ev l x = some (.int k' i)) (hS : hasU P S = true) (hT : isIT P T .u64 = true) (hb : 0 ≤ i ∧ i < 18446744073709551616) : Yl P G n l d o (.int .u64 i) := by
  have := yl_conv_w (k := .u64) (G := G) (d := d) (n := n) ho hx hS hT
  have e : IntKind.u64.wrap i = i := by simp [IntKind.wrap, IntKind.signed, IntKind.bits]; omega
  rwa [e] at this
theorem yc_eql_str {T T2 : TypeId} {x y : Operand} {i j : ByteArray} (ho : o.op = .binOp .eql T x y T2) (hx : ev l x = some (.string i)) (hy : ev l y = some (.string j)) : Yc P G n l d o (i.toList = j.toList) (.bool true) (.bool false) :=
  ⟨fun hc => yl_bin ho hx hy (fun w => by have hg : (eqGuard .eql T x y (.string i) (.string j)).run P w = .ok () w := by { unfold eqGuard; simp }
                                          simp [Sem.run_bind, hg, binOp, Op.stringOp, hc, Result.andThen]),
   fun hc => yl_bin ho hx hy (fun w => by have hg : (eqGuard .eql T x y (.string i) (.string j)).run P w = .ok () w := by { unfold eqGuard; simp }
                                          simp [Sem.run_bind, hg, binOp, Op.stringOp, hc, Result.andThen])⟩
theorem yc_neq_str {T T2 : TypeId} {x y : Operand} {i j : ByteArray} (ho : o.op = .binOp .neq T x y T2) (hx : ev l x = some (.string i)) (hy : ev l y = some (.string j)) : Yc P G n l d o (i.toList = j.toList) (.bool false) (.bool true) :=
  ⟨fun hc => yl_bin ho hx hy (fun w => by have hg : (eqGuard .neq T x y (.string i) (.string j)).run P w = .ok () w := by { unfold eqGuard; simp }
                                          simp [Sem.run_bind, hg, binOp, Op.stringOp, hc, Result.andThen]),
   fun hc => yl_bin ho hx hy (fun w => by have hg : (eqGuard .neq T x y (.string i) (.string j)).run P w = .ok () w := by { unfold eqGuard; simp }
                                          simp [Sem.run_bind, hg, binOp, Op.stringOp, hc, Result.andThen])⟩
def isStT (P : Program) (T : TypeId) : Bool := match P.underlying T with | some .string => true | _ => false
theorem yl_len_str {x : Operand} {T : TypeId} {s : ByteArray} (ho : o.op = Op.call { callee := Callee.builtin Builtin.len, args := #[x], argTypes := #[T] }) (hx : ev l x = some (.string s)) (hT : isStT P T = true) : Yl P G n l d o (.int .i64 (s.size : Int)) := ⟨(fun c => by rw [ho]; exact (fun h => by cases h)), (fun a w ha hw => by
    unfold isStT at hT
    split at hT
    · rename_i hu
      simp [execOp, ho, resolve, invoke, builtin, ha.eval hx, Builtin.len_, run_underlying hu, Sem.run_bind, Result.andThen, goInt]
    · cases hT)⟩
end yl
/-! ### small facts that find themselves -/
section auto
variable {W0 : World} {X : Nat → Prop} {R C Kc Kr E A B : List Ch} {G : World → Prop} {c c' : Ch} {k : Nat} {v : Value} {xs : List Value} {P : Program} {T : TypeId} {l l' : List (Nat × Value)}
theorem a_mem (h : c ∈ C := by (first | with_reducible assumption | ((repeat (first | with_reducible exact List.mem_cons_self | with_reducible refine List.mem_cons_of_mem _ ?_)); (try with_reducible assumption); fail_if_success (focus skip)))) : c ∈ C := h
theorem a_has (h : Has G c := by (first | with_reducible exact Has.c (by (first | with_reducible assumption | ((repeat (first | with_reducible exact List.mem_cons_self | with_reducible refine List.mem_cons_of_mem _ ?_)); (try with_reducible assumption); fail_if_success (focus skip)))) | with_reducible exact Has.r (by (first | with_reducible assumption | ((repeat (first | with_reducible exact List.mem_cons_self | with_reducible refine List.mem_cons_of_mem _ ?_)); (try with_reducible assumption); fail_if_success (focus skip)))) | with_reducible exact Has.kc (by (first | with_reducible assumption | ((repeat (first | with_reducible exact List.mem_cons_self | with_reducible refine List.mem_cons_of_mem _ ?_)); (try with_reducible assumption); fail_if_success (focus skip)))) | with_reducible exact Has.kr (by (first | with_reducible assumption | ((repeat (first | with_reducible exact List.mem_cons_self | with_reducible refine List.mem_cons_of_mem _ ?_)); (try with_reducible assumption); fail_if_success (focus skip)))))) : Has G c := h
theorem a_sl (h : Rdg G k v xs := by (first | with_reducible exact Has.row (Has.c (by (first | with_reducible assumption | ((repeat (first | with_reducible exact List.mem_cons_self | with_reducible refine List.mem_cons_of_mem _ ?_)); (try with_reducible assumption); fail_if_success (focus skip))))) | with_reducible exact Has.sl (Has.r (by (first | with_reducible assumption | ((repeat (first | with_reducible exact List.mem_cons_self | with_reducible refine List.mem_cons_of_mem _ ?_)); (try with_reducible assumption); fail_if_success (focus skip))))) | with_reducible exact Has.row (Has.kc (by (first | with_reducible assumption | ((repeat (first | with_reducible exact List.mem_cons_self | with_reducible refine List.mem_cons_of_mem _ ?_)); (try with_reducible assumption); fail_if_success (focus skip))))) | with_reducible exact Has.sl (Has.kr (by (first | with_reducible assumption | ((repeat (first | with_reducible exact List.mem_cons_self | with_reducible refine List.mem_cons_of_mem _ ?_)); (try with_reducible assumption); fail_if_success (focus skip))))) | with_reducible exact Has.sl (Has.c (by (first | with_reducible assumption | ((repeat (first | with_reducible exact List.mem_cons_self | with_reducible refine List.mem_cons_of_mem _ ?_)); (try with_reducible assumption); fail_if_success (focus skip))))) | with_reducible exact Has.sl (Has.kc (by (first | with_reducible assumption | ((repeat (first | with_reducible exact List.mem_cons_self | with_reducible refine List.mem_cons_of_mem _ ?_)); (try with_reducible assumption); fail_if_success (focus skip))))) | with_reducible exact Has.row (Has.r (by (first | with_reducible assumption | ((repeat (first | with_reducible exact List.mem_cons_self | with_reducible refine List.mem_cons_of_mem _ ?_)); (try with_reducible assumption); fail_if_success (focus skip))))) | with_reducible exact Has.row (Has.kr (by (first | with_reducible assumption | ((repeat (first | with_reducible exact List.mem_cons_self | with_reducible refine List.mem_cons_of_mem _ ?_)); (try with_reducible assumption); fail_if_success (focus skip))))))) : Rdg G k v xs := h
theorem a_vof (h : VOf P T v := by (first | with_reducible assumption | exact vof1 (by kernel_rfl) rfl rfl | exact vofkr rfl (by kernel_rfl) rfl rfl)) : VOf P T v := h
theorem a_turn (h : Turn C c c' E := by ((repeat (first | exact Turn.here | apply Turn.there)); fail_if_success (focus skip))) : Turn C c c' E := h
theorem a_pick (h : Pick C c E := by ((repeat (first | exact Pick.here | apply Pick.there)); fail_if_success (focus skip))) : Pick C c E := h
theorem a_holds (h : Holds C E := by ((repeat (first | exact Holds.rest | exact Holds.nil | refine Holds.cons (by ((repeat (first | exact Pick.here | apply Pick.there)); fail_if_success (focus skip))) ?_ | refine Holds.skip ?_)); fail_if_success (focus skip))) : Holds C E := h
theorem a_holds2 (h : Holds C E := by (try simp only [List.map_nil, List.map_cons, List.nil_append, List.cons_append, itC, Nat.add_zero]); ((repeat (first | exact Holds.rest | exact Holds.nil | refine Holds.cons (by ((repeat (first | exact Pick.here | apply Pick.there)); fail_if_success (focus skip))) ?_ | refine Holds.skip ?_)); fail_if_success (focus skip))) : Holds C E := h
theorem a_sub (h : ∀ j v, lk j l' = some v → lk j l = some v := by ((repeat (first | exact sub_nil | refine sub_cons rfl ?_)); fail_if_success (focus skip))) : ∀ j v, lk j l' = some v → lk j l = some v := h
theorem a_subR (h : ∀ r ∈ A, r ∈ B := by ((repeat' (first | with_reducible assumption | exact (fun _ h => h) | exact all_nil | refine all_cons ?_ ?_ | with_reducible refine all_app ?_ ?_ | with_reducible refine sub_tail ?_ | (first | with_reducible assumption | ((repeat (first | with_reducible exact List.mem_cons_self | with_reducible refine List.mem_cons_of_mem _ ?_)); (try with_reducible assumption); fail_if_success (focus skip))))); fail_if_success (focus skip))) : ∀ r ∈ A, r ∈ B := h
theorem a_allK (h : Sub2 Kc Kr C R := by (first | exact sub2_same | exact sub2_mk (fun c hc => by (first | with_reducible assumption | ((repeat (first | with_reducible exact List.mem_cons_self | with_reducible refine List.mem_cons_of_mem _ ?_)); (try with_reducible assumption); fail_if_success (focus skip)))) (fun c hc => by (first | with_reducible assumption | ((repeat (first | with_reducible exact List.mem_cons_self | with_reducible refine List.mem_cons_of_mem _ ?_)); (try with_reducible assumption); fail_if_success (focus skip)))) | exact sub2_mk (by ((repeat' (first | with_reducible assumption | exact (fun _ h => h) | exact all_nil | refine all_cons ?_ ?_ | with_reducible refine all_app ?_ ?_ | with_reducible refine sub_tail ?_ | (first | with_reducible assumption | ((repeat (first | with_reducible exact List.mem_cons_self | with_reducible refine List.mem_cons_of_mem _ ?_)); (try with_reducible assumption); fail_if_success (focus skip))))); fail_if_success (focus skip))) (by ((repeat' (first | with_reducible assumption | exact (fun _ h => h) | exact all_nil | refine all_cons ?_ ?_ | with_reducible refine all_app ?_ ?_ | with_reducible refine sub_tail ?_ | (first | with_reducible assumption | ((repeat (first | with_reducible exact List.mem_cons_self | with_reducible refine List.mem_cons_of_mem _ ?_)); (try with_reducible assumption); fail_if_success (focus skip))))); fail_if_success (focus skip))) | exact ⟨by ((repeat' (first | exact all_nil | refine all_cons ?_ ?_ | exact .inl (by (first | with_reducible assumption | ((repeat (first | with_reducible exact List.mem_cons_self | with_reducible refine List.mem_cons_of_mem _ ?_)); (try with_reducible assumption); fail_if_success (focus skip)))) | exact .inr (by (first | with_reducible assumption | ((repeat (first | with_reducible exact List.mem_cons_self | with_reducible refine List.mem_cons_of_mem _ ?_)); (try with_reducible assumption); fail_if_success (focus skip)))))); fail_if_success (focus skip)), by ((repeat' (first | exact all_nil | refine all_cons ?_ ?_ | exact .inl (by (first | with_reducible assumption | ((repeat (first | with_reducible exact List.mem_cons_self | with_reducible refine List.mem_cons_of_mem _ ?_)); (try with_reducible assumption); fail_if_success (focus skip)))) | exact .inr (by (first | with_reducible assumption | ((repeat (first | with_reducible exact List.mem_cons_self | with_reducible refine List.mem_cons_of_mem _ ?_)); (try with_reducible assumption); fail_if_success (focus skip)))) | (intro c hc; exact .inr (by (first | with_reducible assumption | ((repeat (first | with_reducible exact List.mem_cons_self | with_reducible refine List.mem_cons_of_mem _ ?_)); (try with_reducible assumption); fail_if_success (focus skip))))))); fail_if_success (focus skip))⟩)) : Sub2 Kc Kr C R := h
end auto
/-- What is held against nil, or is told by two bools. -/
def cmpV (b : BinOp) : Value → Value → Option (Nat × Bool)
  | .func _ _ _, .nilFunc => match b with | .eql => some (0, false) | .neq => some (0, true) | _ => none
  | .nilFunc, .nilFunc => match b with | .eql => some (0, true) | .neq => some (0, false) | _ => none
  | .pointer (some _), .pointer none => match b with | .eql => some (1, false) | .neq => some (1, true) | _ => none
  | .pointer none, .pointer none => match b with | .eql => some (1, true) | .neq => some (1, false) | _ => none
  | .slice (some _) _ _, .slice none 0 0 => match b with | .eql => some (2, false) | .neq => some (2, true) | _ => none
  | .slice none _ _, .slice none 0 0 => match b with | .eql => some (2, true) | .neq => some (2, false) | _ => none
  | .bool b1, .bool b2 => match b with | .eql => some (3, b1 == b2) | .neq => some (3, !(b1 == b2)) | _ => none
  | _, _ => none
def clsT (P : Program) (T : TypeId) : Nat → Bool
  | 0 => isFnT P T
  | 1 => isPtT P T
  | 2 => isSlT P T
  | _ => isBoT P T
section cmp
variable {P : Program} {G : World → Prop} {n : Nat} {l : List (Nat × Value)} {d : List Deferred} {o : Oper}
theorem yl_cmp {b : BinOp} {T T2 : TypeId} {x y : Operand} {u1 u2 : Value} {q : Nat} {r : Bool} (ho : o.op = .binOp b T x y T2) (hx : ev l x = some u1) (hy : ev l y = some u2) (hr : cmpV b u1 u2 = some (q, r)) (hT : clsT P T q = true) : Yl P G n l d o (.bool r) := by
  unfold cmpV at hr
  split at hr <;> first | (cases hr; done) | (split at hr <;> first | (cases hr; done) | (simp only [Option.some.injEq, Prod.mk.injEq] at hr; obtain ⟨rfl, rfl⟩ := hr; simp only [clsT] at hT; first | exact yl_eql_fn ho hx hy hT | exact yl_neq_fn ho hx hy hT | exact yl_eql_fn0 ho hx hy hT | exact yl_neq_fn0 ho hx hy hT | exact yl_eql_pt ho hx hy hT | exact yl_neq_pt ho hx hy hT | exact yl_eql_pt0 ho hx hy hT | exact yl_neq_pt0 ho hx hy hT | exact yl_eql_sl ho hx hy hT | exact yl_neq_sl ho hx hy hT | exact yl_eql_sl0 ho hx hy hT | exact yl_neq_sl0 ho hx hy hT | exact yl_eql_bo ho hx hy hT | exact yl_neq_bo ho hx hy hT))
end cmp
theorem slLen {a : Option Addr} {i c k : Nat} {xs : List Value} {w : World} (h : ∃ O, (SlC k (.slice a i c) xs).p O w) : i = xs.length := by
  obtain ⟨_, ⟨A, c', e1, _⟩, _⟩ := h
  injection e1
theorem pick2 {C E1 E2 : List Ch} {a b : Ch} (h1 : Pick C a E1) (h2 : Pick E1 b E2) : C.Perm ([a] ++ (b :: E2)) := h1.trans (List.Perm.cons a h2)

/-! ### a list's runs -/
def chunks {α : Type} (n : Nat) : List α → List (List α)
  | [] => []
  | x :: xs => if n = 0 then [] else (x :: xs.take (n - 1)) :: chunks n (xs.drop (n - 1))
termination_by l => l.length
decreasing_by simp; omega
theorem chunks_zero {α : Type} (xs : List α) : chunks 0 xs = [] := by cases xs <;> simp [chunks]
theorem chunks_full {α : Type} {n : Nat} {r xs : List α} (h0 : 0 < n) (hr : r.length = n) : chunks n (r ++ xs) = r :: chunks n xs := by
  cases r with
  | nil => simp at hr; omega
  | cons x r =>
    simp only [List.length_cons] at hr
    rw [List.cons_append, chunks, if_neg (by omega), List.take_append_of_le_length (by omega), List.take_of_length_le (by omega), List.drop_append_of_le_length (by omega), List.drop_of_length_le (by omega), List.nil_append]
theorem chunks_last {α : Type} {n : Nat} {r : List α} (h0 : r ≠ []) (hr : r.length ≤ n) : chunks n r = [r] := by
  cases r with
  | nil => exact absurd rfl h0
  | cons x r =>
    simp only [List.length_cons] at hr
    rw [chunks, if_neg (by omega), List.take_of_length_le (by omega), List.drop_of_length_le (by omega), chunks]
theorem chunks_all {α : Type} {n : Nat} (h0 : 0 < n) : ∀ (q : List (List α)) (xs : List α), (∀ r ∈ q, r.length = n) → chunks n (q.flatten ++ xs) = q ++ chunks n xs
  | [], xs, _ => by simp
  | r :: q, xs, h => by
    rw [List.flatten_cons, List.append_assoc, chunks_full h0 (h r (by simp)), chunks_all h0 q xs (fun r hr => h r (by simp [hr]))]; rfl
theorem chunks_flatten {α : Type} {n : Nat} (h0 : 0 < n) (xs : List α) : (chunks n xs).flatten = xs := by
  obtain ⟨k, hk⟩ : ∃ k, xs.length = k := ⟨_, rfl⟩
  induction k using Nat.strongRecOn generalizing xs with
  | _ k ih =>
    cases xs with
    | nil => simp [chunks]
    | cons x xs =>
      rw [chunks, if_neg (by omega), List.flatten_cons, ih (xs.drop (n - 1)).length (by simp at hk ⊢; omega) _ rfl]
      simp
theorem chunks_mem {α : Type} {n : Nat} (xs : List α) (r : List α) (hr : r ∈ chunks n xs) : r ≠ [] ∧ r.length ≤ n ∧ ∀ x ∈ r, x ∈ xs := by
  obtain ⟨k, hk⟩ : ∃ k, xs.length = k := ⟨_, rfl⟩
  induction k using Nat.strongRecOn generalizing xs with
  | _ k ih =>
    cases xs with
    | nil => simp [chunks] at hr
    | cons x xs =>
      rw [chunks] at hr
      split at hr
      · cases hr
      · rcases List.mem_cons.1 hr with rfl | hr
        · refine ⟨by simp, by simp; omega, fun y hy => ?_⟩
          rcases List.mem_cons.1 hy with rfl | hy
          · simp
          · exact List.mem_cons_of_mem _ (List.mem_of_mem_take hy)
        · obtain ⟨h1, h2, h3⟩ := ih (xs.drop (n - 1)).length (by simp at hk ⊢; omega) _ hr rfl
          exact ⟨h1, h2, fun y hy => List.mem_cons_of_mem _ (List.mem_of_mem_drop (h3 y hy))⟩
end Go.Proofs.Ytinofjenoapeaaa
