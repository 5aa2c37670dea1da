/- Contracts of reach.next, Cover. Condition: items whose extents are a slice. -/
import Derived.Test.YtinofjenoapeaaaGreatZ1
import Derived.Maps.OwnIn
import Derived.Maps.Views
import Derived.Maps.Keyed
import Derived.Carry
import Derived.Laws.CopyRow
import Derived.Laws.OwnMore
import Derived.Test.YtinofjenoapeaaaGreatProg
import Derived.Deep.Slices
import Derived.SizedLaws
section
namespace Go.Proofs.YtinofjenoapeaaaGreat
open Go.RowKit Go.Shelf
set_option linter.unusedSimpArgs false
set_option linter.unusedVariables false
section yl
variable {P : Program} {G : World → Prop} {n : Nat} {l : List (Nat × Value)} {d : List Deferred} {o : Oper}
theorem yl_and {T T2 : TypeId} {x y : Operand} {k : IntKind} {i j : Int} (ho : o.op = .binOp .and T x y T2) (hx : ev l x = some (.int k i)) (hy : ev l y = some (.int k j)) : Yl P G n l d o (.int k (bits .and k i j)) := yl_int ho hx hy (fun w => by simp [binOp, intBits_and])
theorem yl_or {T T2 : TypeId} {x y : Operand} {k : IntKind} {i j : Int} (ho : o.op = .binOp .or T x y T2) (hx : ev l x = some (.int k i)) (hy : ev l y = some (.int k j)) : Yl P G n l d o (.int k (bits .or k i j)) := yl_int ho hx hy (fun w => by simp [binOp, intBits_or])
theorem yl_xor {T T2 : TypeId} {x y : Operand} {k : IntKind} {i j : Int} (ho : o.op = .binOp .xor T x y T2) (hx : ev l x = some (.int k i)) (hy : ev l y = some (.int k j)) : Yl P G n l d o (.int k (bits .xor k i j)) := yl_int ho hx hy (fun w => by simp [binOp, intBits_xor])
def isIT (P : Program) (T : TypeId) (k : IntKind) : Bool := match P.underlying T with | some (.int k') => k' == k | _ => false
def hasU (P : Program) (T : TypeId) : Bool := (P.underlying T).isSome
theorem yl_conv_w {S T : TypeId} {x : Operand} {k k' : IntKind} {i : Int} (ho : o.op = .convert S T x) (hx : ev l x = some (.int k' i)) (hS : hasU P S = true) (hT : isIT P T k = true) : Yl P G n l d o (.int k (k.wrap i)) := yl_conv ho hx (fun w => by
  unfold isIT at hT
  split at hT
  · rename_i k2 hu
    obtain rfl : k2 = k := by simpa using hT
    unfold hasU at hS
    obtain ⟨t, ht⟩ := Option.isSome_iff_exists.1 hS
    simp [convert, Sem.run_bind, run_underlying ht, run_underlying hu, Result.andThen, Conv.intToInt]
  · cases hT)
theorem yl_conv_i {S T : TypeId} {x : Operand} {k' : IntKind} {i : Int} (ho : o.op = .convert S T x) (hx : ev l x = some (.int k' i)) (hS : hasU P S = true) (hT : isIT P T .i64 = true) (hb : -9223372036854775808 ≤ i ∧ i ≤ 9223372036854775807) : Yl P G n l d o (.int .i64 i) := by
  have := yl_conv_w (k := .i64) (G := G) (d := d) (n := n) ho hx hS hT
  rwa [IntWalk.i64_in _ hb] at this
theorem yl_conv_u8 {S T : TypeId} {x : Operand} {k' : IntKind} {i : Int} (ho : o.op = .convert S T x) (hx : ev l x = some (.int k' i)) (hS : hasU P S = true) (hT : isIT P T .u8 = true) (hb : 0 ≤ i ∧ i < 256) : Yl P G n l d o (.int .u8 i) := by
  have := yl_conv_w (k := .u8) (G := G) (d := d) (n := n) ho hx hS hT
  have e : IntKind.u8.wrap i = i := by simp [IntKind.wrap, IntKind.signed, IntKind.bits]; omega
  rwa [e] at this
theorem yl_conv_u16 {S T : TypeId} {x : Operand} {k' : IntKind} {i : Int} (ho : o.op = .convert S T x) (hx : ev l x = some (.int k' i)) (hS : hasU P S = true) (hT : isIT P T .u16 = true) (hb : 0 ≤ i ∧ i < 65536) : Yl P G n l d o (.int .u16 i) := by
  have := yl_conv_w (k := .u16) (G := G) (d := d) (n := n) ho hx hS hT
  have e : IntKind.u16.wrap i = i := by simp [IntKind.wrap, IntKind.signed, IntKind.bits]; omega
  rwa [e] at this
theorem yl_conv_u32 {S T : TypeId} {x : Operand} {k' : IntKind} {i : Int} (ho : o.op = .convert S T x) (hx : ev l x = some (.int k' i)) (hS : hasU P S = true) (hT : isIT P T .u32 = true) (hb : 0 ≤ i ∧ i < 4294967296) : Yl P G n l d o (.int .u32 i) := by
  have := yl_conv_w (k := .u32) (G := G) (d := d) (n := n) ho hx hS hT
  have e : IntKind.u32.wrap i = i := by simp [IntKind.wrap, IntKind.signed, IntKind.bits]; omega
  rwa [e] at this
theorem yl_conv_u64 {S T : TypeId} {x : Operand} {k' : IntKind} {i : Int} (ho : o.op = .convert S T x) (hx : ev l x = some (.int k' i)) (hS : hasU P S = true) (hT : isIT P T .u64 = true) (hb : 0 ≤ i ∧ i < 18446744073709551616) : Yl P G n l d o (.int .u64 i) := by
  have := yl_conv_w (k := .u64) (G := G) (d := d) (n := n) ho hx hS hT
  have e : IntKind.u64.wrap i = i := by simp [IntKind.wrap, IntKind.signed, IntKind.bits]; omega
  rwa [e] at this
theorem yc_eql_str {T T2 : TypeId} {x y : Operand} {i j : ByteArray} (ho : o.op = .binOp .eql T x y T2) (hx : ev l x = some (.string i)) (hy : ev l y = some (.string j)) : Yc P G n l d o (i.toList = j.toList) (.bool true) (.bool false) :=
  ⟨fun hc => yl_bin ho hx hy (fun w => by have hg : (eqGuard .eql T x y (.string i) (.string j)).run P w = .ok () w := by { unfold eqGuard; simp }
                                          simp [Sem.run_bind, hg, binOp, Op.stringOp, hc, Result.andThen]),
   fun hc => yl_bin ho hx hy (fun w => by have hg : (eqGuard .eql T x y (.string i) (.string j)).run P w = .ok () w := by { unfold eqGuard; simp }
                                          simp [Sem.run_bind, hg, binOp, Op.stringOp, hc, Result.andThen])⟩
theorem yc_neq_str {T T2 : TypeId} {x y : Operand} {i j : ByteArray} (ho : o.op = .binOp .neq T x y T2) (hx : ev l x = some (.string i)) (hy : ev l y = some (.string j)) : Yc P G n l d o (i.toList = j.toList) (.bool false) (.bool true) :=
  ⟨fun hc => yl_bin ho hx hy (fun w => by have hg : (eqGuard .neq T x y (.string i) (.string j)).run P w = .ok () w := by { unfold eqGuard; simp }
                                          simp [Sem.run_bind, hg, binOp, Op.stringOp, hc, Result.andThen]),
   fun hc => yl_bin ho hx hy (fun w => by have hg : (eqGuard .neq T x y (.string i) (.string j)).run P w = .ok () w := by { unfold eqGuard; simp }
                                          simp [Sem.run_bind, hg, binOp, Op.stringOp, hc, Result.andThen])⟩
def isStT (P : Program) (T : TypeId) : Bool := match P.underlying T with | some .string => true | _ => false
theorem yl_len_str {x : Operand} {T : TypeId} {s : ByteArray} (ho : o.op = Op.call { callee := Callee.builtin Builtin.len, args := #[x], argTypes := #[T] }) (hx : ev l x = some (.string s)) (hT : isStT P T = true) : Yl P G n l d o (.int .i64 (s.size : Int)) := ⟨(fun c => by rw [ho]; exact (fun h => by cases h)), (fun a w ha hw => by
    unfold isStT at hT
    split at hT
    · rename_i hu
      simp [execOp, ho, resolve, invoke, builtin, ha.eval hx, Builtin.len_, run_underlying hu, Sem.run_bind, Result.andThen, goInt]
    · cases hT)⟩
end yl
/-! ### small facts that find themselves -/
section auto
variable {W0 : World} {X : Nat → Prop} {R C Kc Kr E A B : List Ch} {G : World → Prop} {c c' : Ch} {k : Nat} {v : Value} {xs : List Value} {P : Program} {T : TypeId} {l l' : List (Nat × Value)}
theorem a_mem (h : c ∈ C := by (first | with_reducible assumption | ((repeat (first | with_reducible exact List.mem_cons_self | with_reducible refine List.mem_cons_of_mem _ ?_)); (try with_reducible assumption); fail_if_success (focus skip)))) : c ∈ C := h
theorem a_has (h : Has G c := by (first | with_reducible exact Has.c (by (first | with_reducible assumption | ((repeat (first | with_reducible exact List.mem_cons_self | with_reducible refine List.mem_cons_of_mem _ ?_)); (try with_reducible assumption); fail_if_success (focus skip)))) | with_reducible exact Has.r (by (first | with_reducible assumption | ((repeat (first | with_reducible exact List.mem_cons_self | with_reducible refine List.mem_cons_of_mem _ ?_)); (try with_reducible assumption); fail_if_success (focus skip)))) | with_reducible exact Has.kc (by (first | with_reducible assumption | ((repeat (first | with_reducible exact List.mem_cons_self | with_reducible refine List.mem_cons_of_mem _ ?_)); (try with_reducible assumption); fail_if_success (focus skip)))) | with_reducible exact Has.kr (by (first | with_reducible assumption | ((repeat (first | with_reducible exact List.mem_cons_self | with_reducible refine List.mem_cons_of_mem _ ?_)); (try with_reducible assumption); fail_if_success (focus skip)))))) : Has G c := h
theorem a_sl (h : Rdg G k v xs := by (first | with_reducible exact Has.row (Has.c (by (first | with_reducible assumption | ((repeat (first | with_reducible exact List.mem_cons_self | with_reducible refine List.mem_cons_of_mem _ ?_)); (try with_reducible assumption); fail_if_success (focus skip))))) | with_reducible exact Has.sl (Has.r (by (first | with_reducible assumption | ((repeat (first | with_reducible exact List.mem_cons_self | with_reducible refine List.mem_cons_of_mem _ ?_)); (try with_reducible assumption); fail_if_success (focus skip))))) | with_reducible exact Has.row (Has.kc (by (first | with_reducible assumption | ((repeat (first | with_reducible exact List.mem_cons_self | with_reducible refine List.mem_cons_of_mem _ ?_)); (try with_reducible assumption); fail_if_success (focus skip))))) | with_reducible exact Has.sl (Has.kr (by (first | with_reducible assumption | ((repeat (first | with_reducible exact List.mem_cons_self | with_reducible refine List.mem_cons_of_mem _ ?_)); (try with_reducible assumption); fail_if_success (focus skip))))) | with_reducible exact Has.sl (Has.c (by (first | with_reducible assumption | ((repeat (first | with_reducible exact List.mem_cons_self | with_reducible refine List.mem_cons_of_mem _ ?_)); (try with_reducible assumption); fail_if_success (focus skip))))) | with_reducible exact Has.sl (Has.kc (by (first | with_reducible assumption | ((repeat (first | with_reducible exact List.mem_cons_self | with_reducible refine List.mem_cons_of_mem _ ?_)); (try with_reducible assumption); fail_if_success (focus skip))))) | with_reducible exact Has.row (Has.r (by (first | with_reducible assumption | ((repeat (first | with_reducible exact List.mem_cons_self | with_reducible refine List.mem_cons_of_mem _ ?_)); (try with_reducible assumption); fail_if_success (focus skip))))) | with_reducible exact Has.row (Has.kr (by (first | with_reducible assumption | ((repeat (first | with_reducible exact List.mem_cons_self | with_reducible refine List.mem_cons_of_mem _ ?_)); (try with_reducible assumption); fail_if_success (focus skip))))))) : Rdg G k v xs := h
theorem a_vof (h : VOf P T v := by (first | with_reducible assumption | exact vof1 (by kernel_rfl) rfl rfl | exact vofkr rfl (by kernel_rfl) rfl rfl)) : VOf P T v := h
theorem a_turn (h : Turn C c c' E := by ((repeat (first | exact Turn.here | apply Turn.there)); fail_if_success (focus skip))) : Turn C c c' E := h
theorem a_pick (h : Pick C c E := by ((repeat (first | exact Pick.here | apply Pick.there)); fail_if_success (focus skip))) : Pick C c E := h
theorem a_holds (h : Holds C E := by ((repeat (first | exact Holds.rest | exact Holds.nil | refine Holds.cons (by ((repeat (first | exact Pick.here | apply Pick.there)); fail_if_success (focus skip))) ?_ | refine Holds.skip ?_)); fail_if_success (focus skip))) : Holds C E := h
theorem a_holds2 (h : Holds C E := by (try simp only [List.map_nil, List.map_cons, List.nil_append, List.cons_append, itC, Nat.add_zero]); ((repeat (first | exact Holds.rest | exact Holds.nil | refine Holds.cons (by ((repeat (first | exact Pick.here | apply Pick.there)); fail_if_success (focus skip))) ?_ | refine Holds.skip ?_)); fail_if_success (focus skip))) : Holds C E := h
theorem a_sub (h : ∀ j v, lk j l' = some v → lk j l = some v := by ((repeat (first | exact sub_nil | refine sub_cons rfl ?_)); fail_if_success (focus skip))) : ∀ j v, lk j l' = some v → lk j l = some v := h
theorem a_subR (h : ∀ r ∈ A, r ∈ B := by ((repeat' (first | with_reducible assumption | exact (fun _ h => h) | exact all_nil | refine all_cons ?_ ?_ | with_reducible refine all_app ?_ ?_ | with_reducible refine sub_tail ?_ | (first | with_reducible assumption | ((repeat (first | with_reducible exact List.mem_cons_self | with_reducible refine List.mem_cons_of_mem _ ?_)); (try with_reducible assumption); fail_if_success (focus skip))))); fail_if_success (focus skip))) : ∀ r ∈ A, r ∈ B := h
theorem a_allK (h : Sub2 Kc Kr C R := by (first | exact sub2_same | exact sub2_mk (fun c hc => by (first | with_reducible assumption | ((repeat (first | with_reducible exact List.mem_cons_self | with_reducible refine List.mem_cons_of_mem _ ?_)); (try with_reducible assumption); fail_if_success (focus skip)))) (fun c hc => by (first | with_reducible assumption | ((repeat (first | with_reducible exact List.mem_cons_self | with_reducible refine List.mem_cons_of_mem _ ?_)); (try with_reducible assumption); fail_if_success (focus skip)))) | exact sub2_mk (by ((repeat' (first | with_reducible assumption | exact (fun _ h => h) | exact all_nil | refine all_cons ?_ ?_ | with_reducible refine all_app ?_ ?_ | with_reducible refine sub_tail ?_ | (first | with_reducible assumption | ((repeat (first | with_reducible exact List.mem_cons_self | with_reducible refine List.mem_cons_of_mem _ ?_)); (try with_reducible assumption); fail_if_success (focus skip))))); fail_if_success (focus skip))) (by ((repeat' (first | with_reducible assumption | exact (fun _ h => h) | exact all_nil | refine all_cons ?_ ?_ | with_reducible refine all_app ?_ ?_ | with_reducible refine sub_tail ?_ | (first | with_reducible assumption | ((repeat (first | with_reducible exact List.mem_cons_self | with_reducible refine List.mem_cons_of_mem _ ?_)); (try with_reducible assumption); fail_if_success (focus skip))))); fail_if_success (focus skip))) | exact ⟨by ((repeat' (first | exact all_nil | refine all_cons ?_ ?_ | exact .inl (by (first | with_reducible assumption | ((repeat (first | with_reducible exact List.mem_cons_self | with_reducible refine List.mem_cons_of_mem _ ?_)); (try with_reducible assumption); fail_if_success (focus skip)))) | exact .inr (by (first | with_reducible assumption | ((repeat (first | with_reducible exact List.mem_cons_self | with_reducible refine List.mem_cons_of_mem _ ?_)); (try with_reducible assumption); fail_if_success (focus skip)))))); fail_if_success (focus skip)), by ((repeat' (first | exact all_nil | refine all_cons ?_ ?_ | exact .inl (by (first | with_reducible assumption | ((repeat (first | with_reducible exact List.mem_cons_self | with_reducible refine List.mem_cons_of_mem _ ?_)); (try with_reducible assumption); fail_if_success (focus skip)))) | exact .inr (by (first | with_reducible assumption | ((repeat (first | with_reducible exact List.mem_cons_self | with_reducible refine List.mem_cons_of_mem _ ?_)); (try with_reducible assumption); fail_if_success (focus skip)))) | (intro c hc; exact .inr (by (first | with_reducible assumption | ((repeat (first | with_reducible exact List.mem_cons_self | with_reducible refine List.mem_cons_of_mem _ ?_)); (try with_reducible assumption); fail_if_success (focus skip))))))); fail_if_success (focus skip))⟩)) : Sub2 Kc Kr C R := h
end auto
/-- What is held against nil, or is told by two bools. -/
def cmpV (b : BinOp) : Value → Value → Option (Nat × Bool)
  | .func _ _ _, .nilFunc => match b with | .eql => some (0, false) | .neq => some (0, true) | _ => none
  | .nilFunc, .nilFunc => match b with | .eql => some (0, true) | .neq => some (0, false) | _ => none
  | .pointer (some _), .pointer none => match b with | .eql => some (1, false) | .neq => some (1, true) | _ => none
  | .pointer none, .pointer none => match b with | .eql => some (1, true) | .neq => some (1, false) | _ => none
  | .slice (some _) _ _, .slice none 0 0 => match b with | .eql => some (2, false) | .neq => some (2, true) | _ => none
  | .slice none _ _, .slice none 0 0 => match b with | .eql => some (2, true) | .neq => some (2, false) | _ => none
  | .bool b1, .bool b2 => match b with | .eql => some (3, b1 == b2) | .neq => some (3, !(b1 == b2)) | _ => none
  | _, _ => none
def clsT (P : Program) (T : TypeId) : Nat → Bool
  | 0 => isFnT P T
  | 1 => isPtT P T
  | 2 => isSlT P T
  | _ => isBoT P T
section cmp
variable {P : Program} {G : World → Prop} {n : Nat} {l : List (Nat × Value)} {d : List Deferred} {o : Oper}
theorem yl_cmp {b : BinOp} {T T2 : TypeId} {x y : Operand} {u1 u2 : Value} {q : Nat} {r : Bool} (ho : o.op = .binOp b T x y T2) (hx : ev l x = some u1) (hy : ev l y = some u2) (hr : cmpV b u1 u2 = some (q, r)) (hT : clsT P T q = true) : Yl P G n l d o (.bool r) := by
  unfold cmpV at hr
  split at hr <;> first | (cases hr; done) | (split at hr <;> first | (cases hr; done) | (simp only [Option.some.injEq, Prod.mk.injEq] at hr; obtain ⟨rfl, rfl⟩ := hr; simp only [clsT] at hT; first | exact yl_eql_fn ho hx hy hT | exact yl_neq_fn ho hx hy hT | exact yl_eql_fn0 ho hx hy hT | exact yl_neq_fn0 ho hx hy hT | exact yl_eql_pt ho hx hy hT | exact yl_neq_pt ho hx hy hT | exact yl_eql_pt0 ho hx hy hT | exact yl_neq_pt0 ho hx hy hT | exact yl_eql_sl ho hx hy hT | exact yl_neq_sl ho hx hy hT | exact yl_eql_sl0 ho hx hy hT | exact yl_neq_sl0 ho hx hy hT | exact yl_eql_bo ho hx hy hT | exact yl_neq_bo ho hx hy hT))
end cmp
theorem slLen {a : Option Addr} {i c k : Nat} {xs : List Value} {w : World} (h : ∃ O, (SlC k (.slice a i c) xs).p O w) : i = xs.length := by
  obtain ⟨_, ⟨A, c', e1, _⟩, _⟩ := h
  injection e1
theorem pick2 {C E1 E2 : List Ch} {a b : Ch} (h1 : Pick C a E1) (h2 : Pick E1 b E2) : C.Perm ([a] ++ (b :: E2)) := h1.trans (List.Perm.cons a h2)

/-! ### a list's runs -/
def chunks {α : Type} (n : Nat) : List α → List (List α)
  | [] => []
  | x :: xs => if n = 0 then [] else (x :: xs.take (n - 1)) :: chunks n (xs.drop (n - 1))
termination_by l => l.length
decreasing_by simp; omega
theorem chunks_zero {α : Type} (xs : List α) : chunks 0 xs = [] := by cases xs <;> simp [chunks]
theorem chunks_full {α : Type} {n : Nat} {r xs : List α} (h0 : 0 < n) (hr : r.length = n) : chunks n (r ++ xs) = r :: chunks n xs := by
  cases r with
  | nil => simp at hr; omega
  | cons x r =>
    simp only [List.length_cons] at hr
    rw [List.cons_append, chunks, if_neg (by omega), List.take_append_of_le_length (by omega), List.take_of_length_le (by omega), List.drop_append_of_le_length (by omega), List.drop_of_length_le (by omega), List.nil_append]
theorem chunks_last {α : Type} {n : Nat} {r : List α} (h0 : r ≠ []) (hr : r.length ≤ n) : chunks n r = [r] := by
  cases r with
  | nil => exact absurd rfl h0
  | cons x r =>
    simp only [List.length_cons] at hr
    rw [chunks, if_neg (by omega), List.take_of_length_le (by omega), List.drop_of_length_le (by omega), chunks]
theorem chunks_all {α : Type} {n : Nat} (h0 : 0 < n) : ∀ (q : List (List α)) (xs : List α), (∀ r ∈ q, r.length = n) → chunks n (q.flatten ++ xs) = q ++ chunks n xs
  | [], xs, _ => by simp
  | r :: q, xs, h => by
    rw [List.flatten_cons, List.append_assoc, chunks_full h0 (h r (by simp)), chunks_all h0 q xs (fun r hr => h r (by simp [hr]))]; rfl
theorem chunks_flatten {α : Type} {n : Nat} (h0 : 0 < n) (xs : List α) : (chunks n xs).flatten = xs := by
  obtain ⟨k, hk⟩ : ∃ k, xs.length = k := ⟨_, rfl⟩
  induction k using Nat.strongRecOn generalizing xs with
  | _ k ih =>
    cases xs with
    | nil => simp [chunks]
    | cons x xs =>
      rw [chunks, if_neg (by omega), List.flatten_cons, ih (xs.drop (n - 1)).length (by simp at hk ⊢; omega) _ rfl]
      simp
theorem chunks_mem {α : Type} {n : Nat} (xs : List α) (r : List α) (hr : r ∈ chunks n xs) : r ≠ [] ∧ r.length ≤ n ∧ ∀ x ∈ r, x ∈ xs := by
  obtain ⟨k, hk⟩ : ∃ k, xs.length = k := ⟨_, rfl⟩
  induction k using Nat.strongRecOn generalizing xs with
  | _ k ih =>
    cases xs with
    | nil => simp [chunks] at hr
    | cons x xs =>
      rw [chunks] at hr
      split at hr
      · cases hr
      · rcases List.mem_cons.1 hr with rfl | hr
        · refine ⟨by simp, by simp; omega, fun y hy => ?_⟩
          rcases List.mem_cons.1 hy with rfl | hy
          · simp
          · exact List.mem_cons_of_mem _ (List.mem_of_mem_take hy)
        · obtain ⟨h1, h2, h3⟩ := ih (xs.drop (n - 1)).length (by simp at hk ⊢; omega) _ hr rfl
          exact ⟨h1, h2, fun y hy => List.mem_cons_of_mem _ (List.mem_of_mem_drop (h3 y hy))⟩
end Go.Proofs.YtinofjenoapeaaaGreat
end
section
namespace Go.Proofs.YtinofjenoapeaaaGreat
open Go.RowKit Go.Shelf
set_option linter.unusedSimpArgs false
set_option linter.unusedVariables false
/-- A function value, or nil. -/
def fnB : Value → Bool
  | .func _ _ _ => true
  | .nilFunc => true
  | _ => false
theorem vof_fn {P : Program} {T : TypeId} {s : Value} (hT : oneT P T = true) (h : fnB s = true) : VOf P T s := by
  unfold fnB at h
  split at h
  · exact vof1 hT rfl rfl
  · exact vof1 hT rfl rfl
  · cases h
/-- An iterator value, or nil, that gives nothing. -/
def ItSN {α : Type} (P : Program) (V : α → List Value → Prop) (D : α → List Value → List Ch) (S : List α → List Ch) (xs : List α) (s : Value) (RS : List Ch) : Prop := ItS P V D S xs s RS ∨ (s = .nilFunc ∧ xs = [])
def ItN (P : Program) (xs : List Value) (s : Value) (RS : List Ch) : Prop := ItSN P (fun x vs => vs = [x]) (fun _ _ => []) (fun _ => []) xs s RS
theorem It.n {P : Program} {xs : List Value} {s : Value} {RS : List Ch} (h : It P xs s RS) : ItN P xs s RS := .inl h
theorem ItS.n {α : Type} {P : Program} {V : α → List Value → Prop} {D : α → List Value → List Ch} {S : List α → List Ch} {xs : List α} {s : Value} {RS : List Ch} (h : ItS P V D S xs s RS) : ItSN P V D S xs s RS := .inl h
theorem ItS.fn {α : Type} {P : Program} {V : α → List Value → Prop} {D : α → List Value → List Ch} {S : List α → List Ch} {xs : List α} {s : Value} {RS : List Ch} (h : ItS P V D S xs s RS) : fnB s = true := by obtain ⟨_, _, rfl, _⟩ := h; rfl
theorem ItSN.fn {α : Type} {P : Program} {V : α → List Value → Prop} {D : α → List Value → List Ch} {S : List α → List Ch} {xs : List α} {s : Value} {RS : List Ch} (h : ItSN P V D S xs s RS) : fnB s = true := by
  rcases h with h | ⟨rfl, _⟩
  · exact h.fn
  · rfl
theorem ItN.fn {P : Program} {xs : List Value} {s : Value} {RS : List Ch} (h : ItN P xs s RS) : fnB s = true := ItSN.fn h
theorem itN_nil {P : Program} {RS : List Ch} : ItN P [] .nilFunc RS := .inr ⟨rfl, rfl⟩
/-- A predicate, or nil, that is so of nothing. -/
def PredN (P : Program) (xs : List Value) (p : Value → Bool) (f : Value) (RF : List Ch) : Prop := PredS P xs p f RF ∨ (f = .nilFunc ∧ ∀ x ∈ xs, p x = false)
theorem PredS.n {P : Program} {xs : List Value} {p : Value → Bool} {f : Value} {RF : List Ch} (h : PredS P xs p f RF) : PredN P xs p f RF := .inl h
theorem predN_nil {P : Program} {xs : List Value} {RF : List Ch} : PredN P xs (fun _ => false) .nilFunc RF := .inr ⟨rfl, fun _ _ => rfl⟩
theorem PredN.fn {P : Program} {xs : List Value} {p : Value → Bool} {f : Value} {RF : List Ch} (h : PredN P xs p f RF) : fnB f = true := by
  rcases h with ⟨_, _, rfl, _⟩ | ⟨rfl, _⟩ <;> rfl
theorem FunS.fn {P : Program} {xs : List Value} {G : Value → Value} {f : Value} {RF : List Ch} (h : FunS P xs G f RF) : fnB f = true := by
  obtain ⟨_, _, rfl, _⟩ := h; rfl

def eiC {α β : Type} (f : α → List Ch) (g : β → List Ch) : α ⊕ β → List Ch
  | .inl a => f a
  | .inr b => g b
section iter
variable {F : Fence} {m : Nat} {P : Program} {Q : Exit → Act → World → Prop} {K : Act → World → Prop} {n : Nat} {l : List (Nat × Value)} {d : List Deferred} {W0 : World} {X : Nat → Prop} {R C E : List Ch} {o : Oper} {t : Nat} {v : Value} {α ι κ : Type}
/-- A call of an iterator value with a known closure. -/
theorem on_iter (hF : IsWide F) {f : Operand} {s : Value} {xo : Array Operand} {ts : Array TypeId} {gy : Nat} {lbY : List Value} {V : α → List Value → Prop} {D : α → List Value → List Ch} {S : List α → List Ch} {xs : List α} {RS : List Ch} (hs : ItS P V D S xs s RS) (ho : o.op = Op.call { callee := Callee.value f, args := xo, argTypes := ts }) (hd : o.dst = some t) (ht : Nat.blt t n = true)
    (hf : ev l f = some s) (hx : evs l xo.toList = some [.func (.func gy) #[] lbY.toArray]) (egy : Enters P gy) (hRS : ∀ r ∈ RS, r ∈ R) (RY : List Ch) (hRY : ∀ r ∈ RY, r ∈ R)
    (PP : List α → ι → Prop) (CC : List α → ι → List Ch) (PX : List α → κ → Prop) (CX : List α → κ → List Ch) (i0 : ι) (h0 : PP [] i0) (hC : C.Perm (S [] ++ (CC [] i0 ++ E)))
    (hround : ∀ pre x post, xs = pre ++ x :: post → ∀ vs, V x vs → ∀ i, PP pre i → ∀ W0 X R' E, (∀ r ∈ RY, r ∈ R') →
      Ct P gy (vs ++ lbY) W0 X R' (D x vs ++ (CC pre i ++ E)) ({ i // PP (pre ++ [x]) i } ⊕ { k // PX (pre ++ [x]) k }) (fun q => .bool q.isLeft) (fun _ => R') (fun q => eiC (fun i : { i // PP (pre ++ [x]) i } => CC (pre ++ [x]) i.1) (fun k : { k // PX (pre ++ [x]) k } => CX (pre ++ [x]) k.1) q ++ E))
    (hdone : ∀ i, PP xs i → Nx K n ((t, .tuple #[]) :: l) d W0 X R (S xs ++ (CC xs i ++ E)))
    (hstop : ∀ pre x post, xs = pre ++ x :: post → ∀ k, PX (pre ++ [x]) k → Nx K n ((t, .tuple #[]) :: l) d W0 X R (S (pre ++ [x]) ++ (CX (pre ++ [x]) k ++ E))) : Nx (OpN F m P o K Q) n l d W0 X R C := by
  obtain ⟨g, lb, rfl, eg, hseq⟩ := hs
  let J : List α → Ch := fun pre => ExC (ι := { i // PP pre i }) (fun i => CC pre i.1)
  let JX : List α → Ch := fun q => ExC (ι := { k // PX q k }) (fun k => CX q k.1)
  have hY : YS P (.func (.func gy) #[] lbY.toArray) RY V D J JX xs := by
    intro pre x post hx2 vs hv W0' X' R' E' hR' B hB
    have hB' := hB.perm List.perm_middle
    obtain ⟨⟨i, hi⟩, hB2⟩ := hB'.exC
    have hB3 : St W0' X' R' (D x vs ++ (CC pre i ++ E')) B := by
      refine hB2.perm ?_
      show (CC pre i ++ (D x vs ++ E')).Perm _
      rw [← List.append_assoc, ← List.append_assoc]
      exact List.Perm.append_right _ List.perm_append_comm
    refine .inr ⟨gy, lbY.toArray, rfl, egy, ?_⟩
    have h1 := hround pre x post hx2 vs hv i hi W0' X' R' E' hR' B hB3
    rw [show (vs ++ lbY).toArray = vs.toArray ++ lbY.toArray by simp] at h1
    refine h1.mono ?_
    rintro e A ⟨q, rfl, hA⟩
    cases q with
    | inl i2 => exact ⟨true, rfl, St.toEx (f := fun i : { i // PP (pre ++ [x]) i } => CC (pre ++ [x]) i.1) i2 hA⟩
    | inr k2 => exact ⟨false, rfl, St.toEx (f := fun k : { k // PX (pre ++ [x]) k } => CX (pre ++ [x]) k.1) k2 hA⟩
  have hc := hseq (.func (.func gy) #[] lbY.toArray) RY J JX hY ⟨_, _, rfl⟩ W0 X R E hRS hRY
  have hc2 : Ct P g ([.func (.func gy) #[] lbY.toArray] ++ lb) W0 X R C (Option (Upto xs)) (fun _ => .tuple #[]) (fun _ => R) (itC xs S J JX E) := fun w hw => by
    refine hc w (St.toEx (f := fun i : { i // PP [] i } => CC [] i.1) ⟨i0, h0⟩ (hw.perm (hC.trans ?_)))
    show (S [] ++ (CC [] i0 ++ E)).Perm (CC [] i0 ++ (S [] ++ E))
    rw [← List.append_assoc, ← List.append_assoc]
    exact List.Perm.append_right _ List.perm_append_comm
  refine on_callc hF ho hd ht hf hx eg hc2 (fun q => ?_)
  intro a w ha hw
  cases q with
  | none =>
    obtain ⟨⟨i, hi⟩, h1⟩ := St.exC (f := fun i : { i // PP xs i } => CC xs i.1) hw
    refine hdone i hi a w ha (h1.perm ?_)
    show (CC xs i ++ (S xs ++ E)).Perm _
    rw [← List.append_assoc, ← List.append_assoc]
    exact List.Perm.append_right _ List.perm_append_comm
  | some q =>
    obtain ⟨q, pre, x, post, rfl, hx2⟩ := q
    obtain ⟨⟨k, hk⟩, h1⟩ := St.exC (f := fun k : { k // PX (pre ++ [x]) k } => CX (pre ++ [x]) k.1) hw
    refine hstop pre x post hx2 k hk a w ha (h1.perm ?_)
    show (CX (pre ++ [x]) k ++ (S (pre ++ [x]) ++ E)).Perm _
    rw [← List.append_assoc, ← List.append_assoc]
    exact List.Perm.append_right _ List.perm_append_comm
end iter
end Go.Proofs.YtinofjenoapeaaaGreat
end
section
namespace Go.Proofs.YtinofjenoapeaaaGreat
open Go.RowKit Go.Shelf
set_option linter.unusedSimpArgs false
set_option linter.unusedVariables false

/-- An element as it is. -/
def heldR (v : Value) : Option (DataW Value × List MemPlace) := some (.held v, [])
/-- Block b is a map of at most n entries that reads as f. -/
def MapV (P : Program) (k : TypeId) (w : World) (b n : Nat) (f : Int → Option Value) : Prop :=
  ∃ D, w.ownsMap P k heldR b n D ∧ Maps.IsMap D ∧ ∀ z : Int, Maps.has D (.int .i64 z) = (f z).isSome ∧ ∀ u, D.atKey (.int .i64 z) (.held u) = .held ((f z).getD u)

theorem MapV.made (w : World) (P : Program) (k : TypeId) : MapV P k (w.alloc (.map #[] 0)) w.heap.size 0 (fun _ => none) :=
  ⟨.map [], World.ownsMap_made w P k heldR, Maps.isMap_empty, fun z => ⟨rfl, fun u => rfl⟩⟩
theorem MapV.lt {P : Program} {k : TypeId} {w : World} {b n : Nat} {f : Int → Option Value} (h : MapV P k w b n f) : b < w.heap.size := let ⟨_, h, _⟩ := h; h.lt
theorem MapV.mono {P : Program} {k : TypeId} {w : World} {b n m : Nat} {f : Int → Option Value} (h : MapV P k w b n f) (hn : n ≤ m) : MapV P k w b m f := let ⟨D, h1, h2⟩ := h; ⟨D, h1.mono hn, h2⟩
theorem MapV.touch {P : Program} {k : TypeId} {w w' : World} {b n : Nat} {f : Int → Option Value} {S : Nat → Prop} (h : MapV P k w b n f) (ht : Touch S w w') (hn : ¬ S b) : MapV P k w' b n f := by
  obtain ⟨D, ho, hD, hf⟩ := h
  obtain ⟨es, clock, hb, F, hs, e⟩ := ho
  exact ⟨D, ⟨es, clock, ht.heap hb hn, F, hs, e⟩, hD, hf⟩
theorem MapV.later {P : Program} {k : TypeId} {w w' : World} {b n : Nat} {f : Int → Option Value} (h : MapV P k w b n f) (hb : Below w.heap.size w w') : MapV P k w' b n f := h.touch (Touch.of_below hb) (by have := h.lt; omega)

section
variable {F : Fence} {nF : Nat} {P : Program} {ops : Array Oper} {rest : List Oper} {o : Oper} {a : Act} {w : World} {Q : Exit → Act → World → Prop}
theorem wpListIn_lookupv_ok (hg : o.guard = none) (m x : Operand) (t : TypeId) (hop : o.op = Op.lookup t m x true) (k e : TypeId) (hk : P.underlying k = some (.int .i64)) (ht : P.underlying t = some (.map k e)) {zv : Value} (hz : ∀ w, (zeroValue e).run P w = .ok zv w)
    {b n : Nat} {f : Int → Option Value} (hm : a.eval m = .map (some b)) (h : MapV P k w b n f) {z : Int} (hx : a.eval x = .int .i64 z) (hw : (Lit.int .i64 z).wf = true) {r : Option Value} (hr : f z = r)
    (hK : wpListIn F nF P ops Q rest (a.put o.dst (.tuple #[r.getD zv, .bool r.isSome])) w) : wpListIn F nF P ops Q (o :: rest) a w := by
  subst hr
  obtain ⟨D, ho, hD, hf⟩ := h
  refine wpListIn_lookup_own_ok w hg m x t hop k e (Maps.int_keyed hk) ht heldR (hz w) (.held zv) [] rfl b n D hm ho _ _ hx (Maps.keyOf_int_mk hk hw) (fun v ps hv => ?_)
  have h1 := (hf z).2 zv
  rw [h1] at hv
  have e1 : v = (f z).getD zv := by
    simp only [heldR, Option.some.injEq, Prod.mk.injEq, DataW.held.injEq] at hv
    exact hv.1
  rw [e1, (hf z).1]
  exact hK
theorem wpListIn_lookupv (hF : IsWide F) (hg : Region.wanted o (yielded ops a.tmps) = true) (m x : Operand) (t : TypeId) (hop : o.op = Op.lookup t m x false) (k e : TypeId) (hk : P.underlying k = some (.int .i64)) (ht : P.underlying t = some (.map k e)) {zv : Value} (hz : ∀ w, (zeroValue e).run P w = .ok zv w)
    {b n : Nat} {f : Int → Option Value} (hm : a.eval m = .map (some b)) (h : MapV P k w b n f) {z : Int} (hx : a.eval x = .int .i64 z) (hw : (Lit.int .i64 z).wf = true) {r : Option Value} (hr : f z = r)
    (hK : wpListIn F nF P ops Q rest (a.put o.dst (r.getD zv)) w) : wpListIn F nF P ops Q (o :: rest) a w := by
  subst hr
  obtain ⟨D, ho, hD, hf⟩ := h
  obtain ⟨v, ps, hrun, hv⟩ := ho.lookup (Maps.int_keyed hk) ht (hz w) (zd := .held zv) (zp := []) rfl (Maps.keyOf_int_mk hk hw)
  have h1 := (hf z).2 zv
  rw [h1] at hv
  have e1 : v = (f z).getD zv := by
    simp only [heldR, Option.some.injEq, Prod.mk.injEq, DataW.held.injEq] at hv
    exact hv.1
  subst e1
  refine wpListIn_val hF hg (fun c => by rw [hop]; exact fun h => by cases h) ?_ hK
  simp [execOp, hop, hm, hx, hrun, Result.andThen]
/-- The function with one more value. -/
def updF (f : Int → Option Value) (z : Int) (v : Value) : Int → Option Value := fun y => if y = z then some v else f y
theorem wpListIn_mapUpdatev (hg : o.guard = none) (m x y : Operand) (t : TypeId) (hop : o.op = Op.mapUpdate t m x y) (k e : TypeId) (hk : P.underlying k = some (.int .i64)) (ht : P.underlying t = some (.map k e))
    {b n : Nat} {f : Int → Option Value} (hm : a.eval m = .map (some b)) (h : MapV P k w b n f) (hn : n < maxLen) {z : Int} {v : Value} (hx : a.eval x = .int .i64 z) (hy : a.eval y = v) (hw : (Lit.int .i64 z).wf = true)
    (hK : ∀ w', Hid (MapV P k w' b (n + 1) (updF f z v)) → Hid (Touch (fun j => j = b) w w') → wpListIn F nF P ops Q rest (a.put o.dst undef) w') : wpListIn F nF P ops Q (o :: rest) a w := by
  obtain ⟨D, ho, hD, hf⟩ := h
  refine wpListIn_mapUpdate_own w hg m x y t hop k e (Maps.int_keyed hk) ht heldR b n D hm ho hn _ _ _ hx hy (Maps.keyOf_int_mk hk hw) (.held v) [] rfl (fun w' ho' hg' => hK w' ?_ (Touch.of_grownBy hg' (fun k e => by injection e with e; exact e.symm)))
  refine ⟨_, ho', ?_, fun q => ?_⟩
  · obtain ⟨es, rfl⟩ := hD; exact ⟨_, rfl⟩
  · by_cases hq : q = z
    · subst hq
      rw [Maps.has_put_same hD (show WideAt.IsKeyLit (Lit.int .i64 _) from trivial)]
      exact ⟨by simp [updF], fun u => by rw [Maps.atKey_put_same hD (show WideAt.IsKeyLit (Lit.int .i64 _) from trivial)]; simp [updF]⟩
    · have hne : (Lit.int .i64 q) ≠ .int .i64 z := fun e => hq (by injection e)
      rw [Maps.has_put_other hne]
      exact ⟨by rw [(hf q).1]; simp [updF, hq], fun u => by rw [Maps.atKey_put_other hne, (hf q).2]; simp [updF, hq]⟩
end
end Go.Proofs.YtinofjenoapeaaaGreat
end
section
namespace Go.Proofs.YtinofjenoapeaaaGreat
open Go.RowKit Go.Shelf
set_option linter.unusedSimpArgs false
set_option linter.unusedVariables false

/-! ### lists that are written into -/
def putL {α : Type} (A B : List α) (a : Nat) : List α := A.take a ++ B ++ A.drop (a + B.length)
theorem putL_len {α : Type} {A B : List α} {a : Nat} (h : a + B.length ≤ A.length) : (putL A B a).length = A.length := by simp [putL]; omega
theorem putL_at {α : Type} {A B : List α} {a : Nat} (h : a + B.length ≤ A.length) (j : Nat) : (putL A B a)[j]? = if j < a then A[j]? else if j < a + B.length then B[j - a]? else A[j]? := by
  unfold putL
  rw [List.append_assoc]
  by_cases h1 : j < a
  · rw [if_pos h1, List.getElem?_append_left (by simp; omega), List.getElem?_take, if_pos h1]
  · rw [if_neg h1, List.getElem?_append_right (by simp; omega)]
    have e : (A.take a).length = a := by simp; omega
    rw [e]
    by_cases h2 : j < a + B.length
    · rw [if_pos h2, List.getElem?_append_left (by omega)]
    · rw [if_neg h2, List.getElem?_append_right (by omega), List.getElem?_drop]
      congr 1; omega
theorem putL_take {α : Type} {A B : List α} {a m : Nat} (h : a + B.length ≤ m) (hm : m ≤ A.length) : (putL A B a).take m = putL (A.take m) B a := by
  apply List.ext_getElem?
  intro j
  rw [List.getElem?_take, putL_at (by omega), putL_at (by simp; omega)]
  simp only [List.getElem?_take]
  by_cases h1 : j < m
  · simp [h1]
  · simp [h1, show ¬ j < a by omega, show ¬ j < a + B.length by omega]
theorem flat_set {α : Type} {k : Nat} (ls : List (List α)) (hk : ∀ l ∈ ls, l.length = k) (i : Nat) (hi : i < ls.length) (b : List α) (hb : b.length = k) : (ls.set i b).flatten = putL ls.flatten b (i * k) := by
  have e : ls = ls.take i ++ ls[i] :: ls.drop (i + 1) := by simp
  have hl : ((ls.take i).flatten).length = i * k := by rw [flat_len (k := k) _ (fun l hl => hk l (List.mem_of_mem_take hl)), List.length_take, Nat.min_eq_left (by omega)]
  have hli : ls[i].length = k := hk _ (List.getElem_mem hi)
  have e2 : ls.set i b = ls.take i ++ b :: ls.drop (i + 1) := List.set_eq_take_append_cons_drop .. |>.trans (by rw [if_pos hi])
  have e3 : ls.flatten = (ls.take i).flatten ++ (ls[i] ++ (ls.drop (i + 1)).flatten) := by
    conv => lhs; rw [e]
    rw [List.flatten_append, List.flatten_cons]
  rw [e2, List.flatten_append, List.flatten_cons, e3]
  have e4 : ∀ (A B C D : List α), A.length = i * k → B.length = k → D.length = k → putL (A ++ (B ++ C)) D (i * k) = A ++ (D ++ C) := fun A B C D h1 h2 h3 => by
    unfold putL
    rw [List.take_append_of_le_length (by omega), List.take_of_length_le (by omega), List.append_assoc, ← List.append_assoc A B C, List.drop_append, List.drop_of_length_le (by simp; omega), List.length_append, h1, h2, h3, Nat.sub_self, List.drop_zero, List.nil_append]
  rw [e4 _ _ _ _ hl hli hb]
theorem cellsOf_set {k : Nat} {xs : List Value} (hk : ∀ x ∈ xs, (cv x).size = k) {i : Nat} (hi : i < xs.length) {v : Value} (hv : (cv v).size = k) : cellsOf (xs.set i v) = putL (cellsOf xs) (cv v).toList (i * k) := by
  unfold cellsOf
  rw [List.map_set, flat_set (k := k) _ (fun l hl => by obtain ⟨x, hx, rfl⟩ := List.mem_map.1 hl; simpa using hk x hx) i (by simpa using hi) _ (by simpa using hv)]

section yl
variable {P : Program} {G : World → Prop} {n : Nat} {l : List (Nat × Value)} {d : List Deferred} {o : Oper} {v : Value}
theorem yl_max {x y : Operand} {ts : Array TypeId} {i j : Int} {k k' : IntKind} (ho : o.op = Op.call { callee := Callee.builtin Builtin.max, args := #[x, y], argTypes := ts }) (hx : ev l x = some (.int k i)) (hy : ev l y = some (.int k' j)) : Yl P G n l d o (.int k (max i j)) := ⟨(fun c => by rw [ho]; exact (fun h => by cases h)), (fun a w ha hw => by
  have e : (if j > i then j else i) = max i j := by omega
  simp [execOp, ho, resolve, invoke, builtin, ha.eval hx, ha.eval hy, run_max_int2, e, Sem.run_bind, Result.andThen])⟩
theorem yl_min {x y : Operand} {ts : Array TypeId} {i j : Int} {k k' : IntKind} (ho : o.op = Op.call { callee := Callee.builtin Builtin.min, args := #[x, y], argTypes := ts }) (hx : ev l x = some (.int k i)) (hy : ev l y = some (.int k' j)) : Yl P G n l d o (.int k (min i j)) := ⟨(fun c => by rw [ho]; exact (fun h => by cases h)), (fun a w ha hw => by
  have e : (if j < i then j else i) = min i j := by omega
  simp [execOp, ho, resolve, invoke, builtin, ha.eval hx, ha.eval hy, run_min_int2, e, Sem.run_bind, Result.andThen])⟩
theorem run_rem {T : TypeId} {k : IntKind} {i j : Int} (h0 : 0 ≤ i) (hj : 0 < j) (w : World) : (binOp .rem T (.int k i) (.int k j)).run P w = .ok (.int k (i % j)) w := by
  have : (j == 0) = false := by simp; omega
  have e : i.tmod j = i % j := Int.tmod_eq_emod_of_nonneg h0
  simp [binOp, Op.intDiv, this, e, show ¬ j = 0 by omega]
theorem yl_rem {T T2 : TypeId} {x y : Operand} {k : IntKind} {i j : Int} (ho : o.op = .binOp .rem T x y T2) (hx : ev l x = some (.int k i)) (hy : ev l y = some (.int k j)) (h0 : 0 ≤ i) (hj : 0 < j) : Yl P G n l d o (.int k (i % j)) := yl_int ho hx hy (run_rem h0 hj)
/-- A cell of an element of a slice. -/
def elemF (v : Value) (k i j : Nat) : Value := match v with | .slice (some a) _ _ => .pointer (some ⟨a.block, a.off + i * k + j, none⟩) | _ => .pointer none
/-- Where a field lies in its struct. -/
def fldO (P : Program) (T f : Nat) : Option Nat := match P.underlying T with
  | some (.struct fs) => (match fs[f]? with
    | some fd => (match P.info? fd.type with
      | some i => if i.size = 0 then none else some fd.offset
      | none => none)
    | none => none)
  | _ => none
theorem run_fld {T f q : Nat} (h : fldO P T f = some q) (b off : Nat) (w : World) : (Instr.fieldAt T (.pointer (some ⟨b, off, none⟩)) f).run P w = .ok (.pointer (some ⟨b, off + q, none⟩)) w := by
  unfold fldO at h
  split at h
  · rename_i fs hu
    split at h
    · rename_i fd hf
      split at h
      · rename_i i hi
        split at h
        · cases h
        · rename_i hs
          obtain rfl := Option.some.inj h
          simp [Instr.fieldAt, Instr.sureAddr, run_underlying hu, hf, fieldPlace, sizeOf, typeInfo, hi, hs, Addr.add_mid, Sem.run_bind, Result.andThen]
      · cases h
    · cases h
  · cases h
theorem yl_fieldB {T : TypeId} {x : Operand} {f q B : Nat} (ho : o.op = .fieldAddr T x f) (hx : ev l x = some (ptr B)) (hf : fldO P T f = some q) : Yl P G n l d o (.pointer (some ⟨B, q, none⟩)) := ⟨(fun c => by rw [ho]; exact (fun h => by cases h)), (fun a w ha hw => by
    have e : a.eval x = .pointer (some ⟨B, 0, none⟩) := ha.eval hx
    have := run_fld hf B 0 w
    rw [Nat.zero_add] at this
    simp only [execOp, ho, e, Sem.run_bind, this, Result.andThen]; rfl)⟩
theorem yl_fieldE {T : TypeId} {x : Operand} {f k i j : Nat} {s : Value} {xs : List Value} (ho : o.op = .fieldAddr T x f) (hx : ev l x = some (elemP s k i)) (hr : Rdg G k s xs) (hi : i < xs.length) (hf : fldO P T f = some j) : Yl P G n l d o (elemF s k i j) := ⟨(fun c => by rw [ho]; exact (fun h => by cases h)), (fun a w ha hw => by
    obtain ⟨A, c, rfl, hc, hA, hel⟩ := hr w hw
    obtain ⟨b, o', rfl, _⟩ := hel i xs[i] (by simp [hi])
    have e := ha.eval hx
    simp only [elemP] at e
    simp only [execOp, ho, e, Sem.run_bind, run_fld hf, Result.andThen]; rfl)⟩
/-- A cell of an element is loaded. -/
theorem yl_load_elemF {T : TypeId} {x : Operand} {k i j : Nat} {s y : Value} {xs : List Value} (ho : o.op = .load T x) (hx : ev l x = some (elemF s k i j)) (hr : Rdg G k s xs) (hy : xs[i]? = some y) (hu : cellAt y j = some v) (h1 : cv v = #[v]) (hv : VOf P T v) : Yl P G n l d o v := ⟨(fun c => by rw [ho]; exact (fun h => by cases h)), (fun a w ha hw => by
    have hu := cellAt_cv hu
    obtain ⟨A, c, rfl, hc, hA, hel⟩ := hr w hw
    obtain ⟨b, o', rfl, hra⟩ := hel i y hy
    have e := ha.eval hx
    simp only [elemF] at e
    have hr1 : w.rangeAt b (o' + i * k + j) (cv v).toList := by
      intro q u' hq
      rw [h1] at hq
      match q, hq with
      | 0, hq => simp at hq; subst hq; have := hra j v (by simpa using hu); simpa using this
    simp [execOp, ho, e, Instr.loadAt, Instr.sureAddr, Sem.run_bind, run_loadVar_of w b (o' + i * k + j) T v hv hr1, Result.andThen])⟩
end yl

theorem run_storeVar_at {P : Program} (w : World) (g off : Nat) (T t : TypeId) (v : Value) (cur : Array Value) (hv : VOf P T v) (hg : w.heap[g]? = some (.cells cur t (0, 0))) (hf : off + (cv v).size ≤ cur.size) :
    (storeVar T ⟨g, off, none⟩ v).run P w = .ok () (w.setRow g (putL cur.toList (cv v).toList off).toArray) := by
  have := run_storeCells_at P g off t (cv v).toList 0 cur w hg (by simpa using hf) (fun u hu => (Array.all_eq_true_iff_forall_mem.1 hv.one) u (by simpa using hu))
  cases hq : P.info? T with
  | none => have := hv.size; simp [hq] at this
  | some i =>
    have hsz : (cv v).size = i.size := by have := hv.size; simp [hq] at this; omega
    simp only [storeVar, sizeOf, typeInfo, hq, cv_eq, hsz, Sem.run_bind] 
    simp only [Nat.add_zero] at this
    simp [putL, cv_eq, hsz, hq, this, Sem.run_bind, Result.andThen]
theorem RowC.put {P : Program} {e k : Nat} {g n c : Nat} {xs ys : List Value} {O : Nat → Prop} {w : World} (h : (RowC e k (.slice (some ⟨g, 0, none⟩) n c) xs).p O w) {B : List Value} {off : Nat} (hB : off + B.length ≤ n * k) (hys : cellsOf ys = putL (cellsOf xs) B off) (hyk : ∀ y ∈ ys, (cv y).size = k) (hl : ys.length = xs.length) :
    ∃ cur, w.heap[g]? = some (.cells cur e (0, 0)) ∧ off + B.length ≤ cur.size ∧ (RowC e k (.slice (some ⟨g, 0, none⟩) n c) ys).p O (w.setRow g (putL cur.toList B off).toArray) := by
  obtain ⟨⟨h1, h2⟩, h3, h4, h5⟩ := h
  rcases h2 with ⟨h2, _⟩ | ⟨g', cap, cur, e1, h6, h7, h8, h9, h10, h11⟩
  · cases h2
  obtain ⟨e2, e3, e4⟩ := Value.slice.inj e1
  obtain ⟨rfl, _, _⟩ := Addr.mk.inj (Option.some.inj e2)
  subst e4
  rw [e3] at hB
  have hnk : xs.length * k ≤ cur.size := by rw [h10]; exact Nat.mul_le_mul_right _ (by omega)
  refine ⟨cur, h7, by omega, ⟨⟨?_, .inr ⟨g, c, (putL cur.toList B off).toArray, by rw [hl, e3], h6, ?_, by omega, h9, ?_, ?_⟩⟩, (fun h => by cases h), hyk, h5⟩⟩
  · rw [cellsOf_len hyk]
  · exact setRow_heap w g _ _ _ _ h7
  · simp [putL_len (show off + B.length ≤ cur.toList.length by simp; omega), h10]
  · rw [hl, List.toList_toArray, putL_take (by omega) (by simp; omega), h11, hys]

section ops
variable {F : Fence} {m : Nat} {P : Program} {Q : Exit → Act → World → Prop} {K : Act → World → Prop} {n : Nat} {l : List (Nat × Value)} {d : List Deferred} {W0 : World} {X : Nat → Prop} {R C : List Ch} {o : Oper} {t : Nat} {v : Value}
theorem RowC.len0 {e k : Nat} {s : Value} {xs : List Value} {O : Nat → Prop} {w : World} (h : (RowC e k s xs).p O w) (hx : 0 < xs.length) : ∃ g c, s = .slice (some ⟨g, 0, none⟩) xs.length c ∧ O g := by
  rcases h.1.2 with ⟨rfl, h2⟩ | ⟨g, cap, cur, rfl, _⟩
  · omega
  · exact ⟨g, cap, rfl, (h.2.2.2 g).2 rfl⟩
/-- A store into an element of an owned row. -/
theorem on_storeE (hF : IsWide F) {T : TypeId} {x y : Operand} {i e k : Nat} {s : Value} {xs : List Value} {C' : List Ch} (ho : o.op = .store T x y) (hd : o.dst = none) (hx : ev l x = some (elemP s k i)) (hy : ev l y = some v) (hm : Turn C (RowC e k s xs) (RowC e k s (xs.set i v)) C') (hi : i < xs.length) (hv : VOf P T v) (hs : (cv v).size = k)
    (h : Nx K n l d W0 X R C') : Nx (OpN F m P o K Q) n l d W0 X R C :=
  on_unit hF (fun c => by rw [ho]; exact fun h => by cases h) hd (R' := R) (C' := C') (fun a w ha hw => by
    obtain ⟨O1, hrow⟩ : ∃ O, (RowC e k s xs).p O w := by
      obtain ⟨D, h1, h2⟩ := hm
      exact (hw.perm h1).hasC (c := RowC e k s xs) (by simp)
    obtain ⟨g, c, rfl, hO⟩ := RowC.len0 hrow (by omega)
    have hk2 : i * k + k ≤ xs.length * k := by rw [← Nat.succ_mul]; exact Nat.mul_le_mul_right _ (by omega)
    have put := fun {O : Nat → Prop} {w : World} (h : (RowC e k (.slice (some ⟨g, 0, none⟩) xs.length c) xs).p O w) => RowC.put (P := P) h (ys := xs.set i v) (B := (cv v).toList) (off := i * k) (by simp [hs]; exact hk2) (cellsOf_set h.2.2.1 hi hs) (fun y hy => by
      rcases List.mem_or_eq_of_mem_set hy with hy | rfl
      · exact h.2.2.1 y hy
      · exact hs) (by simp)
    obtain ⟨cur, hg, hfit, hnew⟩ := put hrow
    have e1 : a.eval x = .pointer (some ⟨g, i * k, none⟩) := by have := ha.eval hx; simpa [elemP] using this
    refine ⟨w.setRow g (putL cur.toList (cv v).toList (i * k)).toArray, ?_, hw.turn hm (fun O ho => ?_)⟩
    · simp [execOp, ho, e1, ha.eval hy, Instr.storeAt, Instr.sureAddr, Sem.run_bind, run_storeVar_at w g (i * k) T e v cur hv hg (by simpa using hfit), Result.andThen]
    · obtain ⟨cur2, hg2, _, hn2⟩ := put ho
      rw [hg] at hg2
      obtain ⟨rfl, _⟩ := Obj.cells.inj (Option.some.inj hg2)
      exact ⟨O, Touch.setRow _ _ _ ((ho.2.2.2 g).2 rfl), hn2, fun k hk => .inl hk⟩) h
/-- A store into a cell of an element of an owned row. -/
theorem on_storeEF (hF : IsWide F) {T : TypeId} {x y : Operand} {i j e k : Nat} {s : Value} {xs : List Value} {cs : Array Value} {C' : List Ch} (ho : o.op = .store T x y) (hd : o.dst = none) (hx : ev l x = some (elemF s k i j)) (hy : ev l y = some v) (hm : Turn C (RowC e k s xs) (RowC e k s (xs.set i (.agg (cs.setIfInBounds j v)))) C') (hi : xs[i]? = some (.agg cs)) (hj : j < cs.size) (hv : VOf P T v) (h1 : cv v = #[v])
    (h : Nx K n l d W0 X R C') : Nx (OpN F m P o K Q) n l d W0 X R C :=
  on_unit hF (fun c => by rw [ho]; exact fun h => by cases h) hd (R' := R) (C' := C') (fun a w ha hw => by
    obtain ⟨O1, hrow⟩ : ∃ O, (RowC e k s xs).p O w := by
      obtain ⟨D, h1, h2⟩ := hm
      exact (hw.perm h1).hasC (c := RowC e k s xs) (by simp)
    obtain ⟨hil, hie⟩ := List.getElem?_eq_some_iff.1 hi
    obtain ⟨g, c, rfl, hO⟩ := RowC.len0 hrow (by omega)
    have hck : cs.size = k := by have := hrow.2.2.1 (.agg cs) (by rw [← hie]; exact List.getElem_mem hil); simpa [cv, Value.cells] using this
    have hk2 : i * k + k ≤ xs.length * k := by rw [← Nat.succ_mul]; exact Nat.mul_le_mul_right _ (by omega)
    have hcells : cellsOf (xs.set i (.agg (cs.setIfInBounds j v))) = putL (cellsOf xs) [v] (i * k + j) := by
      rw [cellsOf_set hrow.2.2.1 hil (by simp [cv, Value.cells, hck])]
      have hcl : (cellsOf xs).length = xs.length * k := cellsOf_len hrow.2.2.1
      have hcv : (cv (.agg (cs.setIfInBounds j v))).toList = cs.toList.set j v := by simp [cv, Value.cells]
      rw [hcv]
      apply List.ext_getElem?
      intro q
      rw [putL_at (by simp [hck, hcl]; omega), putL_at (by simp [hcl]; omega)]
      simp only [List.length_set, Array.length_toList, hck, List.length_cons, List.length_nil]
      by_cases q1 : q < i * k
      · simp [q1, show q < i * k + j by omega]
      · rw [if_neg q1]
        by_cases q2 : q < i * k + k
        · rw [if_pos q2, List.getElem?_set]
          by_cases q3 : q = i * k + j
          · subst q3; simp [hj]
          · have hold : (cs.toList)[q - i * k]? = (cellsOf xs)[q]? := by
              have hx2 : cs.toList = (cv xs[i]).toList := by rw [hie]; simp [cv, Value.cells]
              have hlt : q - i * k < cs.toList.length := by simp; omega
              have := flat_at (k := k) (xs.map fun x => (cv x).toList) (fun l hl => by obtain ⟨x, hx, rfl⟩ := List.mem_map.1 hl; simpa using hrow.2.2.1 x hx) i (q - i * k) cs.toList (cs.toList[q - i * k]) (by simp [hil, hx2]) (by simp [hlt])
              rw [show i * k + (q - i * k) = q by omega] at this
              unfold cellsOf; rw [this]; simp [hlt]
            rw [if_neg (by omega), hold]
            by_cases q4 : q < i * k + j
            · simp [q4]
            · simp [q4, show ¬ q < i * k + j + 1 by omega]
        · simp [q2, show ¬ q < i * k + j by omega, show ¬ q < i * k + j + 1 by omega]
    have put := fun {O : Nat → Prop} {w : World} (h : (RowC e k (.slice (some ⟨g, 0, none⟩) xs.length c) xs).p O w) => RowC.put (P := P) h (ys := xs.set i (.agg (cs.setIfInBounds j v))) (B := [v]) (off := i * k + j) (by simp; omega) hcells (fun y hy => by
      rcases List.mem_or_eq_of_mem_set hy with hy | rfl
      · exact h.2.2.1 y hy
      · simp [cv, Value.cells, hck]) (by simp)
    obtain ⟨cur, hg, hfit, hnew⟩ := put hrow
    have e1 : a.eval x = .pointer (some ⟨g, i * k + j, none⟩) := by have := ha.eval hx; simpa [elemF] using this
    have hcv1 : (cv v).toList = [v] := by rw [h1]
    refine ⟨w.setRow g (putL cur.toList [v] (i * k + j)).toArray, ?_, hw.turn hm (fun O ho => ?_)⟩
    · have hst := run_storeVar_at w g (i * k + j) T e v cur hv hg (by rw [h1]; simpa using hfit)
      rw [hcv1] at hst
      simp [execOp, ho, e1, ha.eval hy, Instr.storeAt, Instr.sureAddr, Sem.run_bind, hst, Result.andThen]
    · obtain ⟨cur2, hg2, _, hn2⟩ := put ho
      rw [hg] at hg2
      obtain ⟨rfl, _⟩ := Obj.cells.inj (Option.some.inj hg2)
      exact ⟨O, Touch.setRow _ _ _ ((ho.2.2.2 g).2 rfl), hn2, fun k hk => .inl hk⟩) h
/-- A store into a cell of a variable. -/
theorem on_storeF (hF : IsWide F) {T T' : TypeId} {x y : Operand} {B j : Nat} {cs : Array Value} {C' : List Ch} (ho : o.op = .store T x y) (hd : o.dst = none) (hx : ev l x = some (.pointer (some ⟨B, j, none⟩))) (hy : ev l y = some v) (hm : Turn C (BoxC B T' (.agg cs)) (BoxC B T' (.agg (cs.setIfInBounds j v))) C') (hj : j < cs.size) (hv : VOf P T v) (h1 : cv v = #[v])
    (h : Nx K n l d W0 X R C') : Nx (OpN F m P o K Q) n l d W0 X R C :=
  on_unit hF (fun c => by rw [ho]; exact fun h => by cases h) hd (R' := R) (C' := C') (fun a w ha hw => by
    have hb : BoxV w B T' (.agg cs) := by
      obtain ⟨D, h1, h2⟩ := hm
      obtain ⟨_, h3⟩ := (hw.perm h1).hasC (c := BoxC B T' (.agg cs)) (by simp)
      exact h3.1
    have e : a.eval x = .pointer (some ⟨B, j, none⟩) := ha.eval hx
    have hput : (putL cs.toList [v] j).toArray = cs.setIfInBounds j v := by
      apply Array.ext_getElem?
      intro q
      rw [List.getElem?_toArray, putL_at (by simp; omega), Array.getElem?_setIfInBounds]
      by_cases q1 : q = j
      · subst q1; simp [hj]
      · by_cases q2 : q < j
        · simp [q2, show ¬ j = q by omega]
        · simp [q2, show ¬ q < j + 1 by omega, show ¬ j = q by omega]
    have hst := run_storeVar_at w B j T T' v cs hv hb (by rw [h1]; simp; omega)
    rw [show (cv v).toList = [v] by rw [h1], hput] at hst
    refine ⟨w.setRow B (cs.setIfInBounds j v), ?_, hw.turn hm (fun O ho => ⟨O, Touch.setRow _ _ _ ((ho.2 B).2 rfl), ⟨setRow_heap _ _ _ _ _ _ ho.1, ho.2⟩, fun k hk => .inl hk⟩)⟩
    simp [execOp, ho, e, ha.eval hy, Instr.storeAt, Instr.sureAddr, Sem.run_bind, hst, Result.andThen]) h

/-! ### maps with whole numbers for keys -/
theorem MapV.same {k : TypeId} {w w' : World} {b n : Nat} {f : Int → Option Value} (h : MapV P k w b n f) (hk : w'.heap[b]? = w.heap[b]?) : MapV P k w' b n f := by
  obtain ⟨D, ho, hD, hf⟩ := h
  obtain ⟨es, clock, hb, F, hs, e⟩ := ho
  exact ⟨D, ⟨es, clock, hk.trans hb, F, hs, e⟩, hD, hf⟩
def MapC (P : Program) (k : TypeId) (b n : Nat) (f : Int → Option Value) : Ch where
  p O w := MapV P k w b n f ∧ ∀ j, O j ↔ j = b
  st h _ hk := ⟨h.1.same (hk b ((h.2 b).2 rfl)), h.2⟩
  lt h j hj := by rw [(h.2 j).1 hj]; exact h.1.lt
def mapT (P : Program) (t k e : TypeId) : Bool := match P.underlying t, P.underlying k with | some (.map k' e'), some (.int .i64) => k' == k && e' == e | _, _ => false
theorem mapT_spec {t k e : TypeId} (h : mapT P t k e = true) : P.underlying t = some (.map k e) ∧ P.underlying k = some (.int .i64) := by
  unfold mapT at h
  split at h
  · rename_i k' e' h1 h2
    simp at h
    obtain ⟨rfl, rfl⟩ := h
    exact ⟨h1, h2⟩
  · cases h
theorem on_makeMap (hF : IsWide F) {T : TypeId} (k : TypeId) (ho : o.op = .makeMap T none) (hd : o.dst = some t) (ht : Nat.blt t n = true) (h : ∀ b, Nx K n ((t, .map (some b)) :: l) d W0 X R (MapC P k b 0 (fun _ => none) :: C)) : Nx (OpN F m P o K Q) n l d W0 X R C :=
  on_world hF (fun c => by rw [ho]; exact fun h => by cases h) hd ht (fun b => .map (some b)) (fun _ => R) (fun b => MapC P k b 0 (fun _ => none) :: C) (fun a w ha hw => by
    refine ⟨w.heap.size, w.alloc (.map #[] 0), ?_, hw.new ((Below.refl _ _).alloc (Nat.le_refl _) _) ⟨fun j => j = w.heap.size, ⟨MapV.made w P k, fun _ => Iff.rfl⟩, fun k hk => by omega⟩⟩
    simp [execOp, ho, run_makeMap, Sem.run_bind, Result.andThen]) h
theorem yl_lookup {G : World → Prop} {T k e : TypeId} {mm x : Operand} {b q : Nat} {f : Int → Option Value} {z : Int} {zv : Value} (ho : o.op = .lookup T mm x false) (hm : ev l mm = some (.map (some b))) (hx : ev l x = some (.int .i64 z)) (hT : mapT P T k e = true) (hz : ∀ w, (zeroValue e).run P w = .ok zv w) (hw : (Lit.int .i64 z).wf = true) (hM : Has G (MapC P k b q f)) : Yl P G n l d o ((f z).getD zv) := ⟨(fun c => by rw [ho]; exact (fun h => by cases h)), (fun a w ha hG => by
    obtain ⟨ht, hk⟩ := mapT_spec hT
    obtain ⟨_, ⟨D, hown, hD, hf⟩, _⟩ := hM w hG
    obtain ⟨v, ps, hrun, hv⟩ := hown.lookup (Maps.int_keyed hk) ht (hz w) (zd := .held zv) (zp := []) rfl (Maps.keyOf_int_mk hk hw)
    have h1 := (hf z).2 zv
    rw [h1] at hv
    have e1 : v = (f z).getD zv := by
      simp only [heldR, Option.some.injEq, Prod.mk.injEq, DataW.held.injEq] at hv
      exact hv.1
    subst e1
    simp [execOp, ho, ha.eval hm, ha.eval hx, hrun, Result.andThen])⟩
theorem on_mapUpdate (hF : IsWide F) {T k e : TypeId} {mm x y : Operand} {b q : Nat} {f : Int → Option Value} {z : Int} {C' : List Ch} (ho : o.op = .mapUpdate T mm x y) (hd : o.dst = none) (hm : ev l mm = some (.map (some b))) (hx : ev l x = some (.int .i64 z)) (hy : ev l y = some v) (hT : mapT P T k e = true)
    (hM : Turn C (MapC P k b q f) (MapC P k b (q + 1) (updF f z v)) C') (hw : (Lit.int .i64 z).wf = true) (hq : q < maxLen) (h : Nx K n l d W0 X R C') : Nx (OpN F m P o K Q) n l d W0 X R C :=
  on_unit hF (fun c => by rw [ho]; exact fun h => by cases h) hd (R' := R) (C' := C') (fun a w ha hG => by
    obtain ⟨ht, hk⟩ := mapT_spec hT
    have upd : ∀ {O : Nat → Prop}, (MapC P k b q f).p O w → ∃ w', (execOp a.eval o).run P w = .ok .skip w' ∧ Touch (fun j => j = b) w w' ∧ MapV P k w' b (q + 1) (updF f z v) := fun {O} hp => by
      obtain ⟨⟨D, hown, hD, hf⟩, hO⟩ := hp
      obtain ⟨w', hrun, r1, r2⟩ := hown.update (Maps.int_keyed hk) ht hq (key := .int .i64 z) (val := v) (Maps.keyOf_int_mk hk hw) (d := .held v) (ps := []) rfl
      refine ⟨w', by simp [execOp, ho, ha.eval hm, ha.eval hx, ha.eval hy, hrun, Result.andThen], Touch.of_grownBy r2 (fun k e => by injection e with e; exact e.symm), _, r1, ?_, fun y => ?_⟩
      · obtain ⟨es, rfl⟩ := hD; exact ⟨_, rfl⟩
      · by_cases hq : y = z
        · subst hq
          rw [Maps.has_put_same hD (show WideAt.IsKeyLit (Lit.int .i64 _) from trivial)]
          exact ⟨by simp [updF], fun u => by rw [Maps.atKey_put_same hD (show WideAt.IsKeyLit (Lit.int .i64 _) from trivial)]; simp [updF]⟩
        · have hne : (Lit.int .i64 y) ≠ .int .i64 z := fun e => hq (by injection e)
          rw [Maps.has_put_other hne]
          exact ⟨by rw [(hf y).1]; simp [updF, hq], fun u => by rw [Maps.atKey_put_other hne, (hf y).2]; simp [updF, hq]⟩
    obtain ⟨O1, hp⟩ : ∃ O, (MapC P k b q f).p O w := by
      obtain ⟨D, h1, h2⟩ := hM
      exact (hG.perm h1).hasC (c := MapC P k b q f) (by simp)
    obtain ⟨w', hrun, ht', hv'⟩ := upd hp
    exact ⟨w', hrun, hG.turn hM (fun O hO => ⟨O, ht'.mono (fun i _ hi => by subst hi; exact (hO.2 _).2 rfl), ⟨hv', hO.2⟩, fun k hk => .inl hk⟩)⟩) h

/-! ### rows that are made; copy -/
theorem cellsOf_replicate {z : Value} {k : Nat} (hz : (cv z).size = k) (hk : 0 < k) (c : Nat) : (madeCells z.cells (c * k)).toList = cellsOf (List.replicate c z) := by
  have hz' : z.cells.size = k := hz
  apply List.ext_getElem?
  intro j
  by_cases hj : j < c * k
  · have h1 : (madeCells z.cells (c * k)).toList[j]? = some (z.cells[j % k]!) := by simp [madeCells, hj, hz']
    have hr : j % k < k := Nat.mod_lt _ hk
    have hi : j / k < c := Nat.div_lt_of_lt_mul (by rw [Nat.mul_comm]; exact hj)
    have h2 := flat_at (k := k) ((List.replicate c z).map fun x => (cv x).toList) (fun l hl => by obtain ⟨x, hx, rfl⟩ := List.mem_map.1 hl; rw [List.eq_of_mem_replicate hx]; simpa using hz) (j / k) (j % k) (cv z).toList (z.cells[j % k]!) (by simp [hi]) (by
      have : (cv z).toList[j % k]? = some (z.cells[j % k]) := by simp [cv_eq, hz', hr]
      rw [this, getElem!_pos z.cells (j % k) (by omega)])
    rw [h1]
    unfold cellsOf
    rw [← h2]; congr 1
    rw [Nat.mul_comm]; exact Nat.div_add_mod j k
  · rw [List.getElem?_eq_none (by simp [madeCells]; omega), List.getElem?_eq_none (by rw [cellsOf_len (k := k) (fun x hx => by rw [List.eq_of_mem_replicate hx]; exact hz)]; simp; omega)]
theorem on_makeSlice (hF : IsWide F) {T e k by_ : Nat} {x : Operand} {z : Value} {c : Nat} (ho : o.op = .makeSlice T x x) (hd : o.dst = some t) (ht : Nat.blt t n = true) (hx : ev l x = some (.int .i64 (c : Int))) (hT : apT P T e k by_ = true) (hz : ∀ w, (zeroValue e).run P w = .ok z w) (hb : by_ * c ≤ 281474976710656) (hc : c ≤ maxLen)
    (h : ∀ B, Nx K n ((t, .slice (some ⟨B, 0, none⟩) c c) :: l) d W0 X R (RowC e k (.slice (some ⟨B, 0, none⟩) c c) (List.replicate c z) :: C)) : Nx (OpN F m P o K Q) n l d W0 X R C :=
  on_world hF (fun c => by rw [ho]; exact (fun h => by cases h)) hd ht (fun B => .slice (some ⟨B, 0, none⟩) c c) (fun _ => R) (fun B => RowC e k (.slice (some ⟨B, 0, none⟩) c c) (List.replicate c z) :: C) (fun a w ha hw => by
    obtain ⟨i, z', t1, t2, t3, t4, t5, t6, t7⟩ := apT_spec hT
    obtain rfl : z' = z := by have h1 := hz w; have h2 : (zeroValue e).run P w = .ok z' w := by simp [zeroValue, typeInfo, t2, t3]
                              rw [h1] at h2; injection h2 with h2 _; exact h2.symm
    have hzk : (cv z').size = k := t6
    obtain ⟨w', hrun, hown, hgr⟩ := Go.run_make_full (P := P) w 0 T e i z' k t1 t2 t3 t4 .i64 .i64 c (by rw [t5]; exact hb) hc (Nat.zero_le _)
    rw [cellsOf_replicate hzk t7] at hown
    refine ⟨w.heap.size, w', ?_, hw.new ((Touch.of_grownBy (S := fun _ => False) hgr (fun _ h => by cases h)).below (Nat.le_refl _) (fun _ _ h => h)) ⟨fun j => j = w.heap.size, ⟨by rw [List.length_replicate]; exact hown, (fun h => by cases h), fun x hx => by rw [List.eq_of_mem_replicate hx]; exact hzk, fun j => ⟨fun h => by simp [Value.ownBlock, h], fun h => by simp [Value.ownBlock] at h; exact h.symm⟩⟩, fun k hk => by omega⟩⟩
    simp only [execOp, ho, ha.eval hx, Sem.run_bind, hrun, Result.andThen]; rfl) h
end ops
/-- What is known of the state is told anew. -/
theorem nx_gen {K : Act → World → Prop} {n : Nat} {l l' : List (Nat × Value)} {d : List Deferred} {W0 : World} {X : Nat → Prop} {R C C' : List Ch} (φ : List Ch → Prop) (hφ : φ R) (hl : ∀ j v, lk j l' = some v → lk j l = some v) (hC : Holds C C') (h : ∀ R', φ R' → Nx K n l' d W0 X R' C') : Nx K n l d W0 X R C :=
  fun a w ha hw => h R hφ a w (ha.sub hl) (hw.keep hC)
/-- Values of one cell. -/
def oneV : Value → Bool
  | .int _ _ => true
  | .bool _ => true
  | .string _ => true
  | .slice _ _ _ => true
  | .func _ _ _ => true
  | .nilFunc => true
  | .pointer _ => true
  | .map _ => true
  | _ => false
theorem Cel.one1 {y : Value} {ys : List Value} (h : oneV y = true) (hs : Cel 1 ys) : Cel 1 (y :: ys) := by
  unfold oneV at h
  split at h <;> first | (cases h; done) | exact Cel.cons rfl (by simp [cv, Value.cells, Value.oneCell']) hs
theorem vof_oneV {P : Program} {T : TypeId} {y : Value} (hT : oneT P T = true) (h : oneV y = true) : VOf P T y := by
  unfold oneV at h
  split at h <;> first | (cases h; done) | exact vof1 hT rfl rfl
theorem Cel.consl {k : Nat} {y : Value} {ys : List Value} (h1 : (cv y).size = k) (h2 : (cv y).toList.all (·.oneCell') = true) (h : Cel k ys) : Cel k (y :: ys) := Cel.cons h1 (by rw [← Array.all_toList]; exact h2) h
theorem Cel.ints {k : IntKind} : ∀ (zs : List Int), Cel 1 (zs.map (Value.int k))
  | [] => Cel.nil
  | z :: zs => Cel.one1 rfl (Cel.ints zs)
theorem a_cel {k : Nat} {ys : List Value} (h : Cel k ys := by (repeat (first | with_reducible assumption | exact Cel.nil | refine Cel.one1 rfl ?_ | refine Cel.consl rfl rfl ?_ | with_reducible exact Cel.ints _)); fail_if_success (focus skip)) : Cel k ys := h
theorem a_om {p : Prop} (h : p := by first | omega | (simp only [List.length_append, List.length_cons, List.length_nil, List.length_map] at *; omega)) : p := h
theorem a_bnd {p : Prop} (h : p := by first | omega | (unfold maxLen; simp only [List.length_map, List.length_append, List.length_cons, List.length_nil, List.length_replicate]; omega) | (simp only [List.length_map, List.length_append, List.length_cons, List.length_nil, List.length_replicate]; omega)) : p := h
theorem a_nd {p : Prop} (h : p := by exact (fun c => by exact (fun h => by cases h))) : p := h
theorem a_sz {a b : Nat} (h : a = b := by first | rfl | assumption | exact Eq.symm (by assumption)) : a = b := h
theorem a_as {p : Prop} (h : p := by first | with_reducible assumption | rfl) : p := h
/-- Cases that cannot be. -/
theorem a_cut {p q : Prop} (hp : p) (h : ¬ p := by first | (intro hc; omega) | (intro hc; exact absurd (by with_reducible rfl) hc) | (intro hc; simp at hc; fail_if_success (focus skip))) : q := absurd hp h
section auto
variable {P : Program} {G : World → Prop} {n : Nat} {l : List (Nat × Value)} {d : List Deferred} {o : Oper} {v v1 v2 : Value} {p : Prop}
theorem a_yl (h : Yl P G n l d o v := by (first | exact yl_move rfl rfl | exact yl_assign rfl rfl | exact yl_load rfl rfl a_has a_vof | exact yl_not_t rfl rfl | exact yl_not_f rfl rfl | exact yl_pick_t rfl rfl rfl | exact yl_pick_f rfl rfl rfl | exact yl_extract rfl rfl rfl | exact yl_func rfl rfl | exact yl_nilCheck rfl rfl | exact yl_add rfl rfl rfl (by omega) | exact yl_sub rfl rfl rfl (by omega) | exact yl_mul rfl rfl rfl (by omega) | exact yl_neg rfl rfl (by omega) | exact yl_and rfl rfl rfl | exact yl_or rfl rfl rfl | exact yl_xor rfl rfl rfl | exact yl_len_str rfl rfl (by kernel_rfl) | exact yl_len_s rfl rfl (by kernel_rfl) | exact yl_cmp rfl rfl rfl rfl (by kernel_rfl) | exact yl_max rfl rfl rfl | exact yl_min rfl rfl rfl | exact yl_rem rfl rfl rfl (by omega) (by omega) | exact yl_load_cell rfl rfl a_has rfl rfl a_vof | exact yl_index rfl rfl rfl a_sl (by kernel_rfl) (by (first | omega | (simp only [List.length_append, List.length_cons, List.length_nil, List.length_map] at *; omega))) | exact yl_index_z rfl rfl rfl a_sl (by kernel_rfl) (by (first | omega | (simp only [List.length_append, List.length_cons, List.length_nil, List.length_map] at *; omega))) (by (first | omega | (simp only [List.length_append, List.length_cons, List.length_nil, List.length_map] at *; omega))) | exact yl_load_elem rfl rfl a_sl (by first | with_reducible assumption | rfl) a_vof | exact yl_len rfl rfl a_sl (by kernel_rfl) | exact yl_load_elemF rfl rfl a_sl (by first | with_reducible assumption | rfl) (by rfl) rfl a_vof | exact yl_indexAddr rfl rfl rfl (fun w => by (first | rfl | (simp only [ptr]; go_simp; all_goals rfl) | (go_simp; all_goals rfl))))) : Yl P G n l d o v := h
theorem a_yc (h : Yc P G n l d o p v1 v2 := by (first | exact yc_lss rfl rfl rfl | exact yc_eql rfl rfl rfl | exact yc_neq rfl rfl rfl | exact yc_leq rfl rfl rfl | exact yc_gtr rfl rfl rfl | exact yc_geq rfl rfl rfl | exact yc_eql_str rfl rfl rfl | exact yc_neq_str rfl rfl rfl)) : Yc P G n l d o p v1 v2 := h
end auto
end Go.Proofs.YtinofjenoapeaaaGreat
end
section
namespace Go.Proofs.YtinofjenoapeaaaGreat
open Go.RowKit Go.Shelf
set_option linter.unusedSimpArgs false
set_option linter.unusedVariables false
/-- What is owned, as it is read. -/
def ReadsOf (D Dr : List Ch) : Prop := ∀ O w, Sep D O w → Shr Dr O w
theorem readsOf_nil : ReadsOf [] [] := fun _ _ _ r hr => by cases hr
theorem readsOf_same (c : Ch) {D Dr : List Ch} (h : ReadsOf D Dr) : ReadsOf (c :: D) (c :: Dr) := fun O w ⟨O1, h1, h2, h3⟩ r hr => by
  rcases List.mem_cons.1 hr with rfl | hr
  · exact ⟨O1, h1, h2⟩
  · obtain ⟨O2, g1, g2⟩ := h _ w h3 r hr; exact ⟨O2, g1, fun k hk => (g2 k hk).1⟩
theorem readsOf_row {e k : Nat} {v : Value} {xs : List Value} {D Dr : List Ch} (h : ReadsOf D Dr) : ReadsOf (RowC e k v xs :: D) (SlC k v xs :: Dr) := fun O w ⟨O1, h1, h2, h3⟩ r hr => by
  rcases List.mem_cons.1 hr with rfl | hr
  · obtain ⟨O', g1, g2⟩ := RowC.slC h1; exact ⟨O', g1, fun k hk => h2 k (g2 k hk)⟩
  · obtain ⟨O2, g1, g2⟩ := h _ w h3 r hr; exact ⟨O2, g1, fun k hk => (g2 k hk).1⟩
theorem Ct.lend {P : Program} {g : FuncId} {vs : List Value} {W0 : World} {X : Nat → Prop} {R E D Dr : List Ch} {ι : Type} {ret : ι → Value} {C' : ι → List Ch} (hD : ReadsOf D Dr)
    (h : ∀ W0 X, Ct P g vs W0 X (Dr ++ R) E ι ret (fun _ => Dr ++ R) C') : Ct P g vs W0 X R (D ++ E) ι ret (fun _ => R) (fun i => D ++ C' i) := by
  intro w hw
  obtain ⟨ht, OR, OC, h1, h2, h3, h4⟩ := hw
  obtain ⟨O1, g1, g2, g3⟩ := h2.split
  have st : St w (fun k => OC k ∧ ¬ O1 k) (Dr ++ R) E w := by
    refine ⟨Touch.refl _ _, fun k => OR k ∨ O1 k, fun k => OC k ∧ ¬ O1 k, ?_, g3, ?_, ?_⟩
    · intro r hr
      rcases List.mem_append.1 hr with hr | hr
      · obtain ⟨O', q1, q2⟩ := hD _ _ g2 r hr; exact ⟨O', q1, fun k hk => .inr (q2 k hk)⟩
      · obtain ⟨O', q1, q2⟩ := h1 r hr; exact ⟨O', q1, fun k hk => .inl (q2 k hk)⟩
    · rintro k (hk | hk)
      · exact h3 k hk
      · exact (h4 k (g1 k hk)).2.1
    · intro k hk
      exact ⟨fun hn => hn.elim (h4 k hk.1).1 hk.2, (h4 k hk.1).2.1, .inl hk⟩
  refine (h w (fun k => OC k ∧ ¬ O1 k) w st).mono ?_
  rintro e w' ⟨i, rfl, ht2, OR2, OC2, q1, q2, q3, q4⟩
  refine ⟨i, rfl, ht.transW ht2 (fun _ _ h => h) (fun k hk ho => (h4 k ho.1).2.2.elim id (fun h => by omega)), OR, fun k => O1 k ∨ OC2 k, ?_, ?_, fun k hk => Nat.lt_of_lt_of_le (h3 k hk) ht2.size, ?_⟩
  · exact h1.keep ht2.size (fun k hk => ht2.block k (h3 k hk) (fun ho => (h4 k ho.1).1 hk))
  · refine Sep.join (O1 := O1) (O2 := OC2) (g2.keep ht2.size (fun k hk => ht2.block k (h4 k (g1 k hk)).2.1 (fun ho => ho.2 hk))) q2 (fun k hk hk2 => ?_) (fun k hk => .inl hk) (fun k hk => .inr hk)
    rcases (q4 k hk2).2.2 with h5 | h5
    · exact h5.2 hk
    · have := (h4 k (g1 k hk)).2.1; omega
  · rintro k (hk | hk)
    · have h5 := h4 k (g1 k hk); exact ⟨h5.1, Nat.lt_of_lt_of_le h5.2.1 ht2.size, h5.2.2⟩
    · obtain ⟨h5, h6, h7⟩ := q4 k hk
      refine ⟨fun hr => ?_, h6, ?_⟩
      · rcases h7 with h7 | h7
        · exact (h4 k h7.1).1 hr
        · have := h3 k hr; omega
      · rcases h7 with h7 | h7
        · exact (h4 k h7.1).2.2
        · exact .inr (by have := ht.size; omega)
theorem perm1 {C E1 : List Ch} {a : Ch} (h1 : Pick C a E1) : C.Perm (a :: E1) := h1
theorem perm2 {C E1 E2 : List Ch} {a b : Ch} (h1 : Pick C a E1) (h2 : Pick E1 b E2) : C.Perm (a :: b :: E2) := h1.trans (List.Perm.cons a h2)
theorem perm3 {C E1 E2 E3 : List Ch} {a b c : Ch} (h1 : Pick C a E1) (h2 : Pick E1 b E2) (h3 : Pick E2 c E3) : C.Perm (a :: b :: c :: E3) := h1.trans (List.Perm.cons a (h2.trans (List.Perm.cons b h3)))
section lend
variable {P : Program} {g : FuncId} {vs : List Value} {W0 : World} {X : Nat → Prop} {R E : List Ch} {ι : Type} {ret : ι → Value} {C' : ι → List Ch}
theorem Ct.lend1 {a r : Ch} (hD : ReadsOf [a] [r]) (h : ∀ W0 X, Ct P g vs W0 X (r :: R) E ι ret (fun _ => r :: R) C') : Ct P g vs W0 X R (a :: E) ι ret (fun _ => R) (fun i => a :: C' i) := Ct.lend hD h
theorem Ct.lend2 {a b r s : Ch} (hD : ReadsOf [a, b] [r, s]) (h : ∀ W0 X, Ct P g vs W0 X (r :: s :: R) E ι ret (fun _ => r :: s :: R) C') : Ct P g vs W0 X R (a :: b :: E) ι ret (fun _ => R) (fun i => a :: b :: C' i) := Ct.lend hD h
theorem Ct.lend3 {a b c r s q : Ch} (hD : ReadsOf [a, b, c] [r, s, q]) (h : ∀ W0 X, Ct P g vs W0 X (r :: s :: q :: R) E ι ret (fun _ => r :: s :: q :: R) C') : Ct P g vs W0 X R (a :: b :: c :: E) ι ret (fun _ => R) (fun i => a :: b :: c :: C' i) := Ct.lend hD h
end lend

/-- A call of a function that tells a bool: both ways, whatever it leaves. -/
theorem on_callB {F : Fence} {m : Nat} {P : Program} {Q : Exit → Act → World → Prop} {K : Act → World → Prop} {n : Nat} {l : List (Nat × Value)} {d : List Deferred} {W0 : World} {X : Nat → Prop} {R C : List Ch} {o : Oper} {t : Nat} (hF : IsWide F) {g : FuncId} {xs : Array Operand} {ts : Array TypeId} {vs : List Value} {b : Bool} {R' C' : Unit → List Ch} (ho : o.op = Op.call { callee := Callee.value (.func g), args := xs, argTypes := ts }) (hd : o.dst = some t) (ht : Nat.blt t n = true)
    (hx : evs l xs.toList = some vs) (eg : Enters P g) (hc : Ct P g vs W0 X R C Unit (fun _ => .bool b) R' C') (h1 : b = true → Nx K n ((t, .bool true) :: l) d W0 X (R' ()) (C' ())) (h2 : b = false → Nx K n ((t, .bool false) :: l) d W0 X (R' ()) (C' ())) : Nx (OpN F m P o K Q) n l d W0 X R C :=
  on_call hF ho hd ht hx eg hc (fun _ => by
    cases hb : b with
    | true => exact h1 hb
    | false => exact h2 hb)
theorem on_callBG {F : Fence} {m : Nat} {P : Program} {Q : Exit → Act → World → Prop} {K : Act → World → Prop} {n : Nat} {l : List (Nat × Value)} {d : List Deferred} {W0 : World} {X : Nat → Prop} {R C : List Ch} {o : Oper} {t : Nat} (hF : IsWide F) {g : FuncId} {xs : Array Operand} {ts : Array TypeId} {vs : List Value} {b : Bool} {R' C' : Unit → List Ch} (eg : Enters P g) (ho : o.op = Op.call { callee := Callee.value (.func g), args := xs, argTypes := ts }) (hd : o.dst = some t) (ht : Nat.blt t n = true)
    (hx : evs l xs.toList = some vs) (hc : Ct P g vs W0 X R C Unit (fun _ => .bool b) R' C') (h1 : b = true → Nx K n ((t, .bool true) :: l) d W0 X (R' ()) (C' ())) (h2 : b = false → Nx K n ((t, .bool false) :: l) d W0 X (R' ()) (C' ())) : Nx (OpN F m P o K Q) n l d W0 X R C := on_callB hF ho hd ht hx eg hc h1 h2
/-- The value that a contract asks for, told anew. -/
theorem Nx.ret_eq {P : Program} {fn : Func} {n : Nat} {l : List (Nat × Value)} {d : List Deferred} {W0 : World} {X : Nat → Prop} {R R1 C : List Ch} {C1 : Unit → List Ch} {e : Exit} {u v : Value} (h : u = v)
    (hn : Nx (bodyPostM Fence.wide 0 P fn (fun e w' => ∃ i : Unit, e = .returned ((fun _ => v) i) ∧ St W0 X ((fun _ => R1) i) (C1 i) w') e) n l d W0 X R C) : Nx (bodyPostM Fence.wide 0 P fn (fun e w' => ∃ i : Unit, e = .returned ((fun _ => u) i) ∧ St W0 X ((fun _ => R1) i) (C1 i) w') e) n l d W0 X R C := by subst h; exact hn

/-- The length of an owned row. -/
theorem nx_len {K : Act → World → Prop} {n : Nat} {l : List (Nat × Value)} {d : List Deferred} {W0 : World} {X : Nat → Prop} {R C : List Ch} {e k i c : Nat} {a : Option Addr} {xs : List Value} (hm : RowC e k (.slice a i c) xs ∈ C) (h : i = xs.length → Nx K n l d W0 X R C) : Nx K n l d W0 X R C := nx_fact (fun w hw => by
  obtain ⟨_, hr⟩ := hw.hasC hm
  obtain ⟨A, c', e1, _⟩ := RowC.sl hr
  injection e1) h
/-- A lookup whose value is known. -/
theorem yl_lookupX {P : Program} {G : World → Prop} {n : Nat} {l : List (Nat × Value)} {d : List Deferred} {o : Oper} {v : Value} {T k e : TypeId} {mm x : Operand} {b q : Nat} {f : Int → Option Value} {z : Int} {zv : Value} (hr : (f z).getD zv = v) (ho : o.op = .lookup T mm x false) (hm : ev l mm = some (.map (some b))) (hx : ev l x = some (.int .i64 z)) (hT : mapT P T k e = true) (hz : ∀ w, (zeroValue e).run P w = .ok zv w) (hw : (Lit.int .i64 z).wf = true) (hM : Has G (MapC P k b q f)) : Yl P G n l d o v := by
  rw [← hr]; exact yl_lookup ho hm hx hT hz hw hM
/-! ### numbers -/
theorem wf_of_i64 {z : Int} (h : -9223372036854775808 ≤ z ∧ z ≤ 9223372036854775807) : (Lit.int .i64 z).wf = true := by
  simp [Lit.wf, IntKind.min, IntKind.max, IntKind.signed, IntKind.bits]; omega
end Go.Proofs.YtinofjenoapeaaaGreat
end
section
namespace Go.Proofs.YtinofjenoapeaaaGreat
open Go.RowKit Go.Shelf Go.ChangeShapes Go.WideShapes Go.Deep
set_option linter.unusedSimpArgs false
set_option linter.unusedVariables false
section
variable {H : Type} {enc : TypeId × Value → H} {P : Program} {W : World} {base : Nat} {spare : Nat → Bool} {held : Bool}
/-- The elements of a slice, each as its cells. -/
theorem sl_elems {t e k m : Nat} (hk : 0 < k) (hu : P.underlying t = some (.slice e)) (hc : P.cellsOf e = k) {a : Option Addr} {len cap : Nat} {d : DataW H × List MemPlace} (h : DataW.trod enc P W base spare held m t [.slice a len cap] = some d) :
    ∃ f : Nat → List Value, (∀ i, i < len → (f i).length = k ∧ ∃ n y, DataW.trod enc P W base spare held n e (f i) = some y) ∧ ∀ xs : List Value, xs.length = len → (∀ i x, xs[i]? = some x → (cv x).toList = f i) → SliceAt W k (.slice a len cap) xs := by
  rcases open_slice hu h with ⟨hcs, _⟩ | ⟨A, l, c, m', n, D, Pl, hcs, _, hl, hc2, hm, hx, hel⟩
  · simp at hcs
    obtain ⟨rfl, rfl, rfl⟩ := hcs
    refine ⟨fun _ => [], fun i hi => by omega, fun xs hxs _ => ⟨none, 0, by rw [hxs], by omega, (fun _ => rfl), fun i x hi => ?_⟩⟩
    rw [List.eq_nil_of_length_eq_zero hxs] at hi; simp at hi
  · simp at hcs
    obtain ⟨rfl, rfl, rfl⟩ := hcs
    rw [hc] at hel
    have hlm : len ≤ m' := by rw [hm]; split <;> omega
    obtain ⟨f, hf⟩ := choose_lt (n := len) (p := fun i (y : List Value) => (y.length = k ∧ ∃ n z, DataW.trod enc P W base spare held n e y = some z) ∧ W.cells? base (A.add (i * k)) k = some y) (fun i hi => by
      obtain ⟨cs', h1, h2⟩ := hel i (by omega)
      exact ⟨cs', ⟨(World.cells?_some h1).2.1, _, _, h2⟩, h1⟩)
    refine ⟨f, fun i hi => (hf i hi).1, fun xs hxs hxe => ⟨some A, cap, by rw [hxs], by rw [hxs]; exact hl, (fun h => by cases h), ?_⟩⟩
    intro i x hi
    have hil : i < len := by have := (List.getElem?_eq_some_iff.1 hi).1; omega
    have h0 := (World.cells?_some (hf 0 (by omega)).2).2.2 0 (by omega)
    have hsp : A.spot = none := by
      cases hq : A.spot with
      | none => rfl
      | some q =>
        simp [Addr.add, World.cell?, hq] at h0
        have hpos : 0 < (f 0).length := by rw [(hf 0 (by omega)).1.1]; exact hk
        rw [show (f 0)[0]? = some (f 0)[0] from by simp [hpos]] at h0
        split at h0 <;> cases h0
    have hAe : A = ⟨A.block, A.off, none⟩ := by cases A; simp_all
    refine ⟨A.block, A.off, by rw [← hAe], fun r u hu => ?_⟩
    have hr : r < k := by
      have := (List.getElem?_eq_some_iff.1 hu).1
      rw [hxe i x hi, (hf i hil).1.1] at this; exact this
    have h1 := (World.cells?_some (hf i hil).2).2.2 r hr
    rw [hxe i x hi] at hu
    rw [hu, hAe, Addr.add_mid, Addr.add_mid] at h1
    exact h1
end
section
variable {H : Type} {enc : TypeId × Value → H} {W : World} {base : Nat} {spare : Nat → Bool} {held : Bool}
theorem wint_chunk {cs : List Value} {m i : Nat} {x : Option (DataW H × List MemPlace)} (h : DataW.trod enc Tryz.prog W base spare held m 3 (List.take (Tryz.prog.cellsOf 3) (List.drop i cs)) = x) (hs : x.isSome = true) : ∃ n, cs[i]? = some (.int .i64 n) ∧ (Lit.int .i64 n).wf = true := by
  obtain ⟨y, rfl⟩ := Option.isSome_iff_exists.1 hs
  obtain ⟨n, hn, _, hw⟩ := DataW.trod_int Tryz.underlying3 h
  rw [show Tryz.prog.cellsOf 3 = 1 from by kernel_rfl] at hn
  have := congrArg (fun l => l[0]?) hn
  simp at this
  exact ⟨n, this, hw⟩
theorem wslice_chunk {t e : TypeId} (hu : Tryz.prog.underlying t = some (.slice e)) (hc : Tryz.prog.cellsOf t = 1) {cs : List Value} {m i : Nat} {x : Option (DataW H × List MemPlace)} (h : DataW.trod enc Tryz.prog W base spare held m t (List.take (Tryz.prog.cellsOf t) (List.drop i cs)) = x) (hs : x.isSome = true) : ∃ a l c y, cs[i]? = some (.slice a l c) ∧ DataW.trod enc Tryz.prog W base spare held m t [.slice a l c] = some y := by
  obtain ⟨y, rfl⟩ := Option.isSome_iff_exists.1 hs
  rw [hc] at h
  have h' := h
  rcases open_slice hu h with ⟨hn, _⟩ | ⟨a, len, cap, _, _, _, _, hn, _⟩
  · rw [hn] at h'
    have := congrArg (fun l => l[0]?) hn
    simp at this
    exact ⟨_, _, _, _, this, h'⟩
  · rw [hn] at h'
    have := congrArg (fun l => l[0]?) hn
    simp at this
    exact ⟨_, _, _, _, this, h'⟩
theorem is_slice {t e m : Nat} {P : Program} (hu : P.underlying t = some (.slice e)) {cs : List Value} {d : DataW H × List MemPlace} (h : DataW.trod enc P W base spare held m t cs = some d) : ∃ a l c, cs = [.slice a l c] := by
  rcases open_slice hu h with ⟨hn, _⟩ | ⟨a, len, cap, _, _, _, _, hn, _⟩
  · exact ⟨_, _, _, hn⟩
  · exact ⟨_, _, _, hn⟩
theorem slice_bound {P : Program} {ts : List TypeId} {ds : List (DataW H)} {j : Nat} {t e : TypeId} {B : Nat} {a : Option Addr} {len cap : Nat} {d : DataW H} {ps : List MemPlace}
    (hsz : (DataW.weightsEach P ts ds).all (· ≤ reachBytes) = true) (ht : ts[j]? = some t) (hd : ds[j]? = some d) (hu : P.underlying t = some (.slice e)) (hB : P.bytesOf e = B)
    (h : DataW.Trod enc P W base spare held t (.slice a len cap) d ps) : len * B ≤ 140737488351232 := by
  obtain ⟨fuel, hf⟩ := h
  rcases open_slice hu hf with ⟨hcs, _⟩ | ⟨A, l, c, m, n, D, Pl, hcs, _, hl, hc2, hm, hx, hel⟩
  · simp [Value.cells] at hcs
    obtain ⟨rfl, rfl, rfl⟩ := hcs
    simp
  · simp [Value.cells] at hcs
    obtain ⟨rfl, rfl, rfl⟩ := hcs
    obtain ⟨hx, _⟩ := Prod.mk.inj hx
    subst hx
    have hlm : len ≤ m := by rw [hm]; split <;> omega
    have z := sized_slice hsz ht hd hu
    rw [hB] at z
    simp only [List.length_map, List.length_range] at z
    have : reachBytes = 140737488351232 := by decide
    have h2 : len * B ≤ (len + (m - len)) * B := Nat.mul_le_mul_right _ (by omega)
    omega
end
end Go.Proofs.YtinofjenoapeaaaGreat
end
section
namespace Go.Proofs.YtinofjenoapeaaaGreat
open Go.RowKit Go.Shelf
set_option linter.unusedSimpArgs false
set_option linter.unusedVariables false
namespace NItem
variable {W0 : World} {X : Nat → Prop} {R C : List Ch}
set_option maxRecDepth 100000 in
theorem each1_it {α : Type} (V : α → List Value → Prop) (D : α → List Value → List Ch) (S : List α → List Ch) (RS : List Ch) : ItS Tryz.prog V D S [] (.func (.func 50) #[] #[]) RS := by
  refine ⟨50, [], rfl, (enters_of Tryz.func50 (by kernel_rfl) rfl), ?_⟩
  intro y RY J JX hY hy W0 X R E hRS hRY w hw
  have hF := isWide_wide
  refine calls_nx Tryz.func50 rfl Tryz.ntmps50 rfl ?_ hw
  repeat' (first | ((first | with_reducible refine nl_op rfl ?_ | refine nd_go rfl rfl rfl ?_); intro K hK; (first | ((first | refine on_E hF rfl rfl ?_ | refine od_E rfl rfl ?_ | refine od_R rfl rfl ?_); (first | refine ⟨_, a_yl, ?_⟩)) | ((first | refine on_Ec hF rfl rfl ?_ | refine od_Ec rfl rfl ?_); refine ⟨_, _, _, a_yc, ?_, ?_⟩ <;> (intro hc; try exact a_cut hc)) | ((first | (refine od_act a_nd ?_; intro K2 hK2) | refine od_last a_nd ?_ | skip); (first  | (refine on_box hF rfl rfl rfl rfl (fun B => ?_)) | (refine on_store hF rfl rfl rfl rfl a_turn a_vof a_sz ?_) | (refine on_storeE hF rfl rfl rfl rfl a_turn a_om a_vof a_sz ?_) | (refine on_storeEF hF rfl rfl rfl rfl a_turn a_as (by decide) a_vof rfl ?_) | (refine on_storeF hF rfl rfl rfl rfl a_turn (by decide) a_vof rfl ?_)) <;> try (refine hK2 _ _ _ a_allK ?_; clear hK2 K2))) <;> (refine hK _ _ _ ?_; clear hK K)) | with_reducible (first | refine nx_seq ?_ | refine nx_region ?_ | refine nl_nil ?_ | refine nq_then_n ?_ | refine nx_block ?_ | refine nx_skip ?_ | refine nx_exit ?_ | refine nx_ret ?_ | refine nq_then_x ?_ | refine nq_then_r ?_ | refine nq_blk_n ?_ | refine nq_blk_r ?_ | refine nq_blk_hit ?_ | refine nq_blk_miss rfl ?_ | refine nd_nil ?_) | refine nx_cond_t rfl ?_ | refine nx_cond_f rfl ?_ | refine nl_pass hF rfl rfl rfl ?_ | refine nd_pass rfl rfl rfl rfl rfl ?_ | refine nd_pass2 rfl rfl rfl a_nd a_allK rfl rfl ?_ | refine nd_pass3 rfl rfl rfl a_nd rfl rfl ?_ | (with_reducible refine hQ1 _ _ _ ?_; clear hQ1 Q1) )
  refine nx_end_n [] rfl none (fun a w ha hw => res_none Tryz.results50) (by exact a_subR) (by exact a_holds2)
set_option maxRecDepth 100000 in
theorem each_ct {α : Type} {V : α → List Value → Prop} {D : α → List Value → List Ch} {S : List α → List Ch} {xs : List α} {s : Value} {RS : List Ch} (h : ItSN Tryz.prog V D S xs s RS) :
    Ct Tryz.prog 28 [s] W0 X R C { v // ItS Tryz.prog V D S xs v RS } (fun v => v.1) (fun _ => R) (fun _ => C) := by
  intro w hw
  have hF := isWide_wide
  rcases h with h | ⟨rfl, rfl⟩
  · obtain ⟨g, lb, rfl, _⟩ := id h
    refine calls_nx Tryz.func28 rfl Tryz.ntmps28 rfl ?_ hw
    repeat' (first | ((first | with_reducible refine nl_op rfl ?_ | refine nd_go rfl rfl rfl ?_); intro K hK; (first | ((first | refine on_E hF rfl rfl ?_ | refine od_E rfl rfl ?_ | refine od_R rfl rfl ?_); (first | refine ⟨_, a_yl, ?_⟩)) | ((first | refine on_Ec hF rfl rfl ?_ | refine od_Ec rfl rfl ?_); refine ⟨_, _, _, a_yc, ?_, ?_⟩ <;> (intro hc; try exact a_cut hc)) | ((first | (refine od_act a_nd ?_; intro K2 hK2) | refine od_last a_nd ?_ | skip); (first  | (refine on_box hF rfl rfl rfl rfl (fun B => ?_)) | (refine on_store hF rfl rfl rfl rfl a_turn a_vof a_sz ?_) | (refine on_storeE hF rfl rfl rfl rfl a_turn a_om a_vof a_sz ?_) | (refine on_storeEF hF rfl rfl rfl rfl a_turn a_as (by decide) a_vof rfl ?_) | (refine on_storeF hF rfl rfl rfl rfl a_turn (by decide) a_vof rfl ?_)) <;> try (refine hK2 _ _ _ a_allK ?_; clear hK2 K2))) <;> (refine hK _ _ _ ?_; clear hK K)) | with_reducible (first | refine nx_seq ?_ | refine nx_region ?_ | refine nl_nil ?_ | refine nq_then_n ?_ | refine nx_block ?_ | refine nx_skip ?_ | refine nx_exit ?_ | refine nx_ret ?_ | refine nq_then_x ?_ | refine nq_then_r ?_ | refine nq_blk_n ?_ | refine nq_blk_r ?_ | refine nq_blk_hit ?_ | refine nq_blk_miss rfl ?_ | refine nd_nil ?_) | refine nx_cond_t rfl ?_ | refine nx_cond_f rfl ?_ | refine nl_pass hF rfl rfl rfl ?_ | refine nd_pass rfl rfl rfl rfl rfl ?_ | refine nd_pass2 rfl rfl rfl a_nd a_allK rfl rfl ?_ | refine nd_pass3 rfl rfl rfl a_nd rfl rfl ?_ | (with_reducible refine hQ1 _ _ _ ?_; clear hQ1 Q1) )
    refine nx_end [] rfl (⟨_, h⟩) (fun a w ha hw => res_tmp Tryz.results28 rfl ha) (by exact a_subR) (by exact a_holds2)
  · refine calls_nx Tryz.func28 rfl Tryz.ntmps28 rfl ?_ hw
    repeat' (first | ((first | with_reducible refine nl_op rfl ?_ | refine nd_go rfl rfl rfl ?_); intro K hK; (first | ((first | refine on_E hF rfl rfl ?_ | refine od_E rfl rfl ?_ | refine od_R rfl rfl ?_); (first | refine ⟨_, a_yl, ?_⟩)) | ((first | refine on_Ec hF rfl rfl ?_ | refine od_Ec rfl rfl ?_); refine ⟨_, _, _, a_yc, ?_, ?_⟩ <;> (intro hc; try exact a_cut hc)) | ((first | (refine od_act a_nd ?_; intro K2 hK2) | refine od_last a_nd ?_ | skip); (first  | (refine on_box hF rfl rfl rfl rfl (fun B => ?_)) | (refine on_store hF rfl rfl rfl rfl a_turn a_vof a_sz ?_) | (refine on_storeE hF rfl rfl rfl rfl a_turn a_om a_vof a_sz ?_) | (refine on_storeEF hF rfl rfl rfl rfl a_turn a_as (by decide) a_vof rfl ?_) | (refine on_storeF hF rfl rfl rfl rfl a_turn (by decide) a_vof rfl ?_)) <;> try (refine hK2 _ _ _ a_allK ?_; clear hK2 K2))) <;> (refine hK _ _ _ ?_; clear hK K)) | with_reducible (first | refine nx_seq ?_ | refine nx_region ?_ | refine nl_nil ?_ | refine nq_then_n ?_ | refine nx_block ?_ | refine nx_skip ?_ | refine nx_exit ?_ | refine nx_ret ?_ | refine nq_then_x ?_ | refine nq_then_r ?_ | refine nq_blk_n ?_ | refine nq_blk_r ?_ | refine nq_blk_hit ?_ | refine nq_blk_miss rfl ?_ | refine nd_nil ?_) | refine nx_cond_t rfl ?_ | refine nx_cond_f rfl ?_ | refine nl_pass hF rfl rfl rfl ?_ | refine nd_pass rfl rfl rfl rfl rfl ?_ | refine nd_pass2 rfl rfl rfl a_nd a_allK rfl rfl ?_ | refine nd_pass3 rfl rfl rfl a_nd rfl rfl ?_ | (with_reducible refine hQ1 _ _ _ ?_; clear hQ1 Q1) )
    refine nx_end [] rfl (⟨_, each1_it V D S RS⟩) (fun a w ha hw => res_tmp Tryz.results28 rfl ha) (by exact a_subR) (by exact a_holds2)
end NItem
end Go.Proofs.YtinofjenoapeaaaGreat
end
section
namespace Go.Proofs.YtinofjenoapeaaaGreat
open Go.RowKit Go.Shelf
set_option linter.unusedSimpArgs false
set_option linter.unusedVariables false
namespace NItem
variable {W0 : World} {X : Nat → Prop} {R C : List Ch}
set_option maxRecDepth 100000 in
theorem so1_ct (x : Value) : Ct Tryz.prog 51 [x] W0 X R C Unit (fun _ => .bool false) (fun _ => R) (fun _ => C) := by
  intro w hw
  have hF := isWide_wide
  refine calls_nx Tryz.func51 rfl Tryz.ntmps51 rfl ?_ hw
  repeat' (first | ((first | with_reducible refine nl_op rfl ?_ | refine nd_go rfl rfl rfl ?_); intro K hK; (first | ((first | refine on_E hF rfl rfl ?_ | refine od_E rfl rfl ?_ | refine od_R rfl rfl ?_); (first | refine ⟨_, a_yl, ?_⟩)) | ((first | refine on_Ec hF rfl rfl ?_ | refine od_Ec rfl rfl ?_); refine ⟨_, _, _, a_yc, ?_, ?_⟩ <;> (intro hc; try exact a_cut hc)) | ((first | (refine od_act a_nd ?_; intro K2 hK2) | refine od_last a_nd ?_ | skip); (first  | (refine on_box hF rfl rfl rfl rfl (fun B => ?_)) | (refine on_store hF rfl rfl rfl rfl a_turn a_vof a_sz ?_) | (refine on_storeE hF rfl rfl rfl rfl a_turn a_om a_vof a_sz ?_) | (refine on_storeEF hF rfl rfl rfl rfl a_turn a_as (by decide) a_vof rfl ?_) | (refine on_storeF hF rfl rfl rfl rfl a_turn (by decide) a_vof rfl ?_)) <;> try (refine hK2 _ _ _ a_allK ?_; clear hK2 K2))) <;> (refine hK _ _ _ ?_; clear hK K)) | with_reducible (first | refine nx_seq ?_ | refine nx_region ?_ | refine nl_nil ?_ | refine nq_then_n ?_ | refine nx_block ?_ | refine nx_skip ?_ | refine nx_exit ?_ | refine nx_ret ?_ | refine nq_then_x ?_ | refine nq_then_r ?_ | refine nq_blk_n ?_ | refine nq_blk_r ?_ | refine nq_blk_hit ?_ | refine nq_blk_miss rfl ?_ | refine nd_nil ?_) | refine nx_cond_t rfl ?_ | refine nx_cond_f rfl ?_ | refine nl_pass hF rfl rfl rfl ?_ | refine nd_pass rfl rfl rfl rfl rfl ?_ | refine nd_pass2 rfl rfl rfl a_nd a_allK rfl rfl ?_ | refine nd_pass3 rfl rfl rfl a_nd rfl rfl ?_ | (with_reducible refine hQ1 _ _ _ ?_; clear hQ1 Q1) )
  refine nx_end [] rfl () (fun a w ha hw => res_tmp Tryz.results51 rfl ha) (by exact a_subR) (by exact a_holds2)
set_option maxRecDepth 100000 in
theorem so_ct {s : Value} {xs : List Value} {p : Value → Bool} {RF : List Ch} (h : PredN Tryz.prog xs p s RF) : Ct Tryz.prog 29 [s] W0 X R C { f // PredS Tryz.prog xs p f RF } (fun f => f.1) (fun _ => R) (fun _ => C) := by
  intro w hw
  have hF := isWide_wide
  rcases h with h | ⟨rfl, h⟩
  · obtain ⟨f, a, rfl, _⟩ := id h
    refine calls_nx Tryz.func29 rfl Tryz.ntmps29 rfl ?_ hw
    repeat' (first | ((first | with_reducible refine nl_op rfl ?_ | refine nd_go rfl rfl rfl ?_); intro K hK; (first | ((first | refine on_E hF rfl rfl ?_ | refine od_E rfl rfl ?_ | refine od_R rfl rfl ?_); (first | refine ⟨_, a_yl, ?_⟩)) | ((first | refine on_Ec hF rfl rfl ?_ | refine od_Ec rfl rfl ?_); refine ⟨_, _, _, a_yc, ?_, ?_⟩ <;> (intro hc; try exact a_cut hc)) | ((first | (refine od_act a_nd ?_; intro K2 hK2) | refine od_last a_nd ?_ | skip); (first  | (refine on_box hF rfl rfl rfl rfl (fun B => ?_)) | (refine on_store hF rfl rfl rfl rfl a_turn a_vof a_sz ?_) | (refine on_storeE hF rfl rfl rfl rfl a_turn a_om a_vof a_sz ?_) | (refine on_storeEF hF rfl rfl rfl rfl a_turn a_as (by decide) a_vof rfl ?_) | (refine on_storeF hF rfl rfl rfl rfl a_turn (by decide) a_vof rfl ?_)) <;> try (refine hK2 _ _ _ a_allK ?_; clear hK2 K2))) <;> (refine hK _ _ _ ?_; clear hK K)) | with_reducible (first | refine nx_seq ?_ | refine nx_region ?_ | refine nl_nil ?_ | refine nq_then_n ?_ | refine nx_block ?_ | refine nx_skip ?_ | refine nx_exit ?_ | refine nx_ret ?_ | refine nq_then_x ?_ | refine nq_then_r ?_ | refine nq_blk_n ?_ | refine nq_blk_r ?_ | refine nq_blk_hit ?_ | refine nq_blk_miss rfl ?_ | refine nd_nil ?_) | refine nx_cond_t rfl ?_ | refine nx_cond_f rfl ?_ | refine nl_pass hF rfl rfl rfl ?_ | refine nd_pass rfl rfl rfl rfl rfl ?_ | refine nd_pass2 rfl rfl rfl a_nd a_allK rfl rfl ?_ | refine nd_pass3 rfl rfl rfl a_nd rfl rfl ?_ | (with_reducible refine hQ1 _ _ _ ?_; clear hQ1 Q1) )
    refine nx_end [] rfl (⟨_, h⟩) (fun a w ha hw => res_tmp Tryz.results29 rfl ha) (by exact a_subR) (by exact a_holds2)
  · have h2 : PredS Tryz.prog xs p (.func (.func 51) #[] #[]) RF := ⟨51, [], rfl, (enters_of Tryz.func51 (by kernel_rfl) rfl), fun W0 X R C _ x hx => by rw [h x hx]; exact so1_ct x⟩
    refine calls_nx Tryz.func29 rfl Tryz.ntmps29 rfl ?_ hw
    repeat' (first | ((first | with_reducible refine nl_op rfl ?_ | refine nd_go rfl rfl rfl ?_); intro K hK; (first | ((first | refine on_E hF rfl rfl ?_ | refine od_E rfl rfl ?_ | refine od_R rfl rfl ?_); (first | refine ⟨_, a_yl, ?_⟩)) | ((first | refine on_Ec hF rfl rfl ?_ | refine od_Ec rfl rfl ?_); refine ⟨_, _, _, a_yc, ?_, ?_⟩ <;> (intro hc; try exact a_cut hc)) | ((first | (refine od_act a_nd ?_; intro K2 hK2) | refine od_last a_nd ?_ | skip); (first  | (refine on_box hF rfl rfl rfl rfl (fun B => ?_)) | (refine on_store hF rfl rfl rfl rfl a_turn a_vof a_sz ?_) | (refine on_storeE hF rfl rfl rfl rfl a_turn a_om a_vof a_sz ?_) | (refine on_storeEF hF rfl rfl rfl rfl a_turn a_as (by decide) a_vof rfl ?_) | (refine on_storeF hF rfl rfl rfl rfl a_turn (by decide) a_vof rfl ?_)) <;> try (refine hK2 _ _ _ a_allK ?_; clear hK2 K2))) <;> (refine hK _ _ _ ?_; clear hK K)) | with_reducible (first | refine nx_seq ?_ | refine nx_region ?_ | refine nl_nil ?_ | refine nq_then_n ?_ | refine nx_block ?_ | refine nx_skip ?_ | refine nx_exit ?_ | refine nx_ret ?_ | refine nq_then_x ?_ | refine nq_then_r ?_ | refine nq_blk_n ?_ | refine nq_blk_r ?_ | refine nq_blk_hit ?_ | refine nq_blk_miss rfl ?_ | refine nd_nil ?_) | refine nx_cond_t rfl ?_ | refine nx_cond_f rfl ?_ | refine nl_pass hF rfl rfl rfl ?_ | refine nd_pass rfl rfl rfl rfl rfl ?_ | refine nd_pass2 rfl rfl rfl a_nd a_allK rfl rfl ?_ | refine nd_pass3 rfl rfl rfl a_nd rfl rfl ?_ | (with_reducible refine hQ1 _ _ _ ?_; clear hQ1 Q1) )
    refine nx_end [] rfl (⟨_, h2⟩) (fun a w ha hw => res_tmp Tryz.results29 rfl ha) (by exact a_subR) (by exact a_holds2)
set_option maxRecDepth 100000 in
theorem vals_ct (s : Value) : Ct Tryz.prog 30 [s] W0 X R C Nat (fun B => .func (.func 52) #[] #[ptr B]) (fun B => BoxC B 22 s :: R) (fun _ => C) := by
  intro w hw
  have hF := isWide_wide
  refine calls_nx Tryz.func30 rfl Tryz.ntmps30 rfl ?_ hw
  repeat' (first | ((first | with_reducible refine nl_op rfl ?_ | refine nd_go rfl rfl rfl ?_); intro K hK; (first | ((first | refine on_E hF rfl rfl ?_ | refine od_E rfl rfl ?_ | refine od_R rfl rfl ?_); (first | refine ⟨_, a_yl, ?_⟩)) | ((first | refine on_Ec hF rfl rfl ?_ | refine od_Ec rfl rfl ?_); refine ⟨_, _, _, a_yc, ?_, ?_⟩ <;> (intro hc; try exact a_cut hc)) | ((first | (refine od_act a_nd ?_; intro K2 hK2) | refine od_last a_nd ?_ | skip); (first  | (refine on_box hF rfl rfl rfl rfl (fun B => ?_)) | (refine on_store hF rfl rfl rfl rfl a_turn a_vof a_sz ?_) | (refine on_storeE hF rfl rfl rfl rfl a_turn a_om a_vof a_sz ?_) | (refine on_storeEF hF rfl rfl rfl rfl a_turn a_as (by decide) a_vof rfl ?_) | (refine on_storeF hF rfl rfl rfl rfl a_turn (by decide) a_vof rfl ?_)) <;> try (refine hK2 _ _ _ a_allK ?_; clear hK2 K2))) <;> (refine hK _ _ _ ?_; clear hK K)) | with_reducible (first | refine nx_seq ?_ | refine nx_region ?_ | refine nl_nil ?_ | refine nq_then_n ?_ | refine nx_block ?_ | refine nx_skip ?_ | refine nx_exit ?_ | refine nx_ret ?_ | refine nq_then_x ?_ | refine nq_then_r ?_ | refine nq_blk_n ?_ | refine nq_blk_r ?_ | refine nq_blk_hit ?_ | refine nq_blk_miss rfl ?_ | refine nd_nil ?_) | refine nx_cond_t rfl ?_ | refine nx_cond_f rfl ?_ | refine nl_pass hF rfl rfl rfl ?_ | refine nd_pass rfl rfl rfl rfl rfl ?_ | refine nd_pass2 rfl rfl rfl a_nd a_allK rfl rfl ?_ | refine nd_pass3 rfl rfl rfl a_nd rfl rfl ?_ | (with_reducible refine hQ1 _ _ _ ?_; clear hQ1 Q1) )
  refine nx_frz (BoxC _ _ _) Pick.here ?_
  refine nx_end [] rfl B (fun a w ha hw => res_tmp Tryz.results30 rfl ha) (by exact a_subR) (by exact a_holds2)
set_option maxRecDepth 100000 in
set_option maxHeartbeats 1000000 in
theorem vals_it (B : Nat) (s : Value) (xs : List Value) (hv : ∀ x ∈ xs, VOf Tryz.prog 33 x) (hs : IsSl s) (hm : xs.length ≤ maxLen) : It Tryz.prog xs (.func (.func 52) #[] #[ptr B]) [BoxC B 22 s, SlC 9 s xs] := by
  refine ⟨52, [ptr B], rfl, (enters_of Tryz.func52 (by kernel_rfl) rfl), ?_⟩
  intro y RY J JX hY hy W0 X R E hRS hRY w hw
  have hF := isWide_wide
  have hb : BoxC B 22 s ∈ R := hRS _ (by simp)
  have hsl : SlC 9 s xs ∈ R := hRS _ (by simp)
  have hvs : VOf Tryz.prog 22 s := vof_slice (by kernel_rfl) hs
  have hyv : VOf Tryz.prog 45 y := vof_func (by kernel_rfl) (by obtain ⟨f, lb, h⟩ := hy; exact ⟨f, _, lb, h⟩)
  unfold maxLen at hm
  refine calls_nx Tryz.func52 rfl Tryz.ntmps52 rfl ?_ hw
  repeat' (first | ((first | with_reducible refine nl_op rfl ?_ | refine nd_go rfl rfl rfl ?_); intro K hK; (first | ((first | refine on_E hF rfl rfl ?_ | refine od_E rfl rfl ?_ | refine od_R rfl rfl ?_); (first | refine ⟨_, a_yl, ?_⟩)) | ((first | refine on_Ec hF rfl rfl ?_ | refine od_Ec rfl rfl ?_); refine ⟨_, _, _, a_yc, ?_, ?_⟩ <;> (intro hc; try exact a_cut hc)) | ((first | (refine od_act a_nd ?_; intro K2 hK2) | refine od_last a_nd ?_ | skip); (first | (refine on_alloc hF rfl Tryz.zeroValue33 rfl rfl (fun B => ?_)) | (refine on_box hF rfl rfl rfl rfl (fun B => ?_)) | (refine on_store hF rfl rfl rfl rfl a_turn a_vof a_sz ?_) | (refine on_storeE hF rfl rfl rfl rfl a_turn a_om a_vof a_sz ?_) | (refine on_storeEF hF rfl rfl rfl rfl a_turn a_as (by decide) a_vof rfl ?_) | (refine on_storeF hF rfl rfl rfl rfl a_turn (by decide) a_vof rfl ?_)) <;> try (refine hK2 _ _ _ a_allK ?_; clear hK2 K2))) <;> (refine hK _ _ _ ?_; clear hK K)) | with_reducible (first | refine nx_seq ?_ | refine nx_region ?_ | refine nl_nil ?_ | refine nq_then_n ?_ | refine nx_block ?_ | refine nx_skip ?_ | refine nx_exit ?_ | refine nx_ret ?_ | refine nq_then_x ?_ | refine nq_then_r ?_ | refine nq_blk_n ?_ | refine nq_blk_r ?_ | refine nq_blk_hit ?_ | refine nq_blk_miss rfl ?_ | refine nd_nil ?_) | refine nx_cond_t rfl ?_ | refine nx_cond_f rfl ?_ | refine nl_pass hF rfl rfl rfl ?_ | refine nd_pass rfl rfl rfl rfl rfl ?_ | refine nd_pass2 rfl rfl rfl a_nd a_allK rfl rfl ?_ | refine nd_pass3 rfl rfl rfl a_nd rfl rfl ?_ | (with_reducible refine hQ1 _ _ _ ?_; clear hQ1 Q1) )
  refine nx_loop (ι := { i : Nat // i ≤ xs.length }) (fun i => [(0, y), (5, s), (6, .int .i64 (xs.length : Int)), (7, .int .i64 (i.1 : Int))]) (fun _ => R) (fun i => J (xs.take i.1) :: E) (fun i => xs.length - i.1) ⟨0, Nat.zero_le _⟩ (by exact a_sub) (by exact a_subR) (by exact a_holds) (fun i => ?_)
  obtain ⟨i, hi⟩ := i
  dsimp only
  by_cases hlt : i < xs.length
  · have hx : xs[i]? = some xs[i] := by simp [hlt]
    have hvx : VOf Tryz.prog 33 xs[i] := hv _ (by simp)
    have hz : xs = xs.take i ++ xs[i] :: xs.drop (i + 1) := by rw [List.getElem_cons_drop, List.take_append_drop]
    have htk : xs.take (i + 1) = xs.take i ++ [xs[i]] := by rw [List.take_succ_eq_append_getElem hlt]
    have hsz : ((cv (xs[i])).size) = 9 := by have := hvx.size; rw [show (Tryz.prog.info? 33).map (·.size) = some 9 from by kernel_rfl] at this; exact (Option.some.inj this).symm
    repeat' (first | ((first | with_reducible refine nl_op rfl ?_ | refine nd_go rfl rfl rfl ?_); intro K hK; (first | ((first | refine on_E hF rfl rfl ?_ | refine od_E rfl rfl ?_ | refine od_R rfl rfl ?_); (first | refine ⟨_, a_yl, ?_⟩)) | ((first | refine on_Ec hF rfl rfl ?_ | refine od_Ec rfl rfl ?_); refine ⟨_, _, _, a_yc, ?_, ?_⟩ <;> (intro hc; try exact a_cut hc)) | ((first | (refine od_act a_nd ?_; intro K2 hK2) | refine od_last a_nd ?_ | skip); (first | (refine on_yield hF hY (xs.take i) xs[i] (xs.drop (i + 1)) hz rfl rfl rfl rfl rfl rfl hRY rfl (by exact a_pick) ?_ ?_) | (refine on_alloc hF rfl Tryz.zeroValue33 rfl rfl (fun B => ?_)) | (refine on_box hF rfl rfl rfl rfl (fun B => ?_)) | (refine on_store hF rfl rfl rfl rfl a_turn a_vof a_sz ?_) | (refine on_storeE hF rfl rfl rfl rfl a_turn a_om a_vof a_sz ?_) | (refine on_storeEF hF rfl rfl rfl rfl a_turn a_as (by decide) a_vof rfl ?_) | (refine on_storeF hF rfl rfl rfl rfl a_turn (by decide) a_vof rfl ?_)) <;> try (refine hK2 _ _ _ a_allK ?_; clear hK2 K2))) <;> (refine hK _ _ _ ?_; clear hK K)) | with_reducible (first | refine nx_seq ?_ | refine nx_region ?_ | refine nl_nil ?_ | refine nq_then_n ?_ | refine nx_block ?_ | refine nx_skip ?_ | refine nx_exit ?_ | refine nx_ret ?_ | refine nq_then_x ?_ | refine nq_then_r ?_ | refine nq_blk_n ?_ | refine nq_blk_r ?_ | refine nq_blk_hit ?_ | refine nq_blk_miss rfl ?_ | refine nd_nil ?_) | refine nx_cond_t rfl ?_ | refine nx_cond_f rfl ?_ | refine nl_pass hF rfl rfl rfl ?_ | refine nd_pass rfl rfl rfl rfl rfl ?_ | refine nd_pass2 rfl rfl rfl a_nd a_allK rfl rfl ?_ | refine nd_pass3 rfl rfl rfl a_nd rfl rfl ?_ | (with_reducible refine hQ1 _ _ _ ?_; clear hQ1 Q1) )
    · rw [← htk]
      refine nx_again ⟨i + 1, by omega⟩ (by dsimp only; omega) (by exact a_sub) (by exact a_subR) (by exact a_holds)
    · refine nx_end [] rfl (some ⟨xs.take i ++ [xs[i]], _, _, _, rfl, hz⟩) (fun a w ha hw => res_none Tryz.results52) (by exact a_subR) (by exact a_holds2)
  · repeat' (first | ((first | with_reducible refine nl_op rfl ?_ | refine nd_go rfl rfl rfl ?_); intro K hK; (first | ((first | refine on_E hF rfl rfl ?_ | refine od_E rfl rfl ?_ | refine od_R rfl rfl ?_); (first | refine ⟨_, a_yl, ?_⟩)) | ((first | refine on_Ec hF rfl rfl ?_ | refine od_Ec rfl rfl ?_); refine ⟨_, _, _, a_yc, ?_, ?_⟩ <;> (intro hc; try exact a_cut hc)) | ((first | (refine od_act a_nd ?_; intro K2 hK2) | refine od_last a_nd ?_ | skip); (first | (refine on_alloc hF rfl Tryz.zeroValue33 rfl rfl (fun B => ?_)) | (refine on_box hF rfl rfl rfl rfl (fun B => ?_)) | (refine on_store hF rfl rfl rfl rfl a_turn a_vof a_sz ?_) | (refine on_storeE hF rfl rfl rfl rfl a_turn a_om a_vof a_sz ?_) | (refine on_storeEF hF rfl rfl rfl rfl a_turn a_as (by decide) a_vof rfl ?_) | (refine on_storeF hF rfl rfl rfl rfl a_turn (by decide) a_vof rfl ?_)) <;> try (refine hK2 _ _ _ a_allK ?_; clear hK2 K2))) <;> (refine hK _ _ _ ?_; clear hK K)) | with_reducible (first | refine nx_seq ?_ | refine nx_region ?_ | refine nl_nil ?_ | refine nq_then_n ?_ | refine nx_block ?_ | refine nx_skip ?_ | refine nx_exit ?_ | refine nx_ret ?_ | refine nq_then_x ?_ | refine nq_then_r ?_ | refine nq_blk_n ?_ | refine nq_blk_r ?_ | refine nq_blk_hit ?_ | refine nq_blk_miss rfl ?_ | refine nd_nil ?_) | refine nx_cond_t rfl ?_ | refine nx_cond_f rfl ?_ | refine nl_pass hF rfl rfl rfl ?_ | refine nd_pass rfl rfl rfl rfl rfl ?_ | refine nd_pass2 rfl rfl rfl a_nd a_allK rfl rfl ?_ | refine nd_pass3 rfl rfl rfl a_nd rfl rfl ?_ | (with_reducible refine hQ1 _ _ _ ?_; clear hQ1 Q1) )
    have : xs.take i = xs := List.take_of_length_le (by omega)
    rw [this]
    refine nx_end_n [] rfl none (fun a w ha hw => res_none Tryz.results52) (by exact a_subR) (by exact a_holds2)
set_option maxRecDepth 100000 in
set_option maxHeartbeats 1000000 in
theorem clone_ct (s : Value) (xs : List Value) (hs : SlC 9 s xs ∈ R) (hsh : IsSl s) (hv : ∀ x ∈ xs, VOf Tryz.prog 33 x) (hm : xs.length * 88 ≤ 140737488355328) : Ct Tryz.prog 31 [s] W0 X R C SV (fun v => v.1) (fun _ => R) (fun v => RowC 33 9 v.1 xs :: C) := by
  intro w hw
  have hF := isWide_wide
  have hc : Cel 9 xs := Cel.of hv (by kernel_rfl)
  obtain ⟨a, i, c, rfl⟩ := hsh
  have h1 := hw.hasR hs
  obtain ⟨_, ⟨A, c', e1, h2, h3, h4⟩, _⟩ := h1
  have hm1 : 0 + xs.length ≤ maxLen := by unfold maxLen; omega
  have hm2 : (0 + xs.length) * 88 ≤ 140737488355328 := by omega
  refine calls_nx Tryz.func31 rfl Tryz.ntmps31 rfl ?_ hw
  cases a with
  | none =>
    obtain rfl : xs = [] := by
      injection e1 with e2 e3 e4
      have := h3 e2.symm
      exact List.eq_nil_of_length_eq_zero (by omega)
    repeat' (first | ((first | with_reducible refine nl_op rfl ?_ | refine nd_go rfl rfl rfl ?_); intro K hK; (first | ((first | refine on_E hF rfl rfl ?_ | refine od_E rfl rfl ?_ | refine od_R rfl rfl ?_); (first | refine ⟨_, a_yl, ?_⟩)) | ((first | refine on_Ec hF rfl rfl ?_ | refine od_Ec rfl rfl ?_); refine ⟨_, _, _, a_yc, ?_, ?_⟩ <;> (intro hc; try exact a_cut hc)) | ((first | (refine od_act a_nd ?_; intro K2 hK2) | refine od_last a_nd ?_ | skip); (first | (refine on_buildSlice (T := 22) (e := 33) (k := 9) (by_ := 88) hF rfl rfl rfl rfl rfl rfl (by kernel_rfl) a_cel (Nat.le_of_ble_eq_true rfl) (fun b => ?_)) | (refine on_append (T := 22) (e := 33) (k := 9) (by_ := 88) hF rfl rfl rfl rfl rfl a_pick (by kernel_rfl) a_sl a_cel a_bnd a_bnd (fun v => ?_)) | (refine on_box hF rfl rfl rfl rfl (fun B => ?_)) | (refine on_store hF rfl rfl rfl rfl a_turn a_vof a_sz ?_) | (refine on_storeE hF rfl rfl rfl rfl a_turn a_om a_vof a_sz ?_) | (refine on_storeEF hF rfl rfl rfl rfl a_turn a_as (by decide) a_vof rfl ?_) | (refine on_storeF hF rfl rfl rfl rfl a_turn (by decide) a_vof rfl ?_)) <;> try (refine hK2 _ _ _ a_allK ?_; clear hK2 K2))) <;> (refine hK _ _ _ ?_; clear hK K)) | with_reducible (first | refine nx_seq ?_ | refine nx_region ?_ | refine nl_nil ?_ | refine nq_then_n ?_ | refine nx_block ?_ | refine nx_skip ?_ | refine nx_exit ?_ | refine nx_ret ?_ | refine nq_then_x ?_ | refine nq_then_r ?_ | refine nq_blk_n ?_ | refine nq_blk_r ?_ | refine nq_blk_hit ?_ | refine nq_blk_miss rfl ?_ | refine nd_nil ?_) | refine nx_cond_t rfl ?_ | refine nx_cond_f rfl ?_ | refine nl_pass hF rfl rfl rfl ?_ | refine nd_pass rfl rfl rfl rfl rfl ?_ | refine nd_pass2 rfl rfl rfl a_nd a_allK rfl rfl ?_ | refine nd_pass3 rfl rfl rfl a_nd rfl rfl ?_ | (with_reducible refine hQ1 _ _ _ ?_; clear hQ1 Q1) )
    refine nx_nilRow 33 9 ?_
    refine nx_end [] rfl (⟨.slice none 0 0, _, _, _, rfl⟩) (fun a w ha hw => res_tmp Tryz.results31 rfl ha) (by exact a_subR) (by exact a_holds2)
  | some a =>
    repeat' (first | ((first | with_reducible refine nl_op rfl ?_ | refine nd_go rfl rfl rfl ?_); intro K hK; (first | ((first | refine on_E hF rfl rfl ?_ | refine od_E rfl rfl ?_ | refine od_R rfl rfl ?_); (first | refine ⟨_, a_yl, ?_⟩)) | ((first | refine on_Ec hF rfl rfl ?_ | refine od_Ec rfl rfl ?_); refine ⟨_, _, _, a_yc, ?_, ?_⟩ <;> (intro hc; try exact a_cut hc)) | ((first | (refine od_act a_nd ?_; intro K2 hK2) | refine od_last a_nd ?_ | skip); (first | (refine on_buildSlice (e := 33) (k := 9) (by_ := 88) hF rfl rfl rfl rfl rfl rfl (by kernel_rfl) Cel.nil (by decide) (fun B => ?_)) | (refine on_append (e := 33) (k := 9) (by_ := 88) hF rfl rfl rfl rfl rfl (by exact a_pick) (by kernel_rfl) (by exact a_sl) hc (by exact hm1) (by exact hm2) (fun v => ?_)) | (refine on_buildSlice (T := 22) (e := 33) (k := 9) (by_ := 88) hF rfl rfl rfl rfl rfl rfl (by kernel_rfl) a_cel (Nat.le_of_ble_eq_true rfl) (fun b => ?_)) | (refine on_append (T := 22) (e := 33) (k := 9) (by_ := 88) hF rfl rfl rfl rfl rfl a_pick (by kernel_rfl) a_sl a_cel a_bnd a_bnd (fun v => ?_)) | (refine on_box hF rfl rfl rfl rfl (fun B => ?_)) | (refine on_store hF rfl rfl rfl rfl a_turn a_vof a_sz ?_) | (refine on_storeE hF rfl rfl rfl rfl a_turn a_om a_vof a_sz ?_) | (refine on_storeEF hF rfl rfl rfl rfl a_turn a_as (by decide) a_vof rfl ?_) | (refine on_storeF hF rfl rfl rfl rfl a_turn (by decide) a_vof rfl ?_)) <;> try (refine hK2 _ _ _ a_allK ?_; clear hK2 K2))) <;> (refine hK _ _ _ ?_; clear hK K)) | with_reducible (first | refine nx_seq ?_ | refine nx_region ?_ | refine nl_nil ?_ | refine nq_then_n ?_ | refine nx_block ?_ | refine nx_skip ?_ | refine nx_exit ?_ | refine nx_ret ?_ | refine nq_then_x ?_ | refine nq_then_r ?_ | refine nq_blk_n ?_ | refine nq_blk_r ?_ | refine nq_blk_hit ?_ | refine nq_blk_miss rfl ?_ | refine nd_nil ?_) | refine nx_cond_t rfl ?_ | refine nx_cond_f rfl ?_ | refine nl_pass hF rfl rfl rfl ?_ | refine nd_pass rfl rfl rfl rfl rfl ?_ | refine nd_pass2 rfl rfl rfl a_nd a_allK rfl rfl ?_ | refine nd_pass3 rfl rfl rfl a_nd rfl rfl ?_ | (with_reducible refine hQ1 _ _ _ ?_; clear hQ1 Q1) )
    refine nx_end [] rfl v (fun a w ha hw => res_tmp Tryz.results31 rfl ha) (by exact a_subR) (by exact a_holds2)
def ofV (B : Nat) : Value := .func (.func 52) #[] #[ptr B]
set_option maxRecDepth 100000 in
theorem of_ct (s : Value) (xs : List Value) (hs : SlC 9 s xs ∈ R) (hsh : IsSl s) (hv : ∀ x ∈ xs, VOf Tryz.prog 33 x) (hm : xs.length * 88 ≤ 140737488355328) :
    Ct Tryz.prog 15 [s] W0 X R C (SV × Nat) (fun i => ofV i.2) (fun i => BoxC i.2 22 i.1.1 :: SlC 9 i.1.1 xs :: R) (fun _ => C) := by
  intro w hw
  have hF := isWide_wide
  refine calls_nx Tryz.func15 rfl Tryz.ntmps15 rfl ?_ hw
  repeat' (first | ((first | with_reducible refine nl_op rfl ?_ | refine nd_go rfl rfl rfl ?_); intro K hK; (first | ((first | refine on_E hF rfl rfl ?_ | refine od_E rfl rfl ?_ | refine od_R rfl rfl ?_); (first | refine ⟨_, a_yl, ?_⟩)) | ((first | refine on_Ec hF rfl rfl ?_ | refine od_Ec rfl rfl ?_); refine ⟨_, _, _, a_yc, ?_, ?_⟩ <;> (intro hc; try exact a_cut hc)) | ((first | (refine od_act a_nd ?_; intro K2 hK2) | refine od_last a_nd ?_ | skip); (first | (refine on_callG hF (enters_of Tryz.func31 (by kernel_rfl) rfl) rfl rfl rfl rfl (clone_ct s xs hs hsh hv hm) (fun v => ?_); refine nx_frzRow Pick.here ?_) | (refine on_callG hF (enters_of Tryz.func30 (by kernel_rfl) rfl) rfl rfl rfl rfl (vals_ct _) (fun B => ?_)) | (refine on_box hF rfl rfl rfl rfl (fun B => ?_)) | (refine on_store hF rfl rfl rfl rfl a_turn a_vof a_sz ?_) | (refine on_storeE hF rfl rfl rfl rfl a_turn a_om a_vof a_sz ?_) | (refine on_storeEF hF rfl rfl rfl rfl a_turn a_as (by decide) a_vof rfl ?_) | (refine on_storeF hF rfl rfl rfl rfl a_turn (by decide) a_vof rfl ?_)) <;> try (refine hK2 _ _ _ a_allK ?_; clear hK2 K2))) <;> (refine hK _ _ _ ?_; clear hK K)) | with_reducible (first | refine nx_seq ?_ | refine nx_region ?_ | refine nl_nil ?_ | refine nq_then_n ?_ | refine nx_block ?_ | refine nx_skip ?_ | refine nx_exit ?_ | refine nx_ret ?_ | refine nq_then_x ?_ | refine nq_then_r ?_ | refine nq_blk_n ?_ | refine nq_blk_r ?_ | refine nq_blk_hit ?_ | refine nq_blk_miss rfl ?_ | refine nd_nil ?_) | refine nx_cond_t rfl ?_ | refine nx_cond_f rfl ?_ | refine nl_pass hF rfl rfl rfl ?_ | refine nd_pass rfl rfl rfl rfl rfl ?_ | refine nd_pass2 rfl rfl rfl a_nd a_allK rfl rfl ?_ | refine nd_pass3 rfl rfl rfl a_nd rfl rfl ?_ | (with_reducible refine hQ1 _ _ _ ?_; clear hQ1 Q1) )
  refine nx_end [] rfl (v, B) (fun a w ha hw => res_tmp Tryz.results15 rfl ha) (by exact a_subR) (by exact a_holds2)
theorem of_it (i : SV × Nat) (xs : List Value) (hv : ∀ x ∈ xs, VOf Tryz.prog 33 x) (hm : xs.length ≤ maxLen) : It Tryz.prog xs (ofV i.2) [BoxC i.2 22 i.1.1, SlC 9 i.1.1 xs] := vals_it i.2 i.1.1 xs hv i.1.2 hm
set_option maxRecDepth 100000 in
theorem keep_ct (s f : Value) (hs : fnB s = true) (hf : fnB f = true) : Ct Tryz.prog 14 [s, f] W0 X R C (Nat × Nat) (fun i => .func (.func 27) #[] #[ptr i.1, ptr i.2]) (fun i => BoxC i.2 45 f :: BoxC i.1 40 s :: R) (fun _ => C) := by
  intro w hw
  have hF := isWide_wide
  have hvs : VOf Tryz.prog 40 s := vof_fn (by kernel_rfl) hs
  have hvf : VOf Tryz.prog 45 f := vof_fn (by kernel_rfl) hf
  refine calls_nx Tryz.func14 rfl Tryz.ntmps14 rfl ?_ hw
  repeat' (first | ((first | with_reducible refine nl_op rfl ?_ | refine nd_go rfl rfl rfl ?_); intro K hK; (first | ((first | refine on_E hF rfl rfl ?_ | refine od_E rfl rfl ?_ | refine od_R rfl rfl ?_); (first | refine ⟨_, a_yl, ?_⟩)) | ((first | refine on_Ec hF rfl rfl ?_ | refine od_Ec rfl rfl ?_); refine ⟨_, _, _, a_yc, ?_, ?_⟩ <;> (intro hc; try exact a_cut hc)) | ((first | (refine od_act a_nd ?_; intro K2 hK2) | refine od_last a_nd ?_ | skip); (first  | (refine on_box hF rfl rfl rfl rfl (fun B => ?_)) | (refine on_store hF rfl rfl rfl rfl a_turn a_vof a_sz ?_) | (refine on_storeE hF rfl rfl rfl rfl a_turn a_om a_vof a_sz ?_) | (refine on_storeEF hF rfl rfl rfl rfl a_turn a_as (by decide) a_vof rfl ?_) | (refine on_storeF hF rfl rfl rfl rfl a_turn (by decide) a_vof rfl ?_)) <;> try (refine hK2 _ _ _ a_allK ?_; clear hK2 K2))) <;> (refine hK _ _ _ ?_; clear hK K)) | with_reducible (first | refine nx_seq ?_ | refine nx_region ?_ | refine nl_nil ?_ | refine nq_then_n ?_ | refine nx_block ?_ | refine nx_skip ?_ | refine nx_exit ?_ | refine nx_ret ?_ | refine nq_then_x ?_ | refine nq_then_r ?_ | refine nq_blk_n ?_ | refine nq_blk_r ?_ | refine nq_blk_hit ?_ | refine nq_blk_miss rfl ?_ | refine nd_nil ?_) | refine nx_cond_t rfl ?_ | refine nx_cond_f rfl ?_ | refine nl_pass hF rfl rfl rfl ?_ | refine nd_pass rfl rfl rfl rfl rfl ?_ | refine nd_pass2 rfl rfl rfl a_nd a_allK rfl rfl ?_ | refine nd_pass3 rfl rfl rfl a_nd rfl rfl ?_ | (with_reducible refine hQ1 _ _ _ ?_; clear hQ1 Q1) )
  rename_i b0
  refine nx_frz _ Pick.here ?_
  refine nx_frz _ Pick.here ?_
  refine nx_end [] rfl (b0, B) (fun a w ha hw => res_tmp Tryz.results14 rfl ha) (by exact a_subR) (by exact a_holds2)
set_option maxRecDepth 100000 in
set_option maxHeartbeats 1000000 in
theorem keep_it (b0 b1 : Nat) (s f : Value) (xs : List Value) (p : Value → Bool) (RS RF : List Ch) (hs : ItN Tryz.prog xs s RS) (hf : PredN Tryz.prog xs p f RF) (hv : ∀ x ∈ xs, VOf Tryz.prog 33 x) :
    It Tryz.prog (xs.filter p) (.func (.func 27) #[] #[ptr b0, ptr b1]) (BoxC b1 45 f :: BoxC b0 40 s :: (RS ++ RF)) := by
  refine ⟨27, [ptr b0, ptr b1], rfl, (enters_of Tryz.func27 (by kernel_rfl) rfl), ?_⟩
  intro y RY J JX hY hy W0 X R E hRS hRY w hw
  have hF := isWide_wide
  have hb0 : BoxC b0 40 s ∈ R := hRS _ (by simp)
  have hb1 : BoxC b1 45 f ∈ R := hRS _ (by simp)
  have hR1 : ∀ r ∈ RS, r ∈ R := fun r hr => hRS r (by simp [hr])
  have hR2 : ∀ r ∈ RF, r ∈ R := fun r hr => hRS r (by simp [hr])
  have hvs : VOf Tryz.prog 40 s := vof_fn (by kernel_rfl) hs.fn
  have hvf : VOf Tryz.prog 45 f := vof_fn (by kernel_rfl) hf.fn
  have hyv : VOf Tryz.prog 45 y := vof_func (by kernel_rfl) (by obtain ⟨f, lb, h⟩ := hy; exact ⟨f, _, lb, h⟩)
  clear hRS
  refine calls_nx Tryz.func27 rfl Tryz.ntmps27 rfl ?_ hw
  repeat' (first | ((first | with_reducible refine nl_op rfl ?_ | refine nd_go rfl rfl rfl ?_); intro K hK; (first | ((first | refine on_E hF rfl rfl ?_ | refine od_E rfl rfl ?_ | refine od_R rfl rfl ?_); (first | refine ⟨_, a_yl, ?_⟩)) | ((first | refine on_Ec hF rfl rfl ?_ | refine od_Ec rfl rfl ?_); refine ⟨_, _, _, a_yc, ?_, ?_⟩ <;> (intro hc; try exact a_cut hc)) | ((first | (refine od_act a_nd ?_; intro K2 hK2) | refine od_last a_nd ?_ | skip); (first | (refine on_callG hF (enters_of Tryz.func28 (by kernel_rfl) rfl) rfl rfl rfl rfl (each_ct hs) (fun s1 => ?_)) | (refine on_alloc hF rfl Tryz.zeroValue33 rfl rfl (fun B => ?_)) | (refine on_box hF rfl rfl rfl rfl (fun B => ?_)) | (refine on_store hF rfl rfl rfl rfl a_turn a_vof a_sz ?_) | (refine on_storeE hF rfl rfl rfl rfl a_turn a_om a_vof a_sz ?_) | (refine on_storeEF hF rfl rfl rfl rfl a_turn a_as (by decide) a_vof rfl ?_) | (refine on_storeF hF rfl rfl rfl rfl a_turn (by decide) a_vof rfl ?_)) <;> try (refine hK2 _ _ _ a_allK ?_; clear hK2 K2))) <;> (refine hK _ _ _ ?_; clear hK K)) | with_reducible (first | refine nx_seq ?_ | refine nx_region ?_ | refine nl_nil ?_ | refine nq_then_n ?_ | refine nx_block ?_ | refine nx_skip ?_ | refine nx_exit ?_ | refine nx_ret ?_ | refine nq_then_x ?_ | refine nq_then_r ?_ | refine nq_blk_n ?_ | refine nq_blk_r ?_ | refine nq_blk_hit ?_ | refine nq_blk_miss rfl ?_ | refine nd_nil ?_) | refine nx_cond_t rfl ?_ | refine nx_cond_f rfl ?_ | refine nl_pass hF rfl rfl rfl ?_ | refine nd_pass rfl rfl rfl rfl rfl ?_ | refine nd_pass2 rfl rfl rfl a_nd a_allK rfl rfl ?_ | refine nd_pass3 rfl rfl rfl a_nd rfl rfl ?_ | (with_reducible refine hQ1 _ _ _ ?_; clear hQ1 Q1) | (refine nd_region (id := 3) hF [1, 2, 1, 2, 0, 1, 1, 2, 0, 0] [0, 2, 1, 3, 4, 5, 6, 7, 8, 9] _ _ (by kernel_rfl) (by kernel_rfl) sub2_same ?_; intro Q1 hQ1))
  refine nx_frz _ Pick.here ?_
  refine nx_range hF rfl rfl s1.2 (fun r hr => List.mem_cons_of_mem _ (hR1 r hr)) (by rfl) (fun x vs h => by rw [h]; rfl) (fun _ (_ : Unit) => True) (fun pre _ => J (pre.filter p) :: E) (fun q j (_ : Unit) => j = none ∧ ∀ q' z, q = q' ++ [z] → p z = true) (fun q _ _ => JX (q.filter p) :: E) () trivial (by exact a_holds2) ?round ?done ?stop
  case round =>
    intro lp pre x post hx vs hvs' _ _ W1 X1 R' hR' E1 K HK
    subst hvs'
    have hF := isWide_wide.inRound lp
    have hmem : x ∈ xs := by rw [hx]; simp
    have hvx := hv x hmem
    have hsz : (cv x).size = 9 := by have := hvx.size; rw [show (Tryz.prog.info? 33).map (·.size) = some 9 from by kernel_rfl] at this; exact (Option.some.inj this).symm
    have hb1 : BoxC b1 45 f ∈ R' := hR' _ (List.mem_cons_of_mem _ hb1)
    have hby : BoxC B 45 y ∈ R' := hR' _ List.mem_cons_self
    have hR2 : ∀ r ∈ RF, r ∈ R' := fun r hr => hR' r (List.mem_cons_of_mem _ (hR2 r hr))
    have hRY : ∀ r ∈ RY, r ∈ R' := fun r hr => hR' r (List.mem_cons_of_mem _ (hRY r hr))
    clear hR' hR1 hb0
    repeat' (first | ((first | with_reducible refine nl_op rfl ?_ | refine nd_go rfl rfl rfl ?_); intro K hK; (first | ((first | refine on_E hF rfl rfl ?_ | refine od_E rfl rfl ?_ | refine od_R rfl rfl ?_); (first | refine ⟨_, a_yl, ?_⟩)) | ((first | refine on_Ec hF rfl rfl ?_ | refine od_Ec rfl rfl ?_); refine ⟨_, _, _, a_yc, ?_, ?_⟩ <;> (intro hc; try exact a_cut hc)) | ((first | (refine od_act a_nd ?_; intro K2 hK2) | refine od_last a_nd ?_ | skip); (first | (refine on_alloc hF rfl Tryz.zeroValue33 rfl rfl (fun B => ?_)) | (refine on_box hF rfl rfl rfl rfl (fun B => ?_)) | (refine on_store hF rfl rfl rfl rfl a_turn a_vof a_sz ?_) | (refine on_storeE hF rfl rfl rfl rfl a_turn a_om a_vof a_sz ?_) | (refine on_storeEF hF rfl rfl rfl rfl a_turn a_as (by decide) a_vof rfl ?_) | (refine on_storeF hF rfl rfl rfl rfl a_turn (by decide) a_vof rfl ?_)) <;> try (refine hK2 _ _ _ a_allK ?_; clear hK2 K2))) <;> (refine hK _ _ _ ?_; clear hK K)) | with_reducible (first | refine nx_seq ?_ | refine nx_region ?_ | refine nl_nil ?_ | refine nq_then_n ?_ | refine nx_block ?_ | refine nx_skip ?_ | refine nx_exit ?_ | refine nx_ret ?_ | refine nq_then_x ?_ | refine nq_then_r ?_ | refine nq_blk_n ?_ | refine nq_blk_r ?_ | refine nq_blk_hit ?_ | refine nq_blk_miss rfl ?_ | refine nd_nil ?_) | refine nx_cond_t rfl ?_ | refine nx_cond_f rfl ?_ | refine nl_pass hF rfl rfl rfl ?_ | refine nd_pass rfl rfl rfl rfl rfl ?_ | refine nd_pass2 rfl rfl rfl a_nd a_allK rfl rfl ?_ | refine nd_pass3 rfl rfl rfl a_nd rfl rfl ?_ | (with_reducible refine hQ1 _ _ _ ?_; clear hQ1 Q1) | (refine nd_region (id := 3) hF [1, 2, 1, 2, 0, 1, 1, 2, 0, 0] [0, 2, 1, 3, 4, 5, 6, 7, 8, 9] _ _ (by kernel_rfl) (by kernel_rfl) sub2_same ?_; intro Q1 hQ1))
    all_goals try (refine nx_frz (BoxC _ _ x) Pick.here ?_)
    refine HK _ _ (J (pre.filter p) :: E) _ (by exact a_subR) (by exact a_holds2) (fun E2 => ?_)
    clear HK K
    (try simp only [List.cons_append, List.nil_append])
    repeat' (first | ((first | with_reducible refine nl_op rfl ?_ | refine nd_go rfl rfl rfl ?_); intro K hK; (first | ((first | refine on_E hF rfl rfl ?_ | refine od_E rfl rfl ?_ | refine od_R rfl rfl ?_); (first | refine ⟨_, a_yl, ?_⟩)) | ((first | refine on_Ec hF rfl rfl ?_ | refine od_Ec rfl rfl ?_); refine ⟨_, _, _, a_yc, ?_, ?_⟩ <;> (intro hc; try exact a_cut hc)) | ((first | (refine od_act a_nd ?_; intro K2 hK2) | refine od_last a_nd ?_ | skip); (first | (refine on_callG hF (enters_of Tryz.func29 (by kernel_rfl) rfl) rfl rfl rfl rfl (so_ct hf) (fun f1 => ?_)) | (refine on_pred hF f1.2 rfl rfl rfl rfl rfl hmem (by exact a_subR) ?_ ?_ <;> intro hp) | (refine on_yield hF hY (pre.filter p) x (post.filter p) (by rw [hx]; simp [hp]) rfl rfl rfl rfl rfl rfl (by exact a_subR) rfl (by exact a_pick) ?_ ?_) | (refine on_alloc hF rfl Tryz.zeroValue33 rfl rfl (fun B => ?_)) | (refine on_box hF rfl rfl rfl rfl (fun B => ?_)) | (refine on_store hF rfl rfl rfl rfl a_turn a_vof a_sz ?_) | (refine on_storeE hF rfl rfl rfl rfl a_turn a_om a_vof a_sz ?_) | (refine on_storeEF hF rfl rfl rfl rfl a_turn a_as (by decide) a_vof rfl ?_) | (refine on_storeF hF rfl rfl rfl rfl a_turn (by decide) a_vof rfl ?_)) <;> try (refine hK2 _ _ _ a_allK ?_; clear hK2 K2))) <;> (refine hK _ _ _ ?_; clear hK K)) | with_reducible (first | refine nx_seq ?_ | refine nx_region ?_ | refine nl_nil ?_ | refine nq_then_n ?_ | refine nx_block ?_ | refine nx_skip ?_ | refine nx_exit ?_ | refine nx_ret ?_ | refine nq_then_x ?_ | refine nq_then_r ?_ | refine nq_blk_n ?_ | refine nq_blk_r ?_ | refine nq_blk_hit ?_ | refine nq_blk_miss rfl ?_ | refine nd_nil ?_) | refine nx_cond_t rfl ?_ | refine nx_cond_f rfl ?_ | refine nl_pass hF rfl rfl rfl ?_ | refine nd_pass rfl rfl rfl rfl rfl ?_ | refine nd_pass2 rfl rfl rfl a_nd a_allK rfl rfl ?_ | refine nd_pass3 rfl rfl rfl a_nd rfl rfl ?_ | (with_reducible refine hQ1 _ _ _ ?_; clear hQ1 Q1) | (refine nd_region (id := 3) hF [1, 2, 1, 2, 0, 1, 1, 2, 0, 0] [0, 2, 1, 3, 4, 5, 6, 7, 8, 9] [] _ (by kernel_rfl) (by kernel_rfl) (sub2_mk (fun c h => by cases h) (fun c h => h)) ?_; intro Q1 hQ1))
    all_goals (first
      | (have hft : (pre ++ [x]).filter p = pre.filter p ++ [x] := by simp [hp]
         rw [hft])
      | (have hft : (pre ++ [x]).filter p = pre.filter p := by simp [hp]
         rw [hft]))
    · exact rq_n () trivial (by exact a_subR) (by exact a_holds2)
    · exact rq_r () ⟨rfl, fun q' z h => by have h2 := congrArg List.getLast? h; simp at h2; rw [← h2]; exact hp⟩ (by exact a_subR) (by exact a_holds2)
    · exact rq_n () trivial (by exact a_subR) (by exact a_holds2)
  case done =>
    intro _ _ M
    repeat' (first | ((first | with_reducible refine nl_op rfl ?_ | refine nd_go rfl rfl rfl ?_); intro K hK; (first | ((first | refine on_E hF rfl rfl ?_ | refine od_E rfl rfl ?_ | refine od_R rfl rfl ?_); (first | refine ⟨_, a_yl, ?_⟩)) | ((first | refine on_Ec hF rfl rfl ?_ | refine od_Ec rfl rfl ?_); refine ⟨_, _, _, a_yc, ?_, ?_⟩ <;> (intro hc; try exact a_cut hc)) | ((first | (refine od_act a_nd ?_; intro K2 hK2) | refine od_last a_nd ?_ | skip); (first | (refine on_alloc hF rfl Tryz.zeroValue33 rfl rfl (fun B => ?_)) | (refine on_box hF rfl rfl rfl rfl (fun B => ?_)) | (refine on_store hF rfl rfl rfl rfl a_turn a_vof a_sz ?_) | (refine on_storeE hF rfl rfl rfl rfl a_turn a_om a_vof a_sz ?_) | (refine on_storeEF hF rfl rfl rfl rfl a_turn a_as (by decide) a_vof rfl ?_) | (refine on_storeF hF rfl rfl rfl rfl a_turn (by decide) a_vof rfl ?_)) <;> try (refine hK2 _ _ _ a_allK ?_; clear hK2 K2))) <;> (refine hK _ _ _ ?_; clear hK K)) | with_reducible (first | refine nx_seq ?_ | refine nx_region ?_ | refine nl_nil ?_ | refine nq_then_n ?_ | refine nx_block ?_ | refine nx_skip ?_ | refine nx_exit ?_ | refine nx_ret ?_ | refine nq_then_x ?_ | refine nq_then_r ?_ | refine nq_blk_n ?_ | refine nq_blk_r ?_ | refine nq_blk_hit ?_ | refine nq_blk_miss rfl ?_ | refine nd_nil ?_) | refine nx_cond_t rfl ?_ | refine nx_cond_f rfl ?_ | refine nl_pass hF rfl rfl rfl ?_ | refine nd_pass rfl rfl rfl rfl rfl ?_ | refine nd_pass2 rfl rfl rfl a_nd a_allK rfl rfl ?_ | refine nd_pass3 rfl rfl rfl a_nd rfl rfl ?_ | (with_reducible refine hQ1 _ _ _ ?_; clear hQ1 Q1) | (refine nd_region (id := 3) hF [1, 2, 1, 2, 0, 1, 1, 2, 0, 0] [0, 2, 1, 3, 4, 5, 6, 7, 8, 9] _ _ (by kernel_rfl) (by kernel_rfl) sub2_same ?_; intro Q1 hQ1))
    refine nx_end_n [M] rfl none (fun a w ha hw => res_none Tryz.results27) (by exact a_subR) (by exact a_holds2)
  case stop =>
    rintro pre x post hx j _ ⟨rfl, hpx⟩ M
    refine nx_ret ?_
    repeat' (first | ((first | with_reducible refine nl_op rfl ?_ | refine nd_go rfl rfl rfl ?_); intro K hK; (first | ((first | refine on_E hF rfl rfl ?_ | refine od_E rfl rfl ?_ | refine od_R rfl rfl ?_); (first | refine ⟨_, a_yl, ?_⟩)) | ((first | refine on_Ec hF rfl rfl ?_ | refine od_Ec rfl rfl ?_); refine ⟨_, _, _, a_yc, ?_, ?_⟩ <;> (intro hc; try exact a_cut hc)) | ((first | (refine od_act a_nd ?_; intro K2 hK2) | refine od_last a_nd ?_ | skip); (first | (refine on_alloc hF rfl Tryz.zeroValue33 rfl rfl (fun B => ?_)) | (refine on_box hF rfl rfl rfl rfl (fun B => ?_)) | (refine on_store hF rfl rfl rfl rfl a_turn a_vof a_sz ?_) | (refine on_storeE hF rfl rfl rfl rfl a_turn a_om a_vof a_sz ?_) | (refine on_storeEF hF rfl rfl rfl rfl a_turn a_as (by decide) a_vof rfl ?_) | (refine on_storeF hF rfl rfl rfl rfl a_turn (by decide) a_vof rfl ?_)) <;> try (refine hK2 _ _ _ a_allK ?_; clear hK2 K2))) <;> (refine hK _ _ _ ?_; clear hK K)) | with_reducible (first | refine nx_seq ?_ | refine nx_region ?_ | refine nl_nil ?_ | refine nq_then_n ?_ | refine nx_block ?_ | refine nx_skip ?_ | refine nx_exit ?_ | refine nx_ret ?_ | refine nq_then_x ?_ | refine nq_then_r ?_ | refine nq_blk_n ?_ | refine nq_blk_r ?_ | refine nq_blk_hit ?_ | refine nq_blk_miss rfl ?_ | refine nd_nil ?_) | refine nx_cond_t rfl ?_ | refine nx_cond_f rfl ?_ | refine nl_pass hF rfl rfl rfl ?_ | refine nd_pass rfl rfl rfl rfl rfl ?_ | refine nd_pass2 rfl rfl rfl a_nd a_allK rfl rfl ?_ | refine nd_pass3 rfl rfl rfl a_nd rfl rfl ?_ | (with_reducible refine hQ1 _ _ _ ?_; clear hQ1 Q1) | (refine nd_region (id := 3) hF [1, 2, 1, 2, 0, 1, 1, 2, 0, 0] [0, 2, 1, 3, 4, 5, 6, 7, 8, 9] _ _ (by kernel_rfl) (by kernel_rfl) sub2_same ?_; intro Q1 hQ1))
    have hp := hpx pre x rfl
    rw [show (pre ++ [x]).filter p = pre.filter p ++ [x] by simp [hp]]
    refine nx_end [M] rfl (some ⟨pre.filter p ++ [x], _, _, post.filter p, rfl, by rw [hx]; simp [hp]⟩) (fun a w ha hw => res_none Tryz.results27) (by exact a_subR) (by exact a_holds2)
end NItem
end Go.Proofs.YtinofjenoapeaaaGreat
end
section
namespace Go.Proofs.YtinofjenoapeaaaGreat
open Go.RowKit Go.Shelf
set_option linter.unusedSimpArgs false
set_option linter.unusedVariables false
namespace NItem
variable {W0 : World} {X : Nat → Prop} {R C : List Ch}
set_option maxRecDepth 100000 in
set_option maxHeartbeats 1000000 in
theorem find_ct (s f : Value) (xs : List Value) (p : Value → Bool) (RS RF : List Ch) (hs : ItN Tryz.prog xs s RS) (hf : PredN Tryz.prog xs p f RF) (hv : ∀ x ∈ xs, VOf Tryz.prog 33 x) (hR1 : ∀ r ∈ RS, r ∈ R) (hR2 : ∀ r ∈ RF, r ∈ R) :
    Ct Tryz.prog 72 [s, f] W0 X R C Unit (fun _ => .tuple #[(xs.find? p).getD (.agg #[.int .i64 0, .int .i64 0, .int .i64 0, .int .i64 0, .int .i64 0, .int .i64 0, .int .i64 0, .int .i64 0, .slice none 0 0]), .bool (xs.find? p).isSome]) (fun _ => R) (fun _ => C) := by
  intro w hw
  have hF := isWide_wide
  have hfi : ∀ {q : List Value}, xs.filter p = q → q.head? = xs.find? p := fun h => by rw [← h, List.head?_filter]
  refine calls_nx Tryz.func72 rfl Tryz.ntmps72 rfl ?_ hw
  repeat' (first | ((first | with_reducible refine nl_op rfl ?_ | refine nd_go rfl rfl rfl ?_); intro K hK; (first | ((first | refine on_E hF rfl rfl ?_ | refine od_E rfl rfl ?_ | refine od_R rfl rfl ?_); (first | refine ⟨_, a_yl, ?_⟩)) | ((first | refine on_Ec hF rfl rfl ?_ | refine od_Ec rfl rfl ?_); refine ⟨_, _, _, a_yc, ?_, ?_⟩ <;> (intro hc; try exact a_cut hc)) | ((first | (refine od_act a_nd ?_; intro K2 hK2) | refine od_last a_nd ?_ | skip); (first | (refine on_callG hF (enters_of Tryz.func14 (by kernel_rfl) rfl) rfl rfl rfl rfl (keep_ct s f hs.fn hf.fn) (fun i => ?_)) | (refine on_alloc hF rfl Tryz.zeroValue4 rfl rfl (fun B => ?_)) | (refine on_alloc hF rfl Tryz.zeroValue33 rfl rfl (fun B => ?_)) | (refine on_box hF rfl rfl rfl rfl (fun B => ?_)) | (refine on_store hF rfl rfl rfl rfl a_turn a_vof a_sz ?_) | (refine on_storeE hF rfl rfl rfl rfl a_turn a_om a_vof a_sz ?_) | (refine on_storeEF hF rfl rfl rfl rfl a_turn a_as (by decide) a_vof rfl ?_) | (refine on_storeF hF rfl rfl rfl rfl a_turn (by decide) a_vof rfl ?_)) <;> try (refine hK2 _ _ _ a_allK ?_; clear hK2 K2))) <;> (refine hK _ _ _ ?_; clear hK K)) | with_reducible (first | refine nx_seq ?_ | refine nx_region ?_ | refine nl_nil ?_ | refine nq_then_n ?_ | refine nx_block ?_ | refine nx_skip ?_ | refine nx_exit ?_ | refine nx_ret ?_ | refine nq_then_x ?_ | refine nq_then_r ?_ | refine nq_blk_n ?_ | refine nq_blk_r ?_ | refine nq_blk_hit ?_ | refine nq_blk_miss rfl ?_ | refine nd_nil ?_) | refine nx_cond_t rfl ?_ | refine nx_cond_f rfl ?_ | refine nl_pass hF rfl rfl rfl ?_ | refine nd_pass rfl rfl rfl rfl rfl ?_ | refine nd_pass2 rfl rfl rfl a_nd a_allK rfl rfl ?_ | refine nd_pass3 rfl rfl rfl a_nd rfl rfl ?_ | (with_reducible refine hQ1 _ _ _ ?_; clear hQ1 Q1) )
  rename_i b4
  rename Nat => b5
  refine nx_range hF rfl rfl (keep_it i.1 i.2 s f xs p RS RF hs hf hv) (by exact a_subR) (by rfl) (fun x vs h => by rw [h]; rfl) (fun pre (_ : Unit) => pre = []) (fun pre _ => BoxC b4 33 (.agg #[.int .i64 0, .int .i64 0, .int .i64 0, .int .i64 0, .int .i64 0, .int .i64 0, .int .i64 0, .int .i64 0, .slice none 0 0]) :: BoxC b5 4 (.bool false) :: C) (fun q j (x : Value) => j = none ∧ q = [x]) (fun q _ x => BoxC b4 33 x :: BoxC b5 4 (.bool true) :: C) () rfl (by exact a_holds2) ?round ?done ?stop
  case round =>
    rintro lp pre x post hx vs rfl _ rfl W1 X1 R' hR' E1 K HK
    have hF := isWide_wide.inRound lp
    have hmem : x ∈ xs := (List.mem_filter.1 (show x ∈ xs.filter p by rw [hx]; simp)).1
    have hvx := hv x hmem
    have hsz : (cv x).size = 9 := by have := hvx.size; rw [show (Tryz.prog.info? 33).map (·.size) = some 9 from by kernel_rfl] at this; exact (Option.some.inj this).symm
    repeat' (first | ((first | with_reducible refine nl_op rfl ?_ | refine nd_go rfl rfl rfl ?_); intro K hK; (first | ((first | refine on_E hF rfl rfl ?_ | refine od_E rfl rfl ?_ | refine od_R rfl rfl ?_); (first | refine ⟨_, a_yl, ?_⟩)) | ((first | refine on_Ec hF rfl rfl ?_ | refine od_Ec rfl rfl ?_); refine ⟨_, _, _, a_yc, ?_, ?_⟩ <;> (intro hc; try exact a_cut hc)) | ((first | (refine od_act a_nd ?_; intro K2 hK2) | refine od_last a_nd ?_ | skip); (first | (refine on_alloc hF rfl Tryz.zeroValue4 rfl rfl (fun B => ?_)) | (refine on_alloc hF rfl Tryz.zeroValue33 rfl rfl (fun B => ?_)) | (refine on_box hF rfl rfl rfl rfl (fun B => ?_)) | (refine on_store hF rfl rfl rfl rfl a_turn a_vof a_sz ?_) | (refine on_storeE hF rfl rfl rfl rfl a_turn a_om a_vof a_sz ?_) | (refine on_storeEF hF rfl rfl rfl rfl a_turn a_as (by decide) a_vof rfl ?_) | (refine on_storeF hF rfl rfl rfl rfl a_turn (by decide) a_vof rfl ?_)) <;> try (refine hK2 _ _ _ a_allK ?_; clear hK2 K2))) <;> (refine hK _ _ _ ?_; clear hK K)) | with_reducible (first | refine nx_seq ?_ | refine nx_region ?_ | refine nl_nil ?_ | refine nq_then_n ?_ | refine nx_block ?_ | refine nx_skip ?_ | refine nx_exit ?_ | refine nx_ret ?_ | refine nq_then_x ?_ | refine nq_then_r ?_ | refine nq_blk_n ?_ | refine nq_blk_r ?_ | refine nq_blk_hit ?_ | refine nq_blk_miss rfl ?_ | refine nd_nil ?_) | refine nx_cond_t rfl ?_ | refine nx_cond_f rfl ?_ | refine nl_pass hF rfl rfl rfl ?_ | refine nd_pass rfl rfl rfl rfl rfl ?_ | refine nd_pass2 rfl rfl rfl a_nd a_allK rfl rfl ?_ | refine nd_pass3 rfl rfl rfl a_nd rfl rfl ?_ | (with_reducible refine hQ1 _ _ _ ?_; clear hQ1 Q1) )
    all_goals try (refine nx_frz (BoxC _ _ x) Pick.here ?_)
    refine HK _ _ (BoxC b4 33 (.agg #[.int .i64 0, .int .i64 0, .int .i64 0, .int .i64 0, .int .i64 0, .int .i64 0, .int .i64 0, .int .i64 0, .slice none 0 0]) :: BoxC b5 4 (.bool false) :: C) _ (by exact a_subR) (by exact a_holds2) (fun E2 => ?_)
    clear HK K
    (try simp only [List.cons_append, List.nil_append])
    repeat' (first | ((first | with_reducible refine nl_op rfl ?_ | refine nd_go rfl rfl rfl ?_); intro K hK; (first | ((first | refine on_E hF rfl rfl ?_ | refine od_E rfl rfl ?_ | refine od_R rfl rfl ?_); (first | refine ⟨_, a_yl, ?_⟩)) | ((first | refine on_Ec hF rfl rfl ?_ | refine od_Ec rfl rfl ?_); refine ⟨_, _, _, a_yc, ?_, ?_⟩ <;> (intro hc; try exact a_cut hc)) | ((first | (refine od_act a_nd ?_; intro K2 hK2) | refine od_last a_nd ?_ | skip); (first | (refine on_alloc hF rfl Tryz.zeroValue4 rfl rfl (fun B => ?_)) | (refine on_alloc hF rfl Tryz.zeroValue33 rfl rfl (fun B => ?_)) | (refine on_box hF rfl rfl rfl rfl (fun B => ?_)) | (refine on_store hF rfl rfl rfl rfl a_turn a_vof a_sz ?_) | (refine on_storeE hF rfl rfl rfl rfl a_turn a_om a_vof a_sz ?_) | (refine on_storeEF hF rfl rfl rfl rfl a_turn a_as (by decide) a_vof rfl ?_) | (refine on_storeF hF rfl rfl rfl rfl a_turn (by decide) a_vof rfl ?_)) <;> try (refine hK2 _ _ _ a_allK ?_; clear hK2 K2))) <;> (refine hK _ _ _ ?_; clear hK K)) | with_reducible (first | refine nx_seq ?_ | refine nx_region ?_ | refine nl_nil ?_ | refine nq_then_n ?_ | refine nx_block ?_ | refine nx_skip ?_ | refine nx_exit ?_ | refine nx_ret ?_ | refine nq_then_x ?_ | refine nq_then_r ?_ | refine nq_blk_n ?_ | refine nq_blk_r ?_ | refine nq_blk_hit ?_ | refine nq_blk_miss rfl ?_ | refine nd_nil ?_) | refine nx_cond_t rfl ?_ | refine nx_cond_f rfl ?_ | refine nl_pass hF rfl rfl rfl ?_ | refine nd_pass rfl rfl rfl rfl rfl ?_ | refine nd_pass2 rfl rfl rfl a_nd a_allK rfl rfl ?_ | refine nd_pass3 rfl rfl rfl a_nd rfl rfl ?_ | (with_reducible refine hQ1 _ _ _ ?_; clear hQ1 Q1) )
    exact rq_r x ⟨rfl, rfl⟩ (by exact a_subR) (by exact a_holds2)
  case done =>
    intro _ hnil M
    have hfd := hfi hnil
    have hz0 : VOf Tryz.prog 33 (.agg #[.int .i64 0, .int .i64 0, .int .i64 0, .int .i64 0, .int .i64 0, .int .i64 0, .int .i64 0, .int .i64 0, .slice none 0 0]) := by first | exact vof1 (by kernel_rfl) rfl rfl | exact vofk (by kernel_rfl) rfl rfl
    simp only [List.head?_nil] at hfd
    rw [← hfd]
    simp only [Option.getD_none, Option.getD_some, Option.isSome_none, Option.isSome_some]
    repeat' (first | ((first | with_reducible refine nl_op rfl ?_ | refine nd_go rfl rfl rfl ?_); intro K hK; (first | ((first | refine on_E hF rfl rfl ?_ | refine od_E rfl rfl ?_ | refine od_R rfl rfl ?_); (first | refine ⟨_, a_yl, ?_⟩)) | ((first | refine on_Ec hF rfl rfl ?_ | refine od_Ec rfl rfl ?_); refine ⟨_, _, _, a_yc, ?_, ?_⟩ <;> (intro hc; try exact a_cut hc)) | ((first | (refine od_act a_nd ?_; intro K2 hK2) | refine od_last a_nd ?_ | skip); (first | (refine on_alloc hF rfl Tryz.zeroValue4 rfl rfl (fun B => ?_)) | (refine on_alloc hF rfl Tryz.zeroValue33 rfl rfl (fun B => ?_)) | (refine on_box hF rfl rfl rfl rfl (fun B => ?_)) | (refine on_store hF rfl rfl rfl rfl a_turn a_vof a_sz ?_) | (refine on_storeE hF rfl rfl rfl rfl a_turn a_om a_vof a_sz ?_) | (refine on_storeEF hF rfl rfl rfl rfl a_turn a_as (by decide) a_vof rfl ?_) | (refine on_storeF hF rfl rfl rfl rfl a_turn (by decide) a_vof rfl ?_)) <;> try (refine hK2 _ _ _ a_allK ?_; clear hK2 K2))) <;> (refine hK _ _ _ ?_; clear hK K)) | with_reducible (first | refine nx_seq ?_ | refine nx_region ?_ | refine nl_nil ?_ | refine nq_then_n ?_ | refine nx_block ?_ | refine nx_skip ?_ | refine nx_exit ?_ | refine nx_ret ?_ | refine nq_then_x ?_ | refine nq_then_r ?_ | refine nq_blk_n ?_ | refine nq_blk_r ?_ | refine nq_blk_hit ?_ | refine nq_blk_miss rfl ?_ | refine nd_nil ?_) | refine nx_cond_t rfl ?_ | refine nx_cond_f rfl ?_ | refine nl_pass hF rfl rfl rfl ?_ | refine nd_pass rfl rfl rfl rfl rfl ?_ | refine nd_pass2 rfl rfl rfl a_nd a_allK rfl rfl ?_ | refine nd_pass3 rfl rfl rfl a_nd rfl rfl ?_ | (with_reducible refine hQ1 _ _ _ ?_; clear hQ1 Q1) )
    refine nx_endc [M] (BoxC b4 33 (.agg #[.int .i64 0, .int .i64 0, .int .i64 0, .int .i64 0, .int .i64 0, .int .i64 0, .int .i64 0, .int .i64 0, .slice none 0 0]) :: BoxC b5 4 (.bool false) :: C) rfl () (fun a w ha hw => res_cell2 (T' := 33) (U' := 4) Tryz.results72 rfl rfl (by exact a_mem) (by exact a_mem)  hz0 (vof1 (by kernel_rfl) rfl rfl) ha hw) (by exact a_subR) (by exact a_holds2) (by exact a_holds2)
  case stop =>
    rintro pre x post hx j z ⟨rfl, hz⟩ M
    obtain ⟨rfl, hz2⟩ := List.append_inj' (show pre ++ [x] = [] ++ [z] from hz) rfl
    obtain rfl : x = z := by injection hz2
    have hmem : x ∈ xs := (List.mem_filter.1 (show x ∈ xs.filter p by rw [hx]; simp)).1
    have hvx := hv x hmem
    have hfd := hfi hx
    simp only [List.nil_append, List.head?_cons] at hfd
    rw [← hfd]
    simp only [Option.getD_none, Option.getD_some, Option.isSome_none, Option.isSome_some]
    refine nx_ret ?_
    repeat' (first | ((first | with_reducible refine nl_op rfl ?_ | refine nd_go rfl rfl rfl ?_); intro K hK; (first | ((first | refine on_E hF rfl rfl ?_ | refine od_E rfl rfl ?_ | refine od_R rfl rfl ?_); (first | refine ⟨_, a_yl, ?_⟩)) | ((first | refine on_Ec hF rfl rfl ?_ | refine od_Ec rfl rfl ?_); refine ⟨_, _, _, a_yc, ?_, ?_⟩ <;> (intro hc; try exact a_cut hc)) | ((first | (refine od_act a_nd ?_; intro K2 hK2) | refine od_last a_nd ?_ | skip); (first | (refine on_alloc hF rfl Tryz.zeroValue4 rfl rfl (fun B => ?_)) | (refine on_alloc hF rfl Tryz.zeroValue33 rfl rfl (fun B => ?_)) | (refine on_box hF rfl rfl rfl rfl (fun B => ?_)) | (refine on_store hF rfl rfl rfl rfl a_turn a_vof a_sz ?_) | (refine on_storeE hF rfl rfl rfl rfl a_turn a_om a_vof a_sz ?_) | (refine on_storeEF hF rfl rfl rfl rfl a_turn a_as (by decide) a_vof rfl ?_) | (refine on_storeF hF rfl rfl rfl rfl a_turn (by decide) a_vof rfl ?_)) <;> try (refine hK2 _ _ _ a_allK ?_; clear hK2 K2))) <;> (refine hK _ _ _ ?_; clear hK K)) | with_reducible (first | refine nx_seq ?_ | refine nx_region ?_ | refine nl_nil ?_ | refine nq_then_n ?_ | refine nx_block ?_ | refine nx_skip ?_ | refine nx_exit ?_ | refine nx_ret ?_ | refine nq_then_x ?_ | refine nq_then_r ?_ | refine nq_blk_n ?_ | refine nq_blk_r ?_ | refine nq_blk_hit ?_ | refine nq_blk_miss rfl ?_ | refine nd_nil ?_) | refine nx_cond_t rfl ?_ | refine nx_cond_f rfl ?_ | refine nl_pass hF rfl rfl rfl ?_ | refine nd_pass rfl rfl rfl rfl rfl ?_ | refine nd_pass2 rfl rfl rfl a_nd a_allK rfl rfl ?_ | refine nd_pass3 rfl rfl rfl a_nd rfl rfl ?_ | (with_reducible refine hQ1 _ _ _ ?_; clear hQ1 Q1) )
    refine nx_endc [M] (BoxC b4 33 x :: BoxC b5 4 (.bool true) :: C) rfl () (fun a w ha hw => res_cell2 (T' := 33) (U' := 4) Tryz.results72 rfl rfl (by exact a_mem) (by exact a_mem)  hvx (vof1 (by kernel_rfl) rfl rfl) ha hw) (by exact a_subR) (by exact a_holds2) (by exact a_holds2)
end NItem
end Go.Proofs.YtinofjenoapeaaaGreat
end
section
namespace Go.Proofs.YtinofjenoapeaaaGreat
open Go.RowKit Go.Shelf
set_option linter.unusedSimpArgs false
set_option linter.unusedVariables false
structure It2 where
  id : Int
  kind : Int
  tl : Int
  num : Int
  a : Int
  b : Int
  par : Int
  len : Int
  ext : Value
/-- An item as a value. -/
abbrev It2.v (x : It2) : Value := .agg #[.int .i64 x.id, .int .i64 x.kind, .int .i64 x.tl, .int .i64 x.num, .int .i64 x.a, .int .i64 x.b, .int .i64 x.par, .int .i64 x.len, x.ext]
def zIt2 : It2 := ⟨0, 0, 0, 0, 0, 0, 0, 0, .slice none 0 0⟩
def intAt2 (cs : Array Value) (i : Nat) : Int := match cs[i]? with | some (.int _ n) => n | _ => 0
def toIt2 (v : Value) : It2 := ⟨intAt2 (cv v) 0, intAt2 (cv v) 1, intAt2 (cv v) 2, intAt2 (cv v) 3, intAt2 (cv v) 4, intAt2 (cv v) 5, intAt2 (cv v) 6, intAt2 (cv v) 7, (cv v)[8]?.getD undef⟩
@[simp] theorem toIt2_v (x : It2) : toIt2 x.v = x := rfl
def It2.ok (x : It2) : Prop := IsSl x.ext
theorem It2.vof (x : It2) (h : x.ok) : VOf Tryz.prog 33 x.v := by
  obtain ⟨_, _, _, _, _, _, _, _, e⟩ := x
  obtain ⟨A, n, c, rfl⟩ : IsSl e := h
  exact vofk (by kernel_rfl) rfl rfl
theorem zIt2_ok : zIt2.ok := ⟨_, _, _, rfl⟩
theorem find_it2 (L : List It2) (p : It2 → Bool) : (L.map It2.v).find? (fun v => p (toIt2 v)) = (L.find? p).map It2.v := by
  rw [List.find?_map]; congr 1
theorem filter_it2 (L : List It2) (p : It2 → Bool) : (L.map It2.v).filter (fun v => p (toIt2 v)) = (L.filter p).map It2.v := by
  rw [List.filter_map]; congr 1
theorem getD_it2 (o : Option It2) : (o.map It2.v).getD (zIt2.v) = (o.getD zIt2).v := by cases o <;> rfl
theorem vofs_it2 (L : List It2) (hok : ∀ x ∈ L, x.ok) : ∀ v ∈ L.map It2.v, VOf Tryz.prog 33 v := fun v hv => by
  obtain ⟨x, hx, rfl⟩ := List.mem_map.1 hv; exact x.vof (hok x hx)
namespace Li
variable {W0 : World} {X : Nat → Prop} {R C : List Ch}
def isLine (t : Int) (x : It2) : Bool := decide (x.kind = 4) && decide (x.tl = t)
def lineP (L : List It2) (t : Int) : Option It2 := L.find? (isLine t)
set_option maxRecDepth 100000 in
theorem line1_ct (x : It2) (hx : x.ok) (b : Nat) (t : Int) (hb : BoxC b 3 (.int .i64 t) ∈ R) : Ct Tryz.prog 85 [x.v, ptr b] W0 X R C Unit (fun _ => .bool (isLine t x)) (fun _ => R) (fun _ => C) := by
  intro w hw
  have hF := isWide_wide
  have hi : isLine t x = (decide (x.kind = 4) && decide (x.tl = t)) := rfl
  obtain ⟨d1, kind, tl, d4, d5, d6, d7, d8, e⟩ := x
  obtain ⟨ea, en, ec, rfl⟩ : IsSl e := hx
  dsimp only at hi
  rw [hi]
  refine calls_nx Tryz.func85 rfl Tryz.ntmps85 rfl ?_ hw
  repeat' (first | ((first | with_reducible refine nl_op rfl ?_ | refine nd_go rfl rfl rfl ?_); intro K hK; (first | ((first | refine on_E hF rfl rfl ?_ | refine od_E rfl rfl ?_ | refine od_R rfl rfl ?_); (first | refine ⟨_, a_yl, ?_⟩ | refine ⟨_, (by first | exact yl_fieldB (T := 33) (f := 1) (q := 1) rfl rfl (by kernel_rfl) | exact yl_fieldE (T := 33) (f := 1) (j := 1) rfl rfl a_sl a_om (by kernel_rfl) | exact yl_fieldB (T := 33) (f := 2) (q := 2) rfl rfl (by kernel_rfl) | exact yl_fieldE (T := 33) (f := 2) (j := 2) rfl rfl a_sl a_om (by kernel_rfl)), ?_⟩)) | ((first | refine on_Ec hF rfl rfl ?_ | refine od_Ec rfl rfl ?_); refine ⟨_, _, _, a_yc, ?_, ?_⟩ <;> (intro hc; try exact a_cut hc)) | ((first | (refine od_act a_nd ?_; intro K2 hK2) | refine od_last a_nd ?_ | skip); (first  | (refine on_box hF rfl rfl rfl rfl (fun B => ?_)) | (refine on_store hF rfl rfl rfl rfl a_turn a_vof a_sz ?_) | (refine on_storeE hF rfl rfl rfl rfl a_turn a_om a_vof a_sz ?_) | (refine on_storeEF hF rfl rfl rfl rfl a_turn a_as (by decide) a_vof rfl ?_) | (refine on_storeF hF rfl rfl rfl rfl a_turn (by decide) a_vof rfl ?_)) <;> try (refine hK2 _ _ _ a_allK ?_; clear hK2 K2))) <;> (refine hK _ _ _ ?_; clear hK K)) | with_reducible (first | refine nx_seq ?_ | refine nx_region ?_ | refine nl_nil ?_ | refine nq_then_n ?_ | refine nx_block ?_ | refine nx_skip ?_ | refine nx_exit ?_ | refine nx_ret ?_ | refine nq_then_x ?_ | refine nq_then_r ?_ | refine nq_blk_n ?_ | refine nq_blk_r ?_ | refine nq_blk_hit ?_ | refine nq_blk_miss rfl ?_ | refine nd_nil ?_) | refine nx_cond_t rfl ?_ | refine nx_cond_f rfl ?_ | refine nl_pass hF rfl rfl rfl ?_ | refine nd_pass rfl rfl rfl rfl rfl ?_ | refine nd_pass2 rfl rfl rfl a_nd a_allK rfl rfl ?_ | refine nd_pass3 rfl rfl rfl a_nd rfl rfl ?_ | (with_reducible refine hQ1 _ _ _ ?_; clear hQ1 Q1) )
  · have h1 : kind = 4 := by assumption
    have h2 : tl = t := hc
    rw [decide_eq_true h1, decide_eq_true h2]
    refine nx_end [] rfl () (fun a w ha hw => res_tmp Tryz.results85 rfl ha) (by exact a_subR) (by exact a_holds2)
  · have h2 : ¬ tl = t := hc
    rw [decide_eq_false h2, Bool.and_false]
    refine nx_end [] rfl () (fun a w ha hw => res_tmp Tryz.results85 rfl ha) (by exact a_subR) (by exact a_holds2)
  · have h2 : ¬ kind = 4 := hc
    rw [decide_eq_false h2, Bool.false_and]
    refine nx_end [] rfl () (fun a w ha hw => res_tmp Tryz.results85 rfl ha) (by exact a_subR) (by exact a_holds2)
theorem line1_pred (L : List It2) (hok : ∀ x ∈ L, x.ok) (b : Nat) (t : Int) : PredS Tryz.prog (L.map It2.v) (fun v => isLine t (toIt2 v)) (.func (.func 85) #[] #[ptr b]) [BoxC b 3 (.int .i64 t)] := ⟨85, [ptr b], rfl, (enters_of Tryz.func85 (by kernel_rfl) rfl), fun W0 X R C hR x hx => by
  obtain ⟨y, hy, rfl⟩ := List.mem_map.1 hx
  exact line1_ct y (hok y hy) b t (hR _ (by simp))⟩
theorem lineP_ok {L : List It2} (hok : ∀ x ∈ L, x.ok) (t : Int) : ((lineP L t).getD zIt2).ok := by
  cases h : lineP L t with
  | none => exact zIt2_ok
  | some x => exact hok x (List.mem_of_find?_eq_some h)
theorem findLine_ct (s f : Value) (L : List It2) (hok : ∀ x ∈ L, x.ok) (t : Int) (RS RF : List Ch) (hs : ItN Tryz.prog (L.map It2.v) s RS) (hf : PredN Tryz.prog (L.map It2.v) (fun v => isLine t (toIt2 v)) f RF) (hR1 : ∀ r ∈ RS, r ∈ R) (hR2 : ∀ r ∈ RF, r ∈ R) :
    Ct Tryz.prog 72 [s, f] W0 X R C Unit (fun _ => .tuple #[((lineP L t).getD zIt2).v, .bool (lineP L t).isSome]) (fun _ => R) (fun _ => C) := by
  have h := NItem.find_ct (W0 := W0) (X := X) (R := R) (C := C) s f (L.map It2.v) _ RS RF hs hf (vofs_it2 L hok) hR1 hR2
  rw [show (L.map It2.v).find? (fun v => isLine t (toIt2 v)) = (lineP L t).map It2.v from find_it2 L (isLine t)] at h
  cases hl : lineP L t with
  | none => rw [hl] at h; exact h
  | some x => rw [hl] at h; exact h
set_option maxRecDepth 100000 in
set_option maxHeartbeats 1000000 in
theorem line_ct (s : Value) (hs : IsSl s) (L : List It2) (hok : ∀ x ∈ L, x.ok) (t : Int) (hsl : SlC 9 s (L.map It2.v) ∈ R) (hm : L.length * 88 ≤ 140737488355328) :
    Ct Tryz.prog 64 [s, .int .i64 t] W0 X R C Unit (fun _ => .tuple #[((lineP L t).getD zIt2).v, .bool (lineP L t).isSome]) (fun _ => R) (fun _ => C) := by
  intro w hw
  have hF := isWide_wide
  have hml : (L.map It2.v).length * 88 ≤ 140737488355328 := by simpa using hm
  have hmx : (L.map It2.v).length ≤ maxLen := by unfold maxLen; simp; omega
  have hvy := (((lineP L t).getD zIt2).vof (lineP_ok hok t))
  have fd := fun (W0 : World) (X : Nat → Prop) (R C : List Ch) s f RS RF => findLine_ct (W0 := W0) (X := X) (R := R) (C := C) s f L hok t RS RF
  obtain ⟨y, hy⟩ : ∃ y, (lineP L t).getD zIt2 = y := ⟨_, rfl⟩
  obtain ⟨z, hz⟩ : ∃ z, (lineP L t).isSome = z := ⟨_, rfl⟩
  rw [hy, hz] at fd
  rw [hy] at hvy
  rw [hy, hz]
  refine calls_nx Tryz.func64 rfl Tryz.ntmps64 rfl ?_ hw
  repeat' (first | ((first | with_reducible refine nl_op rfl ?_ | refine nd_go rfl rfl rfl ?_); intro K hK; (first | ((first | refine on_E hF rfl rfl ?_ | refine od_E rfl rfl ?_ | refine od_R rfl rfl ?_); (first | refine ⟨_, a_yl, ?_⟩)) | ((first | refine on_Ec hF rfl rfl ?_ | refine od_Ec rfl rfl ?_); refine ⟨_, _, _, a_yc, ?_, ?_⟩ <;> (intro hc; try exact a_cut hc)) | ((first | (refine od_act a_nd ?_; intro K2 hK2) | refine od_last a_nd ?_ | skip); (first | (refine on_alloc hF rfl Tryz.zeroValue33 rfl rfl (fun B => ?_)) | (refine on_box hF rfl rfl rfl rfl (fun B => ?_)) | (refine on_store hF rfl rfl rfl rfl a_turn a_vof a_sz ?_) | (refine on_storeE hF rfl rfl rfl rfl a_turn a_om a_vof a_sz ?_) | (refine on_storeEF hF rfl rfl rfl rfl a_turn a_as (by decide) a_vof rfl ?_) | (refine on_storeF hF rfl rfl rfl rfl a_turn (by decide) a_vof rfl ?_)) <;> try (refine hK2 _ _ _ a_allK ?_; clear hK2 K2))) <;> (refine hK _ _ _ ?_; clear hK K)) | with_reducible (first | refine nx_seq ?_ | refine nx_region ?_ | refine nl_nil ?_ | refine nq_then_n ?_ | refine nx_block ?_ | refine nx_skip ?_ | refine nx_exit ?_ | refine nx_ret ?_ | refine nq_then_x ?_ | refine nq_then_r ?_ | refine nq_blk_n ?_ | refine nq_blk_r ?_ | refine nq_blk_hit ?_ | refine nq_blk_miss rfl ?_ | refine nd_nil ?_) | refine nx_cond_t rfl ?_ | refine nx_cond_f rfl ?_ | refine nl_pass hF rfl rfl rfl ?_ | refine nd_pass rfl rfl rfl rfl rfl ?_ | refine nd_pass2 rfl rfl rfl a_nd a_allK rfl rfl ?_ | refine nd_pass3 rfl rfl rfl a_nd rfl rfl ?_ | (with_reducible refine hQ1 _ _ _ ?_; clear hQ1 Q1) )
  rename_i b3
  refine nx_frz (BoxC b3 3 (.int .i64 t)) (Pick.there Pick.here) ?_
  repeat' (first | ((first | with_reducible refine nl_op rfl ?_ | refine nd_go rfl rfl rfl ?_); intro K hK; (first | ((first | refine on_E hF rfl rfl ?_ | refine od_E rfl rfl ?_ | refine od_R rfl rfl ?_); (first | refine ⟨_, a_yl, ?_⟩)) | ((first | refine on_Ec hF rfl rfl ?_ | refine od_Ec rfl rfl ?_); refine ⟨_, _, _, a_yc, ?_, ?_⟩ <;> (intro hc; try exact a_cut hc)) | ((first | (refine od_act a_nd ?_; intro K2 hK2) | refine od_last a_nd ?_ | skip); (first | (refine on_callG hF (enters_of Tryz.func15 (by kernel_rfl) rfl) rfl rfl rfl rfl (NItem.of_ct s (L.map It2.v) (by exact a_mem) hs (vofs_it2 L hok) hml) (fun j => ?_)) | (refine on_callG hF (enters_of Tryz.func72 (by kernel_rfl) rfl) rfl rfl rfl rfl (fd _ _ _ _ _ _ _ _ (NItem.of_it j _ (vofs_it2 L hok) hmx).n (line1_pred L hok b3 t).n (by exact a_subR) (by exact a_subR)) (fun _ => ?_)) | (refine on_alloc hF rfl Tryz.zeroValue33 rfl rfl (fun B => ?_)) | (refine on_box hF rfl rfl rfl rfl (fun B => ?_)) | (refine on_store hF rfl rfl rfl rfl a_turn a_vof a_sz ?_) | (refine on_storeE hF rfl rfl rfl rfl a_turn a_om a_vof a_sz ?_) | (refine on_storeEF hF rfl rfl rfl rfl a_turn a_as (by decide) a_vof rfl ?_) | (refine on_storeF hF rfl rfl rfl rfl a_turn (by decide) a_vof rfl ?_)) <;> try (refine hK2 _ _ _ a_allK ?_; clear hK2 K2))) <;> (refine hK _ _ _ ?_; clear hK K)) | with_reducible (first | refine nx_seq ?_ | refine nx_region ?_ | refine nl_nil ?_ | refine nq_then_n ?_ | refine nx_block ?_ | refine nx_skip ?_ | refine nx_exit ?_ | refine nx_ret ?_ | refine nq_then_x ?_ | refine nq_then_r ?_ | refine nq_blk_n ?_ | refine nq_blk_r ?_ | refine nq_blk_hit ?_ | refine nq_blk_miss rfl ?_ | refine nd_nil ?_) | refine nx_cond_t rfl ?_ | refine nx_cond_f rfl ?_ | refine nl_pass hF rfl rfl rfl ?_ | refine nd_pass rfl rfl rfl rfl rfl ?_ | refine nd_pass2 rfl rfl rfl a_nd a_allK rfl rfl ?_ | refine nd_pass3 rfl rfl rfl a_nd rfl rfl ?_ | (with_reducible refine hQ1 _ _ _ ?_; clear hQ1 Q1) )
  refine nx_endc [] (BoxC B 33 y.v :: C) rfl () (fun a w ha hw => res_cell_tmp (T' := 33) Tryz.results64 rfl rfl (by exact a_mem) hvy ha hw) (by exact a_subR) (by exact a_holds2) (by exact a_holds2)
end Li
end Go.Proofs.YtinofjenoapeaaaGreat
end
section
namespace Go.Proofs.YtinofjenoapeaaaGreat
open Go.RowKit Go.Shelf Go.ChangeShapes Go.WideShapes Go.Deep
set_option linter.unusedSimpArgs false
set_option linter.unusedVariables false
section
variable {H : Type} {enc : TypeId × Value → H} {W : World} {base : Nat} {spare : Nat → Bool} {held : Bool}
theorem wf_u16 {n : Int} (h : (Lit.int .u16 n).wf = true) : 0 ≤ n ∧ n ≤ 65535 := by
  simp [Lit.wf, IntKind.min, IntKind.max, IntKind.signed, IntKind.bits] at h; omega
instance : Inhabited It2 := ⟨zIt2⟩
def I64 (z : Int) : Prop := -9223372036854775808 ≤ z ∧ z ≤ 9223372036854775807
/-- Its numbers fit their type. -/
structure It2.wf (x : It2) : Prop where
  ok : x.ok
  id : I64 x.id
  kind : I64 x.kind
  tl : I64 x.tl
  num : I64 x.num
  a : I64 x.a
  b : I64 x.b
  par : I64 x.par
  len : I64 x.len
set_option maxRecDepth 100000 in
theorem it2_open {n : Nat} {cs : List Value} {x : DataW H × List MemPlace} (h : DataW.trod enc Tryz.prog W base spare held n 33 cs = some x) : ∃ y : It2, y.wf ∧ cs = (cv y.v).toList := by
  obtain ⟨xs, m, _, _, hl, hx, hf⟩ := DataW.trod_struct Tryz.underlying33 h
  rw [show Tryz.prog.cellsOf 33 = 9 from by kernel_rfl] at hl
  have hs : ∀ i, i < 9 → (xs[i]?).isSome = true := fun i hi => by rw [List.getElem?_eq_getElem (by rw [hx]; exact hi)]; rfl
  obtain ⟨n0, h0, w0⟩ := wint_chunk (hf 0 _ rfl) (hs 0 (by decide))
  obtain ⟨n1, h1, w1⟩ := wint_chunk (hf 1 _ rfl) (hs 1 (by decide))
  obtain ⟨n2, h2, w2⟩ := wint_chunk (hf 2 _ rfl) (hs 2 (by decide))
  obtain ⟨n3, h3, w3⟩ := wint_chunk (hf 3 _ rfl) (hs 3 (by decide))
  obtain ⟨n4, h4, w4⟩ := wint_chunk (hf 4 _ rfl) (hs 4 (by decide))
  obtain ⟨n5, h5, w5⟩ := wint_chunk (hf 5 _ rfl) (hs 5 (by decide))
  obtain ⟨n6, h6, w6⟩ := wint_chunk (hf 6 _ rfl) (hs 6 (by decide))
  obtain ⟨n7, h7, w7⟩ := wint_chunk (hf 7 _ rfl) (hs 7 (by decide))
  obtain ⟨a, l, c, _, h8, _⟩ := wslice_chunk Tryz.underlying31 (by kernel_rfl) (hf 8 _ rfl) (hs 8 (by decide))
  refine ⟨⟨n0, n1, n2, n3, n4, n5, n6, n7, .slice a l c⟩, ⟨⟨_, _, _, rfl⟩, wf_i64 w0, wf_i64 w1, wf_i64 w2, wf_i64 w3, wf_i64 w4, wf_i64 w5, wf_i64 w6, wf_i64 w7⟩, ?_⟩
  match cs, hl with
  | [c0, c1, c2, c3, c4, c5, c6, c7, c8], _ =>
    simp at h0 h1 h2 h3 h4 h5 h6 h7 h8
    subst h0 h1 h2 h3 h4 h5 h6 h7 h8
    rfl
/-- A slice of items. -/
structure ItsS (W : World) (s : Value) (L : List It2) : Prop where
  at_ : SliceAt W 9 s (L.map It2.v)
  wf : ∀ x ∈ L, x.wf
theorem ItsS.ok {s : Value} {L : List It2} (h : ItsS W s L) : ∀ x ∈ L, x.ok := fun x hx => (h.wf x hx).ok
theorem its_open {a : Option Addr} {len cap : Nat} {d : DataW H} {ps : List MemPlace} (h : DataW.Trod enc Tryz.prog W base spare held 22 (.slice a len cap) d ps) : ∃ L : List It2, ItsS W (.slice a len cap) L ∧ L.length = len := by
  obtain ⟨fuel, hf⟩ := h
  obtain ⟨f, h1, h2⟩ := sl_elems (k := 9) (by decide) Tryz.underlying22 (by kernel_rfl) hf
  obtain ⟨g, hg⟩ := choose_lt (n := len) (p := fun i (y : It2) => y.wf ∧ f i = (cv y.v).toList) (fun i hi => by
    obtain ⟨_, n, y, hy⟩ := h1 i hi
    exact it2_open hy)
  refine ⟨(List.range len).map g, ⟨h2 _ (by simp) (fun i x hx => ?_), fun x hx => ?_⟩, by simp⟩
  · have hil : i < len := by have := (List.getElem?_eq_some_iff.1 hx).1; simpa using this
    simp [hil] at hx
    rw [← hx, (hg i hil).2]
  · obtain ⟨i, hi, rfl⟩ := List.mem_map.1 hx
    exact (hg i (List.mem_range.1 hi)).1
theorem ItsS.ch {s : Value} {L : List It2} (h : ItsS W s L) : ∀ r ∈ [SlC 9 s (L.map It2.v)], ∃ O, r.p O W := fun r hr => by
  rw [List.mem_singleton.1 hr]
  exact SlC.mk h.at_ (fun x hx => by obtain ⟨q, _, rfl⟩ := List.mem_map.1 hx; simp [cv, Value.cells])
end
end Go.Proofs.YtinofjenoapeaaaGreat
end
section
namespace Go.Proofs.YtinofjenoapeaaaGreat
open Go.RowKit Go.Shelf
set_option linter.unusedSimpArgs false
set_option linter.unusedVariables false
namespace Re
def segB (t : Int) (x : It2) : Bool := decide (x.kind = 1) && decide (x.tl = t)
def nextB (n : Int) (x : It2) : Bool := decide (x.a ≤ n) && decide (n < x.b)
def nextSeg (L : List It2) (t n : Int) : Option It2 := (L.filter (segB t)).find? (nextB n)
/-! ### what is covered, as plain functions -/
theorem nextSeg_spec {L : List It2} {t n : Int} {x : It2} (h : nextSeg L t n = some x) : x ∈ L ∧ x.kind = 1 ∧ x.tl = t ∧ x.a ≤ n ∧ n < x.b := by
  have h1 := List.mem_of_find?_eq_some h
  have h2 := List.find?_some h
  obtain ⟨h3, h4⟩ := List.mem_filter.1 h1
  simp [segB] at h4
  simp [nextB] at h2
  exact ⟨h3, h4.1, h4.2, h2.1, h2.2⟩
/-- How many items end behind n. -/
def above (L : List It2) (n : Int) : Nat := (L.filter fun x => decide (n < x.b)).length
theorem above_lt {L : List It2} {n m : Int} {x : It2} (hx : x ∈ L) (h1 : n < x.b) (h2 : m = x.b) : above L m < above L n := by
  subst h2
  unfold above
  induction L with
  | nil => cases hx
  | cons y L ih =>
    have hle : (L.filter fun z => decide (x.b < z.b)).length ≤ (L.filter fun z => decide (n < z.b)).length := by
      clear ih hx
      induction L with
      | nil => simp
      | cons z L ih =>
        simp only [List.filter_cons]
        by_cases hz : x.b < z.b
        · rw [if_pos (by simpa using hz), if_pos (by simp; omega)]; simp only [List.length_cons]; omega
        · rw [if_neg (by simpa using hz)]
          split
          · simp only [List.length_cons]; omega
          · exact ih
    rcases List.mem_cons.1 hx with rfl | hx
    · simp only [List.filter_cons]
      rw [if_neg (by simp), if_pos (by simpa using h1)]
      simp only [List.length_cons]; omega
    · have := ih hx
      simp only [List.filter_cons]
      by_cases hy : x.b < y.b
      · rw [if_pos (by simpa using hy), if_pos (by simp; omega)]; simp only [List.length_cons]; omega
      · rw [if_neg (by simpa using hy)]
        split
        · simp only [List.length_cons]; omega
        · exact this
theorem above_le (L : List It2) (n : Int) : above L n ≤ L.length := List.length_filter_le _ _

/-- The Ids that cover what is behind 'fr' up to 'to'; none where they don't. -/
def cover (L : List It2) (t : Int) (fr to : Int) : Option (List Int) :=
  if fr < to then
    match h : nextSeg L t fr with
    | none => none
    | some x => (cover L t x.b to).map (x.id :: ·)
  else some []
termination_by above L fr
decreasing_by
  have := nextSeg_spec h
  exact above_lt this.1 this.2.2.2.2 rfl
/-- The last commit that is covered. -/
def last (L : List It2) (t : Int) (fr : Int) : Int :=
  match h : nextSeg L t fr with
  | none => fr
  | some x => last L t x.b
termination_by above L fr
decreasing_by
  have := nextSeg_spec h
  exact above_lt this.1 this.2.2.2.2 rfl
theorem cover_done {L : List It2} {t fr to : Int} (h : ¬ fr < to) : cover L t fr to = some [] := by rw [cover, if_neg h]
theorem cover_none {L : List It2} {t fr to : Int} (h : fr < to) (hn : nextSeg L t fr = none) : cover L t fr to = none := by
  rw [cover, if_pos h]; split
  · rfl
  · rename_i x hx; rw [hn] at hx; cases hx
theorem cover_some {L : List It2} {t fr to : Int} {x : It2} (h : fr < to) (hn : nextSeg L t fr = some x) : cover L t fr to = (cover L t x.b to).map (x.id :: ·) := by
  rw [cover, if_pos h]; split
  · rename_i hx; rw [hn] at hx; cases hx
  · rename_i y hy; rw [hn] at hy; cases hy; rfl
theorem last_none {L : List It2} {t fr : Int} (hn : nextSeg L t fr = none) : last L t fr = fr := by
  rw [last]; split
  · rfl
  · rename_i x hx; rw [hn] at hx; cases hx
theorem last_some {L : List It2} {t fr : Int} {x : It2} (hn : nextSeg L t fr = some x) : last L t fr = last L t x.b := by
  rw [last]; split
  · rename_i hx; rw [hn] at hx; cases hx
  · rename_i y hy; rw [hn] at hy; cases hy; rfl

theorem nextSeg_cases (L : List It2) (t fr : Int) : nextSeg L t fr = none ∨ ∃ x, nextSeg L t fr = some x ∧ x ∈ L ∧ fr < x.b ∧ above L x.b < above L fr := by
  cases h : nextSeg L t fr with
  | none => exact .inl rfl
  | some x => have := nextSeg_spec h; exact .inr ⟨x, rfl, this.1, this.2.2.2.2, above_lt this.1 this.2.2.2.2 rfl⟩

theorem last_ge (L : List It2) (t : Int) : ∀ (m : Nat) (fr : Int), above L fr ≤ m → fr ≤ last L t fr ∧ (last L t fr = fr ∨ ∃ x ∈ L, last L t fr = x.b) := by
  intro m
  induction m with
  | zero =>
    intro fr hm
    rcases nextSeg_cases L t fr with h | ⟨x, h, hx, hb, ha⟩
    · rw [last_none h]; exact ⟨Int.le_refl _, .inl rfl⟩
    · omega
  | succ m ih =>
    intro fr hm
    rcases nextSeg_cases L t fr with h | ⟨x, h, hx, hb, ha⟩
    · rw [last_none h]; exact ⟨Int.le_refl _, .inl rfl⟩
    · rw [last_some h]
      obtain ⟨h1, h2⟩ := ih x.b (by omega)
      exact ⟨by omega, .inr (h2.elim (fun e => ⟨x, hx, e⟩) id)⟩

theorem cover_iff (L : List It2) (t : Int) : ∀ (m : Nat) (fr to : Int), above L fr ≤ m → ((cover L t fr to).isSome = true ↔ to ≤ last L t fr) := by
  intro m
  induction m with
  | zero =>
    intro fr to hm
    rcases nextSeg_cases L t fr with h | ⟨x, h, hx, hb, ha⟩
    · rw [last_none h]
      by_cases hlt : fr < to
      · rw [cover_none hlt h]; simp; omega
      · rw [cover_done hlt]; simp; omega
    · omega
  | succ m ih =>
    intro fr to hm
    rcases nextSeg_cases L t fr with h | ⟨x, h, hx, hb, ha⟩
    · rw [last_none h]
      by_cases hlt : fr < to
      · rw [cover_none hlt h]; simp; omega
      · rw [cover_done hlt]; simp; omega
    · rw [last_some h]
      have hge := (last_ge L t m x.b (by omega)).1
      by_cases hlt : fr < to
      · rw [cover_some hlt h]
        have := ih x.b to (by omega)
        simpa using this
      · rw [cover_done hlt]; simp; omega

/-- What is covered further is covered up to any commit ahead, by the first ones of the same segments. -/
theorem cover_parts (L : List It2) (t : Int) : ∀ (m : Nat) (fr mid to : Int) (zs : List Int), above L fr ≤ m → mid ≤ to → cover L t fr to = some zs → ∃ ys rest, cover L t fr mid = some ys ∧ zs = ys ++ rest := by
  intro m
  induction m with
  | zero =>
    intro fr mid to zs hm hle hz
    by_cases hlt : fr < mid
    · rcases nextSeg_cases L t fr with h | ⟨x, h, hx, hb, ha⟩
      · rw [cover_none (by omega) h] at hz; cases hz
      · omega
    · exact ⟨[], zs, cover_done hlt, rfl⟩
  | succ m ih =>
    intro fr mid to zs hm hle hz
    by_cases hlt : fr < mid
    · rcases nextSeg_cases L t fr with h | ⟨x, h, hx, hb, ha⟩
      · rw [cover_none (by omega) h] at hz; cases hz
      · rw [cover_some (by omega) h] at hz
        obtain ⟨zs', hz', rfl⟩ := Option.map_eq_some_iff.1 hz
        obtain ⟨ys, rest, hy, rfl⟩ := ih x.b mid to zs' (by omega) hle hz'
        exact ⟨x.id :: ys, rest, by rw [cover_some hlt h, hy]; rfl, rfl⟩
    · exact ⟨[], zs, cover_done hlt, rfl⟩

theorem cover_pos (L : List It2) (t fr to : Int) (zs : List Int) (h : cover L t fr to = some zs) : (0 < zs.length ↔ fr < to) := by
  by_cases hlt : fr < to
  · cases hn : nextSeg L t fr with
    | none => rw [cover_none hlt hn] at h; cases h
    | some x =>
      rw [cover_some hlt hn] at h
      obtain ⟨zs', _, rfl⟩ := Option.map_eq_some_iff.1 h
      simp [hlt]
  · rw [cover_done hlt] at h; cases h; simp [hlt]

theorem cover_len (L : List It2) (t : Int) : ∀ (m : Nat) (fr to : Int) (zs : List Int), above L fr ≤ m → cover L t fr to = some zs → zs.length ≤ above L fr := by
  intro m
  induction m with
  | zero =>
    intro fr to zs hm hz
    by_cases hlt : fr < to
    · rcases nextSeg_cases L t fr with h | ⟨x, h, hx, hb, ha⟩
      · rw [cover_none hlt h] at hz; cases hz
      · omega
    · rw [cover_done hlt] at hz; cases hz; simp
  | succ m ih =>
    intro fr to zs hm hz
    by_cases hlt : fr < to
    · rcases nextSeg_cases L t fr with h | ⟨x, h, hx, hb, ha⟩
      · rw [cover_none hlt h] at hz; cases hz
      · rw [cover_some hlt h] at hz
        obtain ⟨zs', hz', rfl⟩ := Option.map_eq_some_iff.1 hz
        have := ih x.b to zs' (by omega) hz'
        simp; omega
    · rw [cover_done hlt] at hz; cases hz; simp

theorem last_next (L : List It2) (t : Int) : ∀ (m : Nat) (u : Int), above L u ≤ m → nextSeg L t (last L t u) = none := by
  intro m
  induction m with
  | zero =>
    intro u hm
    cases h : nextSeg L t u with
    | none => rw [last_none h, h]
    | some x =>
      have hs := nextSeg_spec h
      have := above_lt hs.1 hs.2.2.2.2 rfl
      omega
  | succ m ih =>
    intro u hm
    cases h : nextSeg L t u with
    | none => rw [last_none h, h]
    | some x =>
      have hs := nextSeg_spec h
      have := above_lt hs.1 hs.2.2.2.2 rfl
      rw [last_some h]
      exact ih x.b (by omega)
theorem last_stop (L : List It2) (t z : Int) (hn : nextSeg L t z = none) : ∀ (m : Nat) (u : Int), above L u ≤ m → u ≤ z → last L t u ≤ z := by
  have hno : ∀ x ∈ L, x.kind = 1 → x.tl = t → x.a ≤ z → ¬ z < x.b := fun x hx h1 h2 h3 h4 => by
    unfold nextSeg at hn
    have := List.find?_eq_none.1 hn x (List.mem_filter.2 ⟨hx, by simp [segB, h1, h2]⟩)
    simp [nextB, h3, h4] at this
  intro m
  induction m with
  | zero =>
    intro u hm hu
    cases h : nextSeg L t u with
    | none => rw [last_none h]; exact hu
    | some x =>
      have hs := nextSeg_spec h
      have := above_lt hs.1 hs.2.2.2.2 rfl
      omega
  | succ m ih =>
    intro u hm hu
    cases h : nextSeg L t u with
    | none => rw [last_none h]; exact hu
    | some x =>
      have hs := nextSeg_spec h
      have := above_lt hs.1 hs.2.2.2.2 rfl
      rw [last_some h]
      have h4 := hno x hs.1 hs.2.1 hs.2.2.1 (by omega)
      exact ih x.b (by omega) (by omega)
/-- What covers from a commit on covers from any later one on. -/
theorem last_later (L : List It2) (t u v : Int) (h1 : u ≤ v) (h2 : v ≤ last L t u) : last L t u ≤ last L t v :=
  last_stop L t _ (last_next L t _ v (Nat.le_refl _)) _ u (Nat.le_refl _) (by have := (last_ge L t _ v (Nat.le_refl _)).1; omega)
end Re
end Go.Proofs.YtinofjenoapeaaaGreat
end
section
namespace Go.Proofs.YtinofjenoapeaaaGreat
open Go.RowKit Go.Shelf
set_option linter.unusedSimpArgs false
set_option linter.unusedVariables false
namespace Chn
def backB (x : It2) : Bool := (decide (x.kind = 2) || decide (x.kind = 3)) && decide (x.a ≤ x.b)
def byId (L : List It2) (id : Int) : Option It2 := L.find? fun x => decide (x.id = id)
def atX (L : List It2) (id : Int) : It2 := (byId L id).getD zIt2
def atOk (L : List It2) (id : Int) : Bool := (byId L id).isSome && backB (atX L id)
/-- How many items have an Id under n. -/
def under (L : List It2) (n : Int) : Nat := (L.filter fun x => decide (x.id < n)).length
theorem under_lt {L : List It2} {n m : Int} {x : It2} (hx : x ∈ L) (h1 : x.id < n) (h2 : m = x.id) : under L m < under L n := by
  subst h2
  unfold under
  induction L with
  | nil => cases hx
  | cons y L ih =>
    have hle : (L.filter fun z => decide (z.id < x.id)).length ≤ (L.filter fun z => decide (z.id < n)).length := by
      clear ih hx
      induction L with
      | nil => simp
      | cons z L ih =>
        simp only [List.filter_cons]
        by_cases hz : z.id < x.id
        · rw [if_pos (by simpa using hz), if_pos (by simp; omega)]; simp only [List.length_cons]; omega
        · rw [if_neg (by simpa using hz)]
          split
          · simp only [List.length_cons]; omega
          · exact ih
    rcases List.mem_cons.1 hx with rfl | hx
    · simp only [List.filter_cons]
      rw [if_neg (by simp), if_pos (by simpa using h1)]
      simp only [List.length_cons]; omega
    · have := ih hx
      simp only [List.filter_cons]
      by_cases hy : y.id < x.id
      · rw [if_pos (by simpa using hy), if_pos (by simp; omega)]; simp only [List.length_cons]; omega
      · rw [if_neg (by simpa using hy)]
        split
        · simp only [List.length_cons]; omega
        · exact this
theorem under_mem {L : List It2} {x : It2} (hx : x ∈ L) : under L x.id + 1 ≤ L.length := by
  unfold under
  induction L with
  | nil => cases hx
  | cons y L ih =>
    rcases List.mem_cons.1 hx with rfl | hx
    · simp only [List.filter_cons]
      rw [if_neg (by simp)]
      have := List.length_filter_le (fun z : It2 => decide (z.id < x.id)) L
      simp only [List.length_cons]; omega
    · have := ih hx
      simp only [List.filter_cons]
      split <;> simp only [List.length_cons] <;> omega
theorem byId_spec {L : List It2} {id : Int} {x : It2} (h : byId L id = some x) : x ∈ L ∧ x.id = id :=
  ⟨List.mem_of_find?_eq_some h, by simpa using List.find?_some h⟩

/-- May x be what its child leans on? -/
def upB (x child : It2) : Bool := decide (x.tl = child.tl) && decide (x.id < child.id) && decide (x.b ≤ child.a)
def upOk (L : List It2) (child : It2) : Bool := atOk L child.par && upB (atX L child.par) child
theorem upOk_mem {L : List It2} {child : It2} (h : upOk L child = true) : byId L child.par = some (atX L child.par) ∧ atX L child.par ∈ L ∧ (atX L child.par).id < child.id := by
  simp only [upOk, atOk, upB, Bool.and_eq_true, decide_eq_true_eq] at h
  have h1 : byId L child.par = some (atX L child.par) := by
    unfold atX
    cases hq : byId L child.par with
    | none => rw [hq] at h; simp at h
    | some y => rfl
  exact ⟨h1, (byId_spec h1).1, h.2.1.2⟩
/-- An item's chain, from it down to what it leans on at last. -/
def chainUp (L : List It2) (x : It2) : Option (List It2) :=
  if x.kind = 2 then some [x] else if h : upOk L x = true then (chainUp L (atX L x.par)).map (x :: ·) else none
termination_by under L x.id
decreasing_by exact under_lt (upOk_mem h).2.1 (upOk_mem h).2.2 rfl
def chainOf (L : List It2) (id : Int) : Option (List It2) := if atOk L id then chainUp L (atX L id) else none
theorem chainUp_full {L : List It2} {x : It2} (h : x.kind = 2) : chainUp L x = some [x] := by rw [chainUp, if_pos h]
theorem chainUp_up {L : List It2} {x : It2} (h : x.kind ≠ 2) (hu : upOk L x = true) : chainUp L x = (chainUp L (atX L x.par)).map (x :: ·) := by rw [chainUp, if_neg h, dif_pos hu]
theorem chainUp_none {L : List It2} {x : It2} (h : x.kind ≠ 2) (hu : upOk L x = false) : chainUp L x = none := by rw [chainUp, if_neg h, dif_neg (by rw [hu]; simp)]

/-- The Ids of some items. -/
def ids (xs : List It2) : List Value := (xs.map It2.id).map (Value.int .i64)
theorem ids_snoc (xs : List It2) (x : It2) : ids (xs ++ [x]) = ids xs ++ [.int .i64 x.id] := by simp [ids]
/-- Backups of a timeline whose chains are there. -/
def backupsB (L : List It2) (t most : Int) (x : It2) : Bool := backB x && decide (x.tl = t) && decide (x.b ≤ most) && (chainOf L x.id).isSome
def betterB (x y : It2) : Bool := decide (x.a > y.a) || (decide (x.a = y.a) && decide (x.id > y.id))
def bestStep (least : Int) (s : It2 × Bool) (x : It2) : It2 × Bool := if decide (least ≤ x.a) && (!s.2 || betterB x s.1) then (x, true) else s
def bestOf (L : List It2) (t least most : Int) : It2 × Bool := (L.filter (backupsB L t most)).foldl (bestStep least) (zIt2, false)
theorem best_spec (least : Int) : ∀ (M : List It2) (s : It2 × Bool), (M.foldl (bestStep least) s = s ∧ ((s.2 = false → ∀ x ∈ M, ¬ least ≤ x.a) )) ∨ ((M.foldl (bestStep least) s).2 = true ∧ (M.foldl (bestStep least) s).1 ∈ M ∧ least ≤ (M.foldl (bestStep least) s).1.a)
  | [], s => .inl ⟨rfl, fun _ x hx => by cases hx⟩
  | y :: M, s => by
    rw [List.foldl_cons]
    by_cases h : (decide (least ≤ y.a) && (!s.2 || betterB y s.1)) = true
    · have hs : bestStep least s y = (y, true) := by unfold bestStep; rw [if_pos h]
      have hl : least ≤ y.a := by simp at h; exact h.1
      rw [hs]
      rcases best_spec least M (y, true) with ⟨h1, h2⟩ | ⟨h1, h2, h3⟩
      · refine .inr ?_
        rw [h1]; exact ⟨rfl, by simp, hl⟩
      · exact .inr ⟨h1, by simp [h2], h3⟩
    · have hs : bestStep least s y = s := by unfold bestStep; rw [if_neg h]
      rw [hs]
      rcases best_spec least M s with ⟨h1, h2⟩ | ⟨h1, h2, h3⟩
      · refine .inl ⟨h1, fun hf x hx => ?_⟩
        rcases List.mem_cons.1 hx with rfl | hx
        · intro hl; apply h; simp [hf, hl]
        · exact h2 hf x hx
      · exact .inr ⟨h1, by simp [h2], h3⟩
/-- The best one begins as late as any. -/
theorem best_ge (least : Int) : ∀ (M : List It2) (s : It2 × Bool), (∀ x ∈ M, least ≤ x.a → x.a ≤ (M.foldl (bestStep least) s).1.a) ∧ (s.2 = true → s.1.a ≤ (M.foldl (bestStep least) s).1.a)
  | [], s => ⟨fun x hx => (by cases hx), fun _ => Int.le_refl _⟩
  | y :: M, s => by
    rw [List.foldl_cons]
    obtain ⟨h1, h2⟩ := best_ge least M (bestStep least s y)
    by_cases h : (decide (least ≤ y.a) && (!s.2 || betterB y s.1)) = true
    · have hs : bestStep least s y = (y, true) := by unfold bestStep; rw [if_pos h]
      rw [hs] at h1 h2 ⊢
      have h3 := h2 rfl
      refine ⟨fun x hx hl => ?_, fun ht => ?_⟩
      · rcases List.mem_cons.1 hx with rfl | hx
        · exact h3
        · exact h1 x hx hl
      · have : betterB y s.1 = true := by simp [ht] at h; exact h.2
        simp [betterB] at this
        dsimp only at h3
        omega
    · have hs : bestStep least s y = s := by unfold bestStep; rw [if_neg h]
      rw [hs] at h1 h2 ⊢
      refine ⟨fun x hx hl => ?_, h2⟩
      rcases List.mem_cons.1 hx with rfl | hx
      · have h3 : s.2 = true ∧ betterB x s.1 = false := by
          simp [hl] at h; cases hs2 : s.2 <;> simp_all
        have := h2 h3.1
        have h4 := h3.2
        simp [betterB] at h4
        omega
      · exact h1 x hx hl
end Chn
end Go.Proofs.YtinofjenoapeaaaGreat
end
section
namespace Go.Proofs.YtinofjenoapeaaaGreat
open Go.RowKit Go.Shelf
set_option linter.unusedSimpArgs false
set_option linter.unusedVariables false
namespace Li
variable {W0 : World} {X : Nat → Prop} {R C : List Ch}
def knownL (L : List It2) (t : Int) : Bool :=
  if h : 1 < t then
    match lineP L t with
    | none => false
    | some x => if h2 : x.par < t then knownL L x.par else false
  else decide (t = 1)
termination_by t.toNat
decreasing_by omega
theorem knownL_le {L : List It2} {t : Int} (h : ¬ 1 < t) : knownL L t = decide (t = 1) := by rw [knownL, dif_neg h]
theorem knownL_none {L : List It2} {t : Int} (h : 1 < t) (hl : lineP L t = none) : knownL L t = false := by rw [knownL, dif_pos h, hl]
theorem knownL_some {L : List It2} {t : Int} {x : It2} (h : 1 < t) (hl : lineP L t = some x) : knownL L t = if x.par < t then knownL L x.par else false := by
  rw [knownL, dif_pos h, hl]
  by_cases h2 : x.par < t
  · simp [h2]
  · simp [h2]
set_option maxRecDepth 100000 in
set_option maxHeartbeats 1000000 in
theorem known_ct (s : Value) (hs : IsSl s) (L : List It2) (hok : ∀ x ∈ L, x.ok) (t : Int) (hsl : SlC 9 s (L.map It2.v) ∈ R) (hm : L.length * 88 ≤ 140737488355328) :
    Ct Tryz.prog 40 [s, .int .i64 t] W0 X R C Unit (fun _ => .bool (knownL L t)) (fun _ => R) (fun _ => C) := by
  intro w hw
  have hF := isWide_wide
  refine calls_nx Tryz.func40 rfl Tryz.ntmps40 rfl ?_ hw
  repeat' (first | ((first | with_reducible refine nl_op rfl ?_ | refine nd_go rfl rfl rfl ?_); intro K hK; (first | ((first | refine on_E hF rfl rfl ?_ | refine od_E rfl rfl ?_ | refine od_R rfl rfl ?_); (first | refine ⟨_, a_yl, ?_⟩ | refine ⟨_, (by first | exact yl_fieldB (T := 33) (f := 6) (q := 6) rfl rfl (by kernel_rfl) | exact yl_fieldE (T := 33) (f := 6) (j := 6) rfl rfl a_sl a_om (by kernel_rfl)), ?_⟩)) | ((first | refine on_Ec hF rfl rfl ?_ | refine od_Ec rfl rfl ?_); refine ⟨_, _, _, a_yc, ?_, ?_⟩ <;> (intro hc; try exact a_cut hc)) | ((first | (refine od_act a_nd ?_; intro K2 hK2) | refine od_last a_nd ?_ | skip); (first | (refine on_alloc hF rfl Tryz.zeroValue33 rfl rfl (fun B => ?_)) | (refine on_box hF rfl rfl rfl rfl (fun B => ?_)) | (refine on_store hF rfl rfl rfl rfl a_turn a_vof a_sz ?_) | (refine on_storeE hF rfl rfl rfl rfl a_turn a_om a_vof a_sz ?_) | (refine on_storeEF hF rfl rfl rfl rfl a_turn a_as (by decide) a_vof rfl ?_) | (refine on_storeF hF rfl rfl rfl rfl a_turn (by decide) a_vof rfl ?_)) <;> try (refine hK2 _ _ _ a_allK ?_; clear hK2 K2))) <;> (refine hK _ _ _ ?_; clear hK K)) | with_reducible (first | refine nx_seq ?_ | refine nx_region ?_ | refine nl_nil ?_ | refine nq_then_n ?_ | refine nx_block ?_ | refine nx_skip ?_ | refine nx_exit ?_ | refine nx_ret ?_ | refine nq_then_x ?_ | refine nq_then_r ?_ | refine nq_blk_n ?_ | refine nq_blk_r ?_ | refine nq_blk_hit ?_ | refine nq_blk_miss rfl ?_ | refine nd_nil ?_) | refine nx_cond_t rfl ?_ | refine nx_cond_f rfl ?_ | refine nl_pass hF rfl rfl rfl ?_ | refine nd_pass rfl rfl rfl rfl rfl ?_ | refine nd_pass2 rfl rfl rfl a_nd a_allK rfl rfl ?_ | refine nd_pass3 rfl rfl rfl a_nd rfl rfl ?_ | (with_reducible refine hQ1 _ _ _ ?_; clear hQ1 Q1) )
  refine nx_loop (ι := { u : Int // knownL L u = knownL L t }) (fun u => [(0, s), (1, .int .i64 u.1)]) (fun _ => R) (fun _ => C) (fun u => u.1.toNat) ⟨t, rfl⟩ (by exact a_sub) (by exact a_subR) (by exact a_holds) (fun u => ?_)
  obtain ⟨u, hu⟩ := u
  dsimp only
  rw [← hu]
  by_cases h1 : 1 < u
  · have lc := fun (W0 : World) (X : Nat → Prop) (R C : List Ch) h => line_ct (W0 := W0) (X := X) (R := R) (C := C) s hs L hok u h hm
    cases hl : lineP L u with
    | none =>
      simp only [hl, Option.getD_none, Option.isSome_none] at lc
      rw [knownL_none h1 hl]
      have hvz := zIt2.vof zIt2_ok
      repeat' (first | ((first | with_reducible refine nl_op rfl ?_ | refine nd_go rfl rfl rfl ?_); intro K hK; (first | ((first | refine on_E hF rfl rfl ?_ | refine od_E rfl rfl ?_ | refine od_R rfl rfl ?_); (first | refine ⟨_, a_yl, ?_⟩ | refine ⟨_, (by first | exact yl_fieldB (T := 33) (f := 6) (q := 6) rfl rfl (by kernel_rfl) | exact yl_fieldE (T := 33) (f := 6) (j := 6) rfl rfl a_sl a_om (by kernel_rfl)), ?_⟩)) | ((first | refine on_Ec hF rfl rfl ?_ | refine od_Ec rfl rfl ?_); refine ⟨_, _, _, a_yc, ?_, ?_⟩ <;> (intro hc; try exact a_cut hc)) | ((first | (refine od_act a_nd ?_; intro K2 hK2) | refine od_last a_nd ?_ | skip); (first | (refine on_callG hF (enters_of Tryz.func64 (by kernel_rfl) rfl) rfl rfl rfl rfl (lc _ _ _ _ (by exact a_mem)) (fun _ => ?_)) | (refine on_alloc hF rfl Tryz.zeroValue33 rfl rfl (fun B => ?_)) | (refine on_box hF rfl rfl rfl rfl (fun B => ?_)) | (refine on_store hF rfl rfl rfl rfl a_turn a_vof a_sz ?_) | (refine on_storeE hF rfl rfl rfl rfl a_turn a_om a_vof a_sz ?_) | (refine on_storeEF hF rfl rfl rfl rfl a_turn a_as (by decide) a_vof rfl ?_) | (refine on_storeF hF rfl rfl rfl rfl a_turn (by decide) a_vof rfl ?_)) <;> try (refine hK2 _ _ _ a_allK ?_; clear hK2 K2))) <;> (refine hK _ _ _ ?_; clear hK K)) | with_reducible (first | refine nx_seq ?_ | refine nx_region ?_ | refine nl_nil ?_ | refine nq_then_n ?_ | refine nx_block ?_ | refine nx_skip ?_ | refine nx_exit ?_ | refine nx_ret ?_ | refine nq_then_x ?_ | refine nq_then_r ?_ | refine nq_blk_n ?_ | refine nq_blk_r ?_ | refine nq_blk_hit ?_ | refine nq_blk_miss rfl ?_ | refine nd_nil ?_) | refine nx_cond_t rfl ?_ | refine nx_cond_f rfl ?_ | refine nl_pass hF rfl rfl rfl ?_ | refine nd_pass rfl rfl rfl rfl rfl ?_ | refine nd_pass2 rfl rfl rfl a_nd a_allK rfl rfl ?_ | refine nd_pass3 rfl rfl rfl a_nd rfl rfl ?_ | (with_reducible refine hQ1 _ _ _ ?_; clear hQ1 Q1) )
      refine nx_end [] rfl () (fun a w ha hw => res_tmp Tryz.results40 rfl ha) (by exact a_subR) (by exact a_holds2)
    | some x =>
      simp only [hl, Option.getD_some, Option.isSome_some] at lc
      have hxo := hok x (List.mem_of_find?_eq_some hl)
      have hvx := x.vof hxo
      have hks := knownL_some h1 hl
      obtain ⟨d1, kind, tl, d4, d5, d6, par, d8, e⟩ := x
      obtain ⟨ea, en, ec, rfl⟩ : IsSl e := hxo
      dsimp only at hks
      by_cases h2 : par < u
      · rw [if_pos h2] at hks
        rw [hks]
        repeat' (first | ((first | with_reducible refine nl_op rfl ?_ | refine nd_go rfl rfl rfl ?_); intro K hK; (first | ((first | refine on_E hF rfl rfl ?_ | refine od_E rfl rfl ?_ | refine od_R rfl rfl ?_); (first | refine ⟨_, a_yl, ?_⟩ | refine ⟨_, (by first | exact yl_fieldB (T := 33) (f := 6) (q := 6) rfl rfl (by kernel_rfl) | exact yl_fieldE (T := 33) (f := 6) (j := 6) rfl rfl a_sl a_om (by kernel_rfl)), ?_⟩)) | ((first | refine on_Ec hF rfl rfl ?_ | refine od_Ec rfl rfl ?_); refine ⟨_, _, _, a_yc, ?_, ?_⟩ <;> (intro hc; try exact a_cut hc)) | ((first | (refine od_act a_nd ?_; intro K2 hK2) | refine od_last a_nd ?_ | skip); (first | (refine on_callG hF (enters_of Tryz.func64 (by kernel_rfl) rfl) rfl rfl rfl rfl (lc _ _ _ _ (by exact a_mem)) (fun _ => ?_)) | (refine on_alloc hF rfl Tryz.zeroValue33 rfl rfl (fun B => ?_)) | (refine on_box hF rfl rfl rfl rfl (fun B => ?_)) | (refine on_store hF rfl rfl rfl rfl a_turn a_vof a_sz ?_) | (refine on_storeE hF rfl rfl rfl rfl a_turn a_om a_vof a_sz ?_) | (refine on_storeEF hF rfl rfl rfl rfl a_turn a_as (by decide) a_vof rfl ?_) | (refine on_storeF hF rfl rfl rfl rfl a_turn (by decide) a_vof rfl ?_)) <;> try (refine hK2 _ _ _ a_allK ?_; clear hK2 K2))) <;> (refine hK _ _ _ ?_; clear hK K)) | with_reducible (first | refine nx_seq ?_ | refine nx_region ?_ | refine nl_nil ?_ | refine nq_then_n ?_ | refine nx_block ?_ | refine nx_skip ?_ | refine nx_exit ?_ | refine nx_ret ?_ | refine nq_then_x ?_ | refine nq_then_r ?_ | refine nq_blk_n ?_ | refine nq_blk_r ?_ | refine nq_blk_hit ?_ | refine nq_blk_miss rfl ?_ | refine nd_nil ?_) | refine nx_cond_t rfl ?_ | refine nx_cond_f rfl ?_ | refine nl_pass hF rfl rfl rfl ?_ | refine nd_pass rfl rfl rfl rfl rfl ?_ | refine nd_pass2 rfl rfl rfl a_nd a_allK rfl rfl ?_ | refine nd_pass3 rfl rfl rfl a_nd rfl rfl ?_ | (with_reducible refine hQ1 _ _ _ ?_; clear hQ1 Q1) )
        all_goals (try (exfalso; dsimp only at *; omega))
        refine nx_again ⟨par, by rw [← hks, hu]⟩ (by dsimp only; omega) (by exact a_sub) (by exact a_subR) (by exact a_holds)
      · rw [if_neg h2] at hks
        rw [hks]
        repeat' (first | ((first | with_reducible refine nl_op rfl ?_ | refine nd_go rfl rfl rfl ?_); intro K hK; (first | ((first | refine on_E hF rfl rfl ?_ | refine od_E rfl rfl ?_ | refine od_R rfl rfl ?_); (first | refine ⟨_, a_yl, ?_⟩ | refine ⟨_, (by first | exact yl_fieldB (T := 33) (f := 6) (q := 6) rfl rfl (by kernel_rfl) | exact yl_fieldE (T := 33) (f := 6) (j := 6) rfl rfl a_sl a_om (by kernel_rfl)), ?_⟩)) | ((first | refine on_Ec hF rfl rfl ?_ | refine od_Ec rfl rfl ?_); refine ⟨_, _, _, a_yc, ?_, ?_⟩ <;> (intro hc; try exact a_cut hc)) | ((first | (refine od_act a_nd ?_; intro K2 hK2) | refine od_last a_nd ?_ | skip); (first | (refine on_callG hF (enters_of Tryz.func64 (by kernel_rfl) rfl) rfl rfl rfl rfl (lc _ _ _ _ (by exact a_mem)) (fun _ => ?_)) | (refine on_alloc hF rfl Tryz.zeroValue33 rfl rfl (fun B => ?_)) | (refine on_box hF rfl rfl rfl rfl (fun B => ?_)) | (refine on_store hF rfl rfl rfl rfl a_turn a_vof a_sz ?_) | (refine on_storeE hF rfl rfl rfl rfl a_turn a_om a_vof a_sz ?_) | (refine on_storeEF hF rfl rfl rfl rfl a_turn a_as (by decide) a_vof rfl ?_) | (refine on_storeF hF rfl rfl rfl rfl a_turn (by decide) a_vof rfl ?_)) <;> try (refine hK2 _ _ _ a_allK ?_; clear hK2 K2))) <;> (refine hK _ _ _ ?_; clear hK K)) | with_reducible (first | refine nx_seq ?_ | refine nx_region ?_ | refine nl_nil ?_ | refine nq_then_n ?_ | refine nx_block ?_ | refine nx_skip ?_ | refine nx_exit ?_ | refine nx_ret ?_ | refine nq_then_x ?_ | refine nq_then_r ?_ | refine nq_blk_n ?_ | refine nq_blk_r ?_ | refine nq_blk_hit ?_ | refine nq_blk_miss rfl ?_ | refine nd_nil ?_) | refine nx_cond_t rfl ?_ | refine nx_cond_f rfl ?_ | refine nl_pass hF rfl rfl rfl ?_ | refine nd_pass rfl rfl rfl rfl rfl ?_ | refine nd_pass2 rfl rfl rfl a_nd a_allK rfl rfl ?_ | refine nd_pass3 rfl rfl rfl a_nd rfl rfl ?_ | (with_reducible refine hQ1 _ _ _ ?_; clear hQ1 Q1) )
        all_goals (first | (exfalso; dsimp only at *; omega) | (refine nx_end [] rfl () (fun a w ha hw => res_tmp Tryz.results40 rfl ha) (by exact a_subR) (by exact a_holds2)))
  · rw [knownL_le h1]
    repeat' (first | ((first | with_reducible refine nl_op rfl ?_ | refine nd_go rfl rfl rfl ?_); intro K hK; (first | ((first | refine on_E hF rfl rfl ?_ | refine od_E rfl rfl ?_ | refine od_R rfl rfl ?_); (first | refine ⟨_, a_yl, ?_⟩ | refine ⟨_, (by first | exact yl_fieldB (T := 33) (f := 6) (q := 6) rfl rfl (by kernel_rfl) | exact yl_fieldE (T := 33) (f := 6) (j := 6) rfl rfl a_sl a_om (by kernel_rfl)), ?_⟩)) | ((first | refine on_Ec hF rfl rfl ?_ | refine od_Ec rfl rfl ?_); refine ⟨_, _, _, a_yc, ?_, ?_⟩ <;> (intro hc; try exact a_cut hc)) | ((first | (refine od_act a_nd ?_; intro K2 hK2) | refine od_last a_nd ?_ | skip); (first | (refine on_alloc hF rfl Tryz.zeroValue33 rfl rfl (fun B => ?_)) | (refine on_box hF rfl rfl rfl rfl (fun B => ?_)) | (refine on_store hF rfl rfl rfl rfl a_turn a_vof a_sz ?_) | (refine on_storeE hF rfl rfl rfl rfl a_turn a_om a_vof a_sz ?_) | (refine on_storeEF hF rfl rfl rfl rfl a_turn a_as (by decide) a_vof rfl ?_) | (refine on_storeF hF rfl rfl rfl rfl a_turn (by decide) a_vof rfl ?_)) <;> try (refine hK2 _ _ _ a_allK ?_; clear hK2 K2))) <;> (refine hK _ _ _ ?_; clear hK K)) | with_reducible (first | refine nx_seq ?_ | refine nx_region ?_ | refine nl_nil ?_ | refine nq_then_n ?_ | refine nx_block ?_ | refine nx_skip ?_ | refine nx_exit ?_ | refine nx_ret ?_ | refine nq_then_x ?_ | refine nq_then_r ?_ | refine nq_blk_n ?_ | refine nq_blk_r ?_ | refine nq_blk_hit ?_ | refine nq_blk_miss rfl ?_ | refine nd_nil ?_) | refine nx_cond_t rfl ?_ | refine nx_cond_f rfl ?_ | refine nl_pass hF rfl rfl rfl ?_ | refine nd_pass rfl rfl rfl rfl rfl ?_ | refine nd_pass2 rfl rfl rfl a_nd a_allK rfl rfl ?_ | refine nd_pass3 rfl rfl rfl a_nd rfl rfl ?_ | (with_reducible refine hQ1 _ _ _ ?_; clear hQ1 Q1) )
    · rw [decide_eq_true hc]
      refine nx_end [] rfl () (fun a w ha hw => res_tmp Tryz.results40 rfl ha) (by exact a_subR) (by exact a_holds2)
    · rw [decide_eq_false hc]
      refine nx_end [] rfl () (fun a w ha hw => res_tmp Tryz.results40 rfl ha) (by exact a_subR) (by exact a_holds2)
end Li
end Go.Proofs.YtinofjenoapeaaaGreat
end
section
namespace Go.Proofs.YtinofjenoapeaaaGreat
open Go.RowKit Go.Shelf
set_option linter.unusedSimpArgs false
set_option linter.unusedVariables false
namespace Li
variable {W0 : World} {X : Nat → Prop} {R C : List Ch}
/-- A timeline's parent, and behind which commit it was left. -/
def parentP (L : List It2) (t : Int) : Int × Int × Bool := if t ≤ 1 ∨ knownL L t = false then (0, 0, false) else (((lineP L t).getD zIt2).par, ((lineP L t).getD zIt2).a, true)
set_option maxRecDepth 100000 in
set_option maxHeartbeats 1000000 in
theorem parent_ct (s : Value) (hs : IsSl s) (L : List It2) (hok : ∀ x ∈ L, x.ok) (t : Int) (hsl : SlC 9 s (L.map It2.v) ∈ R) (hm : L.length * 88 ≤ 140737488355328) :
    Ct Tryz.prog 68 [s, .int .i64 t] W0 X R C Unit (fun _ => .tuple #[.int .i64 (parentP L t).1, .int .i64 (parentP L t).2.1, .bool (parentP L t).2.2]) (fun _ => R) (fun _ => C) := by
  intro w hw
  have hF := isWide_wide
  have lc := fun (W0 : World) (X : Nat → Prop) (R C : List Ch) h => line_ct (W0 := W0) (X := X) (R := R) (C := C) s hs L hok t h hm
  have kc := fun (W0 : World) (X : Nat → Prop) (R C : List Ch) h => known_ct (W0 := W0) (X := X) (R := R) (C := C) s hs L hok t h hm
  have hvy := (((lineP L t).getD zIt2).vof (lineP_ok hok t))
  have hyo := lineP_ok hok t
  obtain ⟨b, hb⟩ : ∃ b, knownL L t = b := ⟨_, rfl⟩
  obtain ⟨z, hz⟩ : ∃ z, (lineP L t).isSome = z := ⟨_, rfl⟩
  obtain ⟨y, hy⟩ : ∃ y, (lineP L t).getD zIt2 = y := ⟨_, rfl⟩
  have hp : parentP L t = if t ≤ 1 ∨ b = false then (0, 0, false) else (y.par, y.a, true) := by unfold parentP; rw [hb, hy]
  rw [hy, hz] at lc
  rw [hb] at kc
  rw [hy] at hvy hyo
  obtain ⟨d1, kind, tl, d4, a, d6, par, d8, e⟩ := y
  obtain ⟨ea, en, ec, rfl⟩ : IsSl e := hyo
  by_cases h1 : t ≤ 1 ∨ b = false
  · rw [if_pos h1] at hp
    rw [hp]
    refine calls_nx Tryz.func68 rfl Tryz.ntmps68 rfl ?_ hw
    cases b with
    | true =>
      have h2 : t ≤ 1 := by rcases h1 with h | h; exact h; cases h
      repeat' (first | ((first | with_reducible refine nl_op rfl ?_ | refine nd_go rfl rfl rfl ?_); intro K hK; (first | ((first | refine on_E hF rfl rfl ?_ | refine od_E rfl rfl ?_ | refine od_R rfl rfl ?_); (first | refine ⟨_, a_yl, ?_⟩ | refine ⟨_, (by first | exact yl_fieldB (T := 33) (f := 4) (q := 4) rfl rfl (by kernel_rfl) | exact yl_fieldE (T := 33) (f := 4) (j := 4) rfl rfl a_sl a_om (by kernel_rfl) | exact yl_fieldB (T := 33) (f := 6) (q := 6) rfl rfl (by kernel_rfl) | exact yl_fieldE (T := 33) (f := 6) (j := 6) rfl rfl a_sl a_om (by kernel_rfl)), ?_⟩)) | ((first | refine on_Ec hF rfl rfl ?_ | refine od_Ec rfl rfl ?_); refine ⟨_, _, _, a_yc, ?_, ?_⟩ <;> (intro hc; try exact a_cut hc)) | ((first | (refine od_act a_nd ?_; intro K2 hK2) | refine od_last a_nd ?_ | skip); (first | (refine on_alloc hF rfl Tryz.zeroValue33 rfl rfl (fun B => ?_)) | (refine on_box hF rfl rfl rfl rfl (fun B => ?_)) | (refine on_store hF rfl rfl rfl rfl a_turn a_vof a_sz ?_) | (refine on_storeE hF rfl rfl rfl rfl a_turn a_om a_vof a_sz ?_) | (refine on_storeEF hF rfl rfl rfl rfl a_turn a_as (by decide) a_vof rfl ?_) | (refine on_storeF hF rfl rfl rfl rfl a_turn (by decide) a_vof rfl ?_)) <;> try (refine hK2 _ _ _ a_allK ?_; clear hK2 K2))) <;> (refine hK _ _ _ ?_; clear hK K)) | with_reducible (first | refine nx_seq ?_ | refine nx_region ?_ | refine nl_nil ?_ | refine nq_then_n ?_ | refine nx_block ?_ | refine nx_skip ?_ | refine nx_exit ?_ | refine nx_ret ?_ | refine nq_then_x ?_ | refine nq_then_r ?_ | refine nq_blk_n ?_ | refine nq_blk_r ?_ | refine nq_blk_hit ?_ | refine nq_blk_miss rfl ?_ | refine nd_nil ?_) | refine nx_cond_t rfl ?_ | refine nx_cond_f rfl ?_ | refine nl_pass hF rfl rfl rfl ?_ | refine nd_pass rfl rfl rfl rfl rfl ?_ | refine nd_pass2 rfl rfl rfl a_nd a_allK rfl rfl ?_ | refine nd_pass3 rfl rfl rfl a_nd rfl rfl ?_ | (with_reducible refine hQ1 _ _ _ ?_; clear hQ1 Q1) | (refine nd_region (id := 4) hF [0, 1, 0, 1, 0, 0, 0] [0, 1, 2, 3, 4, 5, 6] _ _ (by kernel_rfl) (by kernel_rfl) sub2_same ?_; intro Q1 hQ1))
      refine nx_end [] rfl () (fun a w ha hw => res_tmp3 Tryz.results68 rfl rfl rfl ha) (by exact a_subR) (by exact a_holds2)
    | false =>
      repeat' (first | ((first | with_reducible refine nl_op rfl ?_ | refine nd_go rfl rfl rfl ?_); intro K hK; (first | ((first | refine on_E hF rfl rfl ?_ | refine od_E rfl rfl ?_ | refine od_R rfl rfl ?_); (first | refine ⟨_, a_yl, ?_⟩ | refine ⟨_, (by first | exact yl_fieldB (T := 33) (f := 4) (q := 4) rfl rfl (by kernel_rfl) | exact yl_fieldE (T := 33) (f := 4) (j := 4) rfl rfl a_sl a_om (by kernel_rfl) | exact yl_fieldB (T := 33) (f := 6) (q := 6) rfl rfl (by kernel_rfl) | exact yl_fieldE (T := 33) (f := 6) (j := 6) rfl rfl a_sl a_om (by kernel_rfl)), ?_⟩)) | ((first | refine on_Ec hF rfl rfl ?_ | refine od_Ec rfl rfl ?_); refine ⟨_, _, _, a_yc, ?_, ?_⟩ <;> (intro hc; try exact a_cut hc)) | ((first | (refine od_act a_nd ?_; intro K2 hK2) | refine od_last a_nd ?_ | skip); (first | (refine on_callG hF (enters_of Tryz.func40 (by kernel_rfl) rfl) rfl rfl rfl rfl (kc _ _ _ _ (by exact a_mem)) (fun _ => ?_)) | (refine on_alloc hF rfl Tryz.zeroValue33 rfl rfl (fun B => ?_)) | (refine on_box hF rfl rfl rfl rfl (fun B => ?_)) | (refine on_store hF rfl rfl rfl rfl a_turn a_vof a_sz ?_) | (refine on_storeE hF rfl rfl rfl rfl a_turn a_om a_vof a_sz ?_) | (refine on_storeEF hF rfl rfl rfl rfl a_turn a_as (by decide) a_vof rfl ?_) | (refine on_storeF hF rfl rfl rfl rfl a_turn (by decide) a_vof rfl ?_)) <;> try (refine hK2 _ _ _ a_allK ?_; clear hK2 K2))) <;> (refine hK _ _ _ ?_; clear hK K)) | with_reducible (first | refine nx_seq ?_ | refine nx_region ?_ | refine nl_nil ?_ | refine nq_then_n ?_ | refine nx_block ?_ | refine nx_skip ?_ | refine nx_exit ?_ | refine nx_ret ?_ | refine nq_then_x ?_ | refine nq_then_r ?_ | refine nq_blk_n ?_ | refine nq_blk_r ?_ | refine nq_blk_hit ?_ | refine nq_blk_miss rfl ?_ | refine nd_nil ?_) | refine nx_cond_t rfl ?_ | refine nx_cond_f rfl ?_ | refine nl_pass hF rfl rfl rfl ?_ | refine nd_pass rfl rfl rfl rfl rfl ?_ | refine nd_pass2 rfl rfl rfl a_nd a_allK rfl rfl ?_ | refine nd_pass3 rfl rfl rfl a_nd rfl rfl ?_ | (with_reducible refine hQ1 _ _ _ ?_; clear hQ1 Q1) | (refine nd_region (id := 4) hF [0, 1, 0, 1, 0, 0, 0] [0, 1, 2, 3, 4, 5, 6] _ _ (by kernel_rfl) (by kernel_rfl) sub2_same ?_; intro Q1 hQ1))
      all_goals refine nx_end [] rfl () (fun a w ha hw => res_tmp3 Tryz.results68 rfl rfl rfl ha) (by exact a_subR) (by exact a_holds2)
  · rw [if_neg h1] at hp
    rw [hp]
    obtain rfl : b = true := by cases b; exact absurd (.inr rfl) h1; rfl
    have h2 : ¬ t ≤ 1 := fun h => h1 (.inl h)
    refine calls_nx Tryz.func68 rfl Tryz.ntmps68 rfl ?_ hw
    repeat' (first | ((first | with_reducible refine nl_op rfl ?_ | refine nd_go rfl rfl rfl ?_); intro K hK; (first | ((first | refine on_E hF rfl rfl ?_ | refine od_E rfl rfl ?_ | refine od_R rfl rfl ?_); (first | refine ⟨_, a_yl, ?_⟩ | refine ⟨_, (by first | exact yl_fieldB (T := 33) (f := 4) (q := 4) rfl rfl (by kernel_rfl) | exact yl_fieldE (T := 33) (f := 4) (j := 4) rfl rfl a_sl a_om (by kernel_rfl) | exact yl_fieldB (T := 33) (f := 6) (q := 6) rfl rfl (by kernel_rfl) | exact yl_fieldE (T := 33) (f := 6) (j := 6) rfl rfl a_sl a_om (by kernel_rfl)), ?_⟩)) | ((first | refine on_Ec hF rfl rfl ?_ | refine od_Ec rfl rfl ?_); refine ⟨_, _, _, a_yc, ?_, ?_⟩ <;> (intro hc; try exact a_cut hc)) | ((first | (refine od_act a_nd ?_; intro K2 hK2) | refine od_last a_nd ?_ | skip); (first | (refine on_callG hF (enters_of Tryz.func40 (by kernel_rfl) rfl) rfl rfl rfl rfl (kc _ _ _ _ (by exact a_mem)) (fun _ => ?_)) | (refine on_callG hF (enters_of Tryz.func64 (by kernel_rfl) rfl) rfl rfl rfl rfl (lc _ _ _ _ (by exact a_mem)) (fun _ => ?_)) | (refine on_alloc hF rfl Tryz.zeroValue33 rfl rfl (fun B => ?_)) | (refine on_box hF rfl rfl rfl rfl (fun B => ?_)) | (refine on_store hF rfl rfl rfl rfl a_turn a_vof a_sz ?_) | (refine on_storeE hF rfl rfl rfl rfl a_turn a_om a_vof a_sz ?_) | (refine on_storeEF hF rfl rfl rfl rfl a_turn a_as (by decide) a_vof rfl ?_) | (refine on_storeF hF rfl rfl rfl rfl a_turn (by decide) a_vof rfl ?_)) <;> try (refine hK2 _ _ _ a_allK ?_; clear hK2 K2))) <;> (refine hK _ _ _ ?_; clear hK K)) | with_reducible (first | refine nx_seq ?_ | refine nx_region ?_ | refine nl_nil ?_ | refine nq_then_n ?_ | refine nx_block ?_ | refine nx_skip ?_ | refine nx_exit ?_ | refine nx_ret ?_ | refine nq_then_x ?_ | refine nq_then_r ?_ | refine nq_blk_n ?_ | refine nq_blk_r ?_ | refine nq_blk_hit ?_ | refine nq_blk_miss rfl ?_ | refine nd_nil ?_) | refine nx_cond_t rfl ?_ | refine nx_cond_f rfl ?_ | refine nl_pass hF rfl rfl rfl ?_ | refine nd_pass rfl rfl rfl rfl rfl ?_ | refine nd_pass2 rfl rfl rfl a_nd a_allK rfl rfl ?_ | refine nd_pass3 rfl rfl rfl a_nd rfl rfl ?_ | (with_reducible refine hQ1 _ _ _ ?_; clear hQ1 Q1) | (refine nd_region (id := 4) hF [0, 1, 0, 1, 0, 0, 0] [0, 1, 2, 3, 4, 5, 6] _ _ (by kernel_rfl) (by kernel_rfl) sub2_same ?_; intro Q1 hQ1))
    refine nx_end [] rfl () (fun a w ha hw => res_tmp3 Tryz.results68 rfl rfl rfl ha) (by exact a_subR) (by exact a_holds2)
theorem parent_lt (L : List It2) (t : Int) (h : 1 ≤ t) : (parentP L t).1 < t := by
  unfold parentP
  by_cases h1 : t ≤ 1 ∨ knownL L t = false
  · rw [if_pos h1]; show (0 : Int) < t; omega
  · rw [if_neg h1]
    have h2 : 1 < t := by omega
    have h3 : knownL L t = true := by cases hk : knownL L t with | true => rfl | false => exact absurd (.inr hk) h1
    cases hl : lineP L t with
    | none => rw [knownL_none h2 hl] at h3; cases h3
    | some x =>
      rw [knownL_some h2 hl] at h3
      split at h3
      · assumption
      · cases h3
end Li
end Go.Proofs.YtinofjenoapeaaaGreat
end
section
namespace Go.Proofs.YtinofjenoapeaaaGreat
open Go.RowKit Go.Shelf
set_option linter.unusedSimpArgs false
set_option linter.unusedVariables false
section
variable {F : Fence} {m : Nat} {P : Program} {Q Q' : Exit → Act → World → Prop} {K K' : Act → World → Prop} {n : Nat} {l : List (Nat × Value)} {d : List Deferred} {W0 : World} {X : Nat → Prop} {R C : List Ch}
theorem oper_mono {o : Oper} {a : Act} {w : World} (h : ∀ a w, K a w → K' a w) (hq : ∀ e a w, Q e a w → Q' e a w)
    (hh : o.wpIn F n P a w K Q) : o.wpIn F n P a w K' Q' := by
  unfold Oper.wpIn at *
  refine ⟨hh.1, ?_⟩
  have hh := hh.2
  generalize (o.semAt F.round a.eval).run P w = r at *
  cases r with
  | ok x w' =>
    cases x <;> simp only [Oper.uponIn] at hh ⊢ <;>
      first
        | exact h _ _ hh
        | exact hq _ _ _ hh
        | exact ⟨hh.1, CallsIn.mono hh.2 (fun e w'' he => by cases e <;> first | exact h _ _ he | exact hq _ _ _ he | exact (let ⟨a, w, h⟩ := he; ⟨a, w, hq _ _ _ h⟩))⟩
        | exact ⟨hh.1, RowsIn.mono hh.2 (fun _ _ he => h _ _ he)⟩
        | exact ⟨hh.1, RoundIn.mono hh.2 (fun e w'' he => by cases e <;> first | exact h _ _ he | exact hq _ _ _ he | exact (let ⟨a, w, h⟩ := he; ⟨a, w, hq _ _ _ h⟩))⟩
  | halt x w' => cases x <;> simp only [Oper.uponIn] at hh ⊢ <;> first | exact hq _ _ _ hh | exact hh
theorem list_mono {ops : Array Oper} (hq : ∀ e a w, Q e a w → Q' e a w) : ∀ (os : List Oper) (a : Act) (w : World), wpListIn F m P ops Q os a w → wpListIn F m P ops Q' os a w
  | [], a, w, h => hq _ _ _ h
  | o :: os, a, w, h => by
    unfold wpListIn at h ⊢
    split
    · rename_i hw; rw [if_pos hw] at h; exact oper_mono (fun a w h => list_mono hq os a w h) hq h
    · rename_i hw; rw [if_neg hw] at h; exact ⟨h.1, list_mono hq os _ _ h.2⟩
theorem then_mono (h : ∀ a w, K a w → K' a w) : ∀ e a w, Exit.then K Q e a w → Exit.then K' Q e a w := fun e a w he => by
  cases e <;> first | exact h _ _ he | exact he
/-- What stands behind a cut: any of a family of states goes on. -/
def Cut {ι : Type} (K : Act → World → Prop) (n : Nat) (d : List Deferred) (W0 : World) (X : Nat → Prop) (L : ι → List (Nat × Value)) (RR CC : ι → List Ch) : Prop := ∀ i l2 R2 C2, (∀ j v, lk j (L i) = some v → lk j l2 = some v) → (∀ r ∈ RR i, r ∈ R2) → Holds C2 (CC i) → Nx K n l2 d W0 X R2 C2
variable {ι : Type}
theorem Cut.mk {L : ι → List (Nat × Value)} {RR CC : ι → List Ch} (h : ∀ i, Nx K n (L i) d W0 X (RR i) (CC i)) : Cut K n d W0 X L RR CC := fun i l2 R2 C2 h1 h2 h3 => (h i).weak h1 h2 h3
theorem wpIn_cut1 {x rest : Code} {a : Act} {w : World} (hK : ∀ a w, K a w → rest.wpIn F m P Q a w) (h : x.wpIn F m P (Exit.then K Q) a w) : (Code.seq x rest).wpIn F m P Q a w :=
  wpIn_seq (wpIn_mono h (then_mono hK))
/-- The rest of a region, one code, and what follows. -/
theorem nl_cut0 {ops : Array Oper} {os : List Oper} {rest : Code} (L : ι → List (Nat × Value)) (RR CC : ι → List Ch) (hr : ∀ i, Nx (rest.wpIn F m P Q) n (L i) d W0 X (RR i) (CC i))
    (h : ∀ K, Cut K n d W0 X L RR CC → Nx (wpListIn F m P ops (Exit.then K Q) os) n l d W0 X R C) : Nx (wpListIn F m P ops (Exit.then (rest.wpIn F m P Q) Q) os) n l d W0 X R C := h _ (Cut.mk hr)
theorem nl_cut1 {ops : Array Oper} {os : List Oper} {x rest : Code} (L : ι → List (Nat × Value)) (RR CC : ι → List Ch) (hr : ∀ i, Nx (rest.wpIn F m P Q) n (L i) d W0 X (RR i) (CC i))
    (h : ∀ K, Cut K n d W0 X L RR CC → Nx (wpListIn F m P ops (Exit.then (x.wpIn F m P (Exit.then K Q)) Q) os) n l d W0 X R C) : Nx (wpListIn F m P ops (Exit.then ((Code.seq x rest).wpIn F m P Q) Q) os) n l d W0 X R C := fun a w ha hw =>
  list_mono (then_mono fun _ _ h => wpIn_cut1 (fun _ _ h => h) h) os a w (h _ (Cut.mk hr) a w ha hw)
/-- The same, where the region and the one code stand in a group of their own. -/
theorem nl_cutG {ops : Array Oper} {os : List Oper} {x rest : Code} (L : ι → List (Nat × Value)) (RR CC : ι → List Ch) (hr : ∀ i, Nx (rest.wpIn F m P Q) n (L i) d W0 X (RR i) (CC i))
    (h : ∀ K, Cut K n d W0 X L RR CC → Nx (wpListIn F m P ops (Exit.then (x.wpIn F m P (Exit.then K Q)) (Exit.then K Q)) os) n l d W0 X R C) : Nx (wpListIn F m P ops (Exit.then (x.wpIn F m P (Exit.then (rest.wpIn F m P Q) Q)) (Exit.then (rest.wpIn F m P Q) Q)) os) n l d W0 X R C := h _ (Cut.mk hr)
theorem nl_cut2 {ops : Array Oper} {os : List Oper} {x y rest : Code} (L : ι → List (Nat × Value)) (RR CC : ι → List Ch) (hr : ∀ i, Nx (rest.wpIn F m P Q) n (L i) d W0 X (RR i) (CC i))
    (h : ∀ K, Cut K n d W0 X L RR CC → Nx (wpListIn F m P ops (Exit.then (x.wpIn F m P (Exit.then (y.wpIn F m P (Exit.then K Q)) Q)) Q) os) n l d W0 X R C) : Nx (wpListIn F m P ops (Exit.then ((Code.seq x (Code.seq y rest)).wpIn F m P Q) Q) os) n l d W0 X R C := fun a w ha hw =>
  list_mono (then_mono fun _ _ h => wpIn_cut1 (fun _ _ h => wpIn_cut1 (fun _ _ h => h) h) h) os a w (h _ (Cut.mk hr) a w ha hw)
theorem nl_cut3 {ops : Array Oper} {os : List Oper} {x y z rest : Code} (L : ι → List (Nat × Value)) (RR CC : ι → List Ch) (hr : ∀ i, Nx (rest.wpIn F m P Q) n (L i) d W0 X (RR i) (CC i))
    (h : ∀ K, Cut K n d W0 X L RR CC → Nx (wpListIn F m P ops (Exit.then (x.wpIn F m P (Exit.then (y.wpIn F m P (Exit.then (z.wpIn F m P (Exit.then K Q)) Q)) Q)) Q) os) n l d W0 X R C) : Nx (wpListIn F m P ops (Exit.then ((Code.seq x (Code.seq y (Code.seq z rest))).wpIn F m P Q) Q) os) n l d W0 X R C := fun a w ha hw =>
  list_mono (then_mono fun _ _ h => wpIn_cut1 (fun _ _ h => wpIn_cut1 (fun _ _ h => wpIn_cut1 (fun _ _ h => h) h) h) h) os a w (h _ (Cut.mk hr) a w ha hw)
end
section
variable {P : Program} {G : World → Prop} {n : Nat} {l : List (Nat × Value)} {d : List Deferred} {o : Oper}
theorem yl_neq_same {T T2 : TypeId} {x y : Operand} {b : Bool} (ho : o.op = .binOp .neq T x y T2) (hx : ev l x = some (.bool b)) (hy : ev l y = some (.bool b)) (hT : isBoT P T = true) : Yl P G n l d o (.bool false) := by
  have := yl_neq_bo (P := P) (G := G) (n := n) (d := d) ho hx hy hT
  simpa using this
end
end Go.Proofs.YtinofjenoapeaaaGreat
end
section
namespace Go.Proofs.YtinofjenoapeaaaGreat
open Go.RowKit Go.Shelf
set_option linter.unusedSimpArgs false
set_option linter.unusedVariables false
section
variable {F : Fence} {m : Nat} {P : Program} {Q Q' : Exit → Act → World → Prop} {K K' : Act → World → Prop} {n : Nat} {l : List (Nat × Value)} {d : List Deferred} {W0 : World} {X : Nat → Prop} {R C : List Ch} {ι : Type}
theorem inBlock_mono {id : Nat} (hq : ∀ e a w, Q e a w → Q' e a w) : ∀ e a w, Exit.inBlock id Q e a w → Exit.inBlock id Q' e a w := fun e a w he => by
  cases e <;> simp only [Exit.inBlock] at he ⊢ <;> first
    | exact hq _ _ _ he
    | (split at he <;> rename_i h <;> simp only [h, if_true, if_false, ↓reduceIte] <;> exact hq _ _ _ he)
/-- What follows a loop in its block is shown once. -/
theorem nx_cutL {id : Nat} {c rest : Code} (L : ι → List (Nat × Value)) (RR CC : ι → List Ch) (hr : ∀ i, Nx (rest.wpIn F m P Q) n (L i) d W0 X (RR i) (CC i))
    (h : ∀ K, Cut K n d W0 X L RR CC → Nx ((Code.loop c).wpIn F m P (Exit.inBlock id (Exit.then K Q))) n l d W0 X R C) : Nx ((Code.loop c).wpIn F m P (Exit.inBlock id (Exit.then (rest.wpIn F m P Q) Q))) n l d W0 X R C := h _ (Cut.mk hr)
theorem nx_cut1 {a rest : Code} (L : ι → List (Nat × Value)) (RR CC : ι → List Ch) (hr : ∀ i, Nx (rest.wpIn F m P Q) n (L i) d W0 X (RR i) (CC i))
    (h : ∀ K, Cut K n d W0 X L RR CC → Nx (a.wpIn F m P (Exit.then K Q)) n l d W0 X R C) : Nx ((Code.seq a rest).wpIn F m P Q) n l d W0 X R C := nx_seq (h _ (Cut.mk hr))
theorem nx_cut2 {a x rest : Code} (L : ι → List (Nat × Value)) (RR CC : ι → List Ch) (hr : ∀ i, Nx (rest.wpIn F m P Q) n (L i) d W0 X (RR i) (CC i))
    (h : ∀ K, Cut K n d W0 X L RR CC → Nx (a.wpIn F m P (Exit.then (x.wpIn F m P (Exit.then K Q)) Q)) n l d W0 X R C) : Nx ((Code.seq a (Code.seq x rest)).wpIn F m P Q) n l d W0 X R C := fun a w ha hw =>
  wpIn_cut1 (fun _ _ h => wpIn_cut1 (fun _ _ h => h) h) (h _ (Cut.mk hr) a w ha hw)
end
end Go.Proofs.YtinofjenoapeaaaGreat
end
section
namespace Go.Proofs.YtinofjenoapeaaaGreat
open Go.RowKit Go.Shelf
set_option linter.unusedSimpArgs false
set_option linter.unusedVariables false
namespace Pl
open Li
variable {W0 : World} {X : Nat → Prop} {R C : List Ch}
structure Prt where
  u : Int
  fr : Int
  to : Int
abbrev Prt.v (x : Prt) : Value := .agg #[.int .i64 x.u, .int .i64 x.fr, .int .i64 x.to]
theorem vofP (x : Prt) : VOf Tryz.prog 88 x.v := vofk (by kernel_rfl) rfl rfl
theorem celP (P : List Prt) : Cel 3 (P.map Prt.v) := fun y hy => by
  obtain ⟨r, _, rfl⟩ := List.mem_map.1 hy
  refine ⟨rfl, fun u hu => ?_⟩
  have hu2 : u ∈ [Value.int .i64 r.u, Value.int .i64 r.fr, Value.int .i64 r.to] := hu
  simp at hu2
  rcases hu2 with rfl | rfl | rfl <;> rfl
/-- The parts of a way, from a pair back to the first timeline. -/
def wayU (L : List It2) (t n : Int) : List Prt :=
  if h : 1 ≤ t then ⟨t, min (parentP L t).2.1 n, n⟩ :: wayU L (parentP L t).1 (min (parentP L t).2.1 n) else []
termination_by t.toNat
decreasing_by have := parent_lt L t h; omega
structure WyI (L : List It2) (t0 n0 : Int) (p : List Prt × Int × Int) : Prop where
  all : p.1 ++ wayU L p.2.1 p.2.2 = wayU L t0 n0
  size : (p.1.length : Int) + max p.2.1 0 ≤ max t0 0
set_option maxRecDepth 100000 in
set_option maxHeartbeats 2000000 in
theorem way_ct (s : Value) (hs : IsSl s) (L : List It2) (hok : ∀ x ∈ L, x.ok) (t n : Int) (ht : t ≤ 1099511627776) (hsl : SlC 9 s (L.map It2.v) ∈ R) (hm : L.length * 88 ≤ 140737488355328) :
    Ct Tryz.prog 44 [s, .int .i64 t, .int .i64 n] W0 X R C SV (fun v => v.1) (fun _ => R) (fun v => RowC 88 3 v.1 ((wayU L t n).map Prt.v) :: C) := by
  intro w hw
  have hF := isWide_wide
  refine calls_nx Tryz.func44 rfl Tryz.ntmps44 rfl ?_ hw
  refine nx_nilRow 88 3 ?_
  repeat' (first | ((first | with_reducible refine nl_op rfl ?_ | refine nd_go rfl rfl rfl ?_); intro K hK; (first | ((first | refine on_E hF rfl rfl ?_ | refine od_E rfl rfl ?_ | refine od_R rfl rfl ?_); (first | refine ⟨_, a_yl, ?_⟩ | refine ⟨_, (by first | exact yl_build (T := 88) (us := [(0, _), (1, _), (2, _)]) rfl rfl rfl (fun w => by go_simp; all_goals rfl)), ?_⟩)) | ((first | refine on_Ec hF rfl rfl ?_ | refine od_Ec rfl rfl ?_); refine ⟨_, _, _, a_yc, ?_, ?_⟩ <;> (intro hc; try exact a_cut hc)) | ((first | (refine od_act a_nd ?_; intro K2 hK2) | refine od_last a_nd ?_ | skip); (first | (refine on_buildSlice (T := 85) (e := 88) (k := 3) (by_ := 24) hF rfl rfl rfl rfl rfl rfl (by kernel_rfl) a_cel (Nat.le_of_ble_eq_true rfl) (fun b => ?_)) | (refine on_append (T := 85) (e := 88) (k := 3) (by_ := 24) hF rfl rfl rfl rfl rfl a_pick (by kernel_rfl) a_sl a_cel a_bnd a_bnd (fun v => ?_)) | (refine on_box hF rfl rfl rfl rfl (fun B => ?_)) | (refine on_store hF rfl rfl rfl rfl a_turn a_vof a_sz ?_) | (refine on_storeE hF rfl rfl rfl rfl a_turn a_om a_vof a_sz ?_) | (refine on_storeEF hF rfl rfl rfl rfl a_turn a_as (by decide) a_vof rfl ?_) | (refine on_storeF hF rfl rfl rfl rfl a_turn (by decide) a_vof rfl ?_)) <;> try (refine hK2 _ _ _ a_allK ?_; clear hK2 K2))) <;> (refine hK _ _ _ ?_; clear hK K)) | with_reducible (first | refine nx_seq ?_ | refine nx_region ?_ | refine nl_nil ?_ | refine nq_then_n ?_ | refine nx_block ?_ | refine nx_skip ?_ | refine nx_exit ?_ | refine nx_ret ?_ | refine nq_then_x ?_ | refine nq_then_r ?_ | refine nq_blk_n ?_ | refine nq_blk_r ?_ | refine nq_blk_hit ?_ | refine nq_blk_miss rfl ?_ | refine nd_nil ?_) | refine nx_cond_t rfl ?_ | refine nx_cond_f rfl ?_ | refine nl_pass hF rfl rfl rfl ?_ | refine nd_pass rfl rfl rfl rfl rfl ?_ | refine nd_pass2 rfl rfl rfl a_nd a_allK rfl rfl ?_ | refine nd_pass3 rfl rfl rfl a_nd rfl rfl ?_ | (with_reducible refine hQ1 _ _ _ ?_; clear hQ1 Q1) )
  refine nx_loop (ι := { p : List Prt × Int × Int // WyI L t n p } × SV) (fun p => [(0, s), (1, .int .i64 p.1.1.2.1), (2, .int .i64 p.1.1.2.2), (7, p.2.1)]) (fun _ => R) (fun p => RowC 88 3 p.2.1 (p.1.1.1.map Prt.v) :: C) (fun p => p.1.1.2.1.toNat) (⟨([], t, n), ⟨rfl, by simp⟩⟩, ⟨.slice none 0 0, _, _, _, rfl⟩) (by exact a_sub) (by exact a_subR) (by exact a_holds) (fun p => ?_)
  obtain ⟨⟨⟨out, t1, n1⟩, hall, hsize⟩, u⟩ := p
  dsimp only at hall hsize ⊢
  by_cases h1 : 1 ≤ t1
  · have pc := fun (W0 : World) (X : Nat → Prop) (R C : List Ch) h => parent_ct (W0 := W0) (X := X) (R := R) (C := C) s hs L hok t1 h hm
    have hlt := parent_lt L t1 h1
    rw [wayU, dif_pos h1] at hall
    obtain ⟨q, hq⟩ : ∃ q, parentP L t1 = q := ⟨_, rfl⟩
    rw [hq] at pc hlt hall
    obtain ⟨par, fr, is⟩ := q
    dsimp only at pc hlt hall
    have hol : (out.map Prt.v).length ≤ 1099511627776 := by rw [List.length_map]; omega
    repeat' (first | ((first | with_reducible refine nl_op rfl ?_ | refine nd_go rfl rfl rfl ?_); intro K hK; (first | ((first | refine on_E hF rfl rfl ?_ | refine od_E rfl rfl ?_ | refine od_R rfl rfl ?_); (first | refine ⟨_, a_yl, ?_⟩ | refine ⟨_, (by first | exact yl_build (T := 88) (us := [(0, _), (1, _), (2, _)]) rfl rfl rfl (fun w => by go_simp; all_goals rfl)), ?_⟩)) | ((first | refine on_Ec hF rfl rfl ?_ | refine od_Ec rfl rfl ?_); refine ⟨_, _, _, a_yc, ?_, ?_⟩ <;> (intro hc; try exact a_cut hc)) | ((first | (refine od_act a_nd ?_; intro K2 hK2) | refine od_last a_nd ?_ | skip); (first | (refine on_callG hF (enters_of Tryz.func68 (by kernel_rfl) rfl) rfl rfl rfl rfl (pc _ _ _ _ (by exact a_mem)) (fun _ => ?_)) | (refine on_buildSlice (T := 85) (e := 88) (k := 3) (by_ := 24) hF rfl rfl rfl rfl rfl rfl (by kernel_rfl) a_cel (Nat.le_of_ble_eq_true rfl) (fun b => ?_)) | (refine on_append (T := 85) (e := 88) (k := 3) (by_ := 24) hF rfl rfl rfl rfl rfl a_pick (by kernel_rfl) a_sl a_cel a_bnd a_bnd (fun v => ?_)) | (refine on_box hF rfl rfl rfl rfl (fun B => ?_)) | (refine on_store hF rfl rfl rfl rfl a_turn a_vof a_sz ?_) | (refine on_storeE hF rfl rfl rfl rfl a_turn a_om a_vof a_sz ?_) | (refine on_storeEF hF rfl rfl rfl rfl a_turn a_as (by decide) a_vof rfl ?_) | (refine on_storeF hF rfl rfl rfl rfl a_turn (by decide) a_vof rfl ?_)) <;> try (refine hK2 _ _ _ a_allK ?_; clear hK2 K2))) <;> (refine hK _ _ _ ?_; clear hK K)) | with_reducible (first | refine nx_seq ?_ | refine nx_region ?_ | refine nl_nil ?_ | refine nq_then_n ?_ | refine nx_block ?_ | refine nx_skip ?_ | refine nx_exit ?_ | refine nx_ret ?_ | refine nq_then_x ?_ | refine nq_then_r ?_ | refine nq_blk_n ?_ | refine nq_blk_r ?_ | refine nq_blk_hit ?_ | refine nq_blk_miss rfl ?_ | refine nd_nil ?_) | refine nx_cond_t rfl ?_ | refine nx_cond_f rfl ?_ | refine nl_pass hF rfl rfl rfl ?_ | refine nd_pass rfl rfl rfl rfl rfl ?_ | refine nd_pass2 rfl rfl rfl a_nd a_allK rfl rfl ?_ | refine nd_pass3 rfl rfl rfl a_nd rfl rfl ?_ | (with_reducible refine hQ1 _ _ _ ?_; clear hQ1 Q1) )
    all_goals (try (exfalso; omega))
    rw [show out.map Prt.v ++ [.agg #[.int .i64 t1, .int .i64 (min fr n1), .int .i64 n1]] = (out ++ [(⟨t1, min fr n1, n1⟩ : Prt)]).map Prt.v by simp]
    refine nx_again (⟨(out ++ [(⟨t1, min fr n1, n1⟩ : Prt)], par, min fr n1), ⟨by rw [← hall]; simp, by simp; omega⟩⟩, v) (by dsimp only; omega) (by exact a_sub) (by exact a_subR) (by exact a_holds)
  · rw [wayU, dif_neg h1, List.append_nil] at hall
    rw [← hall]
    repeat' (first | ((first | with_reducible refine nl_op rfl ?_ | refine nd_go rfl rfl rfl ?_); intro K hK; (first | ((first | refine on_E hF rfl rfl ?_ | refine od_E rfl rfl ?_ | refine od_R rfl rfl ?_); (first | refine ⟨_, a_yl, ?_⟩ | refine ⟨_, (by first | exact yl_build (T := 88) (us := [(0, _), (1, _), (2, _)]) rfl rfl rfl (fun w => by go_simp; all_goals rfl)), ?_⟩)) | ((first | refine on_Ec hF rfl rfl ?_ | refine od_Ec rfl rfl ?_); refine ⟨_, _, _, a_yc, ?_, ?_⟩ <;> (intro hc; try exact a_cut hc)) | ((first | (refine od_act a_nd ?_; intro K2 hK2) | refine od_last a_nd ?_ | skip); (first | (refine on_buildSlice (T := 85) (e := 88) (k := 3) (by_ := 24) hF rfl rfl rfl rfl rfl rfl (by kernel_rfl) a_cel (Nat.le_of_ble_eq_true rfl) (fun b => ?_)) | (refine on_append (T := 85) (e := 88) (k := 3) (by_ := 24) hF rfl rfl rfl rfl rfl a_pick (by kernel_rfl) a_sl a_cel a_bnd a_bnd (fun v => ?_)) | (refine on_box hF rfl rfl rfl rfl (fun B => ?_)) | (refine on_store hF rfl rfl rfl rfl a_turn a_vof a_sz ?_) | (refine on_storeE hF rfl rfl rfl rfl a_turn a_om a_vof a_sz ?_) | (refine on_storeEF hF rfl rfl rfl rfl a_turn a_as (by decide) a_vof rfl ?_) | (refine on_storeF hF rfl rfl rfl rfl a_turn (by decide) a_vof rfl ?_)) <;> try (refine hK2 _ _ _ a_allK ?_; clear hK2 K2))) <;> (refine hK _ _ _ ?_; clear hK K)) | with_reducible (first | refine nx_seq ?_ | refine nx_region ?_ | refine nl_nil ?_ | refine nq_then_n ?_ | refine nx_block ?_ | refine nx_skip ?_ | refine nx_exit ?_ | refine nx_ret ?_ | refine nq_then_x ?_ | refine nq_then_r ?_ | refine nq_blk_n ?_ | refine nq_blk_r ?_ | refine nq_blk_hit ?_ | refine nq_blk_miss rfl ?_ | refine nd_nil ?_) | refine nx_cond_t rfl ?_ | refine nx_cond_f rfl ?_ | refine nl_pass hF rfl rfl rfl ?_ | refine nd_pass rfl rfl rfl rfl rfl ?_ | refine nd_pass2 rfl rfl rfl a_nd a_allK rfl rfl ?_ | refine nd_pass3 rfl rfl rfl a_nd rfl rfl ?_ | (with_reducible refine hQ1 _ _ _ ?_; clear hQ1 Q1) )
    refine nx_end [] rfl u (fun a w ha hw => res_tmp Tryz.results44 rfl ha) (by exact a_subR) (by exact a_holds2)
set_option maxRecDepth 100000 in
theorem back_ct (s : Value) (hs : IsSl s) : Ct Tryz.prog 48 [s] W0 X R C Nat (fun B => .func (.func 78) #[] #[ptr B]) (fun B => BoxC B 85 s :: R) (fun _ => C) := by
  intro w hw
  have hF := isWide_wide
  have hvs : VOf Tryz.prog 85 s := vof_slice (by kernel_rfl) hs
  refine calls_nx Tryz.func48 rfl Tryz.ntmps48 rfl ?_ hw
  repeat' (first | ((first | with_reducible refine nl_op rfl ?_ | refine nd_go rfl rfl rfl ?_); intro K hK; (first | ((first | refine on_E hF rfl rfl ?_ | refine od_E rfl rfl ?_ | refine od_R rfl rfl ?_); (first | refine ⟨_, a_yl, ?_⟩)) | ((first | refine on_Ec hF rfl rfl ?_ | refine od_Ec rfl rfl ?_); refine ⟨_, _, _, a_yc, ?_, ?_⟩ <;> (intro hc; try exact a_cut hc)) | ((first | (refine od_act a_nd ?_; intro K2 hK2) | refine od_last a_nd ?_ | skip); (first  | (refine on_box hF rfl rfl rfl rfl (fun B => ?_)) | (refine on_store hF rfl rfl rfl rfl a_turn a_vof a_sz ?_) | (refine on_storeE hF rfl rfl rfl rfl a_turn a_om a_vof a_sz ?_) | (refine on_storeEF hF rfl rfl rfl rfl a_turn a_as (by decide) a_vof rfl ?_) | (refine on_storeF hF rfl rfl rfl rfl a_turn (by decide) a_vof rfl ?_)) <;> try (refine hK2 _ _ _ a_allK ?_; clear hK2 K2))) <;> (refine hK _ _ _ ?_; clear hK K)) | with_reducible (first | refine nx_seq ?_ | refine nx_region ?_ | refine nl_nil ?_ | refine nq_then_n ?_ | refine nx_block ?_ | refine nx_skip ?_ | refine nx_exit ?_ | refine nx_ret ?_ | refine nq_then_x ?_ | refine nq_then_r ?_ | refine nq_blk_n ?_ | refine nq_blk_r ?_ | refine nq_blk_hit ?_ | refine nq_blk_miss rfl ?_ | refine nd_nil ?_) | refine nx_cond_t rfl ?_ | refine nx_cond_f rfl ?_ | refine nl_pass hF rfl rfl rfl ?_ | refine nd_pass rfl rfl rfl rfl rfl ?_ | refine nd_pass2 rfl rfl rfl a_nd a_allK rfl rfl ?_ | refine nd_pass3 rfl rfl rfl a_nd rfl rfl ?_ | (with_reducible refine hQ1 _ _ _ ?_; clear hQ1 Q1) )
  refine nx_frz _ Pick.here ?_
  refine nx_end [] rfl B (fun a w ha hw => res_tmp Tryz.results48 rfl ha) (by exact a_subR) (by exact a_holds2)
/-- What is told: a place and the part there. -/
def bkV (x : Nat × Prt) (vs : List Value) : Prop := vs = [.int .i64 (x.1 : Int), x.2.v]
def prtAt (P : List Prt) (i : Nat) : Nat × Prt := (i, P.getD i ⟨0, 0, 0⟩)
/-- The parts, last first, with their places. -/
def bkL (P : List Prt) : List (Nat × Prt) := (List.range P.length).reverse.map (prtAt P)
/-- Those from the k-th place on, last first. -/
def bkFrom (P : List Prt) (k : Nat) : List (Nat × Prt) := ((List.range P.length).drop k).reverse.map (prtAt P)
theorem range_cut (n j : Nat) (h : j < n) : List.range n = List.range j ++ j :: (List.range n).drop (j + 1) := by
  conv => lhs; rw [← List.take_append_drop (j + 1) (List.range n)]
  rw [List.take_range, Nat.min_eq_left (by omega), List.range_succ, List.append_assoc]; rfl
theorem bk_split (P : List Prt) (j : Nat) (h : j < P.length) : bkL P = bkFrom P (j + 1) ++ prtAt P j :: (List.range j).reverse.map (prtAt P) := by
  unfold bkL bkFrom
  conv => lhs; rw [range_cut P.length j h]
  simp
theorem bk_next (P : List Prt) (j : Nat) (h : j < P.length) : bkFrom P j = bkFrom P (j + 1) ++ [prtAt P j] := by
  unfold bkFrom
  rw [List.drop_eq_getElem_cons (by simpa using h)]
  simp
theorem bk_all (P : List Prt) : bkFrom P 0 = bkL P := by unfold bkFrom bkL; rw [List.drop_zero]
theorem bk_none (P : List Prt) : bkFrom P P.length = [] := by unfold bkFrom; rw [List.drop_of_length_le (by simp)]; rfl
set_option maxRecDepth 100000 in
set_option maxHeartbeats 1000000 in
theorem back_it (B : Nat) (s : Value) (hs : IsSl s) (P : List Prt) (hm : P.length ≤ 4611686018427387903) : ItS Tryz.prog bkV (fun _ _ => []) (fun _ => []) (bkL P) (.func (.func 78) #[] #[ptr B]) [BoxC B 85 s, SlC 3 s (P.map Prt.v)] := by
  refine ⟨78, [ptr B], rfl, (enters_of Tryz.func78 (by kernel_rfl) rfl), ?_⟩
  intro y RY J JX hY hy W0 X R E hRS hRY w hw
  have hF := isWide_wide
  have hb : BoxC B 85 s ∈ R := hRS _ (by simp)
  have hsl : SlC 3 s (P.map Prt.v) ∈ R := hRS _ (by simp)
  have hvs : VOf Tryz.prog 85 s := vof_slice (by kernel_rfl) hs
  have hyv : VOf Tryz.prog 118 y := vof_func (by kernel_rfl) (by obtain ⟨f, lb, h⟩ := hy; exact ⟨f, _, lb, h⟩)
  have hlp : (P.map Prt.v).length = P.length := by simp
  refine calls_nx Tryz.func78 rfl Tryz.ntmps78 rfl ?_ hw
  repeat' (first | ((first | with_reducible refine nl_op rfl ?_ | refine nd_go rfl rfl rfl ?_); intro K hK; (first | ((first | refine on_E hF rfl rfl ?_ | refine od_E rfl rfl ?_ | refine od_R rfl rfl ?_); (first | refine ⟨_, a_yl, ?_⟩)) | ((first | refine on_Ec hF rfl rfl ?_ | refine od_Ec rfl rfl ?_); refine ⟨_, _, _, a_yc, ?_, ?_⟩ <;> (intro hc; try exact a_cut hc)) | ((first | (refine od_act a_nd ?_; intro K2 hK2) | refine od_last a_nd ?_ | skip); (first  | (refine on_box hF rfl rfl rfl rfl (fun B => ?_)) | (refine on_store hF rfl rfl rfl rfl a_turn a_vof a_sz ?_) | (refine on_storeE hF rfl rfl rfl rfl a_turn a_om a_vof a_sz ?_) | (refine on_storeEF hF rfl rfl rfl rfl a_turn a_as (by decide) a_vof rfl ?_) | (refine on_storeF hF rfl rfl rfl rfl a_turn (by decide) a_vof rfl ?_)) <;> try (refine hK2 _ _ _ a_allK ?_; clear hK2 K2))) <;> (refine hK _ _ _ ?_; clear hK K)) | with_reducible (first | refine nx_seq ?_ | refine nx_region ?_ | refine nl_nil ?_ | refine nq_then_n ?_ | refine nx_block ?_ | refine nx_skip ?_ | refine nx_exit ?_ | refine nx_ret ?_ | refine nq_then_x ?_ | refine nq_then_r ?_ | refine nq_blk_n ?_ | refine nq_blk_r ?_ | refine nq_blk_hit ?_ | refine nq_blk_miss rfl ?_ | refine nd_nil ?_) | refine nx_cond_t rfl ?_ | refine nx_cond_f rfl ?_ | refine nl_pass hF rfl rfl rfl ?_ | refine nd_pass rfl rfl rfl rfl rfl ?_ | refine nd_pass2 rfl rfl rfl a_nd a_allK rfl rfl ?_ | refine nd_pass3 rfl rfl rfl a_nd rfl rfl ?_ | (with_reducible refine hQ1 _ _ _ ?_; clear hQ1 Q1) )
  rw [← bk_none P]
  refine nx_loop (ι := { p : Nat × Int // p.1 ≤ P.length ∧ p.2 = (p.1 : Int) - 1 ∧ True }) (fun p => [(0, y), (1, ptr B), (3, .int .i64 p.1.2)]) (fun _ => R) (fun p => J (bkFrom P p.1.1) :: E) (fun p => p.1.1) ⟨(P.length, ((P.map Prt.v).length : Int) - 1), Nat.le_refl _, by dsimp only; omega, trivial⟩ (by exact a_sub) (by exact a_subR) (by exact a_holds) (fun p => ?_)
  obtain ⟨⟨k, z⟩, hk, hz, _⟩ := p
  dsimp only at hk hz ⊢
  cases k with
  | zero =>
    rw [bk_all]
    repeat' (first | ((first | with_reducible refine nl_op rfl ?_ | refine nd_go rfl rfl rfl ?_); intro K hK; (first | ((first | refine on_E hF rfl rfl ?_ | refine od_E rfl rfl ?_ | refine od_R rfl rfl ?_); (first | refine ⟨_, a_yl, ?_⟩)) | ((first | refine on_Ec hF rfl rfl ?_ | refine od_Ec rfl rfl ?_); refine ⟨_, _, _, a_yc, ?_, ?_⟩ <;> (intro hc; try exact a_cut hc)) | ((first | (refine od_act a_nd ?_; intro K2 hK2) | refine od_last a_nd ?_ | skip); (first  | (refine on_box hF rfl rfl rfl rfl (fun B => ?_)) | (refine on_store hF rfl rfl rfl rfl a_turn a_vof a_sz ?_) | (refine on_storeE hF rfl rfl rfl rfl a_turn a_om a_vof a_sz ?_) | (refine on_storeEF hF rfl rfl rfl rfl a_turn a_as (by decide) a_vof rfl ?_) | (refine on_storeF hF rfl rfl rfl rfl a_turn (by decide) a_vof rfl ?_)) <;> try (refine hK2 _ _ _ a_allK ?_; clear hK2 K2))) <;> (refine hK _ _ _ ?_; clear hK K)) | with_reducible (first | refine nx_seq ?_ | refine nx_region ?_ | refine nl_nil ?_ | refine nq_then_n ?_ | refine nx_block ?_ | refine nx_skip ?_ | refine nx_exit ?_ | refine nx_ret ?_ | refine nq_then_x ?_ | refine nq_then_r ?_ | refine nq_blk_n ?_ | refine nq_blk_r ?_ | refine nq_blk_hit ?_ | refine nq_blk_miss rfl ?_ | refine nd_nil ?_) | refine nx_cond_t rfl ?_ | refine nx_cond_f rfl ?_ | refine nl_pass hF rfl rfl rfl ?_ | refine nd_pass rfl rfl rfl rfl rfl ?_ | refine nd_pass2 rfl rfl rfl a_nd a_allK rfl rfl ?_ | refine nd_pass3 rfl rfl rfl a_nd rfl rfl ?_ | (with_reducible refine hQ1 _ _ _ ?_; clear hQ1 Q1) )
    all_goals (try (exfalso; dsimp only at *; omega))
    refine nx_end_n [] rfl none (fun a w ha hw => res_none Tryz.results78) (by exact a_subR) (by exact a_holds2)
  | succ j =>
    obtain rfl : z = (j : Int) := by omega
    have hj : j < P.length := by omega
    have hx : (P.map Prt.v)[j]? = some (prtAt P j).2.v := by simp [prtAt, hj]
    have hvx := vofP (prtAt P j).2
    have hsp := bk_split P j hj
    have hnx := bk_next P j hj
    repeat' (first | ((first | with_reducible refine nl_op rfl ?_ | refine nd_go rfl rfl rfl ?_); intro K hK; (first | ((first | refine on_E hF rfl rfl ?_ | refine od_E rfl rfl ?_ | refine od_R rfl rfl ?_); (first | refine ⟨_, a_yl, ?_⟩)) | ((first | refine on_Ec hF rfl rfl ?_ | refine od_Ec rfl rfl ?_); refine ⟨_, _, _, a_yc, ?_, ?_⟩ <;> (intro hc; try exact a_cut hc)) | ((first | (refine od_act a_nd ?_; intro K2 hK2) | refine od_last a_nd ?_ | skip); (first | (refine on_yieldD hF hY (bkFrom P (j + 1)) (prtAt P j) _ hsp rfl rfl rfl rfl rfl rfl hRY (show Pick _ _ _ from by exact a_pick) ?_ ?_) | (refine on_box hF rfl rfl rfl rfl (fun B => ?_)) | (refine on_store hF rfl rfl rfl rfl a_turn a_vof a_sz ?_) | (refine on_storeE hF rfl rfl rfl rfl a_turn a_om a_vof a_sz ?_) | (refine on_storeEF hF rfl rfl rfl rfl a_turn a_as (by decide) a_vof rfl ?_) | (refine on_storeF hF rfl rfl rfl rfl a_turn (by decide) a_vof rfl ?_)) <;> try (refine hK2 _ _ _ a_allK ?_; clear hK2 K2))) <;> (refine hK _ _ _ ?_; clear hK K)) | with_reducible (first | refine nx_seq ?_ | refine nx_region ?_ | refine nl_nil ?_ | refine nq_then_n ?_ | refine nx_block ?_ | refine nx_skip ?_ | refine nx_exit ?_ | refine nx_ret ?_ | refine nq_then_x ?_ | refine nq_then_r ?_ | refine nq_blk_n ?_ | refine nq_blk_r ?_ | refine nq_blk_hit ?_ | refine nq_blk_miss rfl ?_ | refine nd_nil ?_) | refine nx_cond_t rfl ?_ | refine nx_cond_f rfl ?_ | refine nl_pass hF rfl rfl rfl ?_ | refine nd_pass rfl rfl rfl rfl rfl ?_ | refine nd_pass2 rfl rfl rfl a_nd a_allK rfl rfl ?_ | refine nd_pass3 rfl rfl rfl a_nd rfl rfl ?_ | (with_reducible refine hQ1 _ _ _ ?_; clear hQ1 Q1) )
    · rw [← hnx]
      refine nx_again ⟨(j, (j : Int) - 1), by omega, rfl, trivial⟩ (by dsimp only; omega) (by exact a_sub) (by exact a_subR) (by exact a_holds)
    · refine nx_end [] rfl (some ⟨bkFrom P (j + 1) ++ [prtAt P j], _, _, _, rfl, hsp⟩) (fun a w ha hw => res_none Tryz.results78) (by exact a_subR) (by exact a_holds2)
end Pl
end Go.Proofs.YtinofjenoapeaaaGreat
end
section
namespace Go.Proofs.YtinofjenoapeaaaGreat
open Go.RowKit Go.Shelf
set_option linter.unusedSimpArgs false
set_option linter.unusedVariables false
namespace Pl
open Li
/-- One part more is covered, where those ahead were: segments, limits, is it there. -/
def covStep (L : List It2) (s : List Int × List Int × Bool) (u fr to : Int) : List Int × List Int × Bool :=
  if s.2.2 then (s.1 ++ (Re.cover L u fr to).getD [], s.2.1 ++ List.replicate ((Re.cover L u fr to).getD []).length to, (Re.cover L u fr to).isSome) else s
/-- What the i-th part of a way gives, with a backup from which it begins. -/
def planAt (L : List It2) (P : List Prt) (i : Nat) (x : Prt) (b : It2) : List Int × List Int × Bool :=
  (P.take i).reverse.foldl (fun s y => covStep L s y.u y.fr y.to) (covStep L ([], [], true) x.u b.a x.to)
/-- The backup, the segments, their limits: of the first part that has a backup. -/
def findI (L : List It2) (P : List Prt) (i : Nat) : Option (It2 × List Int × List Int) :=
  if h : i < P.length then
    if (Chn.bestOf L P[i].u P[i].fr P[i].to).2 then
      (if (planAt L P i P[i] (Chn.bestOf L P[i].u P[i].fr P[i].to).1).2.2 then some ((Chn.bestOf L P[i].u P[i].fr P[i].to).1, (planAt L P i P[i] (Chn.bestOf L P[i].u P[i].fr P[i].to).1).1, (planAt L P i P[i] (Chn.bestOf L P[i].u P[i].fr P[i].to).1).2.1) else none)
    else findI L P (i + 1)
  else none
termination_by P.length - i
def findP (L : List It2) (t n : Int) : Option (It2 × List Int × List Int) := if n < 0 ∨ knownL L t = false then none else findI L (wayU L t n) 0
theorem known_pos {L : List It2} {t : Int} (h : knownL L t = true) : 1 ≤ t := by
  by_cases h1 : 1 < t
  · omega
  · rw [knownL_le h1] at h; simp at h; omega
theorem best_found {L : List It2} {t least most : Int} {x : It2} (hx : x ∈ L) (hb : Chn.backupsB L t most x = true) (hl : least ≤ x.a) : (Chn.bestOf L t least most).2 = true ∧ (Chn.bestOf L t least most).1 ∈ L ∧ Chn.backupsB L t most (Chn.bestOf L t least most).1 = true ∧ x.a ≤ (Chn.bestOf L t least most).1.a := by
  have hm : x ∈ L.filter (Chn.backupsB L t most) := List.mem_filter.2 ⟨hx, hb⟩
  have hg := (Chn.best_ge least (L.filter (Chn.backupsB L t most)) (zIt2, false)).1 x hm hl
  rcases Chn.best_spec least (L.filter (Chn.backupsB L t most)) (zIt2, false) with ⟨_, h2⟩ | ⟨h1, h2, h3⟩
  · exact absurd hl (h2 rfl x hm)
  · obtain ⟨h4, h5⟩ := List.mem_filter.1 h2
    exact ⟨h1, h4, h5, hg⟩
/-- What covers from a backup's A makes all pairs from its stop on retained. -/
theorem find_holds {L : List It2} {x : It2} {n : Int} (hid : Chn.byId L x.id = some x) (hch : (Chn.chainOf L x.id).isSome = true) (hk : knownL L x.tl = true) (hn0 : 0 ≤ n) (hfr : (parentP L x.tl).2.1 ≤ x.a) (h1 : x.b ≤ n) (h2 : n ≤ Re.last L x.tl x.a) : (findP L x.tl n).isSome = true := by
  have ht := known_pos hk
  have hxL := (Chn.byId_spec hid).1
  have hbx : Chn.backB x = true := by
    unfold Chn.chainOf at hch
    split at hch
    · rename_i h
      unfold Chn.atOk Chn.atX at h
      rw [hid] at h
      simpa using h
    · simp at hch
  have hbb : Chn.backupsB L x.tl n x = true := by
    unfold Chn.backupsB; rw [hbx, hch]; simp [h1]
  obtain ⟨g1, g2, g3, g4⟩ := best_found (least := min (parentP L x.tl).2.1 n) hxL hbb (by omega)
  unfold findP
  rw [if_neg (by rw [hk]; simp; omega)]
  have hw : wayU L x.tl n = ⟨x.tl, min (parentP L x.tl).2.1 n, n⟩ :: wayU L (parentP L x.tl).1 (min (parentP L x.tl).2.1 n) := by rw [wayU, dif_pos ht]
  obtain ⟨P, hP⟩ : ∃ P, wayU L (parentP L x.tl).1 (min (parentP L x.tl).2.1 n) = P := ⟨_, rfl⟩
  rw [hw, hP, findI, dif_pos (by simp)]
  simp only [List.getElem_cons_zero]
  rw [if_pos g1]
  obtain ⟨y, hy⟩ : ∃ y, (Chn.bestOf L x.tl (min (parentP L x.tl).2.1 n) n).1 = y := ⟨_, rfl⟩
  rw [hy] at g2 g3 g4 ⊢
  have hya : y.a ≤ n := by
    simp [Chn.backupsB, Chn.backB] at g3
    omega
  have hl := Re.last_later L x.tl x.a y.a g4 (by omega)
  have hc := (Re.cover_iff L x.tl _ y.a n (Nat.le_refl _)).2 (by omega)
  have hp : (planAt L (⟨x.tl, min (parentP L x.tl).2.1 n, n⟩ :: P) 0 ⟨x.tl, min (parentP L x.tl).2.1 n, n⟩ y).2.2 = true := by
    unfold planAt covStep; simpa using hc
  rw [if_pos hp]; rfl
end Pl
end Go.Proofs.YtinofjenoapeaaaGreat
end
section
namespace Go.Proofs.YtinofjenoapeaaaGreat
open Go.RowKit Go.Shelf
set_option linter.unusedSimpArgs false
set_option linter.unusedVariables false
namespace Pl
open Li
/-- How many items speak of timelines up to t. -/
def upTo (L : List It2) (t : Int) : Nat := (L.filter fun x => decide (x.tl ≤ t)).length
theorem upTo_lt {L : List It2} {t u : Int} {x : It2} (hx : x ∈ L) (h1 : x.tl ≤ t) (h2 : u < x.tl) : upTo L u < upTo L t := by
  unfold upTo
  induction L with
  | nil => cases hx
  | cons y L ih =>
    have hle : ∀ L : List It2, (L.filter fun z => decide (z.tl ≤ u)).length ≤ (L.filter fun z => decide (z.tl ≤ t)).length := by
      intro L
      induction L with
      | nil => simp
      | cons z L ih =>
        simp only [List.filter_cons]
        by_cases hz : z.tl ≤ u
        · rw [if_pos (by simpa using hz), if_pos (by simp; omega)]; simp only [List.length_cons]; omega
        · rw [if_neg (by simpa using hz)]
          split
          · simp only [List.length_cons]; omega
          · exact ih
    have hle := hle L
    rcases List.mem_cons.1 hx with rfl | hx
    · simp only [List.filter_cons]
      rw [if_neg (by simpa using h2), if_pos (by simpa using h1)]
      simp only [List.length_cons]; omega
    · have := ih hx
      simp only [List.filter_cons]
      by_cases hy : y.tl ≤ u
      · rw [if_pos (by simpa using hy), if_pos (by simp; omega)]; simp only [List.length_cons]; omega
      · rw [if_neg (by simpa using hy)]
        split
        · simp only [List.length_cons]; omega
        · exact this
theorem upTo_le (L : List It2) (t : Int) : upTo L t ≤ L.length := List.length_filter_le _ _
theorem parent_up (L : List It2) (t : Int) (h : 1 ≤ t) : (parentP L t).1 < 1 ∨ upTo L (parentP L t).1 < upTo L t := by
  unfold parentP
  by_cases h1 : t ≤ 1 ∨ knownL L t = false
  · rw [if_pos h1]; exact .inl (by dsimp only; omega)
  · rw [if_neg h1]
    have h2 : 1 < t := by omega
    have h3 : knownL L t = true := by cases hk : knownL L t with | true => rfl | false => exact absurd (.inr hk) h1
    cases hl : lineP L t with
    | none => rw [knownL_none h2 hl] at h3; cases h3
    | some x =>
      rw [knownL_some h2 hl] at h3
      have hxL := List.mem_of_find?_eq_some hl
      have hxt := List.find?_some hl
      simp [isLine] at hxt
      have hp : x.par < t := by
        by_cases hp : x.par < t
        · exact hp
        · rw [if_neg hp] at h3; cases h3
      refine .inr ?_
      simp only [Option.getD_some]
      exact upTo_lt hxL (by omega) (by omega)
theorem wayU_up (L : List It2) : ∀ (m : Nat) (t n : Int), upTo L t ≤ m → (wayU L t n).length ≤ m + 1
  | 0, t, n, h => by
    rw [wayU]
    split
    · rename_i h1
      rcases parent_up L t h1 with h2 | h2
      · rw [wayU, dif_neg (by omega)]; simp
      · omega
    · simp
  | m + 1, t, n, h => by
    rw [wayU]
    split
    · rename_i h1
      rcases parent_up L t h1 with h2 | h2
      · rw [wayU, dif_neg (by omega)]; simp
      · have := wayU_up L m (parentP L t).1 (min (parentP L t).2.1 n) (by omega)
        simp only [List.length_cons]; omega
    · simp
theorem wayU_few (L : List It2) (t n : Int) : (wayU L t n).length ≤ L.length + 1 := by
  have h1 := wayU_up L _ t n (Nat.le_refl _)
  have h2 := upTo_le L t
  omega
theorem cover_lenD (L : List It2) (u fr to : Int) : ((Re.cover L u fr to).getD []).length ≤ L.length := by
  cases h : Re.cover L u fr to with
  | none => simp
  | some zs =>
    have h1 := Re.cover_len L u _ fr to zs (Nat.le_refl _) h
    have h2 := Re.above_le L fr
    simp only [Option.getD_some]; omega
theorem covStep_len (L : List It2) (s : List Int × List Int × Bool) (u fr to : Int) : (covStep L s u fr to).1.length ≤ s.1.length + L.length ∧ (covStep L s u fr to).2.1.length ≤ s.2.1.length + L.length := by
  have := cover_lenD L u fr to
  unfold covStep
  split
  · simp only [List.length_append, List.length_replicate]; omega
  · omega
/-- What is there behind some parts, from a state. -/
def covF (L : List It2) (s : List Int × List Int × Bool) (xs : List (Nat × Prt)) : List Int × List Int × Bool := xs.foldl (fun s y => covStep L s y.2.u y.2.fr y.2.to) s
theorem covF_snoc (L : List It2) (s : List Int × List Int × Bool) (xs : List (Nat × Prt)) (x : Nat × Prt) : covF L s (xs ++ [x]) = covStep L (covF L s xs) x.2.u x.2.fr x.2.to := by unfold covF; rw [List.foldl_append]; rfl
theorem covF_len (L : List It2) (s : List Int × List Int × Bool) : ∀ (xs : List (Nat × Prt)), (covF L s xs).1.length ≤ s.1.length + xs.length * L.length ∧ (covF L s xs).2.1.length ≤ s.2.1.length + xs.length * L.length
  | [] => by unfold covF; simp
  | x :: xs => by
    have h1 := covStep_len L s x.2.u x.2.fr x.2.to
    have h2 := covF_len L (covStep L s x.2.u x.2.fr x.2.to) xs
    have h3 : (x :: xs).length * L.length = xs.length * L.length + L.length := by rw [List.length_cons, Nat.add_mul, Nat.one_mul]
    rw [h3]
    unfold covF at h2 ⊢
    rw [List.foldl_cons]
    omega
theorem bkL_snd (P : List Prt) : (bkL P).map (·.2) = P.reverse := by
  unfold bkL
  rw [List.map_map, List.map_reverse]
  congr 1
  apply List.ext_getElem
  · simp
  · intro i h1 h2
    simp [prtAt]
    rw [List.getElem?_eq_getElem h2]; rfl
theorem bkL_len (P : List Prt) : (bkL P).length = P.length := by unfold bkL; simp
theorem planAt_covF (L : List It2) (P : List Prt) (i : Nat) (x : Prt) (b : It2) : planAt L P i x b = covF L (covStep L ([], [], true) x.u b.a x.to) (bkL (P.take i)) := by
  unfold planAt covF
  rw [← bkL_snd, List.foldl_map]
end Pl
end Go.Proofs.YtinofjenoapeaaaGreat
end
section
namespace Go.Proofs.YtinofjenoapeaaaGreat
open Go.RowKit Go.Shelf
set_option linter.unusedSimpArgs false
set_option linter.unusedVariables false
namespace Re
variable {W0 : World} {X : Nat → Prop} {R C : List Ch}
set_option maxRecDepth 100000 in
theorem seg1_ct (x : It2) (hx : x.ok) (b : Nat) (t : Int) (hb : BoxC b 3 (.int .i64 t) ∈ R) : Ct Tryz.prog 111 [x.v, ptr b] W0 X R C Unit (fun _ => .bool (segB t x)) (fun _ => R) (fun _ => C) := by
  intro w hw
  have hF := isWide_wide
  have hi : segB t x = (decide (x.kind = 1) && decide (x.tl = t)) := rfl
  obtain ⟨d1, kind, tl, d4, d5, d6, d7, d8, e⟩ := x
  obtain ⟨ea, en, ec, rfl⟩ : IsSl e := hx
  dsimp only at hi
  rw [hi]
  refine calls_nx Tryz.func111 rfl Tryz.ntmps111 rfl ?_ hw
  repeat' (first | ((first | with_reducible refine nl_op rfl ?_ | refine nd_go rfl rfl rfl ?_); intro K hK; (first | ((first | refine on_E hF rfl rfl ?_ | refine od_E rfl rfl ?_ | refine od_R rfl rfl ?_); (first | refine ⟨_, a_yl, ?_⟩ | refine ⟨_, (by first | exact yl_fieldB (T := 33) (f := 1) (q := 1) rfl rfl (by kernel_rfl) | exact yl_fieldE (T := 33) (f := 1) (j := 1) rfl rfl a_sl a_om (by kernel_rfl) | exact yl_fieldB (T := 33) (f := 2) (q := 2) rfl rfl (by kernel_rfl) | exact yl_fieldE (T := 33) (f := 2) (j := 2) rfl rfl a_sl a_om (by kernel_rfl)), ?_⟩)) | ((first | refine on_Ec hF rfl rfl ?_ | refine od_Ec rfl rfl ?_); refine ⟨_, _, _, a_yc, ?_, ?_⟩ <;> (intro hc; try exact a_cut hc)) | ((first | (refine od_act a_nd ?_; intro K2 hK2) | refine od_last a_nd ?_ | skip); (first  | (refine on_box hF rfl rfl rfl rfl (fun B => ?_)) | (refine on_store hF rfl rfl rfl rfl a_turn a_vof a_sz ?_) | (refine on_storeE hF rfl rfl rfl rfl a_turn a_om a_vof a_sz ?_) | (refine on_storeEF hF rfl rfl rfl rfl a_turn a_as (by decide) a_vof rfl ?_) | (refine on_storeF hF rfl rfl rfl rfl a_turn (by decide) a_vof rfl ?_)) <;> try (refine hK2 _ _ _ a_allK ?_; clear hK2 K2))) <;> (refine hK _ _ _ ?_; clear hK K)) | with_reducible (first | refine nx_seq ?_ | refine nx_region ?_ | refine nl_nil ?_ | refine nq_then_n ?_ | refine nx_block ?_ | refine nx_skip ?_ | refine nx_exit ?_ | refine nx_ret ?_ | refine nq_then_x ?_ | refine nq_then_r ?_ | refine nq_blk_n ?_ | refine nq_blk_r ?_ | refine nq_blk_hit ?_ | refine nq_blk_miss rfl ?_ | refine nd_nil ?_) | refine nx_cond_t rfl ?_ | refine nx_cond_f rfl ?_ | refine nl_pass hF rfl rfl rfl ?_ | refine nd_pass rfl rfl rfl rfl rfl ?_ | refine nd_pass2 rfl rfl rfl a_nd a_allK rfl rfl ?_ | refine nd_pass3 rfl rfl rfl a_nd rfl rfl ?_ | (with_reducible refine hQ1 _ _ _ ?_; clear hQ1 Q1) )
  · have h1 : kind = 1 := by assumption
    have h2 : tl = t := hc
    rw [decide_eq_true h1, decide_eq_true h2]
    refine nx_end [] rfl () (fun a w ha hw => res_tmp Tryz.results111 rfl ha) (by exact a_subR) (by exact a_holds2)
  · have h2 : ¬ tl = t := hc
    rw [decide_eq_false h2, Bool.and_false]
    refine nx_end [] rfl () (fun a w ha hw => res_tmp Tryz.results111 rfl ha) (by exact a_subR) (by exact a_holds2)
  · have h2 : ¬ kind = 1 := hc
    rw [decide_eq_false h2, Bool.false_and]
    refine nx_end [] rfl () (fun a w ha hw => res_tmp Tryz.results111 rfl ha) (by exact a_subR) (by exact a_holds2)
theorem seg1_pred (L : List It2) (hok : ∀ x ∈ L, x.ok) (b : Nat) (t : Int) : PredS Tryz.prog (L.map It2.v) (fun v => segB t (toIt2 v)) (.func (.func 111) #[] #[ptr b]) [BoxC b 3 (.int .i64 t)] := ⟨111, [ptr b], rfl, (enters_of Tryz.func111 (by kernel_rfl) rfl), fun W0 X R C hR x hx => by
  obtain ⟨y, hy, rfl⟩ := List.mem_map.1 hx
  exact seg1_ct y (hok y hy) b t (hR _ (by simp))⟩
set_option maxRecDepth 100000 in
theorem next1_ct (x : It2) (hx : x.ok) (b : Nat) (n : Int) (hb : BoxC b 3 (.int .i64 n) ∈ R) : Ct Tryz.prog 107 [x.v, ptr b] W0 X R C Unit (fun _ => .bool (nextB n x)) (fun _ => R) (fun _ => C) := by
  intro w hw
  have hF := isWide_wide
  have hi : nextB n x = (decide (x.a ≤ n) && decide (n < x.b)) := rfl
  obtain ⟨d1, d2, d3, d4, a, bb, d7, d8, e⟩ := x
  obtain ⟨ea, en, ec, rfl⟩ : IsSl e := hx
  dsimp only at hi
  rw [hi]
  refine calls_nx Tryz.func107 rfl Tryz.ntmps107 rfl ?_ hw
  repeat' (first | ((first | with_reducible refine nl_op rfl ?_ | refine nd_go rfl rfl rfl ?_); intro K hK; (first | ((first | refine on_E hF rfl rfl ?_ | refine od_E rfl rfl ?_ | refine od_R rfl rfl ?_); (first | refine ⟨_, a_yl, ?_⟩ | refine ⟨_, (by first | exact yl_fieldB (T := 33) (f := 4) (q := 4) rfl rfl (by kernel_rfl) | exact yl_fieldE (T := 33) (f := 4) (j := 4) rfl rfl a_sl a_om (by kernel_rfl) | exact yl_fieldB (T := 33) (f := 5) (q := 5) rfl rfl (by kernel_rfl) | exact yl_fieldE (T := 33) (f := 5) (j := 5) rfl rfl a_sl a_om (by kernel_rfl)), ?_⟩)) | ((first | refine on_Ec hF rfl rfl ?_ | refine od_Ec rfl rfl ?_); refine ⟨_, _, _, a_yc, ?_, ?_⟩ <;> (intro hc; try exact a_cut hc)) | ((first | (refine od_act a_nd ?_; intro K2 hK2) | refine od_last a_nd ?_ | skip); (first  | (refine on_box hF rfl rfl rfl rfl (fun B => ?_)) | (refine on_store hF rfl rfl rfl rfl a_turn a_vof a_sz ?_) | (refine on_storeE hF rfl rfl rfl rfl a_turn a_om a_vof a_sz ?_) | (refine on_storeEF hF rfl rfl rfl rfl a_turn a_as (by decide) a_vof rfl ?_) | (refine on_storeF hF rfl rfl rfl rfl a_turn (by decide) a_vof rfl ?_)) <;> try (refine hK2 _ _ _ a_allK ?_; clear hK2 K2))) <;> (refine hK _ _ _ ?_; clear hK K)) | with_reducible (first | refine nx_seq ?_ | refine nx_region ?_ | refine nl_nil ?_ | refine nq_then_n ?_ | refine nx_block ?_ | refine nx_skip ?_ | refine nx_exit ?_ | refine nx_ret ?_ | refine nq_then_x ?_ | refine nq_then_r ?_ | refine nq_blk_n ?_ | refine nq_blk_r ?_ | refine nq_blk_hit ?_ | refine nq_blk_miss rfl ?_ | refine nd_nil ?_) | refine nx_cond_t rfl ?_ | refine nx_cond_f rfl ?_ | refine nl_pass hF rfl rfl rfl ?_ | refine nd_pass rfl rfl rfl rfl rfl ?_ | refine nd_pass2 rfl rfl rfl a_nd a_allK rfl rfl ?_ | refine nd_pass3 rfl rfl rfl a_nd rfl rfl ?_ | (with_reducible refine hQ1 _ _ _ ?_; clear hQ1 Q1) )
  · have h1 : a ≤ n := by omega
    have h2 : n < bb := by omega
    rw [decide_eq_true h1, decide_eq_true h2]
    refine nx_end [] rfl () (fun a w ha hw => res_tmp Tryz.results107 rfl ha) (by exact a_subR) (by exact a_holds2)
  · have h2 : ¬ n < bb := by omega
    rw [decide_eq_false h2, Bool.and_false]
    refine nx_end [] rfl () (fun a w ha hw => res_tmp Tryz.results107 rfl ha) (by exact a_subR) (by exact a_holds2)
  · have h2 : ¬ a ≤ n := by omega
    rw [decide_eq_false h2, Bool.false_and]
    refine nx_end [] rfl () (fun a w ha hw => res_tmp Tryz.results107 rfl ha) (by exact a_subR) (by exact a_holds2)
theorem next1_pred (L : List It2) (hok : ∀ x ∈ L, x.ok) (b : Nat) (n : Int) : PredS Tryz.prog (L.map It2.v) (fun v => nextB n (toIt2 v)) (.func (.func 107) #[] #[ptr b]) [BoxC b 3 (.int .i64 n)] := ⟨107, [ptr b], rfl, (enters_of Tryz.func107 (by kernel_rfl) rfl), fun W0 X R C hR x hx => by
  obtain ⟨y, hy, rfl⟩ := List.mem_map.1 hx
  exact next1_ct y (hok y hy) b n (hR _ (by simp))⟩
abbrev SegI : Type := (SV × Nat) × Nat × (Nat × Nat)
abbrev segV (i : SegI) : Value := .func (.func 27) #[] #[ptr i.2.2.1, ptr i.2.2.2]
abbrev segR (L : List It2) (t : Int) (i : SegI) : List Ch := BoxC i.2.2.2 45 (.func (.func 111) #[] #[ptr i.2.1]) :: BoxC i.2.2.1 40 (NItem.ofV i.1.2) :: ([BoxC i.1.2 22 i.1.1.1, SlC 9 i.1.1.1 (L.map It2.v)] ++ [BoxC i.2.1 3 (.int .i64 t)])
theorem seg_it (L : List It2) (hok : ∀ x ∈ L, x.ok) (t : Int) (i : SegI) (hm : L.length * 88 ≤ 140737488355328) : It Tryz.prog ((L.filter (segB t)).map It2.v) (segV i) (segR L t i) := by
  have hmx : (L.map It2.v).length ≤ maxLen := by unfold maxLen; simp; omega
  have h := NItem.keep_it i.2.2.1 i.2.2.2 (NItem.ofV i.1.2) _ (L.map It2.v) (fun v => segB t (toIt2 v)) _ _ (NItem.of_it i.1 _ (vofs_it2 L hok) hmx).n (seg1_pred L hok i.2.1 t).n (vofs_it2 L hok)
  rwa [filter_it2] at h
set_option maxRecDepth 100000 in
set_option maxHeartbeats 1000000 in
theorem seg_ct (s : Value) (hs : IsSl s) (L : List It2) (hok : ∀ x ∈ L, x.ok) (t : Int) (hsl : SlC 9 s (L.map It2.v) ∈ R) (hm : L.length * 88 ≤ 140737488355328) :
    Ct Tryz.prog 106 [s, .int .i64 t] W0 X R C SegI segV (fun i => segR L t i ++ R) (fun _ => C) := by
  intro w hw
  have hF := isWide_wide
  have hml : (L.map It2.v).length * 88 ≤ 140737488355328 := by simpa using hm
  refine calls_nx Tryz.func106 rfl Tryz.ntmps106 rfl ?_ hw
  repeat' (first | ((first | with_reducible refine nl_op rfl ?_ | refine nd_go rfl rfl rfl ?_); intro K hK; (first | ((first | refine on_E hF rfl rfl ?_ | refine od_E rfl rfl ?_ | refine od_R rfl rfl ?_); (first | refine ⟨_, a_yl, ?_⟩)) | ((first | refine on_Ec hF rfl rfl ?_ | refine od_Ec rfl rfl ?_); refine ⟨_, _, _, a_yc, ?_, ?_⟩ <;> (intro hc; try exact a_cut hc)) | ((first | (refine od_act a_nd ?_; intro K2 hK2) | refine od_last a_nd ?_ | skip); (first  | (refine on_box hF rfl rfl rfl rfl (fun B => ?_)) | (refine on_store hF rfl rfl rfl rfl a_turn a_vof a_sz ?_) | (refine on_storeE hF rfl rfl rfl rfl a_turn a_om a_vof a_sz ?_) | (refine on_storeEF hF rfl rfl rfl rfl a_turn a_as (by decide) a_vof rfl ?_) | (refine on_storeF hF rfl rfl rfl rfl a_turn (by decide) a_vof rfl ?_)) <;> try (refine hK2 _ _ _ a_allK ?_; clear hK2 K2))) <;> (refine hK _ _ _ ?_; clear hK K)) | with_reducible (first | refine nx_seq ?_ | refine nx_region ?_ | refine nl_nil ?_ | refine nq_then_n ?_ | refine nx_block ?_ | refine nx_skip ?_ | refine nx_exit ?_ | refine nx_ret ?_ | refine nq_then_x ?_ | refine nq_then_r ?_ | refine nq_blk_n ?_ | refine nq_blk_r ?_ | refine nq_blk_hit ?_ | refine nq_blk_miss rfl ?_ | refine nd_nil ?_) | refine nx_cond_t rfl ?_ | refine nx_cond_f rfl ?_ | refine nl_pass hF rfl rfl rfl ?_ | refine nd_pass rfl rfl rfl rfl rfl ?_ | refine nd_pass2 rfl rfl rfl a_nd a_allK rfl rfl ?_ | refine nd_pass3 rfl rfl rfl a_nd rfl rfl ?_ | (with_reducible refine hQ1 _ _ _ ?_; clear hQ1 Q1) )
  obtain ⟨b1, hb1⟩ : ∃ b1, b1 = B := ⟨_, rfl⟩
  subst hb1
  refine nx_frz (BoxC b1 3 (.int .i64 t)) (by exact a_pick) ?_
  repeat' (first | ((first | with_reducible refine nl_op rfl ?_ | refine nd_go rfl rfl rfl ?_); intro K hK; (first | ((first | refine on_E hF rfl rfl ?_ | refine od_E rfl rfl ?_ | refine od_R rfl rfl ?_); (first | refine ⟨_, a_yl, ?_⟩)) | ((first | refine on_Ec hF rfl rfl ?_ | refine od_Ec rfl rfl ?_); refine ⟨_, _, _, a_yc, ?_, ?_⟩ <;> (intro hc; try exact a_cut hc)) | ((first | (refine od_act a_nd ?_; intro K2 hK2) | refine od_last a_nd ?_ | skip); (first | (refine on_callG hF (enters_of Tryz.func15 (by kernel_rfl) rfl) rfl rfl rfl rfl (NItem.of_ct s (L.map It2.v) (by exact a_mem) hs (vofs_it2 L hok) hml) (fun j => ?_)) | (refine on_callG hF (enters_of Tryz.func14 (by kernel_rfl) rfl) rfl rfl rfl rfl (NItem.keep_ct _ _ rfl rfl) (fun k => ?_)) | (refine on_box hF rfl rfl rfl rfl (fun B => ?_)) | (refine on_store hF rfl rfl rfl rfl a_turn a_vof a_sz ?_) | (refine on_storeE hF rfl rfl rfl rfl a_turn a_om a_vof a_sz ?_) | (refine on_storeEF hF rfl rfl rfl rfl a_turn a_as (by decide) a_vof rfl ?_) | (refine on_storeF hF rfl rfl rfl rfl a_turn (by decide) a_vof rfl ?_)) <;> try (refine hK2 _ _ _ a_allK ?_; clear hK2 K2))) <;> (refine hK _ _ _ ?_; clear hK K)) | with_reducible (first | refine nx_seq ?_ | refine nx_region ?_ | refine nl_nil ?_ | refine nq_then_n ?_ | refine nx_block ?_ | refine nx_skip ?_ | refine nx_exit ?_ | refine nx_ret ?_ | refine nq_then_x ?_ | refine nq_then_r ?_ | refine nq_blk_n ?_ | refine nq_blk_r ?_ | refine nq_blk_hit ?_ | refine nq_blk_miss rfl ?_ | refine nd_nil ?_) | refine nx_cond_t rfl ?_ | refine nx_cond_f rfl ?_ | refine nl_pass hF rfl rfl rfl ?_ | refine nd_pass rfl rfl rfl rfl rfl ?_ | refine nd_pass2 rfl rfl rfl a_nd a_allK rfl rfl ?_ | refine nd_pass3 rfl rfl rfl a_nd rfl rfl ?_ | (with_reducible refine hQ1 _ _ _ ?_; clear hQ1 Q1) )
  refine nx_end [] rfl ((j, b1, k)) (fun a w ha hw => res_tmp Tryz.results106 rfl ha) (by exact a_subR) (by exact a_holds2)
end Re
end Go.Proofs.YtinofjenoapeaaaGreat
end
section
namespace Go.Proofs.YtinofjenoapeaaaGreat
open Go.RowKit Go.Shelf
set_option linter.unusedSimpArgs false
set_option linter.unusedVariables false
namespace Re
variable {W0 : World} {X : Nat → Prop} {R C : List Ch}
theorem next_ok {L : List It2} (hok : ∀ x ∈ L, x.ok) (t n : Int) : ((nextSeg L t n).getD zIt2).ok := by
  cases h : nextSeg L t n with
  | none => exact zIt2_ok
  | some x => exact hok x (nextSeg_spec h).1
theorem findNext_ct (s f : Value) (L : List It2) (hok : ∀ x ∈ L, x.ok) (t n : Int) (RS RF : List Ch) (hs : ItN Tryz.prog ((L.filter (segB t)).map It2.v) s RS) (hf : PredN Tryz.prog ((L.filter (segB t)).map It2.v) (fun v => nextB n (toIt2 v)) f RF) (hR1 : ∀ r ∈ RS, r ∈ R) (hR2 : ∀ r ∈ RF, r ∈ R) :
    Ct Tryz.prog 72 [s, f] W0 X R C Unit (fun _ => .tuple #[((nextSeg L t n).getD zIt2).v, .bool (nextSeg L t n).isSome]) (fun _ => R) (fun _ => C) := by
  have hok2 : ∀ x ∈ L.filter (segB t), x.ok := fun x hx => hok x (List.mem_filter.1 hx).1
  have h := NItem.find_ct (W0 := W0) (X := X) (R := R) (C := C) s f ((L.filter (segB t)).map It2.v) _ RS RF hs hf (vofs_it2 _ hok2) hR1 hR2
  rw [show ((L.filter (segB t)).map It2.v).find? (fun v => nextB n (toIt2 v)) = (nextSeg L t n).map It2.v from find_it2 _ (nextB n)] at h
  cases hl : nextSeg L t n with
  | none => rw [hl] at h; exact h
  | some x => rw [hl] at h; exact h
set_option maxRecDepth 100000 in
set_option maxHeartbeats 1000000 in
theorem next_ct (s : Value) (hs : IsSl s) (L : List It2) (hok : ∀ x ∈ L, x.ok) (t n : Int) (hsl : SlC 9 s (L.map It2.v) ∈ R) (hm : L.length * 88 ≤ 140737488355328) :
    Ct Tryz.prog 98 [s, .int .i64 t, .int .i64 n] W0 X R C Unit (fun _ => .tuple #[((nextSeg L t n).getD zIt2).v, .bool (nextSeg L t n).isSome]) (fun _ => R) (fun _ => C) := by
  intro w hw
  have hF := isWide_wide
  have hok2 : ∀ x ∈ L.filter (segB t), x.ok := fun x hx => hok x (List.mem_filter.1 hx).1
  have hvy := (((nextSeg L t n).getD zIt2).vof (next_ok hok t n))
  have fd := fun (W0 : World) (X : Nat → Prop) (R C : List Ch) s f RS RF => findNext_ct (W0 := W0) (X := X) (R := R) (C := C) s f L hok t n RS RF
  obtain ⟨y, hy⟩ : ∃ y, (nextSeg L t n).getD zIt2 = y := ⟨_, rfl⟩
  obtain ⟨z, hz⟩ : ∃ z, (nextSeg L t n).isSome = z := ⟨_, rfl⟩
  rw [hy, hz] at fd
  rw [hy] at hvy
  rw [hy, hz]
  refine calls_nx Tryz.func98 rfl Tryz.ntmps98 rfl ?_ hw
  repeat' (first | ((first | with_reducible refine nl_op rfl ?_ | refine nd_go rfl rfl rfl ?_); intro K hK; (first | ((first | refine on_E hF rfl rfl ?_ | refine od_E rfl rfl ?_ | refine od_R rfl rfl ?_); (first | refine ⟨_, a_yl, ?_⟩)) | ((first | refine on_Ec hF rfl rfl ?_ | refine od_Ec rfl rfl ?_); refine ⟨_, _, _, a_yc, ?_, ?_⟩ <;> (intro hc; try exact a_cut hc)) | ((first | (refine od_act a_nd ?_; intro K2 hK2) | refine od_last a_nd ?_ | skip); (first | (refine on_alloc hF rfl Tryz.zeroValue33 rfl rfl (fun B => ?_)) | (refine on_box hF rfl rfl rfl rfl (fun B => ?_)) | (refine on_store hF rfl rfl rfl rfl a_turn a_vof a_sz ?_) | (refine on_storeE hF rfl rfl rfl rfl a_turn a_om a_vof a_sz ?_) | (refine on_storeEF hF rfl rfl rfl rfl a_turn a_as (by decide) a_vof rfl ?_) | (refine on_storeF hF rfl rfl rfl rfl a_turn (by decide) a_vof rfl ?_)) <;> try (refine hK2 _ _ _ a_allK ?_; clear hK2 K2))) <;> (refine hK _ _ _ ?_; clear hK K)) | with_reducible (first | refine nx_seq ?_ | refine nx_region ?_ | refine nl_nil ?_ | refine nq_then_n ?_ | refine nx_block ?_ | refine nx_skip ?_ | refine nx_exit ?_ | refine nx_ret ?_ | refine nq_then_x ?_ | refine nq_then_r ?_ | refine nq_blk_n ?_ | refine nq_blk_r ?_ | refine nq_blk_hit ?_ | refine nq_blk_miss rfl ?_ | refine nd_nil ?_) | refine nx_cond_t rfl ?_ | refine nx_cond_f rfl ?_ | refine nl_pass hF rfl rfl rfl ?_ | refine nd_pass rfl rfl rfl rfl rfl ?_ | refine nd_pass2 rfl rfl rfl a_nd a_allK rfl rfl ?_ | refine nd_pass3 rfl rfl rfl a_nd rfl rfl ?_ | (with_reducible refine hQ1 _ _ _ ?_; clear hQ1 Q1) )
  rename_i b5
  refine nx_frz (BoxC b5 3 (.int .i64 n)) (by exact a_pick) ?_
  repeat' (first | ((first | with_reducible refine nl_op rfl ?_ | refine nd_go rfl rfl rfl ?_); intro K hK; (first | ((first | refine on_E hF rfl rfl ?_ | refine od_E rfl rfl ?_ | refine od_R rfl rfl ?_); (first | refine ⟨_, a_yl, ?_⟩)) | ((first | refine on_Ec hF rfl rfl ?_ | refine od_Ec rfl rfl ?_); refine ⟨_, _, _, a_yc, ?_, ?_⟩ <;> (intro hc; try exact a_cut hc)) | ((first | (refine od_act a_nd ?_; intro K2 hK2) | refine od_last a_nd ?_ | skip); (first | (refine on_callG hF (enters_of Tryz.func106 (by kernel_rfl) rfl) rfl rfl rfl rfl (seg_ct s hs L hok t (by exact a_mem) hm) (fun i => ?_); simp only [segR, List.cons_append, List.nil_append]) | (refine on_callG hF (enters_of Tryz.func72 (by kernel_rfl) rfl) rfl rfl rfl rfl (fd _ _ _ _ _ _ _ _ (seg_it L hok t i hm).n (next1_pred _ hok2 b5 n).n (by exact a_subR) (by exact a_subR)) (fun _ => ?_)) | (refine on_alloc hF rfl Tryz.zeroValue33 rfl rfl (fun B => ?_)) | (refine on_box hF rfl rfl rfl rfl (fun B => ?_)) | (refine on_store hF rfl rfl rfl rfl a_turn a_vof a_sz ?_) | (refine on_storeE hF rfl rfl rfl rfl a_turn a_om a_vof a_sz ?_) | (refine on_storeEF hF rfl rfl rfl rfl a_turn a_as (by decide) a_vof rfl ?_) | (refine on_storeF hF rfl rfl rfl rfl a_turn (by decide) a_vof rfl ?_)) <;> try (refine hK2 _ _ _ a_allK ?_; clear hK2 K2))) <;> (refine hK _ _ _ ?_; clear hK K)) | with_reducible (first | refine nx_seq ?_ | refine nx_region ?_ | refine nl_nil ?_ | refine nq_then_n ?_ | refine nx_block ?_ | refine nx_skip ?_ | refine nx_exit ?_ | refine nx_ret ?_ | refine nq_then_x ?_ | refine nq_then_r ?_ | refine nq_blk_n ?_ | refine nq_blk_r ?_ | refine nq_blk_hit ?_ | refine nq_blk_miss rfl ?_ | refine nd_nil ?_) | refine nx_cond_t rfl ?_ | refine nx_cond_f rfl ?_ | refine nl_pass hF rfl rfl rfl ?_ | refine nd_pass rfl rfl rfl rfl rfl ?_ | refine nd_pass2 rfl rfl rfl a_nd a_allK rfl rfl ?_ | refine nd_pass3 rfl rfl rfl a_nd rfl rfl ?_ | (with_reducible refine hQ1 _ _ _ ?_; clear hQ1 Q1) )
  refine nx_endc [] (BoxC B 33 y.v :: C) rfl () (fun a w ha hw => res_cell_tmp (T' := 33) Tryz.results98 rfl rfl (by exact a_mem) hvy ha hw) (by exact a_subR) (by exact a_holds2) (by exact a_holds2)
/-- What was taken so far, and where it goes on. -/
def CvI (L : List It2) (t fr to : Int) (p : List Int × Int) : Prop := cover L t fr to = (cover L t p.2 to).map (p.1 ++ ·) ∧ p.1.length + above L p.2 ≤ above L fr
set_option maxRecDepth 100000 in
set_option maxHeartbeats 2000000 in
theorem cover_ct (s : Value) (hs : IsSl s) (L : List It2) (hok : ∀ x ∈ L, x.ok) (t fr to : Int) (hsl : SlC 9 s (L.map It2.v) ∈ R) (hm : L.length * 88 ≤ 140737488355328) :
    Ct Tryz.prog 76 [s, .int .i64 t, .int .i64 fr, .int .i64 to] W0 X R C SV (fun v => .tuple #[v.1, .bool (cover L t fr to).isSome]) (fun _ => R) (fun v => RowC 3 1 v.1 (((cover L t fr to).getD []).map (.int .i64)) :: C) := by
  intro w hw
  have hF := isWide_wide
  have hal := above_le L fr
  obtain ⟨res, hres⟩ : ∃ res, cover L t fr to = res := ⟨_, rfl⟩
  refine calls_nx Tryz.func76 rfl Tryz.ntmps76 rfl ?_ hw
  refine nx_nilRow 3 1 ?_
  repeat' (first | ((first | with_reducible refine nl_op rfl ?_ | refine nd_go rfl rfl rfl ?_); intro K hK; (first | ((first | refine on_E hF rfl rfl ?_ | refine od_E rfl rfl ?_ | refine od_R rfl rfl ?_); (first | refine ⟨_, a_yl, ?_⟩ | refine ⟨_, (by first | exact yl_fieldB (T := 33) (f := 0) (q := 0) rfl rfl (by kernel_rfl) | exact yl_fieldE (T := 33) (f := 0) (j := 0) rfl rfl a_sl a_om (by kernel_rfl) | exact yl_fieldB (T := 33) (f := 5) (q := 5) rfl rfl (by kernel_rfl) | exact yl_fieldE (T := 33) (f := 5) (j := 5) rfl rfl a_sl a_om (by kernel_rfl)), ?_⟩)) | ((first | refine on_Ec hF rfl rfl ?_ | refine od_Ec rfl rfl ?_); refine ⟨_, _, _, a_yc, ?_, ?_⟩ <;> (intro hc; try exact a_cut hc)) | ((first | (refine od_act a_nd ?_; intro K2 hK2) | refine od_last a_nd ?_ | skip); (first | (refine on_buildSlice (T := 25) (e := 3) (k := 1) (by_ := 8) hF rfl rfl rfl rfl rfl rfl (by kernel_rfl) a_cel (Nat.le_of_ble_eq_true rfl) (fun b => ?_)) | (refine on_append (T := 25) (e := 3) (k := 1) (by_ := 8) hF rfl rfl rfl rfl rfl a_pick (by kernel_rfl) a_sl a_cel a_bnd a_bnd (fun v => ?_)) | (refine on_alloc hF rfl Tryz.zeroValue33 rfl rfl (fun B => ?_)) | (refine on_box hF rfl rfl rfl rfl (fun B => ?_)) | (refine on_store hF rfl rfl rfl rfl a_turn a_vof a_sz ?_) | (refine on_storeE hF rfl rfl rfl rfl a_turn a_om a_vof a_sz ?_) | (refine on_storeEF hF rfl rfl rfl rfl a_turn a_as (by decide) a_vof rfl ?_) | (refine on_storeF hF rfl rfl rfl rfl a_turn (by decide) a_vof rfl ?_)) <;> try (refine hK2 _ _ _ a_allK ?_; clear hK2 K2))) <;> (refine hK _ _ _ ?_; clear hK K)) | with_reducible (first | refine nx_seq ?_ | refine nx_region ?_ | refine nl_nil ?_ | refine nq_then_n ?_ | refine nx_block ?_ | refine nx_skip ?_ | refine nx_exit ?_ | refine nx_ret ?_ | refine nq_then_x ?_ | refine nq_then_r ?_ | refine nq_blk_n ?_ | refine nq_blk_r ?_ | refine nq_blk_hit ?_ | refine nq_blk_miss rfl ?_ | refine nd_nil ?_) | refine nx_cond_t rfl ?_ | refine nx_cond_f rfl ?_ | refine nl_pass hF rfl rfl rfl ?_ | refine nd_pass rfl rfl rfl rfl rfl ?_ | refine nd_pass2 rfl rfl rfl a_nd a_allK rfl rfl ?_ | refine nd_pass3 rfl rfl rfl a_nd rfl rfl ?_ | (with_reducible refine hQ1 _ _ _ ?_; clear hQ1 Q1) )
  refine nx_loop (ι := { p : List Int × Int // CvI L t fr to p } × SV) (fun p => [(0, s), (1, .int .i64 t), (3, .int .i64 to), (10, p.2.1), (11, .int .i64 p.1.1.2)]) (fun _ => R) (fun p => RowC 3 1 p.2.1 (p.1.1.1.map (.int .i64)) :: C) (fun p => above L p.1.1.2) (⟨([], fr), ⟨by simp, by simp⟩⟩, ⟨.slice none 0 0, _, _, _, rfl⟩) (by exact a_sub) (by exact a_subR) (by exact a_holds) (fun p => ?_)
  obtain ⟨⟨⟨out, u⟩, hc1, hc2⟩, o⟩ := p
  dsimp only at hc1 hc2 ⊢
  have hol : (out.map (Value.int .i64)).length = out.length := by simp
  by_cases hlt : u < to
  · have lc := fun (W0 : World) (X : Nat → Prop) (R C : List Ch) h => next_ct (W0 := W0) (X := X) (R := R) (C := C) s hs L hok t u h hm
    cases hl : nextSeg L t u with
    | none =>
      simp only [hl, Option.getD_none, Option.isSome_none] at lc
      rw [cover_none hlt hl, Option.map_none] at hc1
      rw [hc1]
      have hvz := zIt2.vof zIt2_ok
      simp only [Option.getD_none, Option.isSome_none, List.map_nil]
      repeat' (first | ((first | with_reducible refine nl_op rfl ?_ | refine nd_go rfl rfl rfl ?_); intro K hK; (first | ((first | refine on_E hF rfl rfl ?_ | refine od_E rfl rfl ?_ | refine od_R rfl rfl ?_); (first | refine ⟨_, a_yl, ?_⟩ | refine ⟨_, (by first | exact yl_fieldB (T := 33) (f := 0) (q := 0) rfl rfl (by kernel_rfl) | exact yl_fieldE (T := 33) (f := 0) (j := 0) rfl rfl a_sl a_om (by kernel_rfl) | exact yl_fieldB (T := 33) (f := 5) (q := 5) rfl rfl (by kernel_rfl) | exact yl_fieldE (T := 33) (f := 5) (j := 5) rfl rfl a_sl a_om (by kernel_rfl)), ?_⟩)) | ((first | refine on_Ec hF rfl rfl ?_ | refine od_Ec rfl rfl ?_); refine ⟨_, _, _, a_yc, ?_, ?_⟩ <;> (intro hc; try exact a_cut hc)) | ((first | (refine od_act a_nd ?_; intro K2 hK2) | refine od_last a_nd ?_ | skip); (first | (refine on_callG hF (enters_of Tryz.func98 (by kernel_rfl) rfl) rfl rfl rfl rfl (lc _ _ _ _ (by exact a_mem)) (fun _ => ?_)) | (refine on_buildSlice (T := 25) (e := 3) (k := 1) (by_ := 8) hF rfl rfl rfl rfl rfl rfl (by kernel_rfl) a_cel (Nat.le_of_ble_eq_true rfl) (fun b => ?_)) | (refine on_append (T := 25) (e := 3) (k := 1) (by_ := 8) hF rfl rfl rfl rfl rfl a_pick (by kernel_rfl) a_sl a_cel a_bnd a_bnd (fun v => ?_)) | (refine on_alloc hF rfl Tryz.zeroValue33 rfl rfl (fun B => ?_)) | (refine on_box hF rfl rfl rfl rfl (fun B => ?_)) | (refine on_store hF rfl rfl rfl rfl a_turn a_vof a_sz ?_) | (refine on_storeE hF rfl rfl rfl rfl a_turn a_om a_vof a_sz ?_) | (refine on_storeEF hF rfl rfl rfl rfl a_turn a_as (by decide) a_vof rfl ?_) | (refine on_storeF hF rfl rfl rfl rfl a_turn (by decide) a_vof rfl ?_)) <;> try (refine hK2 _ _ _ a_allK ?_; clear hK2 K2))) <;> (refine hK _ _ _ ?_; clear hK K)) | with_reducible (first | refine nx_seq ?_ | refine nx_region ?_ | refine nl_nil ?_ | refine nq_then_n ?_ | refine nx_block ?_ | refine nx_skip ?_ | refine nx_exit ?_ | refine nx_ret ?_ | refine nq_then_x ?_ | refine nq_then_r ?_ | refine nq_blk_n ?_ | refine nq_blk_r ?_ | refine nq_blk_hit ?_ | refine nq_blk_miss rfl ?_ | refine nd_nil ?_) | refine nx_cond_t rfl ?_ | refine nx_cond_f rfl ?_ | refine nl_pass hF rfl rfl rfl ?_ | refine nd_pass rfl rfl rfl rfl rfl ?_ | refine nd_pass2 rfl rfl rfl a_nd a_allK rfl rfl ?_ | refine nd_pass3 rfl rfl rfl a_nd rfl rfl ?_ | (with_reducible refine hQ1 _ _ _ ?_; clear hQ1 Q1) )
      refine nx_nilRow 3 1 ?_
      refine nx_end [] rfl (⟨.slice none 0 0, _, _, _, rfl⟩) (fun a w ha hw => res_tmp2 Tryz.results76 rfl rfl ha) (by exact a_subR) (by exact a_holds2)
    | some x =>
      simp only [hl, Option.getD_some, Option.isSome_some] at lc
      have hsp := nextSeg_spec hl
      have hxo := hok x hsp.1
      have hvx := x.vof hxo
      have hks := cover_some hlt hl
      have hab := above_lt hsp.1 hsp.2.2.2.2 rfl
      rw [hks, Option.map_map] at hc1
      clear hsp hks
      obtain ⟨xid, kind, tl, d4, d5, xb, par, d8, e⟩ := x
      obtain ⟨ea, en, ec, rfl⟩ : IsSl e := hxo
      dsimp only at hab hc1
      have hcx : Cel 1 [Value.int .i64 xid] := Cel.of (P := Tryz.prog) (T := 3) (fun y hy => by simp at hy; rw [hy]; exact vof1 (by kernel_rfl) rfl rfl) (by kernel_rfl)
      have hm1 : (out.map (Value.int .i64)).length + 1 ≤ maxLen := by unfold maxLen; omega
      have hm2 : ((out.map (Value.int .i64)).length + 1) * 8 ≤ 140737488355328 := by omega
      repeat' (first | ((first | with_reducible refine nl_op rfl ?_ | refine nd_go rfl rfl rfl ?_); intro K hK; (first | ((first | refine on_E hF rfl rfl ?_ | refine od_E rfl rfl ?_ | refine od_R rfl rfl ?_); (first | refine ⟨_, a_yl, ?_⟩ | refine ⟨_, (by first | exact yl_fieldB (T := 33) (f := 0) (q := 0) rfl rfl (by kernel_rfl) | exact yl_fieldE (T := 33) (f := 0) (j := 0) rfl rfl a_sl a_om (by kernel_rfl) | exact yl_fieldB (T := 33) (f := 5) (q := 5) rfl rfl (by kernel_rfl) | exact yl_fieldE (T := 33) (f := 5) (j := 5) rfl rfl a_sl a_om (by kernel_rfl)), ?_⟩)) | ((first | refine on_Ec hF rfl rfl ?_ | refine od_Ec rfl rfl ?_); refine ⟨_, _, _, a_yc, ?_, ?_⟩ <;> (intro hc; try exact a_cut hc)) | ((first | (refine od_act a_nd ?_; intro K2 hK2) | refine od_last a_nd ?_ | skip); (first | (refine on_callG hF (enters_of Tryz.func98 (by kernel_rfl) rfl) rfl rfl rfl rfl (lc _ _ _ _ (by exact a_mem)) (fun _ => ?_)) | (refine on_buildSlice (e := 3) (k := 1) (by_ := 8) hF rfl rfl rfl rfl rfl rfl (by kernel_rfl) hcx (by simp) (fun bq => ?_)) | (refine on_append (e := 3) (k := 1) (by_ := 8) (ys := [.int .i64 xid]) hF rfl rfl rfl rfl rfl (by exact a_pick) (by kernel_rfl) (by exact a_sl) hcx (by exact hm1) (by exact hm2) (fun v2 => ?_)) | (refine on_buildSlice (T := 25) (e := 3) (k := 1) (by_ := 8) hF rfl rfl rfl rfl rfl rfl (by kernel_rfl) a_cel (Nat.le_of_ble_eq_true rfl) (fun b => ?_)) | (refine on_append (T := 25) (e := 3) (k := 1) (by_ := 8) hF rfl rfl rfl rfl rfl a_pick (by kernel_rfl) a_sl a_cel a_bnd a_bnd (fun v => ?_)) | (refine on_alloc hF rfl Tryz.zeroValue33 rfl rfl (fun B => ?_)) | (refine on_box hF rfl rfl rfl rfl (fun B => ?_)) | (refine on_store hF rfl rfl rfl rfl a_turn a_vof a_sz ?_) | (refine on_storeE hF rfl rfl rfl rfl a_turn a_om a_vof a_sz ?_) | (refine on_storeEF hF rfl rfl rfl rfl a_turn a_as (by decide) a_vof rfl ?_) | (refine on_storeF hF rfl rfl rfl rfl a_turn (by decide) a_vof rfl ?_)) <;> try (refine hK2 _ _ _ a_allK ?_; clear hK2 K2))) <;> (refine hK _ _ _ ?_; clear hK K)) | with_reducible (first | refine nx_seq ?_ | refine nx_region ?_ | refine nl_nil ?_ | refine nq_then_n ?_ | refine nx_block ?_ | refine nx_skip ?_ | refine nx_exit ?_ | refine nx_ret ?_ | refine nq_then_x ?_ | refine nq_then_r ?_ | refine nq_blk_n ?_ | refine nq_blk_r ?_ | refine nq_blk_hit ?_ | refine nq_blk_miss rfl ?_ | refine nd_nil ?_) | refine nx_cond_t rfl ?_ | refine nx_cond_f rfl ?_ | refine nl_pass hF rfl rfl rfl ?_ | refine nd_pass rfl rfl rfl rfl rfl ?_ | refine nd_pass2 rfl rfl rfl a_nd a_allK rfl rfl ?_ | refine nd_pass3 rfl rfl rfl a_nd rfl rfl ?_ | (with_reducible refine hQ1 _ _ _ ?_; clear hQ1 Q1) )
      rw [show out.map (Value.int .i64) ++ [.int .i64 xid] = (out ++ [xid]).map (.int .i64) by simp]
      refine nx_again (⟨(out ++ [xid], xb), ⟨by rw [hc1]; congr 1; funext z; simp, by simp; omega⟩⟩, v2) hab (by exact a_sub) (by exact a_subR) (by exact a_holds)
  · rw [cover_done hlt, Option.map_some, List.append_nil] at hc1
    rw [hc1]
    simp only [Option.getD_some, Option.isSome_some]
    repeat' (first | ((first | with_reducible refine nl_op rfl ?_ | refine nd_go rfl rfl rfl ?_); intro K hK; (first | ((first | refine on_E hF rfl rfl ?_ | refine od_E rfl rfl ?_ | refine od_R rfl rfl ?_); (first | refine ⟨_, a_yl, ?_⟩ | refine ⟨_, (by first | exact yl_fieldB (T := 33) (f := 0) (q := 0) rfl rfl (by kernel_rfl) | exact yl_fieldE (T := 33) (f := 0) (j := 0) rfl rfl a_sl a_om (by kernel_rfl) | exact yl_fieldB (T := 33) (f := 5) (q := 5) rfl rfl (by kernel_rfl) | exact yl_fieldE (T := 33) (f := 5) (j := 5) rfl rfl a_sl a_om (by kernel_rfl)), ?_⟩)) | ((first | refine on_Ec hF rfl rfl ?_ | refine od_Ec rfl rfl ?_); refine ⟨_, _, _, a_yc, ?_, ?_⟩ <;> (intro hc; try exact a_cut hc)) | ((first | (refine od_act a_nd ?_; intro K2 hK2) | refine od_last a_nd ?_ | skip); (first | (refine on_buildSlice (T := 25) (e := 3) (k := 1) (by_ := 8) hF rfl rfl rfl rfl rfl rfl (by kernel_rfl) a_cel (Nat.le_of_ble_eq_true rfl) (fun b => ?_)) | (refine on_append (T := 25) (e := 3) (k := 1) (by_ := 8) hF rfl rfl rfl rfl rfl a_pick (by kernel_rfl) a_sl a_cel a_bnd a_bnd (fun v => ?_)) | (refine on_alloc hF rfl Tryz.zeroValue33 rfl rfl (fun B => ?_)) | (refine on_box hF rfl rfl rfl rfl (fun B => ?_)) | (refine on_store hF rfl rfl rfl rfl a_turn a_vof a_sz ?_) | (refine on_storeE hF rfl rfl rfl rfl a_turn a_om a_vof a_sz ?_) | (refine on_storeEF hF rfl rfl rfl rfl a_turn a_as (by decide) a_vof rfl ?_) | (refine on_storeF hF rfl rfl rfl rfl a_turn (by decide) a_vof rfl ?_)) <;> try (refine hK2 _ _ _ a_allK ?_; clear hK2 K2))) <;> (refine hK _ _ _ ?_; clear hK K)) | with_reducible (first | refine nx_seq ?_ | refine nx_region ?_ | refine nl_nil ?_ | refine nq_then_n ?_ | refine nx_block ?_ | refine nx_skip ?_ | refine nx_exit ?_ | refine nx_ret ?_ | refine nq_then_x ?_ | refine nq_then_r ?_ | refine nq_blk_n ?_ | refine nq_blk_r ?_ | refine nq_blk_hit ?_ | refine nq_blk_miss rfl ?_ | refine nd_nil ?_) | refine nx_cond_t rfl ?_ | refine nx_cond_f rfl ?_ | refine nl_pass hF rfl rfl rfl ?_ | refine nd_pass rfl rfl rfl rfl rfl ?_ | refine nd_pass2 rfl rfl rfl a_nd a_allK rfl rfl ?_ | refine nd_pass3 rfl rfl rfl a_nd rfl rfl ?_ | (with_reducible refine hQ1 _ _ _ ?_; clear hQ1 Q1) )
    refine nx_end [] rfl o (fun a w ha hw => res_tmp2 Tryz.results76 rfl rfl ha) (by exact a_subR) (by exact a_holds2)
end Re
end Go.Proofs.YtinofjenoapeaaaGreat
end
