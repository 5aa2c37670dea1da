/- The contract of breviarylaw12.MarksPlay where the marks are refused. Condition: two int's values. -/
import Derived.Test.YtigbglagfbbmjaaRef12
import Derived.Test.YtigbglagfbbmjaaRowWr
namespace Go.Proofs.Ytigbglagfbbmjaa
open Go.RowKit Go.Shelf
set_option linter.unusedSimpArgs false
set_option linter.unusedVariables false
structure Opn where
  n : Int
  s : Value
  ws : List Wr
abbrev Opn.v (x : Opn) : Value := .agg #[.int .i64 x.n, x.s]
structure Opn.wf (x : Opn) : Prop where
  sl : IsSl x.s
  num : -9223372036854775808 ≤ x.n ∧ x.n ≤ 9223372036854775807
  ws : ∀ y ∈ x.ws, y.wf
namespace Mk
variable {W0 : World} {X : Nat → Prop} {R C : List Ch}
set_option maxRecDepth 100000 in
theorem note0_ct (n : Int) (s : Value) : Ct Try.prog 44 [.pointer none, .int .i64 n, s] W0 X R C Unit (fun _ => .int .i64 1) (fun _ => R) (fun _ => C) := by
  intro w hw
  have hF := isWide_wide
  refine calls_nx Try.func44 rfl Try.ntmps44 rfl ?_ hw
  repeat' (first
    | ((first | with_reducible refine nl_op rfl ?_ | refine nd_go rfl rfl rfl ?_); intro K hK; (first
      | ((first | refine on_E hF rfl rfl ?_ | refine od_E rfl rfl ?_ | refine od_R rfl rfl ?_); (first | refine ⟨_, a_yl, ?_⟩ | refine ⟨_, yl_fieldB (T := 73) (f := 0) (q := 0) rfl rfl (by kernel_rfl), ?_⟩ | refine ⟨_, yl_fieldE (T := 73) (f := 0) (j := 0) rfl rfl a_sl (by (first | omega | (simp only [List.length_append, List.length_cons, List.length_nil, List.length_map] at *; omega))) (by kernel_rfl), ?_⟩ | refine ⟨_, yl_fieldB (T := 134) (f := 0) (q := 0) rfl rfl (by kernel_rfl), ?_⟩ | refine ⟨_, yl_fieldE (T := 134) (f := 0) (j := 0) rfl rfl a_sl (by (first | omega | (simp only [List.length_append, List.length_cons, List.length_nil, List.length_map] at *; omega))) (by kernel_rfl), ?_⟩))
      | ((first | refine on_Ec hF rfl rfl ?_ | refine od_Ec rfl rfl ?_); refine ⟨_, _, _, a_yc, ?_, ?_⟩ <;> (intro hc; try (exfalso; first | (omega; done) | exact absurd (by with_reducible rfl) hc | (simp at hc; done))))
      | ((first | (refine od_act (fun c => by exact (fun h => by cases h)) ?_; intro K2 hK2) | refine od_last (fun c => by exact (fun h => by cases h)) ?_ | skip); (first
      
      
      | (refine on_alloc hF rfl Try.zeroValue73 rfl rfl (fun B => ?_))
      | (refine on_box hF rfl rfl rfl rfl (fun B => ?_))
      | (refine on_store hF rfl rfl rfl rfl a_turn a_vof (by first | rfl | exact hsz.symm | exact hsz) ?_)
      | (refine on_storeE hF rfl rfl rfl rfl a_turn (by (first | omega | (simp only [List.length_append, List.length_cons, List.length_nil, List.length_map] at *; omega))) a_vof (by first | rfl | exact hsz) ?_)
      | (refine on_storeEF hF rfl rfl rfl rfl a_turn (by first | with_reducible assumption | rfl) (by decide) a_vof rfl ?_)
      | (refine on_storeF hF rfl rfl rfl rfl a_turn (by decide) a_vof rfl ?_)) <;> try (refine hK2 _ _ _ a_allK ?_; clear hK2 K2))) <;> (refine hK _ _ _ ?_; clear hK K))
    | with_reducible refine nx_seq ?_
        | with_reducible refine nx_region ?_
        | with_reducible refine nl_nil ?_
        | with_reducible refine nq_then_n ?_
        | with_reducible refine nx_block ?_
        | with_reducible refine nx_skip ?_
        | with_reducible refine nx_exit ?_
        | with_reducible refine nx_ret ?_
        | with_reducible refine nq_then_x ?_
        | with_reducible refine nq_then_r ?_
        | with_reducible refine nq_blk_n ?_
        | with_reducible refine nq_blk_r ?_
        | with_reducible refine nq_blk_hit ?_
        | with_reducible refine nq_blk_miss rfl ?_
        | with_reducible refine nd_nil ?_
    | refine nx_cond_t rfl ?_ | refine nx_cond_f rfl ?_
    | refine nl_pass hF rfl rfl rfl ?_
    | refine nd_pass rfl rfl rfl rfl rfl ?_
    | refine nd_pass2 rfl rfl rfl (fun c => by exact (fun h => by cases h)) a_allK rfl rfl ?_
    | refine nd_pass3 rfl rfl rfl (fun c => by exact (fun h => by cases h)) rfl rfl ?_
    | (with_reducible refine hQ1 _ _ _ ?_; clear hQ1 Q1)
    | (refine nd_region (id := 12) hF [1, 0, 0, 1, 0, 1, 0, 1, 3] [0, 1, 2, 3, 4, 5, 6, 7, 8] _ _ (by kernel_rfl) (by kernel_rfl) sub2_same ?_; intro Q1 hQ1))
  refine nx_end [] rfl () (fun a w ha hw => res_tmp Try.results44 rfl ha) (by exact a_subR) (by exact a_holds2)
def mostU (xs : List Int) (k : Int) : Int := (xs.take k.toNat).foldl max 0
theorem mostU_out (xs : List Int) (k : Int) (h : k < 0 ∨ (xs.length : Int) ≤ k) : max (mostU xs k) (-1) = mostU xs (k + 1) := by
  have h0 : ∀ (l : List Int) (z : Int), z ≤ l.foldl max z := fun l => by
    induction l with
    | nil => exact fun z => Int.le_refl _
    | cons y l ih => intro z; rw [List.foldl_cons]; have := ih (max z y); omega
  have := h0 (xs.take k.toNat) 0
  have e : mostU xs (k + 1) = mostU xs k := by
    unfold mostU
    rcases h with h | h
    · rw [show (k + 1).toNat = k.toNat by omega]
    · rw [List.take_of_length_le (by omega), List.take_of_length_le (by omega)]
  rw [e]
  show max ((xs.take k.toNat).foldl max 0) (-1) = (xs.take k.toNat).foldl max 0
  omega
theorem mostU_in (xs : List Int) (k : Int) (h : 0 ≤ k ∧ k < xs.length) : max (mostU xs k) (xs.getD k.toNat 0) = mostU xs (k + 1) := by
  unfold mostU
  rw [show (k + 1).toNat = k.toNat + 1 by omega, List.take_add_one, List.foldl_append, List.getD_eq_getElem?_getD]
  have hl : k.toNat < xs.length := by omega
  simp [hl]
theorem mostU_all (xs : List Int) (h0 : xs ≠ []) (hp : ∀ x ∈ xs, 0 ≤ x) : mostU xs ((xs.length : Int) + 1) = maxL xs := by
  unfold mostU
  rw [List.take_of_length_le (by omega)]
  cases xs with
  | nil => exact absurd rfl h0
  | cons x xs => have := hp x (by simp); unfold maxL; rw [List.foldl_cons, show max 0 x = x by omega]
end Mk
namespace Law12
open Mk
variable {W0 : World} {X : Nat → Prop} {R C : List Ch}
theorem noteR_len (xs : List Int) (n : Int) (ws : List Wr) : (noteR xs n ws).length = xs.length := by
  unfold noteR; split
  · exact putAll_len n ws xs
  · rfl
theorem noteR_nn (xs : List Int) (n : Int) (ws : List Wr) (h : ∀ x ∈ xs, 0 ≤ x) : ∀ x ∈ noteR xs n ws, 0 ≤ x := fun x hx => by
  unfold noteR at hx
  split at hx
  · rename_i he
    have hn : 0 ≤ n := by
      unfold noteE at he
      split at he
      · cases he
      · rename_i h2; omega
    rcases Ref12.putAll_mem n ws xs x hx with h2 | h2
    · omega
    · exact h x h2
  · exact h x hx
structure PlayI (L : List Opn) (k : Nat) (p : Nat × List Int × SV) : Prop where
  i1 : p.1 ≤ L.length
  i2 : p.1 ≤ 30
  len : p.2.1.length = k
  nn : ∀ x ∈ p.2.1, 0 ≤ x
set_option maxRecDepth 100000 in
set_option maxHeartbeats 4000000 in
theorem playE_ct (kb n0 : Int) (s : Value) (h : ¬ (1 ≤ kb ∧ kb ≤ 64 ∧ 0 ≤ n0 ∧ n0 ≤ 1099511627776)) : Ct Try.prog 10 [.int .i64 kb, .int .i64 n0, s] W0 X R C Unit (fun _ => .bool true) (fun _ => R) (fun _ => C) := by
  intro w hw
  have hF := isWide_wide
  refine calls_nx Try.func10 rfl Try.ntmps10 rfl ?_ hw
  repeat' (first
    | ((first | with_reducible refine nl_op rfl ?_ | refine nd_go rfl rfl rfl ?_); intro K hK; (first
      | ((first | refine on_E hF rfl rfl ?_ | refine od_E rfl rfl ?_ | refine od_R rfl rfl ?_); (first | refine ⟨_, a_yl, ?_⟩ | refine ⟨_, yl_fieldB (T := 82) (f := 0) (q := 0) rfl rfl (by kernel_rfl), ?_⟩ | refine ⟨_, yl_fieldE (T := 82) (f := 0) (j := 0) rfl rfl a_sl (by (first | omega | (simp only [List.length_append, List.length_cons, List.length_nil, List.length_map] at *; omega))) (by kernel_rfl), ?_⟩ | refine ⟨_, yl_fieldB (T := 82) (f := 1) (q := 1) rfl rfl (by kernel_rfl), ?_⟩ | refine ⟨_, yl_fieldE (T := 82) (f := 1) (j := 1) rfl rfl a_sl (by (first | omega | (simp only [List.length_append, List.length_cons, List.length_nil, List.length_map] at *; omega))) (by kernel_rfl), ?_⟩))
      | ((first | refine on_Ec hF rfl rfl ?_ | refine od_Ec rfl rfl ?_); refine ⟨_, _, _, a_yc, ?_, ?_⟩ <;> (intro hc; try (exfalso; first | (omega; done) | exact absurd (by with_reducible rfl) hc | (simp at hc; done))))
      | ((first | (refine od_act (fun c => by exact (fun h => by cases h)) ?_; intro K2 hK2) | refine od_last (fun c => by exact (fun h => by cases h)) ?_ | skip); (first
      | (refine on_callG hF (enters_of Try.func42 (by kernel_rfl) rfl) rfl rfl rfl rfl first_ct (fun _ => ?_))
      | (refine on_callG hF (enters_of Try.func43 (by kernel_rfl) rfl) rfl rfl rfl rfl (newE_ct kb n0 h) (fun _ => ?_))
      | (refine on_callG hF (enters_of Try.func46 (by kernel_rfl) rfl) rfl rfl rfl rfl (Ref12.newE_ct kb n0 h) (fun _ => ?_))
      | (refine on_callG hF (enters_of Try.func44 (by kernel_rfl) rfl) rfl rfl rfl rfl (note0_ct _ _) (fun _ => ?_))
      | (refine on_callG hF (enters_of Try.func45 (by kernel_rfl) rfl) rfl rfl rfl rfl (since0_ct _) (fun _ => ?_))
      | (refine on_callG hF (enters_of Try.func47 (by kernel_rfl) rfl) rfl rfl rfl rfl (at0_ct _) (fun _ => ?_))
      | (refine on_callG hF (enters_of Try.func48 (by kernel_rfl) rfl) rfl rfl rfl rfl most0_ct (fun _ => ?_))
      | (refine on_callG hF (enters_of Try.func49 (by kernel_rfl) rfl) rfl rfl rfl rfl clone0_ct (fun _ => ?_))
      
      | (refine on_alloc hF rfl Try.zeroValue82 rfl rfl (fun B => ?_))
      | (refine on_box hF rfl rfl rfl rfl (fun B => ?_))
      | (refine on_store hF rfl rfl rfl rfl a_turn a_vof (by first | rfl | exact hsz.symm | exact hsz) ?_)
      | (refine on_storeE hF rfl rfl rfl rfl a_turn (by (first | omega | (simp only [List.length_append, List.length_cons, List.length_nil, List.length_map] at *; omega))) a_vof (by first | rfl | exact hsz) ?_)
      | (refine on_storeEF hF rfl rfl rfl rfl a_turn (by first | with_reducible assumption | rfl) (by decide) a_vof rfl ?_)
      | (refine on_storeF hF rfl rfl rfl rfl a_turn (by decide) a_vof rfl ?_)) <;> try (refine hK2 _ _ _ a_allK ?_; clear hK2 K2))) <;> (refine hK _ _ _ ?_; clear hK K))
    | with_reducible refine nx_seq ?_
        | with_reducible refine nx_region ?_
        | with_reducible refine nl_nil ?_
        | with_reducible refine nq_then_n ?_
        | with_reducible refine nx_block ?_
        | with_reducible refine nx_skip ?_
        | with_reducible refine nx_exit ?_
        | with_reducible refine nx_ret ?_
        | with_reducible refine nq_then_x ?_
        | with_reducible refine nq_then_r ?_
        | with_reducible refine nq_blk_n ?_
        | with_reducible refine nq_blk_r ?_
        | with_reducible refine nq_blk_hit ?_
        | with_reducible refine nq_blk_miss rfl ?_
        | with_reducible refine nd_nil ?_
    | refine nx_cond_t rfl ?_ | refine nx_cond_f rfl ?_
    | refine nl_pass hF rfl rfl rfl ?_
    | refine nd_pass rfl rfl rfl rfl rfl ?_
    | refine nd_pass2 rfl rfl rfl (fun c => by exact (fun h => by cases h)) a_allK rfl rfl ?_
    | refine nd_pass3 rfl rfl rfl (fun c => by exact (fun h => by cases h)) rfl rfl ?_
    | (with_reducible refine hQ1 _ _ _ ?_; clear hQ1 Q1)
    | (refine nd_region (id := 29) hF [0, 0, 1, 0, 2, 0, 0, 1, 0, 2, 0, 0] [0, 1, 2, 3, 5, 6, 7, 8, 4, 9, 10, 11] _ _ (by kernel_rfl) (by kernel_rfl) sub2_same ?_; intro Q1 hQ1)
    | (refine nd_region (id := 37) hF [0, 0, 1, 1, 0, 0, 1, 1, 0] [0, 1, 2, 3, 4, 5, 6, 7, 8] _ _ (by kernel_rfl) (by kernel_rfl) sub2_same ?_; intro Q1 hQ1))
  refine nx_end [] rfl () (fun a w ha hw => res_tmp Try.results10 rfl ha) (by exact a_subR) (by exact a_holds2)
end Law12
end Go.Proofs.Ytigbglagfbbmjaa
