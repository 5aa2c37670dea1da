/- The contract of breviarylaw05.FlowEnds. Condition: a list of int's values, and what a byte holds. -/
import Derived.Test.YtigbglagfbbmjaaFh
import Derived.Test.YtigbglagfbbmjaaFmIntInt
import Derived.Test.YtigbglagfbbmjaaFjInt
import Derived.Test.YtigbglagfbbmjaaFbInt
import Derived.Test.YtigbglagfbbmjaaS9
namespace Go.Proofs.Ytigbglagfbbmjaa
open Go.RowKit Go.Shelf
set_option linter.unusedSimpArgs false
set_option linter.unusedVariables false
namespace Law05
variable {W0 : World} {X : Nat → Prop} {R C : List Ch}
theorem takeWhile_all (L : List Value) : L.takeWhile (fun _ => !false) = L := by
  induction L with
  | nil => rfl
  | cons x L ih => rw [List.takeWhile_cons, ih]; rfl
theorem vofs2 (xs : List Int) : ∀ x ∈ xs.map (Value.int .i64), VOf Try.prog 3 x := fun x hx => by obtain ⟨i, _, rfl⟩ := List.mem_map.1 hx; exact vof_i i
set_option maxRecDepth 100000 in
theorem e1_ct (i : Value) : Ct Try.prog 33 [i] W0 X R C Unit (fun _ => i) (fun _ => R) (fun _ => C) := by
  intro w hw
  have hF := isWide_wide
  refine calls_nx Try.func33 rfl Try.ntmps33 rfl ?_ hw
  repeat' (first
    | ((first | with_reducible refine nl_op rfl ?_ | refine nd_go rfl rfl rfl ?_); intro K hK; (first
      | ((first | refine on_E hF rfl rfl ?_ | refine od_E rfl rfl ?_ | refine od_R rfl rfl ?_); (first
        | refine ⟨_, yl_move rfl rfl, ?_⟩
        | refine ⟨_, yl_assign rfl rfl, ?_⟩
        | refine ⟨_, yl_load rfl rfl a_has a_vof, ?_⟩
        | refine ⟨_, yl_not_t rfl rfl, ?_⟩
        | refine ⟨_, yl_not_f rfl rfl, ?_⟩
        | refine ⟨_, yl_pick_t rfl rfl rfl, ?_⟩
        | refine ⟨_, yl_pick_f rfl rfl rfl, ?_⟩
        | refine ⟨_, yl_extract rfl rfl rfl, ?_⟩
        | refine ⟨_, yl_func rfl rfl, ?_⟩
        | refine ⟨_, yl_nilCheck rfl rfl, ?_⟩
        | refine ⟨_, yl_add rfl rfl rfl (by omega), ?_⟩
        | refine ⟨_, yl_sub rfl rfl rfl (by omega), ?_⟩
        | refine ⟨_, yl_mul rfl rfl rfl (by omega), ?_⟩
        | refine ⟨_, yl_neg rfl rfl (by omega), ?_⟩
        | refine ⟨_, yl_and rfl rfl rfl, ?_⟩
        | refine ⟨_, yl_or rfl rfl rfl, ?_⟩
        | refine ⟨_, yl_xor rfl rfl rfl, ?_⟩
        | refine ⟨_, yl_len_str rfl rfl (by kernel_rfl), ?_⟩
        | refine ⟨_, yl_len_s rfl rfl (by kernel_rfl), ?_⟩
        | refine ⟨_, yl_cmp rfl rfl rfl rfl (by kernel_rfl), ?_⟩
        | refine ⟨_, yl_max rfl rfl rfl, ?_⟩
        | refine ⟨_, yl_min rfl rfl rfl, ?_⟩
        | refine ⟨_, yl_rem rfl rfl rfl (by omega) (by omega), ?_⟩
        | refine ⟨_, yl_load_cell rfl rfl a_has rfl rfl a_vof, ?_⟩
        | refine ⟨_, yl_index rfl rfl rfl a_sl (by kernel_rfl) (by (first | omega | (simp only [List.length_append, List.length_cons, List.length_nil, List.length_map] at *; omega))), ?_⟩
        | refine ⟨_, yl_index_z rfl rfl rfl a_sl (by kernel_rfl) (by (first | omega | (simp only [List.length_append, List.length_cons, List.length_nil, List.length_map] at *; omega))) (by (first | omega | (simp only [List.length_append, List.length_cons, List.length_nil, List.length_map] at *; omega))), ?_⟩
        | refine ⟨_, yl_load_elem rfl rfl a_sl (by first | with_reducible assumption | rfl) a_vof, ?_⟩
        | refine ⟨_, yl_len rfl rfl a_sl (by kernel_rfl), ?_⟩
        | refine ⟨_, yl_load_elemF rfl rfl a_sl (by first | with_reducible assumption | rfl) (by rfl) rfl a_vof, ?_⟩
        | refine ⟨_, yl_indexAddr rfl rfl rfl (fun w => by (first | rfl | (simp only [ptr]; go_simp; all_goals rfl) | (go_simp; all_goals rfl))), ?_⟩))
      | ((first | refine on_Ec hF rfl rfl ?_ | refine od_Ec rfl rfl ?_); (first
        | refine ⟨_, _, _, yc_lss rfl rfl rfl, ?_, ?_⟩
        | refine ⟨_, _, _, yc_eql rfl rfl rfl, ?_, ?_⟩
        | refine ⟨_, _, _, yc_neq rfl rfl rfl, ?_, ?_⟩
        | refine ⟨_, _, _, yc_leq rfl rfl rfl, ?_, ?_⟩
        | refine ⟨_, _, _, yc_gtr rfl rfl rfl, ?_, ?_⟩
        | refine ⟨_, _, _, yc_geq rfl rfl rfl, ?_, ?_⟩
        | refine ⟨_, _, _, yc_eql_str rfl rfl rfl, ?_, ?_⟩
        | refine ⟨_, _, _, yc_neq_str rfl rfl rfl, ?_, ?_⟩) <;> (intro hc; try (exfalso; first | (omega; done) | exact absurd (by with_reducible rfl) hc | (simp at hc; done))))
      | ((first | (refine od_act (fun c => by exact (fun h => by cases h)) ?_; intro K2 hK2) | refine od_last (fun c => by exact (fun h => by cases h)) ?_ | skip); (first
      
      
      
      | (refine on_box hF rfl rfl rfl rfl (fun B => ?_))
      | (refine on_store hF rfl rfl rfl rfl a_turn a_vof (by first | rfl | exact hsz.symm | exact hsz) ?_)
      | (refine on_storeE hF rfl rfl rfl rfl a_turn (by (first | omega | (simp only [List.length_append, List.length_cons, List.length_nil, List.length_map] at *; omega))) a_vof (by first | rfl | exact hsz) ?_)
      | (refine on_storeEF hF rfl rfl rfl rfl a_turn (by first | with_reducible assumption | rfl) (by decide) a_vof rfl ?_)
      | (refine on_storeF hF rfl rfl rfl rfl a_turn (by decide) a_vof rfl ?_)) <;> try (refine hK2 _ _ _ a_allK ?_; clear hK2 K2))) <;> (refine hK _ _ _ ?_; clear hK K))
    | with_reducible refine nx_seq ?_
        | with_reducible refine nx_region ?_
        | with_reducible refine nl_nil ?_
        | with_reducible refine nq_then_n ?_
        | with_reducible refine nx_block ?_
        | with_reducible refine nx_skip ?_
        | with_reducible refine nx_exit ?_
        | with_reducible refine nx_ret ?_
        | with_reducible refine nq_then_x ?_
        | with_reducible refine nq_then_r ?_
        | with_reducible refine nq_blk_n ?_
        | with_reducible refine nq_blk_r ?_
        | with_reducible refine nq_blk_hit ?_
        | with_reducible refine nq_blk_miss rfl ?_
        | with_reducible refine nd_nil ?_
    | refine nx_cond_t rfl ?_ | refine nx_cond_f rfl ?_
    | refine nl_pass hF rfl rfl rfl ?_
    | refine nd_pass rfl rfl rfl rfl rfl ?_
    | refine nd_pass2 rfl rfl rfl (fun c => by exact (fun h => by cases h)) a_allK rfl rfl ?_
    | refine nd_pass3 rfl rfl rfl (fun c => by exact (fun h => by cases h)) rfl rfl ?_
    | (with_reducible refine hQ1 _ _ _ ?_; clear hQ1 Q1)
    )
  refine nx_end [] rfl () (fun a w ha hw => res_tmp Try.results33 rfl ha) (by exact a_subR) (by exact a_holds2)
theorem e1_fun (xs : List Value) : FunS Try.prog xs id (.func (.func 33) #[] #[]) [] := ⟨33, [], rfl, (enters_of Try.func33 (by kernel_rfl) rfl), fun W0 X R C _ x hx => e1_ct x⟩
set_option maxRecDepth 100000 in
theorem e2_ct (i : Value) : Ct Try.prog 34 [i] W0 X R C Unit (fun _ => .bool true) (fun _ => R) (fun _ => C) := by
  intro w hw
  have hF := isWide_wide
  refine calls_nx Try.func34 rfl Try.ntmps34 rfl ?_ hw
  repeat' (first
    | ((first | with_reducible refine nl_op rfl ?_ | refine nd_go rfl rfl rfl ?_); intro K hK; (first
      | ((first | refine on_E hF rfl rfl ?_ | refine od_E rfl rfl ?_ | refine od_R rfl rfl ?_); (first
        | refine ⟨_, yl_move rfl rfl, ?_⟩
        | refine ⟨_, yl_assign rfl rfl, ?_⟩
        | refine ⟨_, yl_load rfl rfl a_has a_vof, ?_⟩
        | refine ⟨_, yl_not_t rfl rfl, ?_⟩
        | refine ⟨_, yl_not_f rfl rfl, ?_⟩
        | refine ⟨_, yl_pick_t rfl rfl rfl, ?_⟩
        | refine ⟨_, yl_pick_f rfl rfl rfl, ?_⟩
        | refine ⟨_, yl_extract rfl rfl rfl, ?_⟩
        | refine ⟨_, yl_func rfl rfl, ?_⟩
        | refine ⟨_, yl_nilCheck rfl rfl, ?_⟩
        | refine ⟨_, yl_add rfl rfl rfl (by omega), ?_⟩
        | refine ⟨_, yl_sub rfl rfl rfl (by omega), ?_⟩
        | refine ⟨_, yl_mul rfl rfl rfl (by omega), ?_⟩
        | refine ⟨_, yl_neg rfl rfl (by omega), ?_⟩
        | refine ⟨_, yl_and rfl rfl rfl, ?_⟩
        | refine ⟨_, yl_or rfl rfl rfl, ?_⟩
        | refine ⟨_, yl_xor rfl rfl rfl, ?_⟩
        | refine ⟨_, yl_len_str rfl rfl (by kernel_rfl), ?_⟩
        | refine ⟨_, yl_len_s rfl rfl (by kernel_rfl), ?_⟩
        | refine ⟨_, yl_cmp rfl rfl rfl rfl (by kernel_rfl), ?_⟩
        | refine ⟨_, yl_max rfl rfl rfl, ?_⟩
        | refine ⟨_, yl_min rfl rfl rfl, ?_⟩
        | refine ⟨_, yl_rem rfl rfl rfl (by omega) (by omega), ?_⟩
        | refine ⟨_, yl_load_cell rfl rfl a_has rfl rfl a_vof, ?_⟩
        | refine ⟨_, yl_index rfl rfl rfl a_sl (by kernel_rfl) (by (first | omega | (simp only [List.length_append, List.length_cons, List.length_nil, List.length_map] at *; omega))), ?_⟩
        | refine ⟨_, yl_index_z rfl rfl rfl a_sl (by kernel_rfl) (by (first | omega | (simp only [List.length_append, List.length_cons, List.length_nil, List.length_map] at *; omega))) (by (first | omega | (simp only [List.length_append, List.length_cons, List.length_nil, List.length_map] at *; omega))), ?_⟩
        | refine ⟨_, yl_load_elem rfl rfl a_sl (by first | with_reducible assumption | rfl) a_vof, ?_⟩
        | refine ⟨_, yl_len rfl rfl a_sl (by kernel_rfl), ?_⟩
        | refine ⟨_, yl_load_elemF rfl rfl a_sl (by first | with_reducible assumption | rfl) (by rfl) rfl a_vof, ?_⟩
        | refine ⟨_, yl_indexAddr rfl rfl rfl (fun w => by (first | rfl | (simp only [ptr]; go_simp; all_goals rfl) | (go_simp; all_goals rfl))), ?_⟩))
      | ((first | refine on_Ec hF rfl rfl ?_ | refine od_Ec rfl rfl ?_); (first
        | refine ⟨_, _, _, yc_lss rfl rfl rfl, ?_, ?_⟩
        | refine ⟨_, _, _, yc_eql rfl rfl rfl, ?_, ?_⟩
        | refine ⟨_, _, _, yc_neq rfl rfl rfl, ?_, ?_⟩
        | refine ⟨_, _, _, yc_leq rfl rfl rfl, ?_, ?_⟩
        | refine ⟨_, _, _, yc_gtr rfl rfl rfl, ?_, ?_⟩
        | refine ⟨_, _, _, yc_geq rfl rfl rfl, ?_, ?_⟩
        | refine ⟨_, _, _, yc_eql_str rfl rfl rfl, ?_, ?_⟩
        | refine ⟨_, _, _, yc_neq_str rfl rfl rfl, ?_, ?_⟩) <;> (intro hc; try (exfalso; first | (omega; done) | exact absurd (by with_reducible rfl) hc | (simp at hc; done))))
      | ((first | (refine od_act (fun c => by exact (fun h => by cases h)) ?_; intro K2 hK2) | refine od_last (fun c => by exact (fun h => by cases h)) ?_ | skip); (first
      
      
      
      | (refine on_box hF rfl rfl rfl rfl (fun B => ?_))
      | (refine on_store hF rfl rfl rfl rfl a_turn a_vof (by first | rfl | exact hsz.symm | exact hsz) ?_)
      | (refine on_storeE hF rfl rfl rfl rfl a_turn (by (first | omega | (simp only [List.length_append, List.length_cons, List.length_nil, List.length_map] at *; omega))) a_vof (by first | rfl | exact hsz) ?_)
      | (refine on_storeEF hF rfl rfl rfl rfl a_turn (by first | with_reducible assumption | rfl) (by decide) a_vof rfl ?_)
      | (refine on_storeF hF rfl rfl rfl rfl a_turn (by decide) a_vof rfl ?_)) <;> try (refine hK2 _ _ _ a_allK ?_; clear hK2 K2))) <;> (refine hK _ _ _ ?_; clear hK K))
    | with_reducible refine nx_seq ?_
        | with_reducible refine nx_region ?_
        | with_reducible refine nl_nil ?_
        | with_reducible refine nq_then_n ?_
        | with_reducible refine nx_block ?_
        | with_reducible refine nx_skip ?_
        | with_reducible refine nx_exit ?_
        | with_reducible refine nx_ret ?_
        | with_reducible refine nq_then_x ?_
        | with_reducible refine nq_then_r ?_
        | with_reducible refine nq_blk_n ?_
        | with_reducible refine nq_blk_r ?_
        | with_reducible refine nq_blk_hit ?_
        | with_reducible refine nq_blk_miss rfl ?_
        | with_reducible refine nd_nil ?_
    | refine nx_cond_t rfl ?_ | refine nx_cond_f rfl ?_
    | refine nl_pass hF rfl rfl rfl ?_
    | refine nd_pass rfl rfl rfl rfl rfl ?_
    | refine nd_pass2 rfl rfl rfl (fun c => by exact (fun h => by cases h)) a_allK rfl rfl ?_
    | refine nd_pass3 rfl rfl rfl (fun c => by exact (fun h => by cases h)) rfl rfl ?_
    | (with_reducible refine hQ1 _ _ _ ?_; clear hQ1 Q1)
    )
  refine nx_end [] rfl () (fun a w ha hw => res_tmp Try.results34 rfl ha) (by exact a_subR) (by exact a_holds2)
theorem e2_pred (xs : List Value) : PredS Try.prog xs (fun _ => true) (.func (.func 34) #[] #[]) [] := ⟨34, [], rfl, (enters_of Try.func34 (by kernel_rfl) rfl), fun W0 X R C _ x hx => e2_ct x⟩
theorem e4_pred : PredS Try.prog [] (fun _ => true) (.func (.func 40) #[] #[]) [] := ⟨40, [], rfl, (enters_of Try.func40 (by kernel_rfl) rfl), fun W0 X R C _ x hx => by cases hx⟩
set_option maxRecDepth 100000 in
theorem e3_ct (x : Value) (b5 b9 : Nat) (at_ k : Int) (h5 : BoxC b5 3 (.int .i64 at_) ∈ R) (hk : 0 ≤ k ∧ k < 1000) :
    Ct Try.prog 38 [x, ptr b9, ptr b5] W0 X R (BoxC b9 3 (.int .i64 k) :: C) Unit (fun _ => .bool (decide (k + 1 < at_))) (fun _ => R) (fun _ => BoxC b9 3 (.int .i64 (k + 1)) :: C) := by
  intro w hw
  have hF := isWide_wide
  refine calls_nx Try.func38 rfl Try.ntmps38 rfl ?_ hw
  repeat' (first
    | ((first | with_reducible refine nl_op rfl ?_ | refine nd_go rfl rfl rfl ?_); intro K hK; (first
      | ((first | refine on_E hF rfl rfl ?_ | refine od_E rfl rfl ?_ | refine od_R rfl rfl ?_); (first
        | refine ⟨_, yl_move rfl rfl, ?_⟩
        | refine ⟨_, yl_assign rfl rfl, ?_⟩
        | refine ⟨_, yl_load rfl rfl a_has a_vof, ?_⟩
        | refine ⟨_, yl_not_t rfl rfl, ?_⟩
        | refine ⟨_, yl_not_f rfl rfl, ?_⟩
        | refine ⟨_, yl_pick_t rfl rfl rfl, ?_⟩
        | refine ⟨_, yl_pick_f rfl rfl rfl, ?_⟩
        | refine ⟨_, yl_extract rfl rfl rfl, ?_⟩
        | refine ⟨_, yl_func rfl rfl, ?_⟩
        | refine ⟨_, yl_nilCheck rfl rfl, ?_⟩
        | refine ⟨_, yl_add rfl rfl rfl (by omega), ?_⟩
        | refine ⟨_, yl_sub rfl rfl rfl (by omega), ?_⟩
        | refine ⟨_, yl_mul rfl rfl rfl (by omega), ?_⟩
        | refine ⟨_, yl_neg rfl rfl (by omega), ?_⟩
        | refine ⟨_, yl_and rfl rfl rfl, ?_⟩
        | refine ⟨_, yl_or rfl rfl rfl, ?_⟩
        | refine ⟨_, yl_xor rfl rfl rfl, ?_⟩
        | refine ⟨_, yl_len_str rfl rfl (by kernel_rfl), ?_⟩
        | refine ⟨_, yl_len_s rfl rfl (by kernel_rfl), ?_⟩
        | refine ⟨_, yl_cmp rfl rfl rfl rfl (by kernel_rfl), ?_⟩
        | refine ⟨_, yl_max rfl rfl rfl, ?_⟩
        | refine ⟨_, yl_min rfl rfl rfl, ?_⟩
        | refine ⟨_, yl_rem rfl rfl rfl (by omega) (by omega), ?_⟩
        | refine ⟨_, yl_load_cell rfl rfl a_has rfl rfl a_vof, ?_⟩
        | refine ⟨_, yl_index rfl rfl rfl a_sl (by kernel_rfl) (by (first | omega | (simp only [List.length_append, List.length_cons, List.length_nil, List.length_map] at *; omega))), ?_⟩
        | refine ⟨_, yl_index_z rfl rfl rfl a_sl (by kernel_rfl) (by (first | omega | (simp only [List.length_append, List.length_cons, List.length_nil, List.length_map] at *; omega))) (by (first | omega | (simp only [List.length_append, List.length_cons, List.length_nil, List.length_map] at *; omega))), ?_⟩
        | refine ⟨_, yl_load_elem rfl rfl a_sl (by first | with_reducible assumption | rfl) a_vof, ?_⟩
        | refine ⟨_, yl_len rfl rfl a_sl (by kernel_rfl), ?_⟩
        | refine ⟨_, yl_load_elemF rfl rfl a_sl (by first | with_reducible assumption | rfl) (by rfl) rfl a_vof, ?_⟩
        | refine ⟨_, yl_indexAddr rfl rfl rfl (fun w => by (first | rfl | (simp only [ptr]; go_simp; all_goals rfl) | (go_simp; all_goals rfl))), ?_⟩))
      | ((first | refine on_Ec hF rfl rfl ?_ | refine od_Ec rfl rfl ?_); (first
        | refine ⟨_, _, _, yc_lss rfl rfl rfl, ?_, ?_⟩
        | refine ⟨_, _, _, yc_eql rfl rfl rfl, ?_, ?_⟩
        | refine ⟨_, _, _, yc_neq rfl rfl rfl, ?_, ?_⟩
        | refine ⟨_, _, _, yc_leq rfl rfl rfl, ?_, ?_⟩
        | refine ⟨_, _, _, yc_gtr rfl rfl rfl, ?_, ?_⟩
        | refine ⟨_, _, _, yc_geq rfl rfl rfl, ?_, ?_⟩
        | refine ⟨_, _, _, yc_eql_str rfl rfl rfl, ?_, ?_⟩
        | refine ⟨_, _, _, yc_neq_str rfl rfl rfl, ?_, ?_⟩) <;> (intro hc; try (exfalso; first | (omega; done) | exact absurd (by with_reducible rfl) hc | (simp at hc; done))))
      | ((first | (refine od_act (fun c => by exact (fun h => by cases h)) ?_; intro K2 hK2) | refine od_last (fun c => by exact (fun h => by cases h)) ?_ | skip); (first
      
      
      
      | (refine on_box hF rfl rfl rfl rfl (fun B => ?_))
      | (refine on_store hF rfl rfl rfl rfl a_turn a_vof (by first | rfl | exact hsz.symm | exact hsz) ?_)
      | (refine on_storeE hF rfl rfl rfl rfl a_turn (by (first | omega | (simp only [List.length_append, List.length_cons, List.length_nil, List.length_map] at *; omega))) a_vof (by first | rfl | exact hsz) ?_)
      | (refine on_storeEF hF rfl rfl rfl rfl a_turn (by first | with_reducible assumption | rfl) (by decide) a_vof rfl ?_)
      | (refine on_storeF hF rfl rfl rfl rfl a_turn (by decide) a_vof rfl ?_)) <;> try (refine hK2 _ _ _ a_allK ?_; clear hK2 K2))) <;> (refine hK _ _ _ ?_; clear hK K))
    | with_reducible refine nx_seq ?_
        | with_reducible refine nx_region ?_
        | with_reducible refine nl_nil ?_
        | with_reducible refine nq_then_n ?_
        | with_reducible refine nx_block ?_
        | with_reducible refine nx_skip ?_
        | with_reducible refine nx_exit ?_
        | with_reducible refine nx_ret ?_
        | with_reducible refine nq_then_x ?_
        | with_reducible refine nq_then_r ?_
        | with_reducible refine nq_blk_n ?_
        | with_reducible refine nq_blk_r ?_
        | with_reducible refine nq_blk_hit ?_
        | with_reducible refine nq_blk_miss rfl ?_
        | with_reducible refine nd_nil ?_
    | refine nx_cond_t rfl ?_ | refine nx_cond_f rfl ?_
    | refine nl_pass hF rfl rfl rfl ?_
    | refine nd_pass rfl rfl rfl rfl rfl ?_
    | refine nd_pass2 rfl rfl rfl (fun c => by exact (fun h => by cases h)) a_allK rfl rfl ?_
    | refine nd_pass3 rfl rfl rfl (fun c => by exact (fun h => by cases h)) rfl rfl ?_
    | (with_reducible refine hQ1 _ _ _ ?_; clear hQ1 Q1)
    )
  · rw [decide_eq_true hc]
    refine nx_end [] rfl () (fun a w ha hw => res_tmp Try.results38 rfl ha) (by exact a_subR) (by exact a_holds2)
  · rw [decide_eq_false hc]
    refine nx_end [] rfl () (fun a w ha hw => res_tmp Try.results38 rfl ha) (by exact a_subR) (by exact a_holds2)
theorem e3_round (xs : List Value) (b5 b9 : Nat) (at_ : Int) (h1 : 1 ≤ at_) (hm : xs.length ≤ 100) (pre : List Value) (x : Value) (post : List Value) (hx : xs = pre ++ x :: post) (vs : List Value) (hvs : vs = [x]) (hp : (pre.length : Int) < at_) (h5 : BoxC b5 3 (.int .i64 at_) ∈ R) :
    Ct Try.prog 38 (vs ++ [ptr b9, ptr b5]) W0 X R ([] ++ ([BoxC b9 3 (.int .i64 (pre.length : Int))] ++ C)) ({ _i : Unit // ((pre ++ [x]).length : Int) < at_ } ⊕ { _k : Unit // ((pre ++ [x]).length : Int) = at_ }) (fun q => .bool q.isLeft) (fun _ => R) (fun q => eiC (fun _ => [BoxC b9 3 (.int .i64 ((pre ++ [x]).length : Int))]) (fun _ => [BoxC b9 3 (.int .i64 ((pre ++ [x]).length : Int))]) q ++ C) := by
  subst hvs
  have hl : pre.length + 1 ≤ xs.length := by rw [hx]; simp
  have hq : ((pre ++ [x]).length : Int) = pre.length + 1 := by simp
  intro w hw
  refine (e3_ct x b5 b9 at_ pre.length h5 (by omega) w hw).mono ?_
  rintro e w' ⟨_, rfl, h2⟩
  rw [← hq] at h2
  by_cases hlt : (pre.length : Int) + 1 < at_
  · exact ⟨.inl ⟨(), by omega⟩, by simp [hlt], h2⟩
  · exact ⟨.inr ⟨(), by omega⟩, by simp [hlt], h2⟩
set_option maxRecDepth 100000 in
set_option maxHeartbeats 4000000 in
theorem ends_ct (s : Value) (hs : IsSl s) (xs : List Int) (st : Int) (hsl : SlC 1 s (xs.map (.int .i64)) ∈ R) (hst : 0 ≤ st ∧ st ≤ 255) :
    Ct Try.prog 8 [s, .int .u8 st] W0 X R C Unit (fun _ => .bool true) (fun _ => R) (fun _ => C) := by
  intro w hw
  have hF := isWide_wide
  have hl : (xs.map (Value.int .i64)).length = xs.length := by simp
  have hL := vofs2 xs
  obtain ⟨L, hLe⟩ : ∃ L, L = xs.map (Value.int .i64) := ⟨_, rfl⟩
  rw [← hLe] at hsl hl hL
  have hE : ∀ x ∈ ([] : List Value), VOf Try.prog 3 x := fun x hx => by cases hx
  obtain ⟨a, i, c, rfl⟩ := hs
  obtain rfl := slLen (hw.hasR hsl)
  refine calls_nx Try.func8 rfl Try.ntmps8 rfl ?_ hw
  repeat' (first
    | ((first | with_reducible refine nl_op rfl ?_ | refine nd_go rfl rfl rfl ?_); intro K hK; (first
      | ((first | refine on_E hF rfl rfl ?_ | refine od_E rfl rfl ?_ | refine od_R rfl rfl ?_); (first
        | refine ⟨_, yl_move rfl rfl, ?_⟩
        | refine ⟨_, yl_assign rfl rfl, ?_⟩
        | refine ⟨_, yl_load rfl rfl a_has a_vof, ?_⟩
        | refine ⟨_, yl_not_t rfl rfl, ?_⟩
        | refine ⟨_, yl_not_f rfl rfl, ?_⟩
        | refine ⟨_, yl_pick_t rfl rfl rfl, ?_⟩
        | refine ⟨_, yl_pick_f rfl rfl rfl, ?_⟩
        | refine ⟨_, yl_extract rfl rfl rfl, ?_⟩
        | refine ⟨_, yl_func rfl rfl, ?_⟩
        | refine ⟨_, yl_nilCheck rfl rfl, ?_⟩
        | refine ⟨_, yl_add rfl rfl rfl (by omega), ?_⟩
        | refine ⟨_, yl_sub rfl rfl rfl (by omega), ?_⟩
        | refine ⟨_, yl_mul rfl rfl rfl (by omega), ?_⟩
        | refine ⟨_, yl_neg rfl rfl (by omega), ?_⟩
        | refine ⟨_, yl_and rfl rfl rfl, ?_⟩
        | refine ⟨_, yl_or rfl rfl rfl, ?_⟩
        | refine ⟨_, yl_xor rfl rfl rfl, ?_⟩
        | refine ⟨_, yl_len_str rfl rfl (by kernel_rfl), ?_⟩
        | refine ⟨_, yl_len_s rfl rfl (by kernel_rfl), ?_⟩
        | refine ⟨_, yl_cmp rfl rfl rfl rfl (by kernel_rfl), ?_⟩
        | refine ⟨_, yl_max rfl rfl rfl, ?_⟩
        | refine ⟨_, yl_min rfl rfl rfl, ?_⟩
        | refine ⟨_, yl_rem rfl rfl rfl (by omega) (by omega), ?_⟩
        | refine ⟨_, yl_load_cell rfl rfl a_has rfl rfl a_vof, ?_⟩
        | refine ⟨_, yl_index rfl rfl rfl a_sl (by kernel_rfl) (by (first | omega | (simp only [List.length_append, List.length_cons, List.length_nil, List.length_map] at *; omega))), ?_⟩
        | refine ⟨_, yl_index_z rfl rfl rfl a_sl (by kernel_rfl) (by (first | omega | (simp only [List.length_append, List.length_cons, List.length_nil, List.length_map] at *; omega))) (by (first | omega | (simp only [List.length_append, List.length_cons, List.length_nil, List.length_map] at *; omega))), ?_⟩
        | refine ⟨_, yl_load_elem rfl rfl a_sl (by first | with_reducible assumption | rfl) a_vof, ?_⟩
        | refine ⟨_, yl_len rfl rfl a_sl (by kernel_rfl), ?_⟩
        | refine ⟨_, yl_load_elemF rfl rfl a_sl (by first | with_reducible assumption | rfl) (by rfl) rfl a_vof, ?_⟩
        | refine ⟨_, yl_indexAddr rfl rfl rfl (fun w => by (first | rfl | (simp only [ptr]; go_simp; all_goals rfl) | (go_simp; all_goals rfl))), ?_⟩))
      | ((first | refine on_Ec hF rfl rfl ?_ | refine od_Ec rfl rfl ?_); (first
        | refine ⟨_, _, _, yc_lss rfl rfl rfl, ?_, ?_⟩
        | refine ⟨_, _, _, yc_eql rfl rfl rfl, ?_, ?_⟩
        | refine ⟨_, _, _, yc_neq rfl rfl rfl, ?_, ?_⟩
        | refine ⟨_, _, _, yc_leq rfl rfl rfl, ?_, ?_⟩
        | refine ⟨_, _, _, yc_gtr rfl rfl rfl, ?_, ?_⟩
        | refine ⟨_, _, _, yc_geq rfl rfl rfl, ?_, ?_⟩
        | refine ⟨_, _, _, yc_eql_str rfl rfl rfl, ?_, ?_⟩
        | refine ⟨_, _, _, yc_neq_str rfl rfl rfl, ?_, ?_⟩) <;> (intro hc; try (exfalso; first | (omega; done) | exact absurd (by with_reducible rfl) hc | (simp at hc; done))))
      | ((first | (refine od_act (fun c => by exact (fun h => by cases h)) ?_; intro K2 hK2) | refine od_last (fun c => by exact (fun h => by cases h)) ?_ | skip); (first
      | (refine on_callG hF (enters_of Try.func22 (by kernel_rfl) rfl) rfl rfl rfl rfl first_ct (fun _ => ?_))
      | ((first | refine on_E hF rfl rfl ?_ | refine od_E rfl rfl ?_ | refine od_R rfl rfl ?_); refine ⟨_, yl_conv_i (S := 5) (T := 3) rfl rfl (by kernel_rfl) (by kernel_rfl) (by omega), ?_⟩)
      | (refine on_buildSlice (T := 58) (e := 43) (k := 1) (by_ := 8) hF rfl rfl rfl rfl rfl rfl (by kernel_rfl) a_cel (Nat.le_of_ble_eq_true rfl) (fun b => ?_))
      | (refine on_buildSlice (T := 131) (e := 44) (k := 1) (by_ := 8) hF rfl rfl rfl rfl rfl rfl (by kernel_rfl) a_cel (Nat.le_of_ble_eq_true rfl) (fun b => ?_))
      | (refine on_alloc hF rfl Try.zeroValue3 rfl rfl (fun B => ?_))
      | (refine on_box hF rfl rfl rfl rfl (fun B => ?_))
      | (refine on_store hF rfl rfl rfl rfl a_turn a_vof (by first | rfl | exact hsz.symm | exact hsz) ?_)
      | (refine on_storeE hF rfl rfl rfl rfl a_turn (by (first | omega | (simp only [List.length_append, List.length_cons, List.length_nil, List.length_map] at *; omega))) a_vof (by first | rfl | exact hsz) ?_)
      | (refine on_storeEF hF rfl rfl rfl rfl a_turn (by first | with_reducible assumption | rfl) (by decide) a_vof rfl ?_)
      | (refine on_storeF hF rfl rfl rfl rfl a_turn (by decide) a_vof rfl ?_)) <;> try (refine hK2 _ _ _ a_allK ?_; clear hK2 K2))) <;> (refine hK _ _ _ ?_; clear hK K))
    | with_reducible refine nx_seq ?_
        | with_reducible refine nx_region ?_
        | with_reducible refine nl_nil ?_
        | with_reducible refine nq_then_n ?_
        | with_reducible refine nx_block ?_
        | with_reducible refine nx_skip ?_
        | with_reducible refine nx_exit ?_
        | with_reducible refine nx_ret ?_
        | with_reducible refine nq_then_x ?_
        | with_reducible refine nq_then_r ?_
        | with_reducible refine nq_blk_n ?_
        | with_reducible refine nq_blk_r ?_
        | with_reducible refine nq_blk_hit ?_
        | with_reducible refine nq_blk_miss rfl ?_
        | with_reducible refine nd_nil ?_
    | refine nx_cond_t rfl ?_ | refine nx_cond_f rfl ?_
    | refine nl_pass hF rfl rfl rfl ?_
    | refine nd_pass rfl rfl rfl rfl rfl ?_
    | refine nd_pass2 rfl rfl rfl (fun c => by exact (fun h => by cases h)) a_allK rfl rfl ?_
    | refine nd_pass3 rfl rfl rfl (fun c => by exact (fun h => by cases h)) rfl rfl ?_
    | (with_reducible refine hQ1 _ _ _ ?_; clear hQ1 Q1)
    )
  · refine nx_end [] rfl () (fun a w ha hw => res_tmp Try.results8 rfl ha) (by exact a_subR) (by exact a_holds2)
  · have hm8 : L.length * 8 ≤ 140737488355328 := by omega
    have hmx : L.length ≤ maxLen := by unfold maxLen; omega
    refine nx_nilRow 3 1 ?_
    refine nx_frzRow Pick.here ?_
    have hnil : Cel 1 ([] : List Value) := Cel.nil
    repeat' (first
    | ((first | with_reducible refine nl_op rfl ?_ | refine nd_go rfl rfl rfl ?_); intro K hK; (first
      | ((first | refine on_E hF rfl rfl ?_ | refine od_E rfl rfl ?_ | refine od_R rfl rfl ?_); (first
        | refine ⟨_, yl_move rfl rfl, ?_⟩
        | refine ⟨_, yl_assign rfl rfl, ?_⟩
        | refine ⟨_, yl_load rfl rfl a_has a_vof, ?_⟩
        | refine ⟨_, yl_not_t rfl rfl, ?_⟩
        | refine ⟨_, yl_not_f rfl rfl, ?_⟩
        | refine ⟨_, yl_pick_t rfl rfl rfl, ?_⟩
        | refine ⟨_, yl_pick_f rfl rfl rfl, ?_⟩
        | refine ⟨_, yl_extract rfl rfl rfl, ?_⟩
        | refine ⟨_, yl_func rfl rfl, ?_⟩
        | refine ⟨_, yl_nilCheck rfl rfl, ?_⟩
        | refine ⟨_, yl_add rfl rfl rfl (by omega), ?_⟩
        | refine ⟨_, yl_sub rfl rfl rfl (by omega), ?_⟩
        | refine ⟨_, yl_mul rfl rfl rfl (by omega), ?_⟩
        | refine ⟨_, yl_neg rfl rfl (by omega), ?_⟩
        | refine ⟨_, yl_and rfl rfl rfl, ?_⟩
        | refine ⟨_, yl_or rfl rfl rfl, ?_⟩
        | refine ⟨_, yl_xor rfl rfl rfl, ?_⟩
        | refine ⟨_, yl_len_str rfl rfl (by kernel_rfl), ?_⟩
        | refine ⟨_, yl_len_s rfl rfl (by kernel_rfl), ?_⟩
        | refine ⟨_, yl_cmp rfl rfl rfl rfl (by kernel_rfl), ?_⟩
        | refine ⟨_, yl_max rfl rfl rfl, ?_⟩
        | refine ⟨_, yl_min rfl rfl rfl, ?_⟩
        | refine ⟨_, yl_rem rfl rfl rfl (by omega) (by omega), ?_⟩
        | refine ⟨_, yl_load_cell rfl rfl a_has rfl rfl a_vof, ?_⟩
        | refine ⟨_, yl_index rfl rfl rfl a_sl (by kernel_rfl) (by (first | omega | (simp only [List.length_append, List.length_cons, List.length_nil, List.length_map] at *; omega))), ?_⟩
        | refine ⟨_, yl_index_z rfl rfl rfl a_sl (by kernel_rfl) (by (first | omega | (simp only [List.length_append, List.length_cons, List.length_nil, List.length_map] at *; omega))) (by (first | omega | (simp only [List.length_append, List.length_cons, List.length_nil, List.length_map] at *; omega))), ?_⟩
        | refine ⟨_, yl_load_elem rfl rfl a_sl (by first | with_reducible assumption | rfl) a_vof, ?_⟩
        | refine ⟨_, yl_len rfl rfl a_sl (by kernel_rfl), ?_⟩
        | refine ⟨_, yl_load_elemF rfl rfl a_sl (by first | with_reducible assumption | rfl) (by rfl) rfl a_vof, ?_⟩
        | refine ⟨_, yl_indexAddr rfl rfl rfl (fun w => by (first | rfl | (simp only [ptr]; go_simp; all_goals rfl) | (go_simp; all_goals rfl))), ?_⟩))
      | ((first | refine on_Ec hF rfl rfl ?_ | refine od_Ec rfl rfl ?_); (first
        | refine ⟨_, _, _, yc_lss rfl rfl rfl, ?_, ?_⟩
        | refine ⟨_, _, _, yc_eql rfl rfl rfl, ?_, ?_⟩
        | refine ⟨_, _, _, yc_neq rfl rfl rfl, ?_, ?_⟩
        | refine ⟨_, _, _, yc_leq rfl rfl rfl, ?_, ?_⟩
        | refine ⟨_, _, _, yc_gtr rfl rfl rfl, ?_, ?_⟩
        | refine ⟨_, _, _, yc_geq rfl rfl rfl, ?_, ?_⟩
        | refine ⟨_, _, _, yc_eql_str rfl rfl rfl, ?_, ?_⟩
        | refine ⟨_, _, _, yc_neq_str rfl rfl rfl, ?_, ?_⟩) <;> (intro hc; try (exfalso; first | (omega; done) | exact absurd (by with_reducible rfl) hc | (simp at hc; done))))
      | ((first | (refine od_act (fun c => by exact (fun h => by cases h)) ?_; intro K2 hK2) | refine od_last (fun c => by exact (fun h => by cases h)) ?_ | skip); (first
      | (refine on_callG hF (enters_of Try.func27 (by kernel_rfl) rfl) rfl rfl rfl rfl (NInt.of_ct (.slice a L.length c) L (by exact a_mem) ⟨_, _, _, rfl⟩ hL hm8) (fun j => ?_))
      | (refine on_callG hF (enters_of Try.func27 (by kernel_rfl) rfl) rfl rfl rfl rfl (NInt.of_ct (.slice none 0 0) [] (by exact a_mem) ⟨_, _, _, rfl⟩ hE (by decide)) (fun j => ?_))
      | (refine on_callG hF (enters_of Try.func32 (by kernel_rfl) rfl) rfl rfl rfl rfl (FIntInt.map_ct _ _ rfl rfl) (fun k => ?_))
      | (refine on_callG hF (enters_of Try.func26 (by kernel_rfl) rfl) rfl rfl rfl rfl (NInt.keep_ct _ _ rfl rfl) (fun k => ?_))
      | (refine on_callG hF (enters_of Try.func35 (by kernel_rfl) rfl) rfl rfl rfl rfl (NInt.first_ct _ _ rfl) (fun k => ?_))
      | (refine on_callG hF (enters_of Try.func36 (by kernel_rfl) rfl) rfl rfl rfl rfl (NInt.join_ct _ _ (by exact a_mem) ⟨_, _, _, rfl⟩ (fun x hx => by simp only [List.mem_cons, List.not_mem_nil, or_false] at hx; rcases hx with rfl | rfl <;> rfl) (by simp only [List.length_cons, List.length_nil]; decide)) (fun k => ?_))
      | (refine on_callG hF (enters_of Try.func37 (by kernel_rfl) rfl) rfl rfl rfl rfl (NInt.until_ct _ _ rfl rfl) (fun k => ?_))
      | (refine on_buildSlice (e := 44) (k := 1) (by_ := 8) (vs := [_, _]) hF rfl rfl rfl rfl rfl rfl (by kernel_rfl) (Cel.one1 rfl (Cel.one1 rfl Cel.nil)) (Nat.le_of_ble_eq_true rfl) (fun b => ?_); refine nx_frzRow Pick.here ?_)
      | (refine on_buildSlice (e := 43) (k := 1) (by_ := 8) (vs := [_, _, _, _, _, _]) hF rfl rfl rfl rfl rfl rfl (by kernel_rfl) (Cel.one1 rfl (Cel.one1 rfl (Cel.one1 rfl (Cel.one1 rfl (Cel.one1 rfl (Cel.one1 rfl Cel.nil)))))) (Nat.le_of_ble_eq_true rfl) (fun b => ?_); refine nx_frzRow Pick.here ?_)
      | ((first | refine on_E hF rfl rfl ?_ | refine od_E rfl rfl ?_ | refine od_R rfl rfl ?_); refine ⟨_, yl_conv_i (S := 5) (T := 3) rfl rfl (by kernel_rfl) (by kernel_rfl) (by omega), ?_⟩)
      | (refine on_buildSlice (T := 58) (e := 43) (k := 1) (by_ := 8) hF rfl rfl rfl rfl rfl rfl (by kernel_rfl) a_cel (Nat.le_of_ble_eq_true rfl) (fun b => ?_))
      | (refine on_buildSlice (T := 131) (e := 44) (k := 1) (by_ := 8) hF rfl rfl rfl rfl rfl rfl (by kernel_rfl) a_cel (Nat.le_of_ble_eq_true rfl) (fun b => ?_))
      | (refine on_alloc hF rfl Try.zeroValue3 rfl rfl (fun B => ?_))
      | (refine on_box hF rfl rfl rfl rfl (fun B => ?_))
      | (refine on_store hF rfl rfl rfl rfl a_turn a_vof (by first | rfl | exact hsz.symm | exact hsz) ?_)
      | (refine on_storeE hF rfl rfl rfl rfl a_turn (by (first | omega | (simp only [List.length_append, List.length_cons, List.length_nil, List.length_map] at *; omega))) a_vof (by first | rfl | exact hsz) ?_)
      | (refine on_storeEF hF rfl rfl rfl rfl a_turn (by first | with_reducible assumption | rfl) (by decide) a_vof rfl ?_)
      | (refine on_storeF hF rfl rfl rfl rfl a_turn (by decide) a_vof rfl ?_)) <;> try (refine hK2 _ _ _ a_allK ?_; clear hK2 K2))) <;> (refine hK _ _ _ ?_; clear hK K))
    | with_reducible refine nx_seq ?_
        | with_reducible refine nx_region ?_
        | with_reducible refine nl_nil ?_
        | with_reducible refine nq_then_n ?_
        | with_reducible refine nx_block ?_
        | with_reducible refine nx_skip ?_
        | with_reducible refine nx_exit ?_
        | with_reducible refine nx_ret ?_
        | with_reducible refine nq_then_x ?_
        | with_reducible refine nq_then_r ?_
        | with_reducible refine nq_blk_n ?_
        | with_reducible refine nq_blk_r ?_
        | with_reducible refine nq_blk_hit ?_
        | with_reducible refine nq_blk_miss rfl ?_
        | with_reducible refine nd_nil ?_
    | refine nx_cond_t rfl ?_ | refine nx_cond_f rfl ?_
    | refine nl_pass hF rfl rfl rfl ?_
    | refine nd_pass rfl rfl rfl rfl rfl ?_
    | refine nd_pass2 rfl rfl rfl (fun c => by exact (fun h => by cases h)) a_allK rfl rfl ?_
    | refine nd_pass3 rfl rfl rfl (fun c => by exact (fun h => by cases h)) rfl rfl ?_
    | (with_reducible refine hQ1 _ _ _ ?_; clear hQ1 Q1)
    )
    rename_i j1 j2 k2 j3 k3 j4 k4 j5 j6 b5 k5
    obtain ⟨B5, rfl⟩ : ∃ B5, B5 = B := ⟨_, rfl⟩
    refine nx_frz (BoxC B5 _ _) Pick.here ?_
    have i0 : ∀ j : SV × Nat, It Try.prog L (NInt.ofV j.2) [BoxC j.2 25 j.1.1, SlC 1 j.1.1 L] := fun j => NInt.of_it j L hL hmx
    have i1 := i0 j1
    have i2 := FIntInt.map_it k2.1 k2.2 _ _ L id _ _ (i0 j2).n (e1_fun L) hL
    have i3 := NInt.keep_it k3.1 k3.2 _ _ L (fun _ => true) _ _ (i0 j3).n (e2_pred L).n hL
    have i4 := NInt.first_it k4.1 k4.2 _ (L.length : Int) L _ (i0 j4).n hL (by omega)
    have i5 := NInt.join_it k5.2 k5.1.1 [NInt.ofV j5.2, NInt.ofV j6.2] [L, []] ([BoxC j5.2 25 j5.1.1, SlC 1 j5.1.1 L] ++ [BoxC j6.2 25 j6.1.1, SlC 1 j6.1.1 []]) k5.1.2 rfl (Nat.le_of_ble_eq_true rfl) (fun i v ys h1 h2 => by
      match i, h1, h2 with
      | 0, h1, h2 => simp at h1 h2; subst h1; subst h2; exact ((i0 j5).mono (fun r hr => List.mem_append.2 (.inl hr))).n
      | 1, h1, h2 => simp at h1 h2; subst h1; subst h2; exact ((NInt.of_it j6 [] hE (by simp [maxLen])).mono (fun r hr => List.mem_append.2 (.inr hr))).n
      | i + 2, h1, h2 => simp at h1) (fun ys hys => by
      simp only [List.mem_cons, List.not_mem_nil, or_false] at hys
      rcases hys with rfl | rfl
      · exact hL
      · exact hE)
    have i6 := NInt.until_it k.1 k.2 _ _ L (fun _ => false) _ _ (i0 j).n (predN_nil (xs := L) (RF := [])) hL
    rw [List.map_id] at i2
    rw [show L.filter (fun _ => true) = L from List.filter_eq_self.2 (fun _ _ => rfl)] at i3
    rw [Int.toNat_natCast, List.take_length] at i4
    rw [show [L, []].flatten = L by simp] at i5
    rw [takeWhile_all L] at i6
    refine nx_gen (l' := [(0, .slice a L.length c), (4, .bool false), (5, ptr B5), (44, .slice (some ⟨b, 0, none⟩) 6 6), (45, .int .i64 6), (46, .int .i64 0)]) (C' := C) (fun R' => ∃ vs, SlC 1 (.slice (some ⟨b, 0, none⟩) 6 6) vs ∈ R' ∧ vs.length = 6 ∧ (∀ v ∈ vs, It Try.prog L v R') ∧ SlC 1 (.slice a L.length c) L ∈ R' ∧ BoxC B5 3 (.int .i64 (1 + st % 6)) ∈ R' ∧ SlC 1 (.slice none 0 0) [] ∈ R' ∧ ∀ r ∈ R, r ∈ R') ⟨[_, _, _, _, _, _], (by exact a_mem), rfl, ?all, (by exact a_mem), (by exact a_mem), (by exact a_mem), (by exact a_subR)⟩ (by exact a_sub) (by exact a_holds) ?rest
    case all =>
      refine List.forall_mem_cons.2 ⟨i1.mono (by exact a_subR), List.forall_mem_cons.2 ⟨i2.mono (by exact a_subR), List.forall_mem_cons.2 ⟨i3.mono (by exact a_subR), List.forall_mem_cons.2 ⟨i4.mono (by exact a_subR), List.forall_mem_cons.2 ⟨i5.mono (by exact a_subR), List.forall_mem_cons.2 ⟨i6.mono (by exact a_subR), fun _ h => by cases h⟩⟩⟩⟩⟩⟩
    case rest =>
      clear i0 i1 i2 i3 i4 i5 i6
      rintro R' ⟨vs, hvs, h6, hit, hsl2, hb, hn, hRR⟩
      have hat : 1 ≤ 1 + st % 6 ∧ 1 + st % 6 ≤ 6 := by omega
      obtain ⟨at_, hate⟩ : ∃ at_, at_ = 1 + st % 6 := ⟨_, rfl⟩
      rw [← hate] at hb hat
      refine nx_loop (ι := { i : Nat // i ≤ 6 }) (fun i => [(0, .slice a L.length c), (4, .bool false), (5, ptr B5), (44, .slice (some ⟨b, 0, none⟩) 6 6), (45, .int .i64 6), (46, .int .i64 (i.1 : Int))]) (fun _ => R') (fun _ => C) (fun i => 6 - i.1) ⟨0, Nat.zero_le _⟩ (by exact a_sub) (by exact a_subR) (by exact a_holds) (fun i => ?_)
      obtain ⟨i, hi⟩ := i
      dsimp only
      by_cases hlt : i < 6
      · have hvi : vs[i]? = some (vs[i]'(by omega)) := by simp
        have hiti := hit _ (List.getElem_mem (by omega : i < vs.length))
        have hvq : VOf Try.prog 43 (vs[i]'(by omega)) := vof_fn (by kernel_rfl) hiti.fn
        repeat' (first
    | ((first | with_reducible refine nl_op rfl ?_ | refine nd_go rfl rfl rfl ?_); intro K hK; (first
      | ((first | refine on_E hF rfl rfl ?_ | refine od_E rfl rfl ?_ | refine od_R rfl rfl ?_); (first
        | refine ⟨_, yl_move rfl rfl, ?_⟩
        | refine ⟨_, yl_assign rfl rfl, ?_⟩
        | refine ⟨_, yl_load rfl rfl a_has a_vof, ?_⟩
        | refine ⟨_, yl_not_t rfl rfl, ?_⟩
        | refine ⟨_, yl_not_f rfl rfl, ?_⟩
        | refine ⟨_, yl_pick_t rfl rfl rfl, ?_⟩
        | refine ⟨_, yl_pick_f rfl rfl rfl, ?_⟩
        | refine ⟨_, yl_extract rfl rfl rfl, ?_⟩
        | refine ⟨_, yl_func rfl rfl, ?_⟩
        | refine ⟨_, yl_nilCheck rfl rfl, ?_⟩
        | refine ⟨_, yl_add rfl rfl rfl (by omega), ?_⟩
        | refine ⟨_, yl_sub rfl rfl rfl (by omega), ?_⟩
        | refine ⟨_, yl_mul rfl rfl rfl (by omega), ?_⟩
        | refine ⟨_, yl_neg rfl rfl (by omega), ?_⟩
        | refine ⟨_, yl_and rfl rfl rfl, ?_⟩
        | refine ⟨_, yl_or rfl rfl rfl, ?_⟩
        | refine ⟨_, yl_xor rfl rfl rfl, ?_⟩
        | refine ⟨_, yl_len_str rfl rfl (by kernel_rfl), ?_⟩
        | refine ⟨_, yl_len_s rfl rfl (by kernel_rfl), ?_⟩
        | refine ⟨_, yl_cmp rfl rfl rfl rfl (by kernel_rfl), ?_⟩
        | refine ⟨_, yl_max rfl rfl rfl, ?_⟩
        | refine ⟨_, yl_min rfl rfl rfl, ?_⟩
        | refine ⟨_, yl_rem rfl rfl rfl (by omega) (by omega), ?_⟩
        | refine ⟨_, yl_load_cell rfl rfl a_has rfl rfl a_vof, ?_⟩
        | refine ⟨_, yl_index rfl rfl rfl a_sl (by kernel_rfl) (by (first | omega | (simp only [List.length_append, List.length_cons, List.length_nil, List.length_map] at *; omega))), ?_⟩
        | refine ⟨_, yl_index_z rfl rfl rfl a_sl (by kernel_rfl) (by (first | omega | (simp only [List.length_append, List.length_cons, List.length_nil, List.length_map] at *; omega))) (by (first | omega | (simp only [List.length_append, List.length_cons, List.length_nil, List.length_map] at *; omega))), ?_⟩
        | refine ⟨_, yl_load_elem rfl rfl a_sl (by first | with_reducible assumption | rfl) a_vof, ?_⟩
        | refine ⟨_, yl_len rfl rfl a_sl (by kernel_rfl), ?_⟩
        | refine ⟨_, yl_load_elemF rfl rfl a_sl (by first | with_reducible assumption | rfl) (by rfl) rfl a_vof, ?_⟩
        | refine ⟨_, yl_indexAddr rfl rfl rfl (fun w => by (first | rfl | (simp only [ptr]; go_simp; all_goals rfl) | (go_simp; all_goals rfl))), ?_⟩))
      | ((first | refine on_Ec hF rfl rfl ?_ | refine od_Ec rfl rfl ?_); (first
        | refine ⟨_, _, _, yc_lss rfl rfl rfl, ?_, ?_⟩
        | refine ⟨_, _, _, yc_eql rfl rfl rfl, ?_, ?_⟩
        | refine ⟨_, _, _, yc_neq rfl rfl rfl, ?_, ?_⟩
        | refine ⟨_, _, _, yc_leq rfl rfl rfl, ?_, ?_⟩
        | refine ⟨_, _, _, yc_gtr rfl rfl rfl, ?_, ?_⟩
        | refine ⟨_, _, _, yc_geq rfl rfl rfl, ?_, ?_⟩
        | refine ⟨_, _, _, yc_eql_str rfl rfl rfl, ?_, ?_⟩
        | refine ⟨_, _, _, yc_neq_str rfl rfl rfl, ?_, ?_⟩) <;> (intro hc; try (exfalso; first | (omega; done) | exact absurd (by with_reducible rfl) hc | (simp at hc; done))))
      | ((first | (refine od_act (fun c => by exact (fun h => by cases h)) ?_; intro K2 hK2) | refine od_last (fun c => by exact (fun h => by cases h)) ?_ | skip); (first
      | (refine on_iter (gy := 38) (lbY := [ptr B, ptr B5]) (E := C) hF hiti rfl rfl rfl rfl rfl (enters_of Try.func38 (by kernel_rfl) rfl) (fun _ h => h) [BoxC B5 3 (.int .i64 at_)] (fun r hr => by rw [List.mem_singleton.1 hr]; exact hb) (fun pre (_ : Unit) => (pre.length : Int) < at_) (fun pre _ => [BoxC B 3 (.int .i64 (pre.length : Int))]) (fun q (_ : Unit) => (q.length : Int) = at_) (fun q _ => [BoxC B 3 (.int .i64 (q.length : Int))]) () (by simp; omega) (List.Perm.refl _) (fun pre x post hx vs hv i hp W0 X R2 E hR2 => e3_round L B5 B at_ (by omega) (by omega) pre x post hx vs hv hp (hR2 _ (by simp))) (fun _ hd => ?_) (fun pre x post hx _ hd => ?_))
      | ((first | refine on_E hF rfl rfl ?_ | refine od_E rfl rfl ?_ | refine od_R rfl rfl ?_); refine ⟨_, yl_conv_i (S := 5) (T := 3) rfl rfl (by kernel_rfl) (by kernel_rfl) (by omega), ?_⟩)
      | (refine on_buildSlice (T := 58) (e := 43) (k := 1) (by_ := 8) hF rfl rfl rfl rfl rfl rfl (by kernel_rfl) a_cel (Nat.le_of_ble_eq_true rfl) (fun b => ?_))
      | (refine on_buildSlice (T := 131) (e := 44) (k := 1) (by_ := 8) hF rfl rfl rfl rfl rfl rfl (by kernel_rfl) a_cel (Nat.le_of_ble_eq_true rfl) (fun b => ?_))
      | (refine on_alloc hF rfl Try.zeroValue3 rfl rfl (fun B => ?_))
      | (refine on_box hF rfl rfl rfl rfl (fun B => ?_))
      | (refine on_store hF rfl rfl rfl rfl a_turn a_vof (by first | rfl | exact hsz.symm | exact hsz) ?_)
      | (refine on_storeE hF rfl rfl rfl rfl a_turn (by (first | omega | (simp only [List.length_append, List.length_cons, List.length_nil, List.length_map] at *; omega))) a_vof (by first | rfl | exact hsz) ?_)
      | (refine on_storeEF hF rfl rfl rfl rfl a_turn (by first | with_reducible assumption | rfl) (by decide) a_vof rfl ?_)
      | (refine on_storeF hF rfl rfl rfl rfl a_turn (by decide) a_vof rfl ?_)) <;> try (refine hK2 _ _ _ a_allK ?_; clear hK2 K2))) <;> (refine hK _ _ _ ?_; clear hK K))
    | with_reducible refine nx_seq ?_
        | with_reducible refine nx_region ?_
        | with_reducible refine nl_nil ?_
        | with_reducible refine nq_then_n ?_
        | with_reducible refine nx_block ?_
        | with_reducible refine nx_skip ?_
        | with_reducible refine nx_exit ?_
        | with_reducible refine nx_ret ?_
        | with_reducible refine nq_then_x ?_
        | with_reducible refine nq_then_r ?_
        | with_reducible refine nq_blk_n ?_
        | with_reducible refine nq_blk_r ?_
        | with_reducible refine nq_blk_hit ?_
        | with_reducible refine nq_blk_miss rfl ?_
        | with_reducible refine nd_nil ?_
    | refine nx_cond_t rfl ?_ | refine nx_cond_f rfl ?_
    | refine nl_pass hF rfl rfl rfl ?_
    | refine nd_pass rfl rfl rfl rfl rfl ?_
    | refine nd_pass2 rfl rfl rfl (fun c => by exact (fun h => by cases h)) a_allK rfl rfl ?_
    | refine nd_pass3 rfl rfl rfl (fun c => by exact (fun h => by cases h)) rfl rfl ?_
    | (with_reducible refine hQ1 _ _ _ ?_; clear hQ1 Q1)
    )
        · have hd2 : (L.length : Int) < at_ := hd
          have hq : min at_ (L.length : Int) = L.length := by omega
          (try simp only [List.cons_append, List.nil_append])
          repeat' (first
    | ((first | with_reducible refine nl_op rfl ?_ | refine nd_go rfl rfl rfl ?_); intro K hK; (first
      | ((first | refine on_E hF rfl rfl ?_ | refine od_E rfl rfl ?_ | refine od_R rfl rfl ?_); (first
        | refine ⟨_, yl_move rfl rfl, ?_⟩
        | refine ⟨_, yl_assign rfl rfl, ?_⟩
        | refine ⟨_, yl_load rfl rfl a_has a_vof, ?_⟩
        | refine ⟨_, yl_not_t rfl rfl, ?_⟩
        | refine ⟨_, yl_not_f rfl rfl, ?_⟩
        | refine ⟨_, yl_pick_t rfl rfl rfl, ?_⟩
        | refine ⟨_, yl_pick_f rfl rfl rfl, ?_⟩
        | refine ⟨_, yl_extract rfl rfl rfl, ?_⟩
        | refine ⟨_, yl_func rfl rfl, ?_⟩
        | refine ⟨_, yl_nilCheck rfl rfl, ?_⟩
        | refine ⟨_, yl_add rfl rfl rfl (by omega), ?_⟩
        | refine ⟨_, yl_sub rfl rfl rfl (by omega), ?_⟩
        | refine ⟨_, yl_mul rfl rfl rfl (by omega), ?_⟩
        | refine ⟨_, yl_neg rfl rfl (by omega), ?_⟩
        | refine ⟨_, yl_and rfl rfl rfl, ?_⟩
        | refine ⟨_, yl_or rfl rfl rfl, ?_⟩
        | refine ⟨_, yl_xor rfl rfl rfl, ?_⟩
        | refine ⟨_, yl_len_str rfl rfl (by kernel_rfl), ?_⟩
        | refine ⟨_, yl_len_s rfl rfl (by kernel_rfl), ?_⟩
        | refine ⟨_, yl_cmp rfl rfl rfl rfl (by kernel_rfl), ?_⟩
        | refine ⟨_, yl_max rfl rfl rfl, ?_⟩
        | refine ⟨_, yl_min rfl rfl rfl, ?_⟩
        | refine ⟨_, yl_rem rfl rfl rfl (by omega) (by omega), ?_⟩
        | refine ⟨_, yl_load_cell rfl rfl a_has rfl rfl a_vof, ?_⟩
        | refine ⟨_, yl_index rfl rfl rfl a_sl (by kernel_rfl) (by (first | omega | (simp only [List.length_append, List.length_cons, List.length_nil, List.length_map] at *; omega))), ?_⟩
        | refine ⟨_, yl_index_z rfl rfl rfl a_sl (by kernel_rfl) (by (first | omega | (simp only [List.length_append, List.length_cons, List.length_nil, List.length_map] at *; omega))) (by (first | omega | (simp only [List.length_append, List.length_cons, List.length_nil, List.length_map] at *; omega))), ?_⟩
        | refine ⟨_, yl_load_elem rfl rfl a_sl (by first | with_reducible assumption | rfl) a_vof, ?_⟩
        | refine ⟨_, yl_len rfl rfl a_sl (by kernel_rfl), ?_⟩
        | refine ⟨_, yl_load_elemF rfl rfl a_sl (by first | with_reducible assumption | rfl) (by rfl) rfl a_vof, ?_⟩
        | refine ⟨_, yl_indexAddr rfl rfl rfl (fun w => by (first | rfl | (simp only [ptr]; go_simp; all_goals rfl) | (go_simp; all_goals rfl))), ?_⟩))
      | ((first | refine on_Ec hF rfl rfl ?_ | refine od_Ec rfl rfl ?_); (first
        | refine ⟨_, _, _, yc_lss rfl rfl rfl, ?_, ?_⟩
        | refine ⟨_, _, _, yc_eql rfl rfl rfl, ?_, ?_⟩
        | refine ⟨_, _, _, yc_neq rfl rfl rfl, ?_, ?_⟩
        | refine ⟨_, _, _, yc_leq rfl rfl rfl, ?_, ?_⟩
        | refine ⟨_, _, _, yc_gtr rfl rfl rfl, ?_, ?_⟩
        | refine ⟨_, _, _, yc_geq rfl rfl rfl, ?_, ?_⟩
        | refine ⟨_, _, _, yc_eql_str rfl rfl rfl, ?_, ?_⟩
        | refine ⟨_, _, _, yc_neq_str rfl rfl rfl, ?_, ?_⟩) <;> (intro hc; try (exfalso; first | (omega; done) | exact absurd (by with_reducible rfl) hc | (simp at hc; done))))
      | ((first | (refine od_act (fun c => by exact (fun h => by cases h)) ?_; intro K2 hK2) | refine od_last (fun c => by exact (fun h => by cases h)) ?_ | skip); (first
      
      | ((first | refine on_E hF rfl rfl ?_ | refine od_E rfl rfl ?_ | refine od_R rfl rfl ?_); refine ⟨_, yl_conv_i (S := 5) (T := 3) rfl rfl (by kernel_rfl) (by kernel_rfl) (by omega), ?_⟩)
      | (refine on_buildSlice (T := 58) (e := 43) (k := 1) (by_ := 8) hF rfl rfl rfl rfl rfl rfl (by kernel_rfl) a_cel (Nat.le_of_ble_eq_true rfl) (fun b => ?_))
      | (refine on_buildSlice (T := 131) (e := 44) (k := 1) (by_ := 8) hF rfl rfl rfl rfl rfl rfl (by kernel_rfl) a_cel (Nat.le_of_ble_eq_true rfl) (fun b => ?_))
      | (refine on_alloc hF rfl Try.zeroValue3 rfl rfl (fun B => ?_))
      | (refine on_box hF rfl rfl rfl rfl (fun B => ?_))
      | (refine on_store hF rfl rfl rfl rfl a_turn a_vof (by first | rfl | exact hsz.symm | exact hsz) ?_)
      | (refine on_storeE hF rfl rfl rfl rfl a_turn (by (first | omega | (simp only [List.length_append, List.length_cons, List.length_nil, List.length_map] at *; omega))) a_vof (by first | rfl | exact hsz) ?_)
      | (refine on_storeEF hF rfl rfl rfl rfl a_turn (by first | with_reducible assumption | rfl) (by decide) a_vof rfl ?_)
      | (refine on_storeF hF rfl rfl rfl rfl a_turn (by decide) a_vof rfl ?_)) <;> try (refine hK2 _ _ _ a_allK ?_; clear hK2 K2))) <;> (refine hK _ _ _ ?_; clear hK K))
    | with_reducible refine nx_seq ?_
        | with_reducible refine nx_region ?_
        | with_reducible refine nl_nil ?_
        | with_reducible refine nq_then_n ?_
        | with_reducible refine nx_block ?_
        | with_reducible refine nx_skip ?_
        | with_reducible refine nx_exit ?_
        | with_reducible refine nx_ret ?_
        | with_reducible refine nq_then_x ?_
        | with_reducible refine nq_then_r ?_
        | with_reducible refine nq_blk_n ?_
        | with_reducible refine nq_blk_r ?_
        | with_reducible refine nq_blk_hit ?_
        | with_reducible refine nq_blk_miss rfl ?_
        | with_reducible refine nd_nil ?_
    | refine nx_cond_t rfl ?_ | refine nx_cond_f rfl ?_
    | refine nl_pass hF rfl rfl rfl ?_
    | refine nd_pass rfl rfl rfl rfl rfl ?_
    | refine nd_pass2 rfl rfl rfl (fun c => by exact (fun h => by cases h)) a_allK rfl rfl ?_
    | refine nd_pass3 rfl rfl rfl (fun c => by exact (fun h => by cases h)) rfl rfl ?_
    | (with_reducible refine hQ1 _ _ _ ?_; clear hQ1 Q1)
    )
          refine nx_again ⟨i + 1, by omega⟩ (by dsimp only; omega) (by exact a_sub) (by exact a_subR) (by exact a_holds)
        · have hlp : pre.length + 1 ≤ L.length := by rw [hx]; simp
          have hq2 : ((pre ++ [x]).length : Int) = pre.length + 1 := by simp
          have hd2 : ((pre ++ [x]).length : Int) = at_ := hd
          have hq : min at_ (L.length : Int) = ((pre ++ [x]).length : Int) := by omega
          (try simp only [List.cons_append, List.nil_append])
          repeat' (first
    | ((first | with_reducible refine nl_op rfl ?_ | refine nd_go rfl rfl rfl ?_); intro K hK; (first
      | ((first | refine on_E hF rfl rfl ?_ | refine od_E rfl rfl ?_ | refine od_R rfl rfl ?_); (first
        | refine ⟨_, yl_move rfl rfl, ?_⟩
        | refine ⟨_, yl_assign rfl rfl, ?_⟩
        | refine ⟨_, yl_load rfl rfl a_has a_vof, ?_⟩
        | refine ⟨_, yl_not_t rfl rfl, ?_⟩
        | refine ⟨_, yl_not_f rfl rfl, ?_⟩
        | refine ⟨_, yl_pick_t rfl rfl rfl, ?_⟩
        | refine ⟨_, yl_pick_f rfl rfl rfl, ?_⟩
        | refine ⟨_, yl_extract rfl rfl rfl, ?_⟩
        | refine ⟨_, yl_func rfl rfl, ?_⟩
        | refine ⟨_, yl_nilCheck rfl rfl, ?_⟩
        | refine ⟨_, yl_add rfl rfl rfl (by omega), ?_⟩
        | refine ⟨_, yl_sub rfl rfl rfl (by omega), ?_⟩
        | refine ⟨_, yl_mul rfl rfl rfl (by omega), ?_⟩
        | refine ⟨_, yl_neg rfl rfl (by omega), ?_⟩
        | refine ⟨_, yl_and rfl rfl rfl, ?_⟩
        | refine ⟨_, yl_or rfl rfl rfl, ?_⟩
        | refine ⟨_, yl_xor rfl rfl rfl, ?_⟩
        | refine ⟨_, yl_len_str rfl rfl (by kernel_rfl), ?_⟩
        | refine ⟨_, yl_len_s rfl rfl (by kernel_rfl), ?_⟩
        | refine ⟨_, yl_cmp rfl rfl rfl rfl (by kernel_rfl), ?_⟩
        | refine ⟨_, yl_max rfl rfl rfl, ?_⟩
        | refine ⟨_, yl_min rfl rfl rfl, ?_⟩
        | refine ⟨_, yl_rem rfl rfl rfl (by omega) (by omega), ?_⟩
        | refine ⟨_, yl_load_cell rfl rfl a_has rfl rfl a_vof, ?_⟩
        | refine ⟨_, yl_index rfl rfl rfl a_sl (by kernel_rfl) (by (first | omega | (simp only [List.length_append, List.length_cons, List.length_nil, List.length_map] at *; omega))), ?_⟩
        | refine ⟨_, yl_index_z rfl rfl rfl a_sl (by kernel_rfl) (by (first | omega | (simp only [List.length_append, List.length_cons, List.length_nil, List.length_map] at *; omega))) (by (first | omega | (simp only [List.length_append, List.length_cons, List.length_nil, List.length_map] at *; omega))), ?_⟩
        | refine ⟨_, yl_load_elem rfl rfl a_sl (by first | with_reducible assumption | rfl) a_vof, ?_⟩
        | refine ⟨_, yl_len rfl rfl a_sl (by kernel_rfl), ?_⟩
        | refine ⟨_, yl_load_elemF rfl rfl a_sl (by first | with_reducible assumption | rfl) (by rfl) rfl a_vof, ?_⟩
        | refine ⟨_, yl_indexAddr rfl rfl rfl (fun w => by (first | rfl | (simp only [ptr]; go_simp; all_goals rfl) | (go_simp; all_goals rfl))), ?_⟩))
      | ((first | refine on_Ec hF rfl rfl ?_ | refine od_Ec rfl rfl ?_); (first
        | refine ⟨_, _, _, yc_lss rfl rfl rfl, ?_, ?_⟩
        | refine ⟨_, _, _, yc_eql rfl rfl rfl, ?_, ?_⟩
        | refine ⟨_, _, _, yc_neq rfl rfl rfl, ?_, ?_⟩
        | refine ⟨_, _, _, yc_leq rfl rfl rfl, ?_, ?_⟩
        | refine ⟨_, _, _, yc_gtr rfl rfl rfl, ?_, ?_⟩
        | refine ⟨_, _, _, yc_geq rfl rfl rfl, ?_, ?_⟩
        | refine ⟨_, _, _, yc_eql_str rfl rfl rfl, ?_, ?_⟩
        | refine ⟨_, _, _, yc_neq_str rfl rfl rfl, ?_, ?_⟩) <;> (intro hc; try (exfalso; first | (omega; done) | exact absurd (by with_reducible rfl) hc | (simp at hc; done))))
      | ((first | (refine od_act (fun c => by exact (fun h => by cases h)) ?_; intro K2 hK2) | refine od_last (fun c => by exact (fun h => by cases h)) ?_ | skip); (first
      
      | ((first | refine on_E hF rfl rfl ?_ | refine od_E rfl rfl ?_ | refine od_R rfl rfl ?_); refine ⟨_, yl_conv_i (S := 5) (T := 3) rfl rfl (by kernel_rfl) (by kernel_rfl) (by omega), ?_⟩)
      | (refine on_buildSlice (T := 58) (e := 43) (k := 1) (by_ := 8) hF rfl rfl rfl rfl rfl rfl (by kernel_rfl) a_cel (Nat.le_of_ble_eq_true rfl) (fun b => ?_))
      | (refine on_buildSlice (T := 131) (e := 44) (k := 1) (by_ := 8) hF rfl rfl rfl rfl rfl rfl (by kernel_rfl) a_cel (Nat.le_of_ble_eq_true rfl) (fun b => ?_))
      | (refine on_alloc hF rfl Try.zeroValue3 rfl rfl (fun B => ?_))
      | (refine on_box hF rfl rfl rfl rfl (fun B => ?_))
      | (refine on_store hF rfl rfl rfl rfl a_turn a_vof (by first | rfl | exact hsz.symm | exact hsz) ?_)
      | (refine on_storeE hF rfl rfl rfl rfl a_turn (by (first | omega | (simp only [List.length_append, List.length_cons, List.length_nil, List.length_map] at *; omega))) a_vof (by first | rfl | exact hsz) ?_)
      | (refine on_storeEF hF rfl rfl rfl rfl a_turn (by first | with_reducible assumption | rfl) (by decide) a_vof rfl ?_)
      | (refine on_storeF hF rfl rfl rfl rfl a_turn (by decide) a_vof rfl ?_)) <;> try (refine hK2 _ _ _ a_allK ?_; clear hK2 K2))) <;> (refine hK _ _ _ ?_; clear hK K))
    | with_reducible refine nx_seq ?_
        | with_reducible refine nx_region ?_
        | with_reducible refine nl_nil ?_
        | with_reducible refine nq_then_n ?_
        | with_reducible refine nx_block ?_
        | with_reducible refine nx_skip ?_
        | with_reducible refine nx_exit ?_
        | with_reducible refine nx_ret ?_
        | with_reducible refine nq_then_x ?_
        | with_reducible refine nq_then_r ?_
        | with_reducible refine nq_blk_n ?_
        | with_reducible refine nq_blk_r ?_
        | with_reducible refine nq_blk_hit ?_
        | with_reducible refine nq_blk_miss rfl ?_
        | with_reducible refine nd_nil ?_
    | refine nx_cond_t rfl ?_ | refine nx_cond_f rfl ?_
    | refine nl_pass hF rfl rfl rfl ?_
    | refine nd_pass rfl rfl rfl rfl rfl ?_
    | refine nd_pass2 rfl rfl rfl (fun c => by exact (fun h => by cases h)) a_allK rfl rfl ?_
    | refine nd_pass3 rfl rfl rfl (fun c => by exact (fun h => by cases h)) rfl rfl ?_
    | (with_reducible refine hQ1 _ _ _ ?_; clear hQ1 Q1)
    )
          refine nx_again ⟨i + 1, by omega⟩ (by dsimp only; omega) (by exact a_sub) (by exact a_subR) (by exact a_holds)
      · clear hit hb
        have k0 : L.filter (fun _ => false) = [] := by simp
        have hk0 : ∀ (k : Nat × Nat) (j : SV × Nat), It Try.prog [] (.func (.func 93) #[] #[ptr k.1, ptr k.2]) (BoxC k.2 41 .nilFunc :: BoxC k.1 44 (NInt.ofV j.2) :: ([BoxC j.2 25 j.1.1, SlC 1 j.1.1 L] ++ [])) := fun k j => k0 ▸ NInt.keep_it k.1 k.2 _ _ L (fun _ => false) _ [] (NInt.of_it j L hL hmx).n predN_nil hL
        have hf0 : ∀ R' : List Ch, Ct Try.prog 39 [.nilFunc, .func (.func 40) #[] #[]] W0 X R' C Unit (fun _ => .tuple #[.int .i64 0, .bool false]) (fun _ => R') (fun _ => C) := fun R' => NInt.find_ct _ _ [] (fun _ => true) [] [] itN_nil e4_pred.n hE (fun _ h => by cases h) (fun _ h => by cases h)
        have hl0 : ∀ R' C' : List Ch, Ct Try.prog 25 [.nilFunc] W0 X R' C' SV (fun v => v.1) (fun _ => R') (fun v => RowC 3 1 v.1 [] :: C') := fun R' C' => NInt.list_ct .nilFunc [] [] itN_nil hE (fun _ h => by cases h) (by decide)
        repeat' (first
    | ((first | with_reducible refine nl_op rfl ?_ | refine nd_go rfl rfl rfl ?_); intro K hK; (first
      | ((first | refine on_E hF rfl rfl ?_ | refine od_E rfl rfl ?_ | refine od_R rfl rfl ?_); (first
        | refine ⟨_, yl_move rfl rfl, ?_⟩
        | refine ⟨_, yl_assign rfl rfl, ?_⟩
        | refine ⟨_, yl_load rfl rfl a_has a_vof, ?_⟩
        | refine ⟨_, yl_not_t rfl rfl, ?_⟩
        | refine ⟨_, yl_not_f rfl rfl, ?_⟩
        | refine ⟨_, yl_pick_t rfl rfl rfl, ?_⟩
        | refine ⟨_, yl_pick_f rfl rfl rfl, ?_⟩
        | refine ⟨_, yl_extract rfl rfl rfl, ?_⟩
        | refine ⟨_, yl_func rfl rfl, ?_⟩
        | refine ⟨_, yl_nilCheck rfl rfl, ?_⟩
        | refine ⟨_, yl_add rfl rfl rfl (by omega), ?_⟩
        | refine ⟨_, yl_sub rfl rfl rfl (by omega), ?_⟩
        | refine ⟨_, yl_mul rfl rfl rfl (by omega), ?_⟩
        | refine ⟨_, yl_neg rfl rfl (by omega), ?_⟩
        | refine ⟨_, yl_and rfl rfl rfl, ?_⟩
        | refine ⟨_, yl_or rfl rfl rfl, ?_⟩
        | refine ⟨_, yl_xor rfl rfl rfl, ?_⟩
        | refine ⟨_, yl_len_str rfl rfl (by kernel_rfl), ?_⟩
        | refine ⟨_, yl_len_s rfl rfl (by kernel_rfl), ?_⟩
        | refine ⟨_, yl_cmp rfl rfl rfl rfl (by kernel_rfl), ?_⟩
        | refine ⟨_, yl_max rfl rfl rfl, ?_⟩
        | refine ⟨_, yl_min rfl rfl rfl, ?_⟩
        | refine ⟨_, yl_rem rfl rfl rfl (by omega) (by omega), ?_⟩
        | refine ⟨_, yl_load_cell rfl rfl a_has rfl rfl a_vof, ?_⟩
        | refine ⟨_, yl_index rfl rfl rfl a_sl (by kernel_rfl) (by (first | omega | (simp only [List.length_append, List.length_cons, List.length_nil, List.length_map] at *; omega))), ?_⟩
        | refine ⟨_, yl_index_z rfl rfl rfl a_sl (by kernel_rfl) (by (first | omega | (simp only [List.length_append, List.length_cons, List.length_nil, List.length_map] at *; omega))) (by (first | omega | (simp only [List.length_append, List.length_cons, List.length_nil, List.length_map] at *; omega))), ?_⟩
        | refine ⟨_, yl_load_elem rfl rfl a_sl (by first | with_reducible assumption | rfl) a_vof, ?_⟩
        | refine ⟨_, yl_len rfl rfl a_sl (by kernel_rfl), ?_⟩
        | refine ⟨_, yl_load_elemF rfl rfl a_sl (by first | with_reducible assumption | rfl) (by rfl) rfl a_vof, ?_⟩
        | refine ⟨_, yl_indexAddr rfl rfl rfl (fun w => by (first | rfl | (simp only [ptr]; go_simp; all_goals rfl) | (go_simp; all_goals rfl))), ?_⟩))
      | ((first | refine on_Ec hF rfl rfl ?_ | refine od_Ec rfl rfl ?_); (first
        | refine ⟨_, _, _, yc_lss rfl rfl rfl, ?_, ?_⟩
        | refine ⟨_, _, _, yc_eql rfl rfl rfl, ?_, ?_⟩
        | refine ⟨_, _, _, yc_neq rfl rfl rfl, ?_, ?_⟩
        | refine ⟨_, _, _, yc_leq rfl rfl rfl, ?_, ?_⟩
        | refine ⟨_, _, _, yc_gtr rfl rfl rfl, ?_, ?_⟩
        | refine ⟨_, _, _, yc_geq rfl rfl rfl, ?_, ?_⟩
        | refine ⟨_, _, _, yc_eql_str rfl rfl rfl, ?_, ?_⟩
        | refine ⟨_, _, _, yc_neq_str rfl rfl rfl, ?_, ?_⟩) <;> (intro hc; try (exfalso; first | (omega; done) | exact absurd (by with_reducible rfl) hc | (simp at hc; done))))
      | ((first | (refine od_act (fun c => by exact (fun h => by cases h)) ?_; intro K2 hK2) | refine od_last (fun c => by exact (fun h => by cases h)) ?_ | skip); (first
      | (refine on_callG hF (enters_of Try.func39 (by kernel_rfl) rfl) rfl rfl rfl rfl (hf0 _) (fun _ => ?_))
          | (refine on_callG hF (enters_of Try.func25 (by kernel_rfl) rfl) rfl rfl rfl rfl (hl0 _ _) (fun r => ?_))
          | (refine on_callG hF (enters_of Try.func27 (by kernel_rfl) rfl) rfl rfl rfl rfl (NInt.of_ct (.slice a L.length c) L (by exact a_mem) ⟨_, _, _, rfl⟩ hL hm8) (fun j => ?_))
          | (refine on_callG hF (enters_of Try.func32 (by kernel_rfl) rfl) rfl rfl rfl rfl (FIntInt.map_ct _ _ rfl rfl) (fun k => ?_))
          | (refine on_callG hF (enters_of Try.func26 (by kernel_rfl) rfl) rfl rfl rfl rfl (NInt.keep_ct _ _ rfl rfl) (fun k => ?_))
          | (refine on_callG hF (enters_of Try.func25 (by kernel_rfl) rfl) rfl rfl rfl rfl (NInt.list_ct _ [] _ (FIntInt.map_it0 k.1 k.2 _ []).n hE (by exact a_subR) (by decide)) (fun r => ?_))
          | (refine on_callG hF (enters_of Try.func25 (by kernel_rfl) rfl) rfl rfl rfl rfl (NInt.list_ct _ [] _ (hk0 k j).n hE (by exact a_subR) (by decide)) (fun r => ?_))
          | (refine on_callG hF (enters_of Try.func41 (by kernel_rfl) rfl) rfl rfl rfl rfl (FIntInt.fold0_ct _ _ (vof_i 7)) (fun _ => ?_))
      | ((first | refine on_E hF rfl rfl ?_ | refine od_E rfl rfl ?_ | refine od_R rfl rfl ?_); refine ⟨_, yl_conv_i (S := 5) (T := 3) rfl rfl (by kernel_rfl) (by kernel_rfl) (by omega), ?_⟩)
      | (refine on_buildSlice (T := 58) (e := 43) (k := 1) (by_ := 8) hF rfl rfl rfl rfl rfl rfl (by kernel_rfl) a_cel (Nat.le_of_ble_eq_true rfl) (fun b => ?_))
      | (refine on_buildSlice (T := 131) (e := 44) (k := 1) (by_ := 8) hF rfl rfl rfl rfl rfl rfl (by kernel_rfl) a_cel (Nat.le_of_ble_eq_true rfl) (fun b => ?_))
      | (refine on_alloc hF rfl Try.zeroValue3 rfl rfl (fun B => ?_))
      | (refine on_box hF rfl rfl rfl rfl (fun B => ?_))
      | (refine on_store hF rfl rfl rfl rfl a_turn a_vof (by first | rfl | exact hsz.symm | exact hsz) ?_)
      | (refine on_storeE hF rfl rfl rfl rfl a_turn (by (first | omega | (simp only [List.length_append, List.length_cons, List.length_nil, List.length_map] at *; omega))) a_vof (by first | rfl | exact hsz) ?_)
      | (refine on_storeEF hF rfl rfl rfl rfl a_turn (by first | with_reducible assumption | rfl) (by decide) a_vof rfl ?_)
      | (refine on_storeF hF rfl rfl rfl rfl a_turn (by decide) a_vof rfl ?_)) <;> try (refine hK2 _ _ _ a_allK ?_; clear hK2 K2))) <;> (refine hK _ _ _ ?_; clear hK K))
    | with_reducible refine nx_seq ?_
        | with_reducible refine nx_region ?_
        | with_reducible refine nl_nil ?_
        | with_reducible refine nq_then_n ?_
        | with_reducible refine nx_block ?_
        | with_reducible refine nx_skip ?_
        | with_reducible refine nx_exit ?_
        | with_reducible refine nx_ret ?_
        | with_reducible refine nq_then_x ?_
        | with_reducible refine nq_then_r ?_
        | with_reducible refine nq_blk_n ?_
        | with_reducible refine nq_blk_r ?_
        | with_reducible refine nq_blk_hit ?_
        | with_reducible refine nq_blk_miss rfl ?_
        | with_reducible refine nd_nil ?_
    | refine nx_cond_t rfl ?_ | refine nx_cond_f rfl ?_
    | refine nl_pass hF rfl rfl rfl ?_
    | refine nd_pass rfl rfl rfl rfl rfl ?_
    | refine nd_pass2 rfl rfl rfl (fun c => by exact (fun h => by cases h)) a_allK rfl rfl ?_
    | refine nd_pass3 rfl rfl rfl (fun c => by exact (fun h => by cases h)) rfl rfl ?_
    | (with_reducible refine hQ1 _ _ _ ?_; clear hQ1 Q1)
    )
        refine nx_end [] rfl () (fun a w ha hw => res_tmp Try.results8 rfl ha) (by exact a_subR) (by exact a_holds2)
end Law05
end Go.Proofs.Ytigbglagfbbmjaa
