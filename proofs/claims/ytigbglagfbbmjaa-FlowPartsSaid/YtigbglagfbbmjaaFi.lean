/- The contract of breviarylaw05.FlowParts. Condition: a list of int's values, and what a byte holds. -/
import Derived.Test.YtigbglagfbbmjaaFh
import Derived.Test.YtigbglagfbbmjaaFgInt
import Derived.Test.YtigbglagfbbmjaaFfIntsInts
import Derived.Test.YtigbglagfbbmjaaSame05
namespace Go.Proofs.Ytigbglagfbbmjaa
open Go.RowKit Go.Shelf
set_option linter.unusedSimpArgs false
set_option linter.unusedVariables false
namespace Law05
variable {W0 : World} {X : Nat → Prop} {R C : List Ch}
def bitIs (b : Int) : Value → Bool
  | .int _ i => decide (bits .and .i64 i 1 = b)
  | _ => false
theorem bits_and1 (i : Int) : bits .and .i64 i 1 = 0 ∨ bits .and .i64 i 1 = 1 := by
  have h : (BitVec.ofInt 64 i &&& BitVec.ofInt 64 1).toNat = (BitVec.ofInt 64 i).toNat % 2 := by
    rw [BitVec.toNat_and, show (BitVec.ofInt 64 1).toNat = 1 from rfl, Nat.and_one_is_mod]
  have h2 := Nat.mod_two_eq_zero_or_one (BitVec.ofInt 64 i).toNat
  unfold bits
  show IntKind.wrap .i64 ((BitVec.ofInt 64 i &&& BitVec.ofInt 64 1).toNat : Int) = 0 ∨ IntKind.wrap .i64 ((BitVec.ofInt 64 i &&& BitVec.ofInt 64 1).toNat : Int) = 1
  rw [h]
  rcases h2 with h2 | h2 <;> rw [h2]
  · exact .inl (by decide)
  · exact .inr (by decide)
theorem parts_len (xs : List Int) : ((xs.map (Value.int .i64)).filter (bitIs 1)).length + ((xs.map (Value.int .i64)).filter (bitIs 0)).length = xs.length := by
  induction xs with
  | nil => rfl
  | cons x xs ih =>
    simp only [List.map_cons, List.filter_cons, List.length_cons, bitIs] at ih ⊢
    rcases bits_and1 x with h | h <;> simp [h] <;> omega
set_option maxRecDepth 100000 in
theorem parts1_ct (i : Int) : Ct Try.prog 23 [.int .i64 i] W0 X R C Unit (fun _ => .bool (bitIs 1 (.int .i64 i))) (fun _ => R) (fun _ => C) := by
  intro w hw
  have hF := isWide_wide
  simp only [bitIs]
  refine calls_nx Try.func23 rfl Try.ntmps23 rfl ?_ hw
  repeat' (first
    | ((first | with_reducible refine nl_op rfl ?_ | refine nd_go rfl rfl rfl ?_); intro K hK; (first
      | ((first | refine on_E hF rfl rfl ?_ | refine od_E rfl rfl ?_ | refine od_R rfl rfl ?_); (first
        | refine ⟨_, yl_move rfl rfl, ?_⟩
        | refine ⟨_, yl_assign rfl rfl, ?_⟩
        | refine ⟨_, yl_load rfl rfl a_has a_vof, ?_⟩
        | refine ⟨_, yl_fieldAddr rfl rfl (fun w => by (first | rfl | (simp only [ptr]; go_simp; all_goals rfl) | (go_simp; all_goals rfl))), ?_⟩
        | refine ⟨_, yl_not_t rfl rfl, ?_⟩
        | refine ⟨_, yl_not_f rfl rfl, ?_⟩
        | refine ⟨_, yl_pick_t rfl rfl rfl, ?_⟩
        | refine ⟨_, yl_pick_f rfl rfl rfl, ?_⟩
        | refine ⟨_, yl_extract rfl rfl rfl, ?_⟩
        | refine ⟨_, yl_func rfl rfl, ?_⟩
        | refine ⟨_, yl_nilCheck rfl rfl, ?_⟩
        | refine ⟨_, yl_add rfl rfl rfl (by omega), ?_⟩
        | refine ⟨_, yl_sub rfl rfl rfl (by omega), ?_⟩
        | refine ⟨_, yl_mul rfl rfl rfl (by omega), ?_⟩
        | refine ⟨_, yl_neg rfl rfl (by omega), ?_⟩
        | refine ⟨_, yl_and rfl rfl rfl, ?_⟩
        | refine ⟨_, yl_or rfl rfl rfl, ?_⟩
        | refine ⟨_, yl_xor rfl rfl rfl, ?_⟩
        | refine ⟨_, yl_conv_i rfl rfl (by kernel_rfl) (by kernel_rfl) (by omega), ?_⟩
        | refine ⟨_, yl_conv rfl rfl (fun w => by (first | rfl | (simp only [ptr]; go_simp; all_goals rfl) | (go_simp; all_goals rfl))), ?_⟩
        | refine ⟨_, yl_len_str rfl rfl (by kernel_rfl), ?_⟩
        | refine ⟨_, yl_len_s rfl rfl (by kernel_rfl), ?_⟩
        | refine ⟨_, yl_cmp rfl rfl rfl rfl (by kernel_rfl), ?_⟩
        | refine ⟨_, yl_load_cell rfl rfl a_has rfl rfl a_vof, ?_⟩
        | refine ⟨_, yl_index rfl rfl rfl a_sl (by kernel_rfl) (by (first | omega | (simp only [List.length_append, List.length_cons, List.length_nil, List.length_map] at *; omega))), ?_⟩
        | refine ⟨_, yl_index_z rfl rfl rfl a_sl (by kernel_rfl) (by (first | omega | (simp only [List.length_append, List.length_cons, List.length_nil, List.length_map] at *; omega))) (by (first | omega | (simp only [List.length_append, List.length_cons, List.length_nil, List.length_map] at *; omega))), ?_⟩
        | refine ⟨_, yl_load_elem rfl rfl a_sl (by first | with_reducible assumption | rfl) a_vof, ?_⟩
        | refine ⟨_, yl_len rfl rfl a_sl (by kernel_rfl), ?_⟩
        | refine ⟨_, yl_indexAddr rfl rfl rfl (fun w => by (first | rfl | (simp only [ptr]; go_simp; all_goals rfl) | (go_simp; all_goals rfl))), ?_⟩))
      | ((first | refine on_Ec hF rfl rfl ?_ | refine od_Ec rfl rfl ?_); (first
        | refine ⟨_, _, _, yc_lss rfl rfl rfl, ?_, ?_⟩
        | refine ⟨_, _, _, yc_eql rfl rfl rfl, ?_, ?_⟩
        | refine ⟨_, _, _, yc_neq rfl rfl rfl, ?_, ?_⟩
        | refine ⟨_, _, _, yc_leq rfl rfl rfl, ?_, ?_⟩
        | refine ⟨_, _, _, yc_gtr rfl rfl rfl, ?_, ?_⟩
        | refine ⟨_, _, _, yc_geq rfl rfl rfl, ?_, ?_⟩
        | refine ⟨_, _, _, yc_eql_str rfl rfl rfl, ?_, ?_⟩
        | refine ⟨_, _, _, yc_neq_str rfl rfl rfl, ?_, ?_⟩) <;> (intro hc; try (exfalso; first | (omega; done) | exact absurd (by with_reducible rfl) hc | (simp at hc; done))))
      | ((first | (refine od_act (fun c => by exact (fun h => by cases h)) ?_; intro K2 hK2) | refine od_last (fun c => by exact (fun h => by cases h)) ?_ | skip); (first
      
      
      | (refine on_box hF rfl rfl rfl rfl (fun B => ?_))
      | (refine on_store hF rfl rfl rfl rfl a_turn a_vof (by first | rfl | exact hsz.symm | exact hsz) ?_)) <;> try (refine hK2 _ _ _ a_allK ?_; clear hK2 K2))) <;> (refine hK _ _ _ ?_; clear hK K))
    | with_reducible refine nx_seq ?_
        | with_reducible refine nx_region ?_
        | with_reducible refine nl_nil ?_
        | with_reducible refine nq_then_n ?_
        | with_reducible refine nx_block ?_
        | with_reducible refine nx_skip ?_
        | with_reducible refine nx_exit ?_
        | with_reducible refine nx_ret ?_
        | with_reducible refine nq_then_x ?_
        | with_reducible refine nq_then_r ?_
        | with_reducible refine nq_blk_n ?_
        | with_reducible refine nq_blk_r ?_
        | with_reducible refine nq_blk_hit ?_
        | with_reducible refine nq_blk_miss rfl ?_
        | with_reducible refine nd_nil ?_
    | refine nx_cond_t rfl ?_ | refine nx_cond_f rfl ?_
    | refine nl_pass hF rfl rfl rfl ?_
    | refine nd_pass rfl rfl rfl rfl rfl ?_
    | refine nd_pass2 rfl rfl rfl (fun c => by exact (fun h => by cases h)) a_allK rfl rfl ?_
    | refine nd_pass3 rfl rfl rfl (fun c => by exact (fun h => by cases h)) rfl rfl ?_
    | (with_reducible refine hQ1 _ _ _ ?_; clear hQ1 Q1)
    )
  · rw [decide_eq_true hc]
    refine nx_end [] rfl () (fun a w ha hw => res_tmp Try.results23 rfl ha) (by exact a_subR) (by exact a_holds2)
  · rw [decide_eq_false hc]
    refine nx_end [] rfl () (fun a w ha hw => res_tmp Try.results23 rfl ha) (by exact a_subR) (by exact a_holds2)
set_option maxRecDepth 100000 in
theorem parts2_ct (i : Int) : Ct Try.prog 24 [.int .i64 i] W0 X R C Unit (fun _ => .bool (bitIs 0 (.int .i64 i))) (fun _ => R) (fun _ => C) := by
  intro w hw
  have hF := isWide_wide
  simp only [bitIs]
  refine calls_nx Try.func24 rfl Try.ntmps24 rfl ?_ hw
  repeat' (first
    | ((first | with_reducible refine nl_op rfl ?_ | refine nd_go rfl rfl rfl ?_); intro K hK; (first
      | ((first | refine on_E hF rfl rfl ?_ | refine od_E rfl rfl ?_ | refine od_R rfl rfl ?_); (first
        | refine ⟨_, yl_move rfl rfl, ?_⟩
        | refine ⟨_, yl_assign rfl rfl, ?_⟩
        | refine ⟨_, yl_load rfl rfl a_has a_vof, ?_⟩
        | refine ⟨_, yl_fieldAddr rfl rfl (fun w => by (first | rfl | (simp only [ptr]; go_simp; all_goals rfl) | (go_simp; all_goals rfl))), ?_⟩
        | refine ⟨_, yl_not_t rfl rfl, ?_⟩
        | refine ⟨_, yl_not_f rfl rfl, ?_⟩
        | refine ⟨_, yl_pick_t rfl rfl rfl, ?_⟩
        | refine ⟨_, yl_pick_f rfl rfl rfl, ?_⟩
        | refine ⟨_, yl_extract rfl rfl rfl, ?_⟩
        | refine ⟨_, yl_func rfl rfl, ?_⟩
        | refine ⟨_, yl_nilCheck rfl rfl, ?_⟩
        | refine ⟨_, yl_add rfl rfl rfl (by omega), ?_⟩
        | refine ⟨_, yl_sub rfl rfl rfl (by omega), ?_⟩
        | refine ⟨_, yl_mul rfl rfl rfl (by omega), ?_⟩
        | refine ⟨_, yl_neg rfl rfl (by omega), ?_⟩
        | refine ⟨_, yl_and rfl rfl rfl, ?_⟩
        | refine ⟨_, yl_or rfl rfl rfl, ?_⟩
        | refine ⟨_, yl_xor rfl rfl rfl, ?_⟩
        | refine ⟨_, yl_conv_i rfl rfl (by kernel_rfl) (by kernel_rfl) (by omega), ?_⟩
        | refine ⟨_, yl_conv rfl rfl (fun w => by (first | rfl | (simp only [ptr]; go_simp; all_goals rfl) | (go_simp; all_goals rfl))), ?_⟩
        | refine ⟨_, yl_len_str rfl rfl (by kernel_rfl), ?_⟩
        | refine ⟨_, yl_len_s rfl rfl (by kernel_rfl), ?_⟩
        | refine ⟨_, yl_cmp rfl rfl rfl rfl (by kernel_rfl), ?_⟩
        | refine ⟨_, yl_load_cell rfl rfl a_has rfl rfl a_vof, ?_⟩
        | refine ⟨_, yl_index rfl rfl rfl a_sl (by kernel_rfl) (by (first | omega | (simp only [List.length_append, List.length_cons, List.length_nil, List.length_map] at *; omega))), ?_⟩
        | refine ⟨_, yl_index_z rfl rfl rfl a_sl (by kernel_rfl) (by (first | omega | (simp only [List.length_append, List.length_cons, List.length_nil, List.length_map] at *; omega))) (by (first | omega | (simp only [List.length_append, List.length_cons, List.length_nil, List.length_map] at *; omega))), ?_⟩
        | refine ⟨_, yl_load_elem rfl rfl a_sl (by first | with_reducible assumption | rfl) a_vof, ?_⟩
        | refine ⟨_, yl_len rfl rfl a_sl (by kernel_rfl), ?_⟩
        | refine ⟨_, yl_indexAddr rfl rfl rfl (fun w => by (first | rfl | (simp only [ptr]; go_simp; all_goals rfl) | (go_simp; all_goals rfl))), ?_⟩))
      | ((first | refine on_Ec hF rfl rfl ?_ | refine od_Ec rfl rfl ?_); (first
        | refine ⟨_, _, _, yc_lss rfl rfl rfl, ?_, ?_⟩
        | refine ⟨_, _, _, yc_eql rfl rfl rfl, ?_, ?_⟩
        | refine ⟨_, _, _, yc_neq rfl rfl rfl, ?_, ?_⟩
        | refine ⟨_, _, _, yc_leq rfl rfl rfl, ?_, ?_⟩
        | refine ⟨_, _, _, yc_gtr rfl rfl rfl, ?_, ?_⟩
        | refine ⟨_, _, _, yc_geq rfl rfl rfl, ?_, ?_⟩
        | refine ⟨_, _, _, yc_eql_str rfl rfl rfl, ?_, ?_⟩
        | refine ⟨_, _, _, yc_neq_str rfl rfl rfl, ?_, ?_⟩) <;> (intro hc; try (exfalso; first | (omega; done) | exact absurd (by with_reducible rfl) hc | (simp at hc; done))))
      | ((first | (refine od_act (fun c => by exact (fun h => by cases h)) ?_; intro K2 hK2) | refine od_last (fun c => by exact (fun h => by cases h)) ?_ | skip); (first
      
      
      | (refine on_box hF rfl rfl rfl rfl (fun B => ?_))
      | (refine on_store hF rfl rfl rfl rfl a_turn a_vof (by first | rfl | exact hsz.symm | exact hsz) ?_)) <;> try (refine hK2 _ _ _ a_allK ?_; clear hK2 K2))) <;> (refine hK _ _ _ ?_; clear hK K))
    | with_reducible refine nx_seq ?_
        | with_reducible refine nx_region ?_
        | with_reducible refine nl_nil ?_
        | with_reducible refine nq_then_n ?_
        | with_reducible refine nx_block ?_
        | with_reducible refine nx_skip ?_
        | with_reducible refine nx_exit ?_
        | with_reducible refine nx_ret ?_
        | with_reducible refine nq_then_x ?_
        | with_reducible refine nq_then_r ?_
        | with_reducible refine nq_blk_n ?_
        | with_reducible refine nq_blk_r ?_
        | with_reducible refine nq_blk_hit ?_
        | with_reducible refine nq_blk_miss rfl ?_
        | with_reducible refine nd_nil ?_
    | refine nx_cond_t rfl ?_ | refine nx_cond_f rfl ?_
    | refine nl_pass hF rfl rfl rfl ?_
    | refine nd_pass rfl rfl rfl rfl rfl ?_
    | refine nd_pass2 rfl rfl rfl (fun c => by exact (fun h => by cases h)) a_allK rfl rfl ?_
    | refine nd_pass3 rfl rfl rfl (fun c => by exact (fun h => by cases h)) rfl rfl ?_
    | (with_reducible refine hQ1 _ _ _ ?_; clear hQ1 Q1)
    )
  · rw [decide_eq_true hc]
    refine nx_end [] rfl () (fun a w ha hw => res_tmp Try.results24 rfl ha) (by exact a_subR) (by exact a_holds2)
  · rw [decide_eq_false hc]
    refine nx_end [] rfl () (fun a w ha hw => res_tmp Try.results24 rfl ha) (by exact a_subR) (by exact a_holds2)
theorem parts1_pred (xs : List Int) : PredS Try.prog (xs.map (Value.int .i64)) (bitIs 1) (.func (.func 23) #[] #[]) [] := ⟨23, [], rfl, (enters_of Try.func23 (by kernel_rfl) rfl), fun W0 X R C _ x hx => by
  obtain ⟨i, _, rfl⟩ := List.mem_map.1 hx; exact parts1_ct i⟩
theorem parts2_pred (xs : List Int) : PredS Try.prog (xs.map (Value.int .i64)) (bitIs 0) (.func (.func 24) #[] #[]) [] := ⟨24, [], rfl, (enters_of Try.func24 (by kernel_rfl) rfl), fun W0 X R C _ x hx => by
  obtain ⟨i, _, rfl⟩ := List.mem_map.1 hx; exact parts2_ct i⟩
set_option maxRecDepth 100000 in
theorem parts3_ct (u v : Value) (hu : IsSl u) (hv : IsSl v) (xs ys : List Value) (hys : ∀ y ∈ ys, VOf Try.prog 3 y) (hm : xs.length + ys.length ≤ 1000) :
    Ct Try.prog 30 [u, v] W0 X R (RowC 3 1 v ys :: RowC 3 1 u xs :: C) SV (fun v => v.1) (fun _ => R) (fun v2 => RowC 3 1 v2.1 (xs ++ ys) :: C) := by
  intro w hw
  have hF := isWide_wide
  have hc : Cel 1 ys := Cel.of hys (by kernel_rfl)
  have hm1 : xs.length + ys.length ≤ maxLen := by unfold maxLen; omega
  have hm2 : (xs.length + ys.length) * 8 ≤ 140737488355328 := by omega
  obtain ⟨a, i, c, rfl⟩ := hu
  obtain ⟨a', i', c', rfl⟩ := hv
  refine calls_nx Try.func30 rfl Try.ntmps30 rfl ?_ hw
  repeat' (first
    | ((first | with_reducible refine nl_op rfl ?_ | refine nd_go rfl rfl rfl ?_); intro K hK; (first
      | ((first | refine on_E hF rfl rfl ?_ | refine od_E rfl rfl ?_ | refine od_R rfl rfl ?_); (first
        | refine ⟨_, yl_move rfl rfl, ?_⟩
        | refine ⟨_, yl_assign rfl rfl, ?_⟩
        | refine ⟨_, yl_load rfl rfl a_has a_vof, ?_⟩
        | refine ⟨_, yl_fieldAddr rfl rfl (fun w => by (first | rfl | (simp only [ptr]; go_simp; all_goals rfl) | (go_simp; all_goals rfl))), ?_⟩
        | refine ⟨_, yl_not_t rfl rfl, ?_⟩
        | refine ⟨_, yl_not_f rfl rfl, ?_⟩
        | refine ⟨_, yl_pick_t rfl rfl rfl, ?_⟩
        | refine ⟨_, yl_pick_f rfl rfl rfl, ?_⟩
        | refine ⟨_, yl_extract rfl rfl rfl, ?_⟩
        | refine ⟨_, yl_func rfl rfl, ?_⟩
        | refine ⟨_, yl_nilCheck rfl rfl, ?_⟩
        | refine ⟨_, yl_add rfl rfl rfl (by omega), ?_⟩
        | refine ⟨_, yl_sub rfl rfl rfl (by omega), ?_⟩
        | refine ⟨_, yl_mul rfl rfl rfl (by omega), ?_⟩
        | refine ⟨_, yl_neg rfl rfl (by omega), ?_⟩
        | refine ⟨_, yl_and rfl rfl rfl, ?_⟩
        | refine ⟨_, yl_or rfl rfl rfl, ?_⟩
        | refine ⟨_, yl_xor rfl rfl rfl, ?_⟩
        | refine ⟨_, yl_conv_i rfl rfl (by kernel_rfl) (by kernel_rfl) (by omega), ?_⟩
        | refine ⟨_, yl_conv rfl rfl (fun w => by (first | rfl | (simp only [ptr]; go_simp; all_goals rfl) | (go_simp; all_goals rfl))), ?_⟩
        | refine ⟨_, yl_len_str rfl rfl (by kernel_rfl), ?_⟩
        | refine ⟨_, yl_len_s rfl rfl (by kernel_rfl), ?_⟩
        | refine ⟨_, yl_cmp rfl rfl rfl rfl (by kernel_rfl), ?_⟩
        | refine ⟨_, yl_load_cell rfl rfl a_has rfl rfl a_vof, ?_⟩
        | refine ⟨_, yl_index rfl rfl rfl a_sl (by kernel_rfl) (by (first | omega | (simp only [List.length_append, List.length_cons, List.length_nil, List.length_map] at *; omega))), ?_⟩
        | refine ⟨_, yl_index_z rfl rfl rfl a_sl (by kernel_rfl) (by (first | omega | (simp only [List.length_append, List.length_cons, List.length_nil, List.length_map] at *; omega))) (by (first | omega | (simp only [List.length_append, List.length_cons, List.length_nil, List.length_map] at *; omega))), ?_⟩
        | refine ⟨_, yl_load_elem rfl rfl a_sl (by first | with_reducible assumption | rfl) a_vof, ?_⟩
        | refine ⟨_, yl_len rfl rfl a_sl (by kernel_rfl), ?_⟩
        | refine ⟨_, yl_indexAddr rfl rfl rfl (fun w => by (first | rfl | (simp only [ptr]; go_simp; all_goals rfl) | (go_simp; all_goals rfl))), ?_⟩))
      | ((first | refine on_Ec hF rfl rfl ?_ | refine od_Ec rfl rfl ?_); (first
        | refine ⟨_, _, _, yc_lss rfl rfl rfl, ?_, ?_⟩
        | refine ⟨_, _, _, yc_eql rfl rfl rfl, ?_, ?_⟩
        | refine ⟨_, _, _, yc_neq rfl rfl rfl, ?_, ?_⟩
        | refine ⟨_, _, _, yc_leq rfl rfl rfl, ?_, ?_⟩
        | refine ⟨_, _, _, yc_gtr rfl rfl rfl, ?_, ?_⟩
        | refine ⟨_, _, _, yc_geq rfl rfl rfl, ?_, ?_⟩
        | refine ⟨_, _, _, yc_eql_str rfl rfl rfl, ?_, ?_⟩
        | refine ⟨_, _, _, yc_neq_str rfl rfl rfl, ?_, ?_⟩) <;> (intro hc; try (exfalso; first | (omega; done) | exact absurd (by with_reducible rfl) hc | (simp at hc; done))))
      | ((first | (refine od_act (fun c => by exact (fun h => by cases h)) ?_; intro K2 hK2) | refine od_last (fun c => by exact (fun h => by cases h)) ?_ | skip); (first
      | (refine on_append (e := 3) (k := 1) (by_ := 8) (xs := xs) (ys := ys) hF rfl rfl rfl rfl rfl (by exact a_pick) (by kernel_rfl) (by exact a_sl) hc hm1 hm2 (fun v2 => ?_))
      
      | (refine on_box hF rfl rfl rfl rfl (fun B => ?_))
      | (refine on_store hF rfl rfl rfl rfl a_turn a_vof (by first | rfl | exact hsz.symm | exact hsz) ?_)) <;> try (refine hK2 _ _ _ a_allK ?_; clear hK2 K2))) <;> (refine hK _ _ _ ?_; clear hK K))
    | with_reducible refine nx_seq ?_
        | with_reducible refine nx_region ?_
        | with_reducible refine nl_nil ?_
        | with_reducible refine nq_then_n ?_
        | with_reducible refine nx_block ?_
        | with_reducible refine nx_skip ?_
        | with_reducible refine nx_exit ?_
        | with_reducible refine nx_ret ?_
        | with_reducible refine nq_then_x ?_
        | with_reducible refine nq_then_r ?_
        | with_reducible refine nq_blk_n ?_
        | with_reducible refine nq_blk_r ?_
        | with_reducible refine nq_blk_hit ?_
        | with_reducible refine nq_blk_miss rfl ?_
        | with_reducible refine nd_nil ?_
    | refine nx_cond_t rfl ?_ | refine nx_cond_f rfl ?_
    | refine nl_pass hF rfl rfl rfl ?_
    | refine nd_pass rfl rfl rfl rfl rfl ?_
    | refine nd_pass2 rfl rfl rfl (fun c => by exact (fun h => by cases h)) a_allK rfl rfl ?_
    | refine nd_pass3 rfl rfl rfl (fun c => by exact (fun h => by cases h)) rfl rfl ?_
    | (with_reducible refine hQ1 _ _ _ ?_; clear hQ1 Q1)
    )
  refine nx_end [] rfl v2 (fun a w ha hw => res_tmp Try.results30 rfl ha) (by exact a_subR) (by exact a_holds2)
theorem vofs (xs : List Int) : ∀ x ∈ xs.map (Value.int .i64), VOf Try.prog 3 x := fun x hx => by obtain ⟨i, _, rfl⟩ := List.mem_map.1 hx; exact vof_i i
set_option maxRecDepth 100000 in
set_option maxHeartbeats 1000000 in
theorem joined_ct (s : Value) (n : Nat) (h0 : 0 < n) (L : List Value) (hL : ∀ x ∈ L, VOf Try.prog 3 x) (hlen : L.length ≤ 1000) (RS : List Ch) (hs : ItS Try.prog NInt.runV NInt.runD (fun _ => []) (chunks n L) s RS) (hR1 : ∀ r ∈ RS, r ∈ R) (u : SV) :
    Ct Try.prog 28 [s, u.1, .func (.func 30) #[] #[]] W0 X R (RowC 3 1 u.1 [] :: C) SV (fun v => v.1) (fun _ => R) (fun v => RowC 3 1 v.1 L :: C) := by
  have h := FIntsInts.fold_ct (W0 := W0) (X := X) (R := R) (C := C) (ι := SV) NInt.runV NInt.runD (chunks n L) s RS hs hR1 (fun x vs ⟨v, _, h⟩ => ⟨v, h⟩) (fun x hx v ⟨v', h1, h2⟩ => by injection h2 with h2 _; rw [h2]; exact vof_slice (by kernel_rfl) h1) 30 [] (enters_of Try.func30 (by kernel_rfl) rfl) (fun pre i => True) (fun pre i => [RowC 3 1 i.1 pre.flatten]) (fun i => i.1) (fun i => vof_slice (by kernel_rfl) i.2) (fun i => by obtain ⟨_, _, _, _, rfl⟩ := i; rfl) u trivial ?_
  · intro w hw
    refine (h w hw).mono fun e w' ⟨i, h1, h2⟩ => ⟨i.1, h1, ?_⟩
    rwa [chunks_flatten h0] at h2
  · rintro pre x post hx vs ⟨v, hv, rfl⟩ i _ W0 X R' E hR
    have hx' : x ∈ chunks n L := by rw [hx]; simp
    obtain ⟨_, _, hxm⟩ := chunks_mem L x hx'
    have hlen2 : pre.flatten.length + x.length ≤ 1000 := by
      have := congrArg List.flatten hx
      rw [chunks_flatten h0] at this
      have h3 := congrArg List.length this
      simp only [List.flatten_append, List.flatten_cons, List.length_append] at h3
      omega
    intro w hw
    refine (parts3_ct (C := E) i.1 v i.2 hv pre.flatten x (fun y hy => hL y (hxm y hy)) hlen2 w hw).mono fun e w' ⟨v2, h1, h2⟩ => ⟨⟨v2, trivial⟩, h1, ?_⟩
    simpa using h2
set_option maxRecDepth 100000 in
set_option maxHeartbeats 1000000 in
theorem parts_ct (s : Value) (hs : IsSl s) (xs : List Int) (n : Int) (hsl : SlC 1 s (xs.map (.int .i64)) ∈ R) (hn : 0 ≤ n ∧ n ≤ 255) :
    Ct Try.prog 7 [s, .int .u8 n] W0 X R C Unit (fun _ => .bool true) (fun _ => R) (fun _ => C) := by
  intro w hw
  have hF := isWide_wide
  have hp := parts_len xs
  have hl : (xs.map (Value.int .i64)).length = xs.length := by simp
  have p1 := parts1_pred xs
  have p2 := parts2_pred xs
  have hL := vofs xs
  obtain ⟨L, hLe⟩ : ∃ L, L = xs.map (Value.int .i64) := ⟨_, rfl⟩
  have hsl0 := hsl
  rw [← hLe] at hsl hp hl p1 p2 hL
  have hL1 : ∀ x ∈ L.filter (bitIs 1), VOf Try.prog 3 x := fun x hx => hL x (List.mem_filter.1 hx).1
  have hL2 : ∀ x ∈ L.filter (bitIs 0), VOf Try.prog 3 x := fun x hx => hL x (List.mem_filter.1 hx).1
  obtain ⟨a, i, c, rfl⟩ := hs
  obtain rfl := slLen (hw.hasR hsl)
  refine calls_nx Try.func7 rfl Try.ntmps7 rfl ?_ hw
  repeat' (first
    | ((first | with_reducible refine nl_op rfl ?_ | refine nd_go rfl rfl rfl ?_); intro K hK; (first
      | ((first | refine on_E hF rfl rfl ?_ | refine od_E rfl rfl ?_ | refine od_R rfl rfl ?_); (first
        | refine ⟨_, yl_move rfl rfl, ?_⟩
        | refine ⟨_, yl_assign rfl rfl, ?_⟩
        | refine ⟨_, yl_load rfl rfl a_has a_vof, ?_⟩
        | refine ⟨_, yl_fieldAddr rfl rfl (fun w => by (first | rfl | (simp only [ptr]; go_simp; all_goals rfl) | (go_simp; all_goals rfl))), ?_⟩
        | refine ⟨_, yl_not_t rfl rfl, ?_⟩
        | refine ⟨_, yl_not_f rfl rfl, ?_⟩
        | refine ⟨_, yl_pick_t rfl rfl rfl, ?_⟩
        | refine ⟨_, yl_pick_f rfl rfl rfl, ?_⟩
        | refine ⟨_, yl_extract rfl rfl rfl, ?_⟩
        | refine ⟨_, yl_func rfl rfl, ?_⟩
        | refine ⟨_, yl_nilCheck rfl rfl, ?_⟩
        | refine ⟨_, yl_add rfl rfl rfl (by omega), ?_⟩
        | refine ⟨_, yl_sub rfl rfl rfl (by omega), ?_⟩
        | refine ⟨_, yl_mul rfl rfl rfl (by omega), ?_⟩
        | refine ⟨_, yl_neg rfl rfl (by omega), ?_⟩
        | refine ⟨_, yl_and rfl rfl rfl, ?_⟩
        | refine ⟨_, yl_or rfl rfl rfl, ?_⟩
        | refine ⟨_, yl_xor rfl rfl rfl, ?_⟩
        | refine ⟨_, yl_conv_i rfl rfl (by kernel_rfl) (by kernel_rfl) (by omega), ?_⟩
        | refine ⟨_, yl_conv rfl rfl (fun w => by (first | rfl | (simp only [ptr]; go_simp; all_goals rfl) | (go_simp; all_goals rfl))), ?_⟩
        | refine ⟨_, yl_len_str rfl rfl (by kernel_rfl), ?_⟩
        | refine ⟨_, yl_len_s rfl rfl (by kernel_rfl), ?_⟩
        | refine ⟨_, yl_cmp rfl rfl rfl rfl (by kernel_rfl), ?_⟩
        | refine ⟨_, yl_load_cell rfl rfl a_has rfl rfl a_vof, ?_⟩
        | refine ⟨_, yl_index rfl rfl rfl a_sl (by kernel_rfl) (by (first | omega | (simp only [List.length_append, List.length_cons, List.length_nil, List.length_map] at *; omega))), ?_⟩
        | refine ⟨_, yl_index_z rfl rfl rfl a_sl (by kernel_rfl) (by (first | omega | (simp only [List.length_append, List.length_cons, List.length_nil, List.length_map] at *; omega))) (by (first | omega | (simp only [List.length_append, List.length_cons, List.length_nil, List.length_map] at *; omega))), ?_⟩
        | refine ⟨_, yl_load_elem rfl rfl a_sl (by first | with_reducible assumption | rfl) a_vof, ?_⟩
        | refine ⟨_, yl_len rfl rfl a_sl (by kernel_rfl), ?_⟩
        | refine ⟨_, yl_indexAddr rfl rfl rfl (fun w => by (first | rfl | (simp only [ptr]; go_simp; all_goals rfl) | (go_simp; all_goals rfl))), ?_⟩))
      | ((first | refine on_Ec hF rfl rfl ?_ | refine od_Ec rfl rfl ?_); (first
        | refine ⟨_, _, _, yc_lss rfl rfl rfl, ?_, ?_⟩
        | refine ⟨_, _, _, yc_eql rfl rfl rfl, ?_, ?_⟩
        | refine ⟨_, _, _, yc_neq rfl rfl rfl, ?_, ?_⟩
        | refine ⟨_, _, _, yc_leq rfl rfl rfl, ?_, ?_⟩
        | refine ⟨_, _, _, yc_gtr rfl rfl rfl, ?_, ?_⟩
        | refine ⟨_, _, _, yc_geq rfl rfl rfl, ?_, ?_⟩
        | refine ⟨_, _, _, yc_eql_str rfl rfl rfl, ?_, ?_⟩
        | refine ⟨_, _, _, yc_neq_str rfl rfl rfl, ?_, ?_⟩) <;> (intro hc; try (exfalso; first | (omega; done) | exact absurd (by with_reducible rfl) hc | (simp at hc; done))))
      | ((first | (refine od_act (fun c => by exact (fun h => by cases h)) ?_; intro K2 hK2) | refine od_last (fun c => by exact (fun h => by cases h)) ?_ | skip); (first
      | (refine on_call hF rfl rfl rfl rfl (enters_of Try.func22 (by kernel_rfl) rfl) first_ct (fun _ => ?_))
      
      | (refine on_box hF rfl rfl rfl rfl (fun B => ?_))
      | (refine on_store hF rfl rfl rfl rfl a_turn a_vof (by first | rfl | exact hsz.symm | exact hsz) ?_)) <;> try (refine hK2 _ _ _ a_allK ?_; clear hK2 K2))) <;> (refine hK _ _ _ ?_; clear hK K))
    | with_reducible refine nx_seq ?_
        | with_reducible refine nx_region ?_
        | with_reducible refine nl_nil ?_
        | with_reducible refine nq_then_n ?_
        | with_reducible refine nx_block ?_
        | with_reducible refine nx_skip ?_
        | with_reducible refine nx_exit ?_
        | with_reducible refine nx_ret ?_
        | with_reducible refine nq_then_x ?_
        | with_reducible refine nq_then_r ?_
        | with_reducible refine nq_blk_n ?_
        | with_reducible refine nq_blk_r ?_
        | with_reducible refine nq_blk_hit ?_
        | with_reducible refine nq_blk_miss rfl ?_
        | with_reducible refine nd_nil ?_
    | refine nx_cond_t rfl ?_ | refine nx_cond_f rfl ?_
    | refine nl_pass hF rfl rfl rfl ?_
    | refine nd_pass rfl rfl rfl rfl rfl ?_
    | refine nd_pass2 rfl rfl rfl (fun c => by exact (fun h => by cases h)) a_allK rfl rfl ?_
    | refine nd_pass3 rfl rfl rfl (fun c => by exact (fun h => by cases h)) rfl rfl ?_
    | (with_reducible refine hQ1 _ _ _ ?_; clear hQ1 Q1)
    )
  · refine nx_end [] rfl () (fun a w ha hw => res_tmp Try.results7 rfl ha) (by exact a_subR) (by exact a_holds2)
  · have hm8 : L.length * 8 ≤ 140737488355328 := by omega
    have hmx : L.length ≤ maxLen := by unfold maxLen; omega
    have hb1 : (L.filter (bitIs 1)).length ≤ 200 := by omega
    have hb2 : (L.filter (bitIs 0)).length ≤ 200 := by omega
    repeat' (first
    | ((first | with_reducible refine nl_op rfl ?_ | refine nd_go rfl rfl rfl ?_); intro K hK; (first
      | ((first | refine on_E hF rfl rfl ?_ | refine od_E rfl rfl ?_ | refine od_R rfl rfl ?_); (first
        | refine ⟨_, yl_move rfl rfl, ?_⟩
        | refine ⟨_, yl_assign rfl rfl, ?_⟩
        | refine ⟨_, yl_load rfl rfl a_has a_vof, ?_⟩
        | refine ⟨_, yl_fieldAddr rfl rfl (fun w => by (first | rfl | (simp only [ptr]; go_simp; all_goals rfl) | (go_simp; all_goals rfl))), ?_⟩
        | refine ⟨_, yl_not_t rfl rfl, ?_⟩
        | refine ⟨_, yl_not_f rfl rfl, ?_⟩
        | refine ⟨_, yl_pick_t rfl rfl rfl, ?_⟩
        | refine ⟨_, yl_pick_f rfl rfl rfl, ?_⟩
        | refine ⟨_, yl_extract rfl rfl rfl, ?_⟩
        | refine ⟨_, yl_func rfl rfl, ?_⟩
        | refine ⟨_, yl_nilCheck rfl rfl, ?_⟩
        | refine ⟨_, yl_add rfl rfl rfl (by omega), ?_⟩
        | refine ⟨_, yl_sub rfl rfl rfl (by omega), ?_⟩
        | refine ⟨_, yl_mul rfl rfl rfl (by omega), ?_⟩
        | refine ⟨_, yl_neg rfl rfl (by omega), ?_⟩
        | refine ⟨_, yl_and rfl rfl rfl, ?_⟩
        | refine ⟨_, yl_or rfl rfl rfl, ?_⟩
        | refine ⟨_, yl_xor rfl rfl rfl, ?_⟩
        | refine ⟨_, yl_conv_i rfl rfl (by kernel_rfl) (by kernel_rfl) (by omega), ?_⟩
        | refine ⟨_, yl_conv rfl rfl (fun w => by (first | rfl | (simp only [ptr]; go_simp; all_goals rfl) | (go_simp; all_goals rfl))), ?_⟩
        | refine ⟨_, yl_len_str rfl rfl (by kernel_rfl), ?_⟩
        | refine ⟨_, yl_len_s rfl rfl (by kernel_rfl), ?_⟩
        | refine ⟨_, yl_cmp rfl rfl rfl rfl (by kernel_rfl), ?_⟩
        | refine ⟨_, yl_load_cell rfl rfl a_has rfl rfl a_vof, ?_⟩
        | refine ⟨_, yl_index rfl rfl rfl a_sl (by kernel_rfl) (by (first | omega | (simp only [List.length_append, List.length_cons, List.length_nil, List.length_map] at *; omega))), ?_⟩
        | refine ⟨_, yl_index_z rfl rfl rfl a_sl (by kernel_rfl) (by (first | omega | (simp only [List.length_append, List.length_cons, List.length_nil, List.length_map] at *; omega))) (by (first | omega | (simp only [List.length_append, List.length_cons, List.length_nil, List.length_map] at *; omega))), ?_⟩
        | refine ⟨_, yl_load_elem rfl rfl a_sl (by first | with_reducible assumption | rfl) a_vof, ?_⟩
        | refine ⟨_, yl_len rfl rfl a_sl (by kernel_rfl), ?_⟩
        | refine ⟨_, yl_indexAddr rfl rfl rfl (fun w => by (first | rfl | (simp only [ptr]; go_simp; all_goals rfl) | (go_simp; all_goals rfl))), ?_⟩))
      | ((first | refine on_Ec hF rfl rfl ?_ | refine od_Ec rfl rfl ?_); (first
        | refine ⟨_, _, _, yc_lss rfl rfl rfl, ?_, ?_⟩
        | refine ⟨_, _, _, yc_eql rfl rfl rfl, ?_, ?_⟩
        | refine ⟨_, _, _, yc_neq rfl rfl rfl, ?_, ?_⟩
        | refine ⟨_, _, _, yc_leq rfl rfl rfl, ?_, ?_⟩
        | refine ⟨_, _, _, yc_gtr rfl rfl rfl, ?_, ?_⟩
        | refine ⟨_, _, _, yc_geq rfl rfl rfl, ?_, ?_⟩
        | refine ⟨_, _, _, yc_eql_str rfl rfl rfl, ?_, ?_⟩
        | refine ⟨_, _, _, yc_neq_str rfl rfl rfl, ?_, ?_⟩) <;> (intro hc; try (exfalso; first | (omega; done) | exact absurd (by with_reducible rfl) hc | (simp at hc; done))))
      | ((first | (refine od_act (fun c => by exact (fun h => by cases h)) ?_; intro K2 hK2) | refine od_last (fun c => by exact (fun h => by cases h)) ?_ | skip); (first
      | (refine on_call hF rfl rfl rfl rfl (enters_of Try.func27 (by kernel_rfl) rfl) (NInt.of_ct _ L (by exact a_mem) ⟨_, _, _, rfl⟩ hL hm8) (fun j1 => ?_))
      | (refine on_call hF rfl rfl rfl rfl (enters_of Try.func26 (by kernel_rfl) rfl) (NInt.keep_ct _ _ ⟨_, _, _, rfl⟩ ⟨_, _, _, rfl⟩) (fun k1 => ?_))
      | (refine on_call hF rfl rfl rfl rfl (enters_of Try.func25 (by kernel_rfl) rfl) (NInt.list_ct _ _ _ (NInt.keep_it k1.1 k1.2 (NInt.ofV j1.2) _ L _ _ _ (NInt.of_it j1 L hL hmx) p1 hL) hL1 (by exact a_subR) (by omega)) (fun r1 => ?_))
      | (refine on_call hF rfl rfl rfl rfl (enters_of Try.func25 (by kernel_rfl) rfl) (NInt.list_ct _ _ _ (NInt.keep_it k1.1 k1.2 (NInt.ofV j1.2) _ L _ _ _ (NInt.of_it j1 L hL hmx) p2 hL) hL2 (by exact a_subR) (by omega)) (fun r2 => ?_))
      | (refine on_call hF rfl rfl rfl rfl (enters_of Try.func29 (by kernel_rfl) rfl) (NInt.runs_ct _ (1 + n) ⟨_, _, _, rfl⟩) (fun q1 => ?_))
      | (refine on_buildSlice (e := 3) (k := 1) (by_ := 8) (vs := []) hF rfl rfl rfl rfl rfl rfl (by kernel_rfl) Cel.nil (by decide) (fun b1 => ?_))
      | (refine on_call hF rfl rfl rfl rfl (enters_of Try.func28 (by kernel_rfl) rfl) (joined_ct _ (1 + n).toNat (by omega) L hL (by omega) _ (NInt.runs_it q1.1 q1.2 (NInt.ofV j1.2) (1 + n) L _ (NInt.of_it j1 L hL hmx) hL (by omega) hm8) (by exact a_subR) ⟨_, _, _, _, rfl⟩) (fun r3 => ?_); refine nx_frzRow Pick.here ?_)
      | (refine on_call hF rfl rfl rfl rfl (enters_of Try.func31 (by kernel_rfl) rfl) (same_ct _ _ xs xs (by rw [← hLe]; exact a_mem) (by rw [← hLe]; exact a_mem) (by omega)) (fun _ => ?_))
      
      | (refine on_box hF rfl rfl rfl rfl (fun B => ?_))
      | (refine on_store hF rfl rfl rfl rfl a_turn a_vof (by first | rfl | exact hsz.symm | exact hsz) ?_)) <;> try (refine hK2 _ _ _ a_allK ?_; clear hK2 K2))) <;> (refine hK _ _ _ ?_; clear hK K))
    | with_reducible refine nx_seq ?_
        | with_reducible refine nx_region ?_
        | with_reducible refine nl_nil ?_
        | with_reducible refine nq_then_n ?_
        | with_reducible refine nx_block ?_
        | with_reducible refine nx_skip ?_
        | with_reducible refine nx_exit ?_
        | with_reducible refine nx_ret ?_
        | with_reducible refine nq_then_x ?_
        | with_reducible refine nq_then_r ?_
        | with_reducible refine nq_blk_n ?_
        | with_reducible refine nq_blk_r ?_
        | with_reducible refine nq_blk_hit ?_
        | with_reducible refine nq_blk_miss rfl ?_
        | with_reducible refine nd_nil ?_
    | refine nx_cond_t rfl ?_ | refine nx_cond_f rfl ?_
    | refine nl_pass hF rfl rfl rfl ?_
    | refine nd_pass rfl rfl rfl rfl rfl ?_
    | refine nd_pass2 rfl rfl rfl (fun c => by exact (fun h => by cases h)) a_allK rfl rfl ?_
    | refine nd_pass3 rfl rfl rfl (fun c => by exact (fun h => by cases h)) rfl rfl ?_
    | (with_reducible refine hQ1 _ _ _ ?_; clear hQ1 Q1)
    )
    rw [decide_eq_true (show xs = xs from rfl)]
    refine nx_end [] rfl () (fun a w ha hw => res_tmp Try.results7 rfl ha) (by exact a_subR) (by exact a_holds2)
end Law05
end Go.Proofs.Ytigbglagfbbmjaa
