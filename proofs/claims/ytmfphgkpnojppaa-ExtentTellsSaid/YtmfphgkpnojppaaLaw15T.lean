/- The closure of breviarylaw15.ExtentTells, over the sectors of extents that lie apart. Condition: a list of at most 40 extents. -/
import Derived.Test.YtmfphgkpnojppaaEx7
import Derived.Test.YtmfphgkpnojppaaEx6
namespace Go.Proofs.Ytmfphgkpnojppaa
open Go.RowKit Go.Shelf
set_option linter.unusedSimpArgs false
set_option linter.unusedVariables false
namespace Law15
open Ex
variable {W0 : World} {X : Nat → Prop} {R C : List Ch}
set_option maxRecDepth 100000 in
set_option maxHeartbeats 2000000 in
/-- No item ends here. -/
theorem tell1A_ct (x : Int) (b17 b3 b18 b19 : Nat) (s : Value) (hs : IsSl s) (L : List Ext) (hm : L.length ≤ 40) (i k : Nat) (y : Ext) (hyo : y.ok) (hy : L[i]? = some y) (hk : (k : Int) < y.n) (hk2 : k ≤ 200) (hx : x = y.a + k) (hb : BoxC b3 22 s ∈ R) (hsl : SlC 2 s (L.map Ext.v) ∈ R) :
    Ct Try.prog 17 [.int .i64 x, ptr b17, ptr b3, ptr b18, ptr b19] W0 X R (BoxC b17 3 (.int .i64 (i : Int)) :: BoxC b18 3 (.int .i64 (k : Int)) :: BoxC b19 4 (.bool true) :: C) Unit (fun _ => .bool (decide (i < 3) && decide (k + 1 < 200))) (fun _ => R) (fun _ => BoxC b17 3 (.int .i64 (i : Int)) :: BoxC b18 3 (.int .i64 ((k : Int) + 1)) :: BoxC b19 4 (.bool true) :: C) := by
  intro w hw
  have hF := isWide_wide
  have hvs : VOf Try.prog 22 s := vof_slice (by kernel_rfl) hs
  obtain ⟨sa, sn, sc, rfl⟩ := hs
  obtain rfl := slLen (hw.hasR hsl)
  have hlv : (L.map Ext.v).length = L.length := by simp
  have hil : i < L.length := (List.getElem?_eq_some_iff.1 hy).1
  have hyv : (L.map Ext.v)[i]? = some y.v := by rw [List.getElem?_map, hy]; rfl
  have h1 := hyo.a0; have h2 := hyo.n1; have h3 := hyo.hi
  clear hyo
  subst hx
  refine calls_nx Try.func17 rfl Try.ntmps17 rfl ?_ hw
  repeat' (first
    | ((first | with_reducible refine nl_op rfl ?_ | refine nd_go rfl rfl rfl ?_); intro K hK; (first
      | ((first | refine on_E hF rfl rfl ?_ | refine od_E rfl rfl ?_ | refine od_R rfl rfl ?_); (first | refine ⟨_, a_yl, ?_⟩ | refine ⟨_, yl_fieldB (T := 39) (f := 0) (q := 0) rfl rfl (by kernel_rfl), ?_⟩ | refine ⟨_, yl_fieldE (T := 39) (f := 0) (j := 0) rfl rfl a_sl (by (first | omega | (simp only [List.length_append, List.length_cons, List.length_nil, List.length_map] at *; omega))) (by kernel_rfl), ?_⟩ | refine ⟨_, yl_fieldB (T := 39) (f := 1) (q := 1) rfl rfl (by kernel_rfl), ?_⟩ | refine ⟨_, yl_fieldE (T := 39) (f := 1) (j := 1) rfl rfl a_sl (by (first | omega | (simp only [List.length_append, List.length_cons, List.length_nil, List.length_map] at *; omega))) (by kernel_rfl), ?_⟩))
      | ((first | refine on_Ec hF rfl rfl ?_ | refine od_Ec rfl rfl ?_); refine ⟨_, _, _, a_yc, ?_, ?_⟩ <;> (intro hc; try (exfalso; first | (omega; done) | exact absurd (by with_reducible rfl) hc | (simp at hc; done))))
      | ((first | (refine od_act (fun c => by exact (fun h => by cases h)) ?_; intro K2 hK2) | refine od_last (fun c => by exact (fun h => by cases h)) ?_ | skip); (first
      
      
      
      | (refine on_box hF rfl rfl rfl rfl (fun B => ?_))
      | (refine on_store hF rfl rfl rfl rfl a_turn a_vof (by first | rfl | exact hsz.symm | exact hsz) ?_)
      | (refine on_storeE hF rfl rfl rfl rfl a_turn (by (first | omega | (simp only [List.length_append, List.length_cons, List.length_nil, List.length_map] at *; omega))) a_vof (by first | rfl | exact hsz) ?_)
      | (refine on_storeEF hF rfl rfl rfl rfl a_turn (by first | with_reducible assumption | rfl) (by decide) a_vof rfl ?_)
      | (refine on_storeF hF rfl rfl rfl rfl a_turn (by decide) a_vof rfl ?_)) <;> try (refine hK2 _ _ _ a_allK ?_; clear hK2 K2))) <;> (refine hK _ _ _ ?_; clear hK K))
    | with_reducible refine nx_seq ?_
        | with_reducible refine nx_region ?_
        | with_reducible refine nl_nil ?_
        | with_reducible refine nq_then_n ?_
        | with_reducible refine nx_block ?_
        | with_reducible refine nx_skip ?_
        | with_reducible refine nx_exit ?_
        | with_reducible refine nx_ret ?_
        | with_reducible refine nq_then_x ?_
        | with_reducible refine nq_then_r ?_
        | with_reducible refine nq_blk_n ?_
        | with_reducible refine nq_blk_r ?_
        | with_reducible refine nq_blk_hit ?_
        | with_reducible refine nq_blk_miss rfl ?_
        | with_reducible refine nd_nil ?_
    | refine nx_cond_t rfl ?_ | refine nx_cond_f rfl ?_
    | refine nl_pass hF rfl rfl rfl ?_
    | refine nd_pass rfl rfl rfl rfl rfl ?_
    | refine nd_pass2 rfl rfl rfl (fun c => by exact (fun h => by cases h)) a_allK rfl rfl ?_
    | refine nd_pass3 rfl rfl rfl (fun c => by exact (fun h => by cases h)) rfl rfl ?_
    | (with_reducible refine hQ1 _ _ _ ?_; clear hQ1 Q1)
    | (refine nd_region (id := 1) hF [1, 1, 1, 0, 0, 1, 1, 1, 1, 1, 1, 0, 0] [0, 1, 2, 3, 4, 5, 6, 7, 8, 9, 10, 11, 12] _ _ (by kernel_rfl) (by kernel_rfl) sub2_same ?_; intro Q1 hQ1)
    | (refine nd_region (id := 3) hF [1, 0, 1, 1, 1, 0, 0, 0, 0, 1, 1, 1, 1, 1, 1, 0, 0, 0, 3] [0, 1, 2, 3, 4, 5, 6, 7, 8, 9, 10, 11, 12, 13, 14, 15, 16, 17, 18] _ _ (by kernel_rfl) (by kernel_rfl) sub2_same ?_; intro Q1 hQ1))
  refine nx_loop (ι := Unit) (fun _ => [(0, .int .i64 (y.a + (k : Int))), (1, ptr b17), (2, ptr b3), (3, ptr b18), (4, ptr b19)]) (fun _ => R) (fun _ => BoxC b17 3 (.int .i64 (i : Int)) :: BoxC b18 3 (.int .i64 (k : Int)) :: BoxC b19 4 (.bool true) :: C) (fun _ => 0) () (by exact a_sub) (by exact a_subR) (by exact a_holds) (fun u => ?_)
  repeat' (first
    | ((first | with_reducible refine nl_op rfl ?_ | refine nd_go rfl rfl rfl ?_); intro K hK; (first
      | ((first | refine on_E hF rfl rfl ?_ | refine od_E rfl rfl ?_ | refine od_R rfl rfl ?_); (first | refine ⟨_, a_yl, ?_⟩ | refine ⟨_, yl_fieldB (T := 39) (f := 0) (q := 0) rfl rfl (by kernel_rfl), ?_⟩ | refine ⟨_, yl_fieldE (T := 39) (f := 0) (j := 0) rfl rfl a_sl (by (first | omega | (simp only [List.length_append, List.length_cons, List.length_nil, List.length_map] at *; omega))) (by kernel_rfl), ?_⟩ | refine ⟨_, yl_fieldB (T := 39) (f := 1) (q := 1) rfl rfl (by kernel_rfl), ?_⟩ | refine ⟨_, yl_fieldE (T := 39) (f := 1) (j := 1) rfl rfl a_sl (by (first | omega | (simp only [List.length_append, List.length_cons, List.length_nil, List.length_map] at *; omega))) (by kernel_rfl), ?_⟩))
      | ((first | refine on_Ec hF rfl rfl ?_ | refine od_Ec rfl rfl ?_); refine ⟨_, _, _, a_yc, ?_, ?_⟩ <;> (intro hc; try (exfalso; first | (omega; done) | exact absurd (by with_reducible rfl) hc | (simp at hc; done))))
      | ((first | (refine od_act (fun c => by exact (fun h => by cases h)) ?_; intro K2 hK2) | refine od_last (fun c => by exact (fun h => by cases h)) ?_ | skip); (first
      
      
      
      | (refine on_box hF rfl rfl rfl rfl (fun B => ?_))
      | (refine on_store hF rfl rfl rfl rfl a_turn a_vof (by first | rfl | exact hsz.symm | exact hsz) ?_)
      | (refine on_storeE hF rfl rfl rfl rfl a_turn (by (first | omega | (simp only [List.length_append, List.length_cons, List.length_nil, List.length_map] at *; omega))) a_vof (by first | rfl | exact hsz) ?_)
      | (refine on_storeEF hF rfl rfl rfl rfl a_turn (by first | with_reducible assumption | rfl) (by decide) a_vof rfl ?_)
      | (refine on_storeF hF rfl rfl rfl rfl a_turn (by decide) a_vof rfl ?_)) <;> try (refine hK2 _ _ _ a_allK ?_; clear hK2 K2))) <;> (refine hK _ _ _ ?_; clear hK K))
    | with_reducible refine nx_seq ?_
        | with_reducible refine nx_region ?_
        | with_reducible refine nl_nil ?_
        | with_reducible refine nq_then_n ?_
        | with_reducible refine nx_block ?_
        | with_reducible refine nx_skip ?_
        | with_reducible refine nx_exit ?_
        | with_reducible refine nx_ret ?_
        | with_reducible refine nq_then_x ?_
        | with_reducible refine nq_then_r ?_
        | with_reducible refine nq_blk_n ?_
        | with_reducible refine nq_blk_r ?_
        | with_reducible refine nq_blk_hit ?_
        | with_reducible refine nq_blk_miss rfl ?_
        | with_reducible refine nd_nil ?_
    | refine nx_cond_t rfl ?_ | refine nx_cond_f rfl ?_
    | refine nl_pass hF rfl rfl rfl ?_
    | refine nd_pass rfl rfl rfl rfl rfl ?_
    | refine nd_pass2 rfl rfl rfl (fun c => by exact (fun h => by cases h)) a_allK rfl rfl ?_
    | refine nd_pass3 rfl rfl rfl (fun c => by exact (fun h => by cases h)) rfl rfl ?_
    | (with_reducible refine hQ1 _ _ _ ?_; clear hQ1 Q1)
    | (refine nd_region (id := 1) hF [1, 1, 1, 0, 0, 1, 1, 1, 1, 1, 1, 0, 0] [0, 1, 2, 3, 4, 5, 6, 7, 8, 9, 10, 11, 12] _ _ (by kernel_rfl) (by kernel_rfl) sub2_same ?_; intro Q1 hQ1)
    | (refine nd_region (id := 3) hF [1, 0, 1, 1, 1, 0, 0, 0, 0, 1, 1, 1, 1, 1, 1, 0, 0, 0, 3] [0, 1, 2, 3, 4, 5, 6, 7, 8, 9, 10, 11, 12, 13, 14, 15, 16, 17, 18] _ _ (by kernel_rfl) (by kernel_rfl) sub2_same ?_; intro Q1 hQ1))
  all_goals (try (exfalso; dsimp only at *; omega))
  all_goals (first
    | (rw [decide_eq_true (show i < 3 by omega), decide_eq_true (show k + 1 < 200 by omega)]; refine nx_end [] rfl () (fun a w ha hw => res_tmp Try.results17 rfl ha) (by exact a_subR) (by exact a_holds2))
    | (rw [decide_eq_false (show ¬ i < 3 by omega), Bool.false_and]; refine nx_end [] rfl () (fun a w ha hw => res_tmp Try.results17 rfl ha) (by exact a_subR) (by exact a_holds2))
    | (rw [decide_eq_false (show ¬ k + 1 < 200 by omega), Bool.and_false]; refine nx_end [] rfl () (fun a w ha hw => res_tmp Try.results17 rfl ha) (by exact a_subR) (by exact a_holds2)))
set_option maxRecDepth 100000 in
set_option maxHeartbeats 2000000 in
/-- An item ends here: the next one begins. -/
theorem tell1B_ct (x : Int) (b17 b3 b18 b19 : Nat) (s : Value) (hs : IsSl s) (L : List Ext) (hm : L.length ≤ 40) (i k : Nat) (z y : Ext) (hz : L[i]? = some z) (hk : (k : Int) = z.n) (hyo : y.ok) (hy : L[i + 1]? = some y) (hx : x = y.a) (hb : BoxC b3 22 s ∈ R) (hsl : SlC 2 s (L.map Ext.v) ∈ R) :
    Ct Try.prog 17 [.int .i64 x, ptr b17, ptr b3, ptr b18, ptr b19] W0 X R (BoxC b17 3 (.int .i64 (i : Int)) :: BoxC b18 3 (.int .i64 (k : Int)) :: BoxC b19 4 (.bool true) :: C) Unit (fun _ => .bool (decide (i + 1 < 3))) (fun _ => R) (fun _ => BoxC b17 3 (.int .i64 ((i + 1 : Nat) : Int)) :: BoxC b18 3 (.int .i64 1) :: BoxC b19 4 (.bool true) :: C) := by
  intro w hw
  have hF := isWide_wide
  have hvs : VOf Try.prog 22 s := vof_slice (by kernel_rfl) hs
  obtain ⟨sa, sn, sc, rfl⟩ := hs
  obtain rfl := slLen (hw.hasR hsl)
  have hlv : (L.map Ext.v).length = L.length := by simp
  have hil : i + 1 < L.length := (List.getElem?_eq_some_iff.1 hy).1
  have hzv : (L.map Ext.v)[i]? = some z.v := by rw [List.getElem?_map, hz]; rfl
  have hyv : (L.map Ext.v)[i + 1]? = some y.v := by rw [List.getElem?_map, hy]; rfl
  have h1 := hyo.a0; have h2 := hyo.n1; have h3 := hyo.hi
  clear hyo
  subst hx
  refine calls_nx Try.func17 rfl Try.ntmps17 rfl ?_ hw
  repeat' (first
    | ((first | with_reducible refine nl_op rfl ?_ | refine nd_go rfl rfl rfl ?_); intro K hK; (first
      | ((first | refine on_E hF rfl rfl ?_ | refine od_E rfl rfl ?_ | refine od_R rfl rfl ?_); (first | refine ⟨_, a_yl, ?_⟩ | refine ⟨_, yl_fieldB (T := 39) (f := 0) (q := 0) rfl rfl (by kernel_rfl), ?_⟩ | refine ⟨_, yl_fieldE (T := 39) (f := 0) (j := 0) rfl rfl a_sl (by (first | omega | (simp only [List.length_append, List.length_cons, List.length_nil, List.length_map] at *; omega))) (by kernel_rfl), ?_⟩ | refine ⟨_, yl_fieldB (T := 39) (f := 1) (q := 1) rfl rfl (by kernel_rfl), ?_⟩ | refine ⟨_, yl_fieldE (T := 39) (f := 1) (j := 1) rfl rfl a_sl (by (first | omega | (simp only [List.length_append, List.length_cons, List.length_nil, List.length_map] at *; omega))) (by kernel_rfl), ?_⟩))
      | ((first | refine on_Ec hF rfl rfl ?_ | refine od_Ec rfl rfl ?_); refine ⟨_, _, _, a_yc, ?_, ?_⟩ <;> (intro hc; try (exfalso; first | (omega; done) | exact absurd (by with_reducible rfl) hc | (simp at hc; done))))
      | ((first | (refine od_act (fun c => by exact (fun h => by cases h)) ?_; intro K2 hK2) | refine od_last (fun c => by exact (fun h => by cases h)) ?_ | skip); (first
      
      
      
      | (refine on_box hF rfl rfl rfl rfl (fun B => ?_))
      | (refine on_store hF rfl rfl rfl rfl a_turn a_vof (by first | rfl | exact hsz.symm | exact hsz) ?_)
      | (refine on_storeE hF rfl rfl rfl rfl a_turn (by (first | omega | (simp only [List.length_append, List.length_cons, List.length_nil, List.length_map] at *; omega))) a_vof (by first | rfl | exact hsz) ?_)
      | (refine on_storeEF hF rfl rfl rfl rfl a_turn (by first | with_reducible assumption | rfl) (by decide) a_vof rfl ?_)
      | (refine on_storeF hF rfl rfl rfl rfl a_turn (by decide) a_vof rfl ?_)) <;> try (refine hK2 _ _ _ a_allK ?_; clear hK2 K2))) <;> (refine hK _ _ _ ?_; clear hK K))
    | with_reducible refine nx_seq ?_
        | with_reducible refine nx_region ?_
        | with_reducible refine nl_nil ?_
        | with_reducible refine nq_then_n ?_
        | with_reducible refine nx_block ?_
        | with_reducible refine nx_skip ?_
        | with_reducible refine nx_exit ?_
        | with_reducible refine nx_ret ?_
        | with_reducible refine nq_then_x ?_
        | with_reducible refine nq_then_r ?_
        | with_reducible refine nq_blk_n ?_
        | with_reducible refine nq_blk_r ?_
        | with_reducible refine nq_blk_hit ?_
        | with_reducible refine nq_blk_miss rfl ?_
        | with_reducible refine nd_nil ?_
    | refine nx_cond_t rfl ?_ | refine nx_cond_f rfl ?_
    | refine nl_pass hF rfl rfl rfl ?_
    | refine nd_pass rfl rfl rfl rfl rfl ?_
    | refine nd_pass2 rfl rfl rfl (fun c => by exact (fun h => by cases h)) a_allK rfl rfl ?_
    | refine nd_pass3 rfl rfl rfl (fun c => by exact (fun h => by cases h)) rfl rfl ?_
    | (with_reducible refine hQ1 _ _ _ ?_; clear hQ1 Q1)
    | (refine nd_region (id := 1) hF [1, 1, 1, 0, 0, 1, 1, 1, 1, 1, 1, 0, 0] [0, 1, 2, 3, 4, 5, 6, 7, 8, 9, 10, 11, 12] _ _ (by kernel_rfl) (by kernel_rfl) sub2_same ?_; intro Q1 hQ1)
    | (refine nd_region (id := 3) hF [1, 0, 1, 1, 1, 0, 0, 0, 0, 1, 1, 1, 1, 1, 1, 0, 0, 0, 3] [0, 1, 2, 3, 4, 5, 6, 7, 8, 9, 10, 11, 12, 13, 14, 15, 16, 17, 18] _ _ (by kernel_rfl) (by kernel_rfl) sub2_same ?_; intro Q1 hQ1))
  refine nx_loop (ι := Bool) (fun _ => [(0, .int .i64 y.a), (1, ptr b17), (2, ptr b3), (3, ptr b18), (4, ptr b19)]) (fun _ => R) (fun u => BoxC b17 3 (.int .i64 ((if u then i + 1 else i : Nat) : Int)) :: BoxC b18 3 (.int .i64 ((if u then 0 else k : Nat) : Int)) :: BoxC b19 4 (.bool true) :: C) (fun u => if u then 0 else 1) false (by exact a_sub) (by exact a_subR) (by exact a_holds) (fun u => ?_)
  cases u with
  | false =>
    simp only [Bool.false_eq_true, if_false]
    repeat' (first
    | ((first | with_reducible refine nl_op rfl ?_ | refine nd_go rfl rfl rfl ?_); intro K hK; (first
      | ((first | refine on_E hF rfl rfl ?_ | refine od_E rfl rfl ?_ | refine od_R rfl rfl ?_); (first | refine ⟨_, a_yl, ?_⟩ | refine ⟨_, yl_fieldB (T := 39) (f := 0) (q := 0) rfl rfl (by kernel_rfl), ?_⟩ | refine ⟨_, yl_fieldE (T := 39) (f := 0) (j := 0) rfl rfl a_sl (by (first | omega | (simp only [List.length_append, List.length_cons, List.length_nil, List.length_map] at *; omega))) (by kernel_rfl), ?_⟩ | refine ⟨_, yl_fieldB (T := 39) (f := 1) (q := 1) rfl rfl (by kernel_rfl), ?_⟩ | refine ⟨_, yl_fieldE (T := 39) (f := 1) (j := 1) rfl rfl a_sl (by (first | omega | (simp only [List.length_append, List.length_cons, List.length_nil, List.length_map] at *; omega))) (by kernel_rfl), ?_⟩))
      | ((first | refine on_Ec hF rfl rfl ?_ | refine od_Ec rfl rfl ?_); refine ⟨_, _, _, a_yc, ?_, ?_⟩ <;> (intro hc; try (exfalso; first | (omega; done) | exact absurd (by with_reducible rfl) hc | (simp at hc; done))))
      | ((first | (refine od_act (fun c => by exact (fun h => by cases h)) ?_; intro K2 hK2) | refine od_last (fun c => by exact (fun h => by cases h)) ?_ | skip); (first
      
      
      
      | (refine on_box hF rfl rfl rfl rfl (fun B => ?_))
      | (refine on_store hF rfl rfl rfl rfl a_turn a_vof (by first | rfl | exact hsz.symm | exact hsz) ?_)
      | (refine on_storeE hF rfl rfl rfl rfl a_turn (by (first | omega | (simp only [List.length_append, List.length_cons, List.length_nil, List.length_map] at *; omega))) a_vof (by first | rfl | exact hsz) ?_)
      | (refine on_storeEF hF rfl rfl rfl rfl a_turn (by first | with_reducible assumption | rfl) (by decide) a_vof rfl ?_)
      | (refine on_storeF hF rfl rfl rfl rfl a_turn (by decide) a_vof rfl ?_)) <;> try (refine hK2 _ _ _ a_allK ?_; clear hK2 K2))) <;> (refine hK _ _ _ ?_; clear hK K))
    | with_reducible refine nx_seq ?_
        | with_reducible refine nx_region ?_
        | with_reducible refine nl_nil ?_
        | with_reducible refine nq_then_n ?_
        | with_reducible refine nx_block ?_
        | with_reducible refine nx_skip ?_
        | with_reducible refine nx_exit ?_
        | with_reducible refine nx_ret ?_
        | with_reducible refine nq_then_x ?_
        | with_reducible refine nq_then_r ?_
        | with_reducible refine nq_blk_n ?_
        | with_reducible refine nq_blk_r ?_
        | with_reducible refine nq_blk_hit ?_
        | with_reducible refine nq_blk_miss rfl ?_
        | with_reducible refine nd_nil ?_
    | refine nx_cond_t rfl ?_ | refine nx_cond_f rfl ?_
    | refine nl_pass hF rfl rfl rfl ?_
    | refine nd_pass rfl rfl rfl rfl rfl ?_
    | refine nd_pass2 rfl rfl rfl (fun c => by exact (fun h => by cases h)) a_allK rfl rfl ?_
    | refine nd_pass3 rfl rfl rfl (fun c => by exact (fun h => by cases h)) rfl rfl ?_
    | (with_reducible refine hQ1 _ _ _ ?_; clear hQ1 Q1)
    | (refine nd_region (id := 1) hF [1, 1, 1, 0, 0, 1, 1, 1, 1, 1, 1, 0, 0] [0, 1, 2, 3, 4, 5, 6, 7, 8, 9, 10, 11, 12] _ _ (by kernel_rfl) (by kernel_rfl) sub2_same ?_; intro Q1 hQ1)
    | (refine nd_region (id := 3) hF [1, 0, 1, 1, 1, 0, 0, 0, 0, 1, 1, 1, 1, 1, 1, 0, 0, 0, 3] [0, 1, 2, 3, 4, 5, 6, 7, 8, 9, 10, 11, 12, 13, 14, 15, 16, 17, 18] _ _ (by kernel_rfl) (by kernel_rfl) sub2_same ?_; intro Q1 hQ1))
    all_goals (try (exfalso; dsimp only at *; omega))
    refine nx_again true (by decide) (by exact a_sub) (by exact a_subR) (by exact a_holds)
  | true =>
    simp only [if_true]
    repeat' (first
    | ((first | with_reducible refine nl_op rfl ?_ | refine nd_go rfl rfl rfl ?_); intro K hK; (first
      | ((first | refine on_E hF rfl rfl ?_ | refine od_E rfl rfl ?_ | refine od_R rfl rfl ?_); (first | refine ⟨_, a_yl, ?_⟩ | refine ⟨_, yl_fieldB (T := 39) (f := 0) (q := 0) rfl rfl (by kernel_rfl), ?_⟩ | refine ⟨_, yl_fieldE (T := 39) (f := 0) (j := 0) rfl rfl a_sl (by (first | omega | (simp only [List.length_append, List.length_cons, List.length_nil, List.length_map] at *; omega))) (by kernel_rfl), ?_⟩ | refine ⟨_, yl_fieldB (T := 39) (f := 1) (q := 1) rfl rfl (by kernel_rfl), ?_⟩ | refine ⟨_, yl_fieldE (T := 39) (f := 1) (j := 1) rfl rfl a_sl (by (first | omega | (simp only [List.length_append, List.length_cons, List.length_nil, List.length_map] at *; omega))) (by kernel_rfl), ?_⟩))
      | ((first | refine on_Ec hF rfl rfl ?_ | refine od_Ec rfl rfl ?_); refine ⟨_, _, _, a_yc, ?_, ?_⟩ <;> (intro hc; try (exfalso; first | (omega; done) | exact absurd (by with_reducible rfl) hc | (simp at hc; done))))
      | ((first | (refine od_act (fun c => by exact (fun h => by cases h)) ?_; intro K2 hK2) | refine od_last (fun c => by exact (fun h => by cases h)) ?_ | skip); (first
      
      
      
      | (refine on_box hF rfl rfl rfl rfl (fun B => ?_))
      | (refine on_store hF rfl rfl rfl rfl a_turn a_vof (by first | rfl | exact hsz.symm | exact hsz) ?_)
      | (refine on_storeE hF rfl rfl rfl rfl a_turn (by (first | omega | (simp only [List.length_append, List.length_cons, List.length_nil, List.length_map] at *; omega))) a_vof (by first | rfl | exact hsz) ?_)
      | (refine on_storeEF hF rfl rfl rfl rfl a_turn (by first | with_reducible assumption | rfl) (by decide) a_vof rfl ?_)
      | (refine on_storeF hF rfl rfl rfl rfl a_turn (by decide) a_vof rfl ?_)) <;> try (refine hK2 _ _ _ a_allK ?_; clear hK2 K2))) <;> (refine hK _ _ _ ?_; clear hK K))
    | with_reducible refine nx_seq ?_
        | with_reducible refine nx_region ?_
        | with_reducible refine nl_nil ?_
        | with_reducible refine nq_then_n ?_
        | with_reducible refine nx_block ?_
        | with_reducible refine nx_skip ?_
        | with_reducible refine nx_exit ?_
        | with_reducible refine nx_ret ?_
        | with_reducible refine nq_then_x ?_
        | with_reducible refine nq_then_r ?_
        | with_reducible refine nq_blk_n ?_
        | with_reducible refine nq_blk_r ?_
        | with_reducible refine nq_blk_hit ?_
        | with_reducible refine nq_blk_miss rfl ?_
        | with_reducible refine nd_nil ?_
    | refine nx_cond_t rfl ?_ | refine nx_cond_f rfl ?_
    | refine nl_pass hF rfl rfl rfl ?_
    | refine nd_pass rfl rfl rfl rfl rfl ?_
    | refine nd_pass2 rfl rfl rfl (fun c => by exact (fun h => by cases h)) a_allK rfl rfl ?_
    | refine nd_pass3 rfl rfl rfl (fun c => by exact (fun h => by cases h)) rfl rfl ?_
    | (with_reducible refine hQ1 _ _ _ ?_; clear hQ1 Q1)
    | (refine nd_region (id := 1) hF [1, 1, 1, 0, 0, 1, 1, 1, 1, 1, 1, 0, 0] [0, 1, 2, 3, 4, 5, 6, 7, 8, 9, 10, 11, 12] _ _ (by kernel_rfl) (by kernel_rfl) sub2_same ?_; intro Q1 hQ1)
    | (refine nd_region (id := 3) hF [1, 0, 1, 1, 1, 0, 0, 0, 0, 1, 1, 1, 1, 1, 1, 0, 0, 0, 3] [0, 1, 2, 3, 4, 5, 6, 7, 8, 9, 10, 11, 12, 13, 14, 15, 16, 17, 18] _ _ (by kernel_rfl) (by kernel_rfl) sub2_same ?_; intro Q1 hQ1))
    all_goals (try (exfalso; dsimp only at *; omega))
    all_goals (first
      | (rw [decide_eq_true (show i + 1 < 3 by omega)]; change Nx _ _ _ _ _ _ _ (BoxC b17 3 (.int .i64 ((i + 1 : Nat) : Int)) :: BoxC b18 3 (.int .i64 1) :: _); refine nx_end [] rfl () (fun a w ha hw => res_tmp Try.results17 rfl ha) (by exact a_subR) (by exact a_holds2))
      | (rw [decide_eq_false (show ¬ i + 1 < 3 by omega)]; change Nx _ _ _ _ _ _ _ (BoxC b17 3 (.int .i64 ((i + 1 : Nat) : Int)) :: BoxC b18 3 (.int .i64 1) :: _); refine nx_end [] rfl () (fun a w ha hw => res_tmp Try.results17 rfl ha) (by exact a_subR) (by exact a_holds2)))
def secAt (L : List Ext) (i k : Nat) : List Value := match L[i]? with
  | some y => sec y k
  | none => []
/-- Where the closure stands behind what was told to it. -/
structure SrI (L : List Ext) (pre : List Value) (p : Nat × Nat) : Prop where
  pre : pre = secs (L.take p.1) ++ secAt L p.1 p.2
  le : ∀ y, L[p.1]? = some y → (p.2 : Int) ≤ y.n
  k2 : p.2 ≤ 200
theorem SrI.zero (L : List Ext) (hL : ∀ y ∈ L, y.ok) : SrI L [] (0, 0) :=
  ⟨by
    unfold secAt
    cases h : L[0]? with
    | none => simp [secs]
    | some y => simp [secs, sec], fun y hy => by have := (hL y (List.mem_of_getElem? hy)).n1; dsimp only; omega, by decide⟩
abbrev tlC (b17 b18 b19 : Nat) (p : Nat × Nat) : List Ch := [BoxC b17 3 (.int .i64 (p.1 : Int)), BoxC b18 3 (.int .i64 (p.2 : Int)), BoxC b19 4 (.bool true)]
theorem SrI.next {L : List Ext} {pre : List Value} {p : Nat × Nat} (h : SrI L pre p) {x : Value} {post : List Value} (hx : secs L = pre ++ x :: post) (hL : ∀ y ∈ L, y.ok) :
    ∃ z, L[p.1]? = some z ∧ (((p.2 : Int) < z.n ∧ x = .int .i64 (z.a + p.2) ∧ pre ++ [x] = secs (L.take p.1) ++ sec z (p.2 + 1)) ∨ ((p.2 : Int) = z.n ∧ ∃ y, L[p.1 + 1]? = some y ∧ x = .int .i64 y.a ∧ pre ++ [x] = secs (L.take (p.1 + 1)) ++ sec y 1)) := by
  obtain ⟨hp, hle, _⟩ := h
  have e0 : ∀ i : Nat, L.length ≤ i → ∀ q : List Value, secs L ≠ (secs (L.take i) ++ q) ++ x :: post := fun i hi q e => by
    rw [List.take_of_length_le hi, List.append_assoc] at e
    have := congrArg List.length e
    simp at this
  cases hz : L[p.1]? with
  | none => exact absurd (hp ▸ hx) (e0 p.1 (List.getElem?_eq_none_iff.1 hz) _)
  | some z =>
    refine ⟨z, rfl, ?_⟩
    have hn := (hL z (List.mem_of_getElem? hz)).n1
    have hl := hle z hz
    unfold secAt at hp
    rw [hz] at hp
    dsimp only at hp
    by_cases hk : (p.2 : Int) < z.n
    · refine .inl ⟨hk, ?_⟩
      obtain ⟨rest, hr⟩ := secs_at L p.1 z hz p.2 (by omega)
      rw [hx, hp] at hr
      have h2 := List.append_cancel_left hr
      obtain ⟨rfl, _⟩ := List.cons.inj h2
      exact ⟨rfl, by rw [hp, sec_succ, List.append_assoc]⟩
    · have hk2 : (p.2 : Int) = z.n := by omega
      refine .inr ⟨hk2, ?_⟩
      have hs := secs_snoc L p.1 z hz
      rw [show p.2 = z.n.toNat by omega, ← hs] at hp
      cases hy : L[p.1 + 1]? with
      | none =>
        have := e0 (p.1 + 1) (List.getElem?_eq_none_iff.1 hy) []
        rw [List.append_nil, ← hp] at this
        exact absurd hx this
      | some y =>
        refine ⟨y, rfl, ?_⟩
        have hyn := (hL y (List.mem_of_getElem? hy)).n1
        obtain ⟨rest, hr⟩ := secs_at L (p.1 + 1) y hy 0 (by omega)
        rw [hx, hp, show sec y 0 = [] from rfl, List.append_nil] at hr
        have h2 := List.append_cancel_left hr
        obtain ⟨rfl, _⟩ := List.cons.inj h2
        exact ⟨by simp, by rw [hp, sec_succ, show sec y 0 = [] from rfl, List.nil_append]⟩
theorem tell1_round (b17 b3 b18 b19 : Nat) (s : Value) (hs : IsSl s) (L : List Ext) (hm : L.length ≤ 40) (hL : ∀ y ∈ L, y.ok) (pre : List Value) (x : Value) (post : List Value) (hx : secs L = pre ++ x :: post) (vs : List Value) (hvs : vs = [x]) (p : Nat × Nat) (hp : SrI L pre p) (hb : BoxC b3 22 s ∈ R) (hsl : SlC 2 s (L.map Ext.v) ∈ R) :
    Ct Try.prog 17 (vs ++ [ptr b17, ptr b3, ptr b18, ptr b19]) W0 X R ([] ++ (tlC b17 b18 b19 p ++ C)) ({ q // SrI L (pre ++ [x]) q } ⊕ { _q : Nat × Nat // True }) (fun q => .bool q.isLeft) (fun _ => R) (fun q => eiC (fun i : { q // SrI L (pre ++ [x]) q } => tlC b17 b18 b19 i.1) (fun k : { _q : Nat × Nat // True } => tlC b17 b18 b19 k.1) q ++ C) := by
  subst hvs
  obtain ⟨z, hz, h⟩ := hp.next hx hL
  obtain ⟨i, k⟩ := p
  dsimp only at hz h
  have hk2 : k ≤ 200 := hp.k2
  intro w hw
  rcases h with ⟨hk, rfl, hq⟩ | ⟨hk, y, hy, rfl, hq⟩
  · refine (tell1A_ct _ b17 b3 b18 b19 s hs L hm i k z (hL z (List.mem_of_getElem? hz)) hz hk hk2 rfl hb hsl w hw).mono ?_
    rintro e w' ⟨_, rfl, h2⟩
    have h3 : St W0 X R (tlC b17 b18 b19 (i, k + 1) ++ C) w' := h2
    by_cases hc : i < 3 ∧ k + 1 < 200
    · exact ⟨.inl ⟨(i, k + 1), ⟨by rw [hq]; unfold secAt; dsimp only; rw [hz], fun y hy => by rw [hz] at hy; cases hy; dsimp only; omega, by dsimp only; omega⟩⟩, by rw [decide_eq_true hc.1, decide_eq_true hc.2]; rfl, h3⟩
    · refine ⟨.inr ⟨(i, k + 1), trivial⟩, ?_, h3⟩
      have : (decide (i < 3) && decide (k + 1 < 200)) = false := by rw [← Bool.not_eq_true]; simpa using hc
      rw [this]; rfl
  · refine (tell1B_ct _ b17 b3 b18 b19 s hs L hm i k z y hz hk (hL y (List.mem_of_getElem? hy)) hy rfl hb hsl w hw).mono ?_
    rintro e w' ⟨_, rfl, h2⟩
    have h3 : St W0 X R (tlC b17 b18 b19 (i + 1, 1) ++ C) w' := h2
    by_cases hc : i + 1 < 3
    · exact ⟨.inl ⟨(i + 1, 1), ⟨by rw [hq]; unfold secAt; dsimp only; rw [hy], fun y2 hy2 => by rw [hy] at hy2; cases hy2; have := (hL y (List.mem_of_getElem? hy)).n1; dsimp only; omega, by dsimp only; omega⟩⟩, by rw [decide_eq_true hc]; rfl, h3⟩
    · refine ⟨.inr ⟨(i + 1, 1), trivial⟩, ?_, h3⟩
      rw [decide_eq_false hc]; rfl
end Law15
end Go.Proofs.Ytmfphgkpnojppaa
