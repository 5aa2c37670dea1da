/- The contract of flow.Map at two element types. Condition: the arguments are an iterator value, or nil, and a function. -/
import Derived.Test.YtncjgkghhcpagaaFeInt
namespace Go.Proofs.Ytncjgkghhcpagaa
open Go.RowKit Go.Shelf
set_option linter.unusedSimpArgs false
set_option linter.unusedVariables false
namespace FIntInt
variable {W0 : World} {X : Nat → Prop} {R C : List Ch}
set_option maxRecDepth 100000 in
theorem map_ct (s f : Value) (hs : fnB s = true) (hf : fnB f = true) : Ct Try.prog 16 [s, f] W0 X R C (Nat × Nat) (fun i => .func (.func 46) #[] #[ptr i.2, ptr i.1]) (fun i => BoxC i.2 38 f :: BoxC i.1 27 s :: R) (fun _ => C) := by
  intro w hw
  have hF := isWide_wide
  have hvs : VOf Try.prog 27 s := vof_fn (by kernel_rfl) hs
  have hvf : VOf Try.prog 38 f := vof_fn (by kernel_rfl) hf
  refine calls_nx Try.func16 rfl Try.ntmps16 rfl ?_ hw
  repeat' (first
    | ((first | with_reducible refine nl_op rfl ?_ | refine nd_go rfl rfl rfl ?_); intro K hK; (first
      | ((first | refine on_E hF rfl rfl ?_ | refine od_E rfl rfl ?_ | refine od_R rfl rfl ?_); (first | refine ⟨_, a_yl, ?_⟩))
      | ((first | refine on_Ec hF rfl rfl ?_ | refine od_Ec rfl rfl ?_); refine ⟨_, _, _, a_yc, ?_, ?_⟩ <;> (intro hc; try (exfalso; first | (omega; done) | exact absurd (by with_reducible rfl) hc | (simp at hc; done))))
      | ((first | (refine od_act (fun c => by exact (fun h => by cases h)) ?_; intro K2 hK2) | refine od_last (fun c => by exact (fun h => by cases h)) ?_ | skip); (first
      
      
      
      | (refine on_box hF rfl rfl rfl rfl (fun B => ?_))
      | (refine on_store hF rfl rfl rfl rfl a_turn a_vof (by first | rfl | exact hsz.symm | exact hsz) ?_)
      | (refine on_storeE hF rfl rfl rfl rfl a_turn (by (first | omega | (simp only [List.length_append, List.length_cons, List.length_nil, List.length_map] at *; omega))) a_vof (by first | rfl | exact hsz) ?_)
      | (refine on_storeEF hF rfl rfl rfl rfl a_turn (by first | with_reducible assumption | rfl) (by decide) a_vof rfl ?_)
      | (refine on_storeF hF rfl rfl rfl rfl a_turn (by decide) a_vof rfl ?_)) <;> try (refine hK2 _ _ _ a_allK ?_; clear hK2 K2))) <;> (refine hK _ _ _ ?_; clear hK K))
    | with_reducible refine nx_seq ?_
        | with_reducible refine nx_region ?_
        | with_reducible refine nl_nil ?_
        | with_reducible refine nq_then_n ?_
        | with_reducible refine nx_block ?_
        | with_reducible refine nx_skip ?_
        | with_reducible refine nx_exit ?_
        | with_reducible refine nx_ret ?_
        | with_reducible refine nq_then_x ?_
        | with_reducible refine nq_then_r ?_
        | with_reducible refine nq_blk_n ?_
        | with_reducible refine nq_blk_r ?_
        | with_reducible refine nq_blk_hit ?_
        | with_reducible refine nq_blk_miss rfl ?_
        | with_reducible refine nd_nil ?_
    | refine nx_cond_t rfl ?_ | refine nx_cond_f rfl ?_
    | refine nl_pass hF rfl rfl rfl ?_
    | refine nd_pass rfl rfl rfl rfl rfl ?_
    | refine nd_pass2 rfl rfl rfl (fun c => by exact (fun h => by cases h)) a_allK rfl rfl ?_
    | refine nd_pass3 rfl rfl rfl (fun c => by exact (fun h => by cases h)) rfl rfl ?_
    | (with_reducible refine hQ1 _ _ _ ?_; clear hQ1 Q1)
    )
  rename_i b0
  refine nx_frz _ Pick.here ?_
  refine nx_frz _ Pick.here ?_
  refine nx_end [] rfl (b0, B) (fun a w ha hw => res_tmp Try.results16 rfl ha) (by exact a_subR) (by exact a_holds2)
set_option maxRecDepth 100000 in
set_option maxHeartbeats 1000000 in
theorem map_it (b0 b1 : Nat) (s f : Value) (xs : List Value) (G : Value → Value) (RS RF : List Ch) (hs : ItN Try.prog xs s RS) (hf : FunS Try.prog xs G f RF) (hv : ∀ x ∈ xs, VOf Try.prog 3 x) :
    It Try.prog (xs.map G) (.func (.func 46) #[] #[ptr b1, ptr b0]) (BoxC b1 38 f :: BoxC b0 27 s :: (RS ++ RF)) := by
  refine ⟨46, [ptr b1, ptr b0], rfl, (enters_of Try.func46 (by kernel_rfl) rfl), ?_⟩
  intro y RY J JX hY hy W0 X R E hRS hRY w hw
  have hF := isWide_wide
  have hb0 : BoxC b0 27 s ∈ R := hRS _ (by simp)
  have hb1 : BoxC b1 38 f ∈ R := hRS _ (by simp)
  have hR1 : ∀ r ∈ RS, r ∈ R := fun r hr => hRS r (by simp [hr])
  have hR2 : ∀ r ∈ RF, r ∈ R := fun r hr => hRS r (by simp [hr])
  have hvs : VOf Try.prog 27 s := vof_fn (by kernel_rfl) hs.fn
  have hvf : VOf Try.prog 38 f := vof_fn (by kernel_rfl) hf.fn
  have hyv : VOf Try.prog 24 y := vof_func (by kernel_rfl) (by obtain ⟨f, lb, h⟩ := hy; exact ⟨f, _, lb, h⟩)
  obtain ⟨gf, lbf, hfe, _⟩ := id hf
  clear hRS
  refine calls_nx Try.func46 rfl Try.ntmps46 rfl ?_ hw
  subst hfe
  repeat' (first
    | ((first | with_reducible refine nl_op rfl ?_ | refine nd_go rfl rfl rfl ?_); intro K hK; (first
      | ((first | refine on_E hF rfl rfl ?_ | refine od_E rfl rfl ?_ | refine od_R rfl rfl ?_); (first | refine ⟨_, a_yl, ?_⟩))
      | ((first | refine on_Ec hF rfl rfl ?_ | refine od_Ec rfl rfl ?_); refine ⟨_, _, _, a_yc, ?_, ?_⟩ <;> (intro hc; try (exfalso; first | (omega; done) | exact absurd (by with_reducible rfl) hc | (simp at hc; done))))
      | ((first | (refine od_act (fun c => by exact (fun h => by cases h)) ?_; intro K2 hK2) | refine od_last (fun c => by exact (fun h => by cases h)) ?_ | skip); (first
      | (refine on_callG hF (enters_of Try.func39 (by kernel_rfl) rfl) rfl rfl rfl rfl (NInt.each_ct hs) (fun s1 => ?_))
      
      
      | (refine on_box hF rfl rfl rfl rfl (fun B => ?_))
      | (refine on_store hF rfl rfl rfl rfl a_turn a_vof (by first | rfl | exact hsz.symm | exact hsz) ?_)
      | (refine on_storeE hF rfl rfl rfl rfl a_turn (by (first | omega | (simp only [List.length_append, List.length_cons, List.length_nil, List.length_map] at *; omega))) a_vof (by first | rfl | exact hsz) ?_)
      | (refine on_storeEF hF rfl rfl rfl rfl a_turn (by first | with_reducible assumption | rfl) (by decide) a_vof rfl ?_)
      | (refine on_storeF hF rfl rfl rfl rfl a_turn (by decide) a_vof rfl ?_)) <;> try (refine hK2 _ _ _ a_allK ?_; clear hK2 K2))) <;> (refine hK _ _ _ ?_; clear hK K))
    | with_reducible refine nx_seq ?_
        | with_reducible refine nx_region ?_
        | with_reducible refine nl_nil ?_
        | with_reducible refine nq_then_n ?_
        | with_reducible refine nx_block ?_
        | with_reducible refine nx_skip ?_
        | with_reducible refine nx_exit ?_
        | with_reducible refine nx_ret ?_
        | with_reducible refine nq_then_x ?_
        | with_reducible refine nq_then_r ?_
        | with_reducible refine nq_blk_n ?_
        | with_reducible refine nq_blk_r ?_
        | with_reducible refine nq_blk_hit ?_
        | with_reducible refine nq_blk_miss rfl ?_
        | with_reducible refine nd_nil ?_
    | refine nx_cond_t rfl ?_ | refine nx_cond_f rfl ?_
    | refine nl_pass hF rfl rfl rfl ?_
    | refine nd_pass rfl rfl rfl rfl rfl ?_
    | refine nd_pass2 rfl rfl rfl (fun c => by exact (fun h => by cases h)) a_allK rfl rfl ?_
    | refine nd_pass3 rfl rfl rfl (fun c => by exact (fun h => by cases h)) rfl rfl ?_
    | (with_reducible refine hQ1 _ _ _ ?_; clear hQ1 Q1)
    | (refine nd_region (id := 4) hF [1, 1, 0, 2, 2, 0] [0, 1, 2, 3, 4, 5] _ _ (by kernel_rfl) (by kernel_rfl) sub2_same ?_; intro Q1 hQ1))
  refine nx_frz _ Pick.here ?_
  refine nx_range hF rfl rfl s1.2 (fun r hr => List.mem_cons_of_mem _ (hR1 r hr)) (by rfl) (fun x vs h => by rw [h]; rfl) (fun _ (_ : Unit) => True) (fun pre _ => J (pre.map G) :: E) (fun q j (_ : Unit) => j = none) (fun q _ _ => JX (q.map G) :: E) () trivial (by exact a_holds2) ?round ?done ?stop
  case round =>
    intro lp pre x post hx vs hvs' _ _ W1 X1 R' hR' E1 K HK
    subst hvs'
    have hF := isWide_wide.inRound lp
    have hmem : x ∈ xs := by rw [hx]; simp
    have hvx := hv x hmem
    have hsz : (cv x).size = 1 := by have := hvx.size; rw [show (Try.prog.info? 3).map (·.size) = some 1 from by kernel_rfl] at this; exact (Option.some.inj this).symm
    have hb1 : BoxC b1 38 (.func (.func gf) #[] lbf.toArray) ∈ R' := hR' _ (List.mem_cons_of_mem _ hb1)
    have hby : BoxC B 24 y ∈ R' := hR' _ List.mem_cons_self
    have hR2 : ∀ r ∈ RF, r ∈ R' := fun r hr => hR' r (List.mem_cons_of_mem _ (hR2 r hr))
    have hRY : ∀ r ∈ RY, r ∈ R' := fun r hr => hR' r (List.mem_cons_of_mem _ (hRY r hr))
    have hft : (pre ++ [x]).map G = pre.map G ++ [G x] := by simp
    clear hR' hR1 hb0
    repeat' (first
    | ((first | with_reducible refine nl_op rfl ?_ | refine nd_go rfl rfl rfl ?_); intro K hK; (first
      | ((first | refine on_E hF rfl rfl ?_ | refine od_E rfl rfl ?_ | refine od_R rfl rfl ?_); (first | refine ⟨_, a_yl, ?_⟩))
      | ((first | refine on_Ec hF rfl rfl ?_ | refine od_Ec rfl rfl ?_); refine ⟨_, _, _, a_yc, ?_, ?_⟩ <;> (intro hc; try (exfalso; first | (omega; done) | exact absurd (by with_reducible rfl) hc | (simp at hc; done))))
      | ((first | (refine od_act (fun c => by exact (fun h => by cases h)) ?_; intro K2 hK2) | refine od_last (fun c => by exact (fun h => by cases h)) ?_ | skip); (first
      
      
      
      | (refine on_box hF rfl rfl rfl rfl (fun B => ?_))
      | (refine on_store hF rfl rfl rfl rfl a_turn a_vof (by first | rfl | exact hsz.symm | exact hsz) ?_)
      | (refine on_storeE hF rfl rfl rfl rfl a_turn (by (first | omega | (simp only [List.length_append, List.length_cons, List.length_nil, List.length_map] at *; omega))) a_vof (by first | rfl | exact hsz) ?_)
      | (refine on_storeEF hF rfl rfl rfl rfl a_turn (by first | with_reducible assumption | rfl) (by decide) a_vof rfl ?_)
      | (refine on_storeF hF rfl rfl rfl rfl a_turn (by decide) a_vof rfl ?_)) <;> try (refine hK2 _ _ _ a_allK ?_; clear hK2 K2))) <;> (refine hK _ _ _ ?_; clear hK K))
    | with_reducible refine nx_seq ?_
        | with_reducible refine nx_region ?_
        | with_reducible refine nl_nil ?_
        | with_reducible refine nq_then_n ?_
        | with_reducible refine nx_block ?_
        | with_reducible refine nx_skip ?_
        | with_reducible refine nx_exit ?_
        | with_reducible refine nx_ret ?_
        | with_reducible refine nq_then_x ?_
        | with_reducible refine nq_then_r ?_
        | with_reducible refine nq_blk_n ?_
        | with_reducible refine nq_blk_r ?_
        | with_reducible refine nq_blk_hit ?_
        | with_reducible refine nq_blk_miss rfl ?_
        | with_reducible refine nd_nil ?_
    | refine nx_cond_t rfl ?_ | refine nx_cond_f rfl ?_
    | refine nl_pass hF rfl rfl rfl ?_
    | refine nd_pass rfl rfl rfl rfl rfl ?_
    | refine nd_pass2 rfl rfl rfl (fun c => by exact (fun h => by cases h)) a_allK rfl rfl ?_
    | refine nd_pass3 rfl rfl rfl (fun c => by exact (fun h => by cases h)) rfl rfl ?_
    | (with_reducible refine hQ1 _ _ _ ?_; clear hQ1 Q1)
    | (refine nd_region (id := 4) hF [1, 1, 0, 2, 2, 0] [0, 1, 2, 3, 4, 5] _ _ (by kernel_rfl) (by kernel_rfl) sub2_same ?_; intro Q1 hQ1))
    all_goals try (refine nx_frz (BoxC _ _ x) Pick.here ?_)
    refine HK _ _ (J (pre.map G) :: E) _ (by exact a_subR) (by exact a_holds2) (fun E2 => ?_)
    clear HK K
    (try simp only [List.cons_append, List.nil_append])
    rw [hft]
    repeat' (first
    | ((first | with_reducible refine nl_op rfl ?_ | refine nd_go rfl rfl rfl ?_); intro K hK; (first
      | ((first | refine on_E hF rfl rfl ?_ | refine od_E rfl rfl ?_ | refine od_R rfl rfl ?_); (first | refine ⟨_, a_yl, ?_⟩))
      | ((first | refine on_Ec hF rfl rfl ?_ | refine od_Ec rfl rfl ?_); refine ⟨_, _, _, a_yc, ?_, ?_⟩ <;> (intro hc; try (exfalso; first | (omega; done) | exact absurd (by with_reducible rfl) hc | (simp at hc; done))))
      | ((first | (refine od_act (fun c => by exact (fun h => by cases h)) ?_; intro K2 hK2) | refine od_last (fun c => by exact (fun h => by cases h)) ?_ | skip); (first
      | (refine on_fun hF hf rfl rfl rfl rfl rfl hmem (by exact a_subR) ?_) | (refine on_yield hF hY (pre.map G) (G x) (post.map G) (by rw [hx]; simp) rfl rfl rfl rfl rfl rfl (by exact a_subR) rfl (by exact a_pick) ?_ ?_)
      
      
      | (refine on_box hF rfl rfl rfl rfl (fun B => ?_))
      | (refine on_store hF rfl rfl rfl rfl a_turn a_vof (by first | rfl | exact hsz.symm | exact hsz) ?_)
      | (refine on_storeE hF rfl rfl rfl rfl a_turn (by (first | omega | (simp only [List.length_append, List.length_cons, List.length_nil, List.length_map] at *; omega))) a_vof (by first | rfl | exact hsz) ?_)
      | (refine on_storeEF hF rfl rfl rfl rfl a_turn (by first | with_reducible assumption | rfl) (by decide) a_vof rfl ?_)
      | (refine on_storeF hF rfl rfl rfl rfl a_turn (by decide) a_vof rfl ?_)) <;> try (refine hK2 _ _ _ a_allK ?_; clear hK2 K2))) <;> (refine hK _ _ _ ?_; clear hK K))
    | with_reducible refine nx_seq ?_
        | with_reducible refine nx_region ?_
        | with_reducible refine nl_nil ?_
        | with_reducible refine nq_then_n ?_
        | with_reducible refine nx_block ?_
        | with_reducible refine nx_skip ?_
        | with_reducible refine nx_exit ?_
        | with_reducible refine nx_ret ?_
        | with_reducible refine nq_then_x ?_
        | with_reducible refine nq_then_r ?_
        | with_reducible refine nq_blk_n ?_
        | with_reducible refine nq_blk_r ?_
        | with_reducible refine nq_blk_hit ?_
        | with_reducible refine nq_blk_miss rfl ?_
        | with_reducible refine nd_nil ?_
    | refine nx_cond_t rfl ?_ | refine nx_cond_f rfl ?_
    | refine nl_pass hF rfl rfl rfl ?_
    | refine nd_pass rfl rfl rfl rfl rfl ?_
    | refine nd_pass2 rfl rfl rfl (fun c => by exact (fun h => by cases h)) a_allK rfl rfl ?_
    | refine nd_pass3 rfl rfl rfl (fun c => by exact (fun h => by cases h)) rfl rfl ?_
    | (with_reducible refine hQ1 _ _ _ ?_; clear hQ1 Q1)
    | (refine nd_region (id := 4) hF [1, 1, 0, 2, 2, 0] [0, 1, 2, 3, 4, 5] [] _ (by kernel_rfl) (by kernel_rfl) (sub2_mk (fun c h => by cases h) (fun c h => h)) ?_; intro Q1 hQ1))
    · exact rq_n () trivial (by exact a_subR) (by exact a_holds2)
    · exact rq_r () rfl (by exact a_subR) (by exact a_holds2)
  case done =>
    intro _ _ M
    repeat' (first
    | ((first | with_reducible refine nl_op rfl ?_ | refine nd_go rfl rfl rfl ?_); intro K hK; (first
      | ((first | refine on_E hF rfl rfl ?_ | refine od_E rfl rfl ?_ | refine od_R rfl rfl ?_); (first | refine ⟨_, a_yl, ?_⟩))
      | ((first | refine on_Ec hF rfl rfl ?_ | refine od_Ec rfl rfl ?_); refine ⟨_, _, _, a_yc, ?_, ?_⟩ <;> (intro hc; try (exfalso; first | (omega; done) | exact absurd (by with_reducible rfl) hc | (simp at hc; done))))
      | ((first | (refine od_act (fun c => by exact (fun h => by cases h)) ?_; intro K2 hK2) | refine od_last (fun c => by exact (fun h => by cases h)) ?_ | skip); (first
      
      
      
      | (refine on_box hF rfl rfl rfl rfl (fun B => ?_))
      | (refine on_store hF rfl rfl rfl rfl a_turn a_vof (by first | rfl | exact hsz.symm | exact hsz) ?_)
      | (refine on_storeE hF rfl rfl rfl rfl a_turn (by (first | omega | (simp only [List.length_append, List.length_cons, List.length_nil, List.length_map] at *; omega))) a_vof (by first | rfl | exact hsz) ?_)
      | (refine on_storeEF hF rfl rfl rfl rfl a_turn (by first | with_reducible assumption | rfl) (by decide) a_vof rfl ?_)
      | (refine on_storeF hF rfl rfl rfl rfl a_turn (by decide) a_vof rfl ?_)) <;> try (refine hK2 _ _ _ a_allK ?_; clear hK2 K2))) <;> (refine hK _ _ _ ?_; clear hK K))
    | with_reducible refine nx_seq ?_
        | with_reducible refine nx_region ?_
        | with_reducible refine nl_nil ?_
        | with_reducible refine nq_then_n ?_
        | with_reducible refine nx_block ?_
        | with_reducible refine nx_skip ?_
        | with_reducible refine nx_exit ?_
        | with_reducible refine nx_ret ?_
        | with_reducible refine nq_then_x ?_
        | with_reducible refine nq_then_r ?_
        | with_reducible refine nq_blk_n ?_
        | with_reducible refine nq_blk_r ?_
        | with_reducible refine nq_blk_hit ?_
        | with_reducible refine nq_blk_miss rfl ?_
        | with_reducible refine nd_nil ?_
    | refine nx_cond_t rfl ?_ | refine nx_cond_f rfl ?_
    | refine nl_pass hF rfl rfl rfl ?_
    | refine nd_pass rfl rfl rfl rfl rfl ?_
    | refine nd_pass2 rfl rfl rfl (fun c => by exact (fun h => by cases h)) a_allK rfl rfl ?_
    | refine nd_pass3 rfl rfl rfl (fun c => by exact (fun h => by cases h)) rfl rfl ?_
    | (with_reducible refine hQ1 _ _ _ ?_; clear hQ1 Q1)
    | (refine nd_region (id := 4) hF [1, 1, 0, 2, 2, 0] [0, 1, 2, 3, 4, 5] _ _ (by kernel_rfl) (by kernel_rfl) sub2_same ?_; intro Q1 hQ1))
    refine nx_end_n [M] rfl none (fun a w ha hw => res_none Try.results46) (by exact a_subR) (by exact a_holds2)
  case stop =>
    rintro pre x post hx j _ rfl M
    refine nx_ret ?_
    repeat' (first
    | ((first | with_reducible refine nl_op rfl ?_ | refine nd_go rfl rfl rfl ?_); intro K hK; (first
      | ((first | refine on_E hF rfl rfl ?_ | refine od_E rfl rfl ?_ | refine od_R rfl rfl ?_); (first | refine ⟨_, a_yl, ?_⟩))
      | ((first | refine on_Ec hF rfl rfl ?_ | refine od_Ec rfl rfl ?_); refine ⟨_, _, _, a_yc, ?_, ?_⟩ <;> (intro hc; try (exfalso; first | (omega; done) | exact absurd (by with_reducible rfl) hc | (simp at hc; done))))
      | ((first | (refine od_act (fun c => by exact (fun h => by cases h)) ?_; intro K2 hK2) | refine od_last (fun c => by exact (fun h => by cases h)) ?_ | skip); (first
      
      
      
      | (refine on_box hF rfl rfl rfl rfl (fun B => ?_))
      | (refine on_store hF rfl rfl rfl rfl a_turn a_vof (by first | rfl | exact hsz.symm | exact hsz) ?_)
      | (refine on_storeE hF rfl rfl rfl rfl a_turn (by (first | omega | (simp only [List.length_append, List.length_cons, List.length_nil, List.length_map] at *; omega))) a_vof (by first | rfl | exact hsz) ?_)
      | (refine on_storeEF hF rfl rfl rfl rfl a_turn (by first | with_reducible assumption | rfl) (by decide) a_vof rfl ?_)
      | (refine on_storeF hF rfl rfl rfl rfl a_turn (by decide) a_vof rfl ?_)) <;> try (refine hK2 _ _ _ a_allK ?_; clear hK2 K2))) <;> (refine hK _ _ _ ?_; clear hK K))
    | with_reducible refine nx_seq ?_
        | with_reducible refine nx_region ?_
        | with_reducible refine nl_nil ?_
        | with_reducible refine nq_then_n ?_
        | with_reducible refine nx_block ?_
        | with_reducible refine nx_skip ?_
        | with_reducible refine nx_exit ?_
        | with_reducible refine nx_ret ?_
        | with_reducible refine nq_then_x ?_
        | with_reducible refine nq_then_r ?_
        | with_reducible refine nq_blk_n ?_
        | with_reducible refine nq_blk_r ?_
        | with_reducible refine nq_blk_hit ?_
        | with_reducible refine nq_blk_miss rfl ?_
        | with_reducible refine nd_nil ?_
    | refine nx_cond_t rfl ?_ | refine nx_cond_f rfl ?_
    | refine nl_pass hF rfl rfl rfl ?_
    | refine nd_pass rfl rfl rfl rfl rfl ?_
    | refine nd_pass2 rfl rfl rfl (fun c => by exact (fun h => by cases h)) a_allK rfl rfl ?_
    | refine nd_pass3 rfl rfl rfl (fun c => by exact (fun h => by cases h)) rfl rfl ?_
    | (with_reducible refine hQ1 _ _ _ ?_; clear hQ1 Q1)
    | (refine nd_region (id := 4) hF [1, 1, 0, 2, 2, 0] [0, 1, 2, 3, 4, 5] _ _ (by kernel_rfl) (by kernel_rfl) sub2_same ?_; intro Q1 hQ1))
    rw [show (pre ++ [x]).map G = pre.map G ++ [G x] by simp]
    refine nx_end [M] rfl (some ⟨pre.map G ++ [G x], _, _, post.map G, rfl, by rw [hx]; simp⟩) (fun a w ha hw => res_none Try.results46) (by exact a_subR) (by exact a_holds2)
set_option maxRecDepth 100000 in
theorem map_it0 (b0 b1 : Nat) (s : Value) (RS : List Ch) :
    It Try.prog [] (.func (.func 46) #[] #[ptr b1, ptr b0]) (BoxC b1 38 .nilFunc :: BoxC b0 27 s :: RS) := by
  refine ⟨46, [ptr b1, ptr b0], rfl, (enters_of Try.func46 (by kernel_rfl) rfl), ?_⟩
  intro y RY J JX hY hy W0 X R E hRS hRY w hw
  have hF := isWide_wide
  have hb1 : BoxC b1 38 .nilFunc ∈ R := hRS _ (by simp)
  clear hRS
  refine calls_nx Try.func46 rfl Try.ntmps46 rfl ?_ hw
  repeat' (first
    | ((first | with_reducible refine nl_op rfl ?_ | refine nd_go rfl rfl rfl ?_); intro K hK; (first
      | ((first | refine on_E hF rfl rfl ?_ | refine od_E rfl rfl ?_ | refine od_R rfl rfl ?_); (first | refine ⟨_, a_yl, ?_⟩))
      | ((first | refine on_Ec hF rfl rfl ?_ | refine od_Ec rfl rfl ?_); refine ⟨_, _, _, a_yc, ?_, ?_⟩ <;> (intro hc; try (exfalso; first | (omega; done) | exact absurd (by with_reducible rfl) hc | (simp at hc; done))))
      | ((first | (refine od_act (fun c => by exact (fun h => by cases h)) ?_; intro K2 hK2) | refine od_last (fun c => by exact (fun h => by cases h)) ?_ | skip); (first
      
      
      
      | (refine on_box hF rfl rfl rfl rfl (fun B => ?_))
      | (refine on_store hF rfl rfl rfl rfl a_turn a_vof (by first | rfl | exact hsz.symm | exact hsz) ?_)
      | (refine on_storeE hF rfl rfl rfl rfl a_turn (by (first | omega | (simp only [List.length_append, List.length_cons, List.length_nil, List.length_map] at *; omega))) a_vof (by first | rfl | exact hsz) ?_)
      | (refine on_storeEF hF rfl rfl rfl rfl a_turn (by first | with_reducible assumption | rfl) (by decide) a_vof rfl ?_)
      | (refine on_storeF hF rfl rfl rfl rfl a_turn (by decide) a_vof rfl ?_)) <;> try (refine hK2 _ _ _ a_allK ?_; clear hK2 K2))) <;> (refine hK _ _ _ ?_; clear hK K))
    | with_reducible refine nx_seq ?_
        | with_reducible refine nx_region ?_
        | with_reducible refine nl_nil ?_
        | with_reducible refine nq_then_n ?_
        | with_reducible refine nx_block ?_
        | with_reducible refine nx_skip ?_
        | with_reducible refine nx_exit ?_
        | with_reducible refine nx_ret ?_
        | with_reducible refine nq_then_x ?_
        | with_reducible refine nq_then_r ?_
        | with_reducible refine nq_blk_n ?_
        | with_reducible refine nq_blk_r ?_
        | with_reducible refine nq_blk_hit ?_
        | with_reducible refine nq_blk_miss rfl ?_
        | with_reducible refine nd_nil ?_
    | refine nx_cond_t rfl ?_ | refine nx_cond_f rfl ?_
    | refine nl_pass hF rfl rfl rfl ?_
    | refine nd_pass rfl rfl rfl rfl rfl ?_
    | refine nd_pass2 rfl rfl rfl (fun c => by exact (fun h => by cases h)) a_allK rfl rfl ?_
    | refine nd_pass3 rfl rfl rfl (fun c => by exact (fun h => by cases h)) rfl rfl ?_
    | (with_reducible refine hQ1 _ _ _ ?_; clear hQ1 Q1)
    | (refine nd_region (id := 4) hF [1, 1, 0, 2, 2, 0] [0, 1, 2, 3, 4, 5] _ _ (by kernel_rfl) (by kernel_rfl) sub2_same ?_; intro Q1 hQ1))
  refine nx_end [] rfl none (fun a w ha hw => res_none Try.results46) (by exact a_subR) (by exact a_holds2)
end FIntInt
end Go.Proofs.Ytncjgkghhcpagaa
