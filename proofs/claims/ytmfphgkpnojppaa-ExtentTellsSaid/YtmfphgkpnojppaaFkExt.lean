/- The contracts of slices.Collect at one element type. Condition: the argument is an iterator value. -/
import Derived.Test.YtmfphgkpnojppaaFeExt
namespace Go.Proofs.Ytmfphgkpnojppaa
open Go.RowKit Go.Shelf
set_option linter.unusedSimpArgs false
set_option linter.unusedVariables false
namespace NExt
variable {W0 : World} {X : Nat → Prop} {R C : List Ch}
set_option maxRecDepth 100000 in
set_option maxHeartbeats 1000000 in
theorem app_ct (s : Value) (xs : List Value) (RS : List Ch) (hs : It Try.prog xs s RS) (hv : ∀ x ∈ xs, VOf Try.prog 39 x) (hR1 : ∀ r ∈ RS, r ∈ R) (hm : xs.length * 16 ≤ 140737488355328) :
    Ct Try.prog 36 [.slice none 0 0, s] W0 X R C SV (fun v => v.1) (fun _ => R) (fun v => RowC 39 2 v.1 xs :: C) := by
  intro w hw
  have hF := isWide_wide
  refine calls_nx Try.func36 rfl Try.ntmps36 rfl ?_ hw
  repeat' (first
    | ((first | with_reducible refine nl_op rfl ?_ | refine nd_go rfl rfl rfl ?_); intro K hK; (first
      | ((first | refine on_E hF rfl rfl ?_ | refine od_E rfl rfl ?_ | refine od_R rfl rfl ?_); (first | refine ⟨_, a_yl, ?_⟩))
      | ((first | refine on_Ec hF rfl rfl ?_ | refine od_Ec rfl rfl ?_); refine ⟨_, _, _, a_yc, ?_, ?_⟩ <;> (intro hc; try (exfalso; first | (omega; done) | exact absurd (by with_reducible rfl) hc | (simp at hc; done))))
      | ((first | (refine od_act (fun c => by exact (fun h => by cases h)) ?_; intro K2 hK2) | refine od_last (fun c => by exact (fun h => by cases h)) ?_ | skip); (first
      
      | (refine on_buildSlice (T := 22) (e := 39) (k := 2) (by_ := 16) hF rfl rfl rfl rfl rfl rfl (by kernel_rfl) a_cel (Nat.le_of_ble_eq_true rfl) (fun b => ?_))
      | (refine on_append (T := 22) (e := 39) (k := 2) (by_ := 16) hF rfl rfl rfl rfl rfl a_pick (by kernel_rfl) a_sl a_cel (by first | omega | (unfold maxLen; simp only [List.length_map, List.length_append, List.length_cons, List.length_nil, List.length_replicate]; omega) | (simp only [List.length_map, List.length_append, List.length_cons, List.length_nil, List.length_replicate]; omega)) (by first | omega | (unfold maxLen; simp only [List.length_map, List.length_append, List.length_cons, List.length_nil, List.length_replicate]; omega) | (simp only [List.length_map, List.length_append, List.length_cons, List.length_nil, List.length_replicate]; omega)) (fun v => ?_))
      | (refine on_alloc hF rfl Try.zeroValue39 rfl rfl (fun B => ?_))
      | (refine on_box hF rfl rfl rfl rfl (fun B => ?_))
      | (refine on_store hF rfl rfl rfl rfl a_turn a_vof (by first | rfl | exact hsz.symm | exact hsz) ?_)
      | (refine on_storeE hF rfl rfl rfl rfl a_turn (by (first | omega | (simp only [List.length_append, List.length_cons, List.length_nil, List.length_map] at *; omega))) a_vof (by first | rfl | exact hsz) ?_)
      | (refine on_storeEF hF rfl rfl rfl rfl a_turn (by first | with_reducible assumption | rfl) (by decide) a_vof rfl ?_)
      | (refine on_storeF hF rfl rfl rfl rfl a_turn (by decide) a_vof rfl ?_)) <;> try (refine hK2 _ _ _ a_allK ?_; clear hK2 K2))) <;> (refine hK _ _ _ ?_; clear hK K))
    | with_reducible refine nx_seq ?_
        | with_reducible refine nx_region ?_
        | with_reducible refine nl_nil ?_
        | with_reducible refine nq_then_n ?_
        | with_reducible refine nx_block ?_
        | with_reducible refine nx_skip ?_
        | with_reducible refine nx_exit ?_
        | with_reducible refine nx_ret ?_
        | with_reducible refine nq_then_x ?_
        | with_reducible refine nq_then_r ?_
        | with_reducible refine nq_blk_n ?_
        | with_reducible refine nq_blk_r ?_
        | with_reducible refine nq_blk_hit ?_
        | with_reducible refine nq_blk_miss rfl ?_
        | with_reducible refine nd_nil ?_
    | refine nx_cond_t rfl ?_ | refine nx_cond_f rfl ?_
    | refine nl_pass hF rfl rfl rfl ?_
    | refine nd_pass rfl rfl rfl rfl rfl ?_
    | refine nd_pass2 rfl rfl rfl (fun c => by exact (fun h => by cases h)) a_allK rfl rfl ?_
    | refine nd_pass3 rfl rfl rfl (fun c => by exact (fun h => by cases h)) rfl rfl ?_
    | (with_reducible refine hQ1 _ _ _ ?_; clear hQ1 Q1)
    )
  rename Nat => b2
  refine nx_nilRow 39 2 ?_
  refine nx_range hF rfl rfl hs hR1 (by rfl) (fun x vs h => by rw [h]; rfl) (fun _ (_ : SV) => True) (fun pre v => BoxC b2 22 v.1 :: RowC 39 2 v.1 pre :: C) (fun _ _ (_ : Unit) => False) (fun _ _ _ => []) ⟨.slice none 0 0, _, _, _, rfl⟩ trivial (by exact a_holds2) ?round ?done ?stop
  case round =>
    rintro lp pre x post hx vs rfl ⟨v, hv0⟩ _ W1 X1 R' hR' E1 K HK
    have hF := isWide_wide.inRound lp
    have hmem : x ∈ xs := by rw [hx]; simp
    have hvx := hv x hmem
    have hsz : (cv x).size = 2 := by have := hvx.size; rw [show (Try.prog.info? 39).map (·.size) = some 2 from by kernel_rfl] at this; exact (Option.some.inj this).symm
    have hcx : Cel 2 [x] := Cel.of (T := 39) (fun y hy => by simp at hy; rw [hy]; exact hvx) (by kernel_rfl)
    have hvv : VOf Try.prog 22 v := vof_slice (by kernel_rfl) hv0
    have hsv : (cv v).size = 1 := by obtain ⟨_, _, _, rfl⟩ := hv0; rfl
    have hl : pre.length + 1 ≤ xs.length := by rw [hx]; simp
    have hm1 : pre.length + [x].length ≤ maxLen := by unfold maxLen; simp; omega
    have hm2 : (pre.length + [x].length) * 16 ≤ 140737488355328 := by simp; omega
    dsimp only
    (try simp only [List.cons_append, List.nil_append])
    repeat' (first
    | ((first | with_reducible refine nl_op rfl ?_ | refine nd_go rfl rfl rfl ?_); intro K hK; (first
      | ((first | refine on_E hF rfl rfl ?_ | refine od_E rfl rfl ?_ | refine od_R rfl rfl ?_); (first | refine ⟨_, a_yl, ?_⟩))
      | ((first | refine on_Ec hF rfl rfl ?_ | refine od_Ec rfl rfl ?_); refine ⟨_, _, _, a_yc, ?_, ?_⟩ <;> (intro hc; try (exfalso; first | (omega; done) | exact absurd (by with_reducible rfl) hc | (simp at hc; done))))
      | ((first | (refine od_act (fun c => by exact (fun h => by cases h)) ?_; intro K2 hK2) | refine od_last (fun c => by exact (fun h => by cases h)) ?_ | skip); (first
      
      | (refine on_buildSlice (T := 22) (e := 39) (k := 2) (by_ := 16) hF rfl rfl rfl rfl rfl rfl (by kernel_rfl) a_cel (Nat.le_of_ble_eq_true rfl) (fun b => ?_))
      | (refine on_append (T := 22) (e := 39) (k := 2) (by_ := 16) hF rfl rfl rfl rfl rfl a_pick (by kernel_rfl) a_sl a_cel (by first | omega | (unfold maxLen; simp only [List.length_map, List.length_append, List.length_cons, List.length_nil, List.length_replicate]; omega) | (simp only [List.length_map, List.length_append, List.length_cons, List.length_nil, List.length_replicate]; omega)) (by first | omega | (unfold maxLen; simp only [List.length_map, List.length_append, List.length_cons, List.length_nil, List.length_replicate]; omega) | (simp only [List.length_map, List.length_append, List.length_cons, List.length_nil, List.length_replicate]; omega)) (fun v => ?_))
      | (refine on_alloc hF rfl Try.zeroValue39 rfl rfl (fun B => ?_))
      | (refine on_box hF rfl rfl rfl rfl (fun B => ?_))
      | (refine on_store hF rfl rfl rfl rfl a_turn a_vof (by first | rfl | exact hsz.symm | exact hsz) ?_)
      | (refine on_storeE hF rfl rfl rfl rfl a_turn (by (first | omega | (simp only [List.length_append, List.length_cons, List.length_nil, List.length_map] at *; omega))) a_vof (by first | rfl | exact hsz) ?_)
      | (refine on_storeEF hF rfl rfl rfl rfl a_turn (by first | with_reducible assumption | rfl) (by decide) a_vof rfl ?_)
      | (refine on_storeF hF rfl rfl rfl rfl a_turn (by decide) a_vof rfl ?_)) <;> try (refine hK2 _ _ _ a_allK ?_; clear hK2 K2))) <;> (refine hK _ _ _ ?_; clear hK K))
    | with_reducible refine nx_seq ?_
        | with_reducible refine nx_region ?_
        | with_reducible refine nl_nil ?_
        | with_reducible refine nq_then_n ?_
        | with_reducible refine nx_block ?_
        | with_reducible refine nx_skip ?_
        | with_reducible refine nx_exit ?_
        | with_reducible refine nx_ret ?_
        | with_reducible refine nq_then_x ?_
        | with_reducible refine nq_then_r ?_
        | with_reducible refine nq_blk_n ?_
        | with_reducible refine nq_blk_r ?_
        | with_reducible refine nq_blk_hit ?_
        | with_reducible refine nq_blk_miss rfl ?_
        | with_reducible refine nd_nil ?_
    | refine nx_cond_t rfl ?_ | refine nx_cond_f rfl ?_
    | refine nl_pass hF rfl rfl rfl ?_
    | refine nd_pass rfl rfl rfl rfl rfl ?_
    | refine nd_pass2 rfl rfl rfl (fun c => by exact (fun h => by cases h)) a_allK rfl rfl ?_
    | refine nd_pass3 rfl rfl rfl (fun c => by exact (fun h => by cases h)) rfl rfl ?_
    | (with_reducible refine hQ1 _ _ _ ?_; clear hQ1 Q1)
    )
    all_goals try (refine nx_frz (BoxC _ _ x) Pick.here ?_)
    refine HK _ _ (BoxC b2 22 v :: RowC 39 2 v pre :: C) _ (by exact a_subR) (by exact a_holds2) (fun E2 => ?_)
    clear HK K
    (try simp only [List.cons_append, List.nil_append])
    repeat' (first
    | ((first | with_reducible refine nl_op rfl ?_ | refine nd_go rfl rfl rfl ?_); intro K hK; (first
      | ((first | refine on_E hF rfl rfl ?_ | refine od_E rfl rfl ?_ | refine od_R rfl rfl ?_); (first | refine ⟨_, a_yl, ?_⟩))
      | ((first | refine on_Ec hF rfl rfl ?_ | refine od_Ec rfl rfl ?_); refine ⟨_, _, _, a_yc, ?_, ?_⟩ <;> (intro hc; try (exfalso; first | (omega; done) | exact absurd (by with_reducible rfl) hc | (simp at hc; done))))
      | ((first | (refine od_act (fun c => by exact (fun h => by cases h)) ?_; intro K2 hK2) | refine od_last (fun c => by exact (fun h => by cases h)) ?_ | skip); (first
      | (refine on_buildSlice (e := 39) (k := 2) (by_ := 16) hF rfl rfl rfl rfl rfl rfl (by kernel_rfl) hcx (by simp) (fun B => ?_)) | (refine on_append (e := 39) (k := 2) (by_ := 16) (xs := pre) (ys := [x]) hF rfl rfl rfl rfl rfl (by exact a_pick) (by kernel_rfl) (by exact a_sl) hcx hm1 hm2 (fun v2 => ?_)) | (refine on_store hF rfl rfl rfl rfl (by exact a_turn) (vof_slice (by kernel_rfl) v2.2) (by obtain ⟨_, _, _, e⟩ := v2.2; rw [e, hsv]; rfl) ?_)
      | (refine on_buildSlice (T := 22) (e := 39) (k := 2) (by_ := 16) hF rfl rfl rfl rfl rfl rfl (by kernel_rfl) a_cel (Nat.le_of_ble_eq_true rfl) (fun b => ?_))
      | (refine on_append (T := 22) (e := 39) (k := 2) (by_ := 16) hF rfl rfl rfl rfl rfl a_pick (by kernel_rfl) a_sl a_cel (by first | omega | (unfold maxLen; simp only [List.length_map, List.length_append, List.length_cons, List.length_nil, List.length_replicate]; omega) | (simp only [List.length_map, List.length_append, List.length_cons, List.length_nil, List.length_replicate]; omega)) (by first | omega | (unfold maxLen; simp only [List.length_map, List.length_append, List.length_cons, List.length_nil, List.length_replicate]; omega) | (simp only [List.length_map, List.length_append, List.length_cons, List.length_nil, List.length_replicate]; omega)) (fun v => ?_))
      | (refine on_alloc hF rfl Try.zeroValue39 rfl rfl (fun B => ?_))
      | (refine on_box hF rfl rfl rfl rfl (fun B => ?_))
      | (refine on_store hF rfl rfl rfl rfl a_turn a_vof (by first | rfl | exact hsz.symm | exact hsz) ?_)
      | (refine on_storeE hF rfl rfl rfl rfl a_turn (by (first | omega | (simp only [List.length_append, List.length_cons, List.length_nil, List.length_map] at *; omega))) a_vof (by first | rfl | exact hsz) ?_)
      | (refine on_storeEF hF rfl rfl rfl rfl a_turn (by first | with_reducible assumption | rfl) (by decide) a_vof rfl ?_)
      | (refine on_storeF hF rfl rfl rfl rfl a_turn (by decide) a_vof rfl ?_)) <;> try (refine hK2 _ _ _ a_allK ?_; clear hK2 K2))) <;> (refine hK _ _ _ ?_; clear hK K))
    | with_reducible refine nx_seq ?_
        | with_reducible refine nx_region ?_
        | with_reducible refine nl_nil ?_
        | with_reducible refine nq_then_n ?_
        | with_reducible refine nx_block ?_
        | with_reducible refine nx_skip ?_
        | with_reducible refine nx_exit ?_
        | with_reducible refine nx_ret ?_
        | with_reducible refine nq_then_x ?_
        | with_reducible refine nq_then_r ?_
        | with_reducible refine nq_blk_n ?_
        | with_reducible refine nq_blk_r ?_
        | with_reducible refine nq_blk_hit ?_
        | with_reducible refine nq_blk_miss rfl ?_
        | with_reducible refine nd_nil ?_
    | refine nx_cond_t rfl ?_ | refine nx_cond_f rfl ?_
    | refine nl_pass hF rfl rfl rfl ?_
    | refine nd_pass rfl rfl rfl rfl rfl ?_
    | refine nd_pass2 rfl rfl rfl (fun c => by exact (fun h => by cases h)) a_allK rfl rfl ?_
    | refine nd_pass3 rfl rfl rfl (fun c => by exact (fun h => by cases h)) rfl rfl ?_
    | (with_reducible refine hQ1 _ _ _ ?_; clear hQ1 Q1)
    )
    exact rq_n v2 trivial (by exact a_subR) (by exact a_holds2)
  case done =>
    rintro ⟨v, hv0⟩ _ M
    have hvv : VOf Try.prog 22 v := vof_slice (by kernel_rfl) hv0
    dsimp only
    (try simp only [List.cons_append, List.nil_append])
    repeat' (first
    | ((first | with_reducible refine nl_op rfl ?_ | refine nd_go rfl rfl rfl ?_); intro K hK; (first
      | ((first | refine on_E hF rfl rfl ?_ | refine od_E rfl rfl ?_ | refine od_R rfl rfl ?_); (first | refine ⟨_, a_yl, ?_⟩))
      | ((first | refine on_Ec hF rfl rfl ?_ | refine od_Ec rfl rfl ?_); refine ⟨_, _, _, a_yc, ?_, ?_⟩ <;> (intro hc; try (exfalso; first | (omega; done) | exact absurd (by with_reducible rfl) hc | (simp at hc; done))))
      | ((first | (refine od_act (fun c => by exact (fun h => by cases h)) ?_; intro K2 hK2) | refine od_last (fun c => by exact (fun h => by cases h)) ?_ | skip); (first
      
      | (refine on_buildSlice (T := 22) (e := 39) (k := 2) (by_ := 16) hF rfl rfl rfl rfl rfl rfl (by kernel_rfl) a_cel (Nat.le_of_ble_eq_true rfl) (fun b => ?_))
      | (refine on_append (T := 22) (e := 39) (k := 2) (by_ := 16) hF rfl rfl rfl rfl rfl a_pick (by kernel_rfl) a_sl a_cel (by first | omega | (unfold maxLen; simp only [List.length_map, List.length_append, List.length_cons, List.length_nil, List.length_replicate]; omega) | (simp only [List.length_map, List.length_append, List.length_cons, List.length_nil, List.length_replicate]; omega)) (by first | omega | (unfold maxLen; simp only [List.length_map, List.length_append, List.length_cons, List.length_nil, List.length_replicate]; omega) | (simp only [List.length_map, List.length_append, List.length_cons, List.length_nil, List.length_replicate]; omega)) (fun v => ?_))
      | (refine on_alloc hF rfl Try.zeroValue39 rfl rfl (fun B => ?_))
      | (refine on_box hF rfl rfl rfl rfl (fun B => ?_))
      | (refine on_store hF rfl rfl rfl rfl a_turn a_vof (by first | rfl | exact hsz.symm | exact hsz) ?_)
      | (refine on_storeE hF rfl rfl rfl rfl a_turn (by (first | omega | (simp only [List.length_append, List.length_cons, List.length_nil, List.length_map] at *; omega))) a_vof (by first | rfl | exact hsz) ?_)
      | (refine on_storeEF hF rfl rfl rfl rfl a_turn (by first | with_reducible assumption | rfl) (by decide) a_vof rfl ?_)
      | (refine on_storeF hF rfl rfl rfl rfl a_turn (by decide) a_vof rfl ?_)) <;> try (refine hK2 _ _ _ a_allK ?_; clear hK2 K2))) <;> (refine hK _ _ _ ?_; clear hK K))
    | with_reducible refine nx_seq ?_
        | with_reducible refine nx_region ?_
        | with_reducible refine nl_nil ?_
        | with_reducible refine nq_then_n ?_
        | with_reducible refine nx_block ?_
        | with_reducible refine nx_skip ?_
        | with_reducible refine nx_exit ?_
        | with_reducible refine nx_ret ?_
        | with_reducible refine nq_then_x ?_
        | with_reducible refine nq_then_r ?_
        | with_reducible refine nq_blk_n ?_
        | with_reducible refine nq_blk_r ?_
        | with_reducible refine nq_blk_hit ?_
        | with_reducible refine nq_blk_miss rfl ?_
        | with_reducible refine nd_nil ?_
    | refine nx_cond_t rfl ?_ | refine nx_cond_f rfl ?_
    | refine nl_pass hF rfl rfl rfl ?_
    | refine nd_pass rfl rfl rfl rfl rfl ?_
    | refine nd_pass2 rfl rfl rfl (fun c => by exact (fun h => by cases h)) a_allK rfl rfl ?_
    | refine nd_pass3 rfl rfl rfl (fun c => by exact (fun h => by cases h)) rfl rfl ?_
    | (with_reducible refine hQ1 _ _ _ ?_; clear hQ1 Q1)
    )
    refine nx_end [M] rfl (⟨v, hv0⟩) (fun a w ha hw => res_tmp Try.results36 rfl ha) (by exact a_subR) (by exact a_holds2)
  case stop =>
    intro pre x post hx j _ h
    exact h.elim
set_option maxRecDepth 100000 in
theorem coll_ct (s : Value) (xs : List Value) (RS : List Ch) (hs : It Try.prog xs s RS) (hv : ∀ x ∈ xs, VOf Try.prog 39 x) (hR1 : ∀ r ∈ RS, r ∈ R) (hm : xs.length * 16 ≤ 140737488355328) :
    Ct Try.prog 31 [s] W0 X R C SV (fun v => v.1) (fun _ => R) (fun v => RowC 39 2 v.1 xs :: C) := by
  intro w hw
  have hF := isWide_wide
  refine calls_nx Try.func31 rfl Try.ntmps31 rfl ?_ hw
  repeat' (first
    | ((first | with_reducible refine nl_op rfl ?_ | refine nd_go rfl rfl rfl ?_); intro K hK; (first
      | ((first | refine on_E hF rfl rfl ?_ | refine od_E rfl rfl ?_ | refine od_R rfl rfl ?_); (first | refine ⟨_, a_yl, ?_⟩))
      | ((first | refine on_Ec hF rfl rfl ?_ | refine od_Ec rfl rfl ?_); refine ⟨_, _, _, a_yc, ?_, ?_⟩ <;> (intro hc; try (exfalso; first | (omega; done) | exact absurd (by with_reducible rfl) hc | (simp at hc; done))))
      | ((first | (refine od_act (fun c => by exact (fun h => by cases h)) ?_; intro K2 hK2) | refine od_last (fun c => by exact (fun h => by cases h)) ?_ | skip); (first
      | (refine on_callG hF (enters_of Try.func36 (by kernel_rfl) rfl) rfl rfl rfl rfl (app_ct s xs RS hs hv hR1 hm) (fun v => ?_))
      
      
      | (refine on_box hF rfl rfl rfl rfl (fun B => ?_))
      | (refine on_store hF rfl rfl rfl rfl a_turn a_vof (by first | rfl | exact hsz.symm | exact hsz) ?_)
      | (refine on_storeE hF rfl rfl rfl rfl a_turn (by (first | omega | (simp only [List.length_append, List.length_cons, List.length_nil, List.length_map] at *; omega))) a_vof (by first | rfl | exact hsz) ?_)
      | (refine on_storeEF hF rfl rfl rfl rfl a_turn (by first | with_reducible assumption | rfl) (by decide) a_vof rfl ?_)
      | (refine on_storeF hF rfl rfl rfl rfl a_turn (by decide) a_vof rfl ?_)) <;> try (refine hK2 _ _ _ a_allK ?_; clear hK2 K2))) <;> (refine hK _ _ _ ?_; clear hK K))
    | with_reducible refine nx_seq ?_
        | with_reducible refine nx_region ?_
        | with_reducible refine nl_nil ?_
        | with_reducible refine nq_then_n ?_
        | with_reducible refine nx_block ?_
        | with_reducible refine nx_skip ?_
        | with_reducible refine nx_exit ?_
        | with_reducible refine nx_ret ?_
        | with_reducible refine nq_then_x ?_
        | with_reducible refine nq_then_r ?_
        | with_reducible refine nq_blk_n ?_
        | with_reducible refine nq_blk_r ?_
        | with_reducible refine nq_blk_hit ?_
        | with_reducible refine nq_blk_miss rfl ?_
        | with_reducible refine nd_nil ?_
    | refine nx_cond_t rfl ?_ | refine nx_cond_f rfl ?_
    | refine nl_pass hF rfl rfl rfl ?_
    | refine nd_pass rfl rfl rfl rfl rfl ?_
    | refine nd_pass2 rfl rfl rfl (fun c => by exact (fun h => by cases h)) a_allK rfl rfl ?_
    | refine nd_pass3 rfl rfl rfl (fun c => by exact (fun h => by cases h)) rfl rfl ?_
    | (with_reducible refine hQ1 _ _ _ ?_; clear hQ1 Q1)
    )
  refine nx_end [] rfl v (fun a w ha hw => res_tmp Try.results31 rfl ha) (by exact a_subR) (by exact a_holds2)
end NExt
end Go.Proofs.Ytmfphgkpnojppaa
