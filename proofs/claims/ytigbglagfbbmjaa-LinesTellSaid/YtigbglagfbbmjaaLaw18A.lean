/- The contract of breviarylaw18.first. No condition. -/
import Derived.Test.YtigbglagfbbmjaaLaw18
namespace Go.Proofs.Ytigbglagfbbmjaa
open Go.RowKit Go.Shelf
set_option linter.unusedSimpArgs false
set_option linter.unusedVariables false
namespace Law18
open Li
variable {W0 : World} {X : Nat → Prop} {R C : List Ch}
set_option maxRecDepth 100000 in
set_option maxHeartbeats 4000000 in
theorem first_ct : Ct Try.prog 60 [] W0 X R C Unit (fun _ => .bool true) (fun _ => R) (fun _ => C) := by
  intro w hw
  have hF := isWide_wide
  have hvi : ∀ x ∈ ([1, 2] : List Int).map (Value.int .i64), VOf Try.prog 3 x := fun x hx => by obtain ⟨i, _, rfl⟩ := List.mem_map.1 hx; exact vof1 (by kernel_rfl) rfl rfl
  have lc := fun (W0 : World) (X : Nat → Prop) (R C : List Ch) (s : Value) (hs : IsSl s) (h : SlC 9 s itV ∈ R) => lineage_ct (W0 := W0) (X := X) (R := R) (C := C) s hs [it1] it1_ok 2 8 (by omega) h (by simp)
  have pc := fun (W0 : World) (X : Nat → Prop) (R C : List Ch) (s : Value) (hs : IsSl s) (h : SlC 9 s itV ∈ R) => parent_ct (W0 := W0) (X := X) (R := R) (C := C) s hs [it1] it1_ok 2 h (by simp)
  have k2 := fun (W0 : World) (X : Nat → Prop) (R C : List Ch) (s : Value) (hs : IsSl s) (h : SlC 9 s itV ∈ R) => known_ct (W0 := W0) (X := X) (R := R) (C := C) s hs [it1] it1_ok 2 h (by simp)
  have k3 := fun (W0 : World) (X : Nat → Prop) (R C : List Ch) (s : Value) (hs : IsSl s) (h : SlC 9 s itV ∈ R) => known_ct (W0 := W0) (X := X) (R := R) (C := C) s hs [it1] it1_ok 3 h (by simp)
  have fc := fun (W0 : World) (X : Nat → Prop) (R C : List Ch) (s : Value) (hs : IsSl s) (h : SlC 9 s itV ∈ R) => fresh_ct (W0 := W0) (X := X) (R := R) (C := C) s hs [it1] it1_ok 1 h (by simp) (by omega) (fun x hx => by rw [List.mem_singleton.1 hx]; show (2 : Int) ≤ _; omega)
  have ac := fun (W0 : World) (X : Nat → Prop) (R C : List Ch) (s : Value) (hs : IsSl s) (h : SlC 9 s itV ∈ R) => all_ct (W0 := W0) (X := X) (R := R) (C := C) s hs [it1] it1_ok h (by simp)
  rw [l1] at lc
  rw [p1_2] at pc
  rw [k1_2] at k2
  rw [k1_3] at k3
  rw [a1] at ac
  rw [show 1 + maxT [it1] 1 = 3 from rfl] at fc
  unfold itV at lc pc k2 k3 fc ac
  simp only [List.map_cons, List.map_nil] at lc ac hvi
  simp only [NInt.ofV] at ac
  dsimp only at pc
  refine calls_nx Try.func60 rfl Try.ntmps60 rfl ?_ hw
  repeat' (first
    | ((first | with_reducible refine nl_op rfl ?_ | refine nd_go rfl rfl rfl ?_); intro K hK; (first
      | ((first | refine on_E hF rfl rfl ?_ | refine od_E rfl rfl ?_ | refine od_R rfl rfl ?_); (first | refine ⟨_, a_yl, ?_⟩ | refine ⟨_, yl_build (T := 35) (us := [(1, _), (2, _), (6, _), (4, _)]) rfl rfl rfl (fun w => by go_simp; all_goals rfl), ?_⟩ | refine ⟨_, yl_build (T := 101) (us := [(0, _), (1, _), (2, _)]) rfl rfl rfl (fun w => by go_simp; all_goals rfl), ?_⟩ | refine ⟨_, yl_build (T := 101) (us := [(0, _), (2, _)]) rfl rfl rfl (fun w => by go_simp; all_goals rfl), ?_⟩))
      | ((first | refine on_Ec hF rfl rfl ?_ | refine od_Ec rfl rfl ?_); refine ⟨_, _, _, a_yc, ?_, ?_⟩ <;> (intro hc; try (exfalso; first | (omega; done) | exact absurd (by with_reducible rfl) hc | (simp at hc; done))))
      | ((first | (refine od_act (fun c => by exact (fun h => by cases h)) ?_; intro K2 hK2) | refine od_last (fun c => by exact (fun h => by cases h)) ?_ | skip); (first
      
      | (refine on_buildSlice (T := 22) (e := 35) (k := 9) (by_ := 88) hF rfl rfl rfl rfl rfl rfl (by kernel_rfl) a_cel (Nat.le_of_ble_eq_true rfl) (fun b => ?_))
      | (refine on_alloc hF rfl Try.zeroValue3 rfl rfl (fun B => ?_))
      | (refine on_box hF rfl rfl rfl rfl (fun B => ?_))
      | (refine on_store hF rfl rfl rfl rfl a_turn a_vof (by first | rfl | exact hsz.symm | exact hsz) ?_)
      | (refine on_storeE hF rfl rfl rfl rfl a_turn (by (first | omega | (simp only [List.length_append, List.length_cons, List.length_nil, List.length_map] at *; omega))) a_vof (by first | rfl | exact hsz) ?_)
      | (refine on_storeEF hF rfl rfl rfl rfl a_turn (by first | with_reducible assumption | rfl) (by decide) a_vof rfl ?_)
      | (refine on_storeF hF rfl rfl rfl rfl a_turn (by decide) a_vof rfl ?_)) <;> try (refine hK2 _ _ _ a_allK ?_; clear hK2 K2))) <;> (refine hK _ _ _ ?_; clear hK K))
    | with_reducible refine nx_seq ?_
        | with_reducible refine nx_region ?_
        | with_reducible refine nl_nil ?_
        | with_reducible refine nq_then_n ?_
        | with_reducible refine nx_block ?_
        | with_reducible refine nx_skip ?_
        | with_reducible refine nx_exit ?_
        | with_reducible refine nx_ret ?_
        | with_reducible refine nq_then_x ?_
        | with_reducible refine nq_then_r ?_
        | with_reducible refine nq_blk_n ?_
        | with_reducible refine nq_blk_r ?_
        | with_reducible refine nq_blk_hit ?_
        | with_reducible refine nq_blk_miss rfl ?_
        | with_reducible refine nd_nil ?_
    | refine nx_cond_t rfl ?_ | refine nx_cond_f rfl ?_
    | refine nl_pass hF rfl rfl rfl ?_
    | refine nd_pass rfl rfl rfl rfl rfl ?_
    | refine nd_pass2 rfl rfl rfl (fun c => by exact (fun h => by cases h)) a_allK rfl rfl ?_
    | refine nd_pass3 rfl rfl rfl (fun c => by exact (fun h => by cases h)) rfl rfl ?_
    | (with_reducible refine hQ1 _ _ _ ?_; clear hQ1 Q1)
    )
  obtain ⟨b0, hb0⟩ : ∃ b0, b0 = b := ⟨_, rfl⟩
  subst hb0
  refine nx_frzRow Pick.here ?_
  repeat' (first
    | ((first | with_reducible refine nl_op rfl ?_ | refine nd_go rfl rfl rfl ?_); intro K hK; (first
      | ((first | refine on_E hF rfl rfl ?_ | refine od_E rfl rfl ?_ | refine od_R rfl rfl ?_); (first | refine ⟨_, a_yl, ?_⟩ | refine ⟨_, yl_build (T := 35) (us := [(1, _), (2, _), (6, _), (4, _)]) rfl rfl rfl (fun w => by go_simp; all_goals rfl), ?_⟩ | refine ⟨_, yl_build (T := 101) (us := [(0, _), (1, _), (2, _)]) rfl rfl rfl (fun w => by go_simp; all_goals rfl), ?_⟩ | refine ⟨_, yl_build (T := 101) (us := [(0, _), (2, _)]) rfl rfl rfl (fun w => by go_simp; all_goals rfl), ?_⟩))
      | ((first | refine on_Ec hF rfl rfl ?_ | refine od_Ec rfl rfl ?_); refine ⟨_, _, _, a_yc, ?_, ?_⟩ <;> (intro hc; try (exfalso; first | (omega; done) | exact absurd (by with_reducible rfl) hc | (simp at hc; done))))
      | ((first | (refine od_act (fun c => by exact (fun h => by cases h)) ?_; intro K2 hK2) | refine od_last (fun c => by exact (fun h => by cases h)) ?_ | skip); (first
      | (refine on_callG hF (enters_of Try.func65 (by kernel_rfl) rfl) rfl rfl rfl rfl (lc _ _ _ _ _ ⟨_, _, _, rfl⟩ (by exact a_mem)) (fun u => ?_); obtain ⟨u, ua, un, uc, rfl⟩ := u; dsimp only; refine nx_len (e := 101) (k := 3) (by exact a_mem) (fun hlen => ?_); have hlen2 : un = 2 := hlen; clear hlen; subst hlen2)
      | (refine on_callG hF (enters_of Try.func62 (by kernel_rfl) rfl) rfl rfl rfl rfl (pc _ _ _ _ _ ⟨_, _, _, rfl⟩ (by exact a_mem)) (fun _ => ?_))
      | (refine on_callG hF (enters_of Try.func71 (by kernel_rfl) rfl) rfl rfl rfl rfl (ac _ _ _ _ _ ⟨_, _, _, rfl⟩ (by exact a_mem)) (fun q => ?_))
      | (refine on_buildSlice (T := 22) (e := 35) (k := 9) (by_ := 88) hF rfl rfl rfl rfl rfl rfl (by kernel_rfl) a_cel (Nat.le_of_ble_eq_true rfl) (fun b => ?_))
      | (refine on_alloc hF rfl Try.zeroValue3 rfl rfl (fun B => ?_))
      | (refine on_box hF rfl rfl rfl rfl (fun B => ?_))
      | (refine on_store hF rfl rfl rfl rfl a_turn a_vof (by first | rfl | exact hsz.symm | exact hsz) ?_)
      | (refine on_storeE hF rfl rfl rfl rfl a_turn (by (first | omega | (simp only [List.length_append, List.length_cons, List.length_nil, List.length_map] at *; omega))) a_vof (by first | rfl | exact hsz) ?_)
      | (refine on_storeEF hF rfl rfl rfl rfl a_turn (by first | with_reducible assumption | rfl) (by decide) a_vof rfl ?_)
      | (refine on_storeF hF rfl rfl rfl rfl a_turn (by decide) a_vof rfl ?_)) <;> try (refine hK2 _ _ _ a_allK ?_; clear hK2 K2))) <;> (refine hK _ _ _ ?_; clear hK K))
    | with_reducible refine nx_seq ?_
        | with_reducible refine nx_region ?_
        | with_reducible refine nl_nil ?_
        | with_reducible refine nq_then_n ?_
        | with_reducible refine nx_block ?_
        | with_reducible refine nx_skip ?_
        | with_reducible refine nx_exit ?_
        | with_reducible refine nx_ret ?_
        | with_reducible refine nq_then_x ?_
        | with_reducible refine nq_then_r ?_
        | with_reducible refine nq_blk_n ?_
        | with_reducible refine nq_blk_r ?_
        | with_reducible refine nq_blk_hit ?_
        | with_reducible refine nq_blk_miss rfl ?_
        | with_reducible refine nd_nil ?_
    | refine nx_cond_t rfl ?_ | refine nx_cond_f rfl ?_
    | refine nl_pass hF rfl rfl rfl ?_
    | refine nd_pass rfl rfl rfl rfl rfl ?_
    | refine nd_pass2 rfl rfl rfl (fun c => by exact (fun h => by cases h)) a_allK rfl rfl ?_
    | refine nd_pass3 rfl rfl rfl (fun c => by exact (fun h => by cases h)) rfl rfl ?_
    | (with_reducible refine hQ1 _ _ _ ?_; clear hQ1 Q1)
    )
  obtain ⟨b6, hb6⟩ : ∃ b6, b6 = B := ⟨_, rfl⟩
  subst hb6
  have hit : It Try.prog [.int .i64 1, .int .i64 2] (.func (.func 131) #[] #[ptr q.2]) [BoxC q.2 25 q.1.1, SlC 1 q.1.1 [.int .i64 1, .int .i64 2]] := NInt.of_it q [.int .i64 1, .int .i64 2] hvi (Nat.le_of_ble_eq_true rfl)
  repeat' (first
    | ((first | with_reducible refine nl_op rfl ?_ | refine nd_go rfl rfl rfl ?_); intro K hK; (first
      | ((first | refine on_E hF rfl rfl ?_ | refine od_E rfl rfl ?_ | refine od_R rfl rfl ?_); (first | refine ⟨_, a_yl, ?_⟩ | refine ⟨_, yl_build (T := 35) (us := [(1, _), (2, _), (6, _), (4, _)]) rfl rfl rfl (fun w => by go_simp; all_goals rfl), ?_⟩ | refine ⟨_, yl_build (T := 101) (us := [(0, _), (1, _), (2, _)]) rfl rfl rfl (fun w => by go_simp; all_goals rfl), ?_⟩ | refine ⟨_, yl_build (T := 101) (us := [(0, _), (2, _)]) rfl rfl rfl (fun w => by go_simp; all_goals rfl), ?_⟩))
      | ((first | refine on_Ec hF rfl rfl ?_ | refine od_Ec rfl rfl ?_); refine ⟨_, _, _, a_yc, ?_, ?_⟩ <;> (intro hc; try (exfalso; first | (omega; done) | exact absurd (by with_reducible rfl) hc | (simp at hc; done))))
      | ((first | (refine od_act (fun c => by exact (fun h => by cases h)) ?_; intro K2 hK2) | refine od_last (fun c => by exact (fun h => by cases h)) ?_ | skip); (first
      | (refine on_iter (gy := 111) (lbY := [ptr b6]) hF hit rfl rfl rfl rfl rfl (enters_of Try.func111 (by kernel_rfl) rfl) (by exact a_subR) [] (fun r hr => by cases hr) (fun _ (_ : Unit) => True) (fun pre _ => [BoxC b6 3 (.int .i64 (pre.length : Int))]) (fun _ (_ : Unit) => False) (fun _ _ => []) () trivial (List.Perm.refl _) (fun pre x post hx vs hv i hp W0 X R2 E hR2 => first1_round [.int .i64 1, .int .i64 2] b6 (Nat.le_of_ble_eq_true rfl) pre x post hx vs hv) (fun _ hd => ?_) (fun pre x post hx _ hd => hd.elim); change Nx _ _ _ _ _ _ _ (BoxC b6 3 (.int .i64 2) :: RowC 101 3 (.slice ua 2 uc) [Rch.v ⟨2, 5, 8⟩, Rch.v ⟨1, 0, 5⟩] :: C); refine nx_lk (l' := [(1, .slice (some ⟨b0, 0, none⟩) 1 1), (2, .slice ua 2 uc), (3, .int .i64 1), (4, .int .i64 5), (5, .bool true), (6, ptr b6)]) (by exact a_sub) ?_)
      | (refine on_callG (vs := [.slice (some ⟨b0, 0, none⟩) 1 1, .int .i64 2]) hF (enters_of Try.func67 (by kernel_rfl) rfl) rfl rfl rfl rfl (k2 _ _ _ _ _ ⟨_, _, _, rfl⟩ (by exact a_mem)) (fun _ => ?_))
      | (refine on_callG (vs := [.slice (some ⟨b0, 0, none⟩) 1 1, .int .i64 3]) hF (enters_of Try.func67 (by kernel_rfl) rfl) rfl rfl rfl rfl (k3 _ _ _ _ _ ⟨_, _, _, rfl⟩ (by exact a_mem)) (fun _ => ?_))
      | (refine on_callG hF (enters_of Try.func68 (by kernel_rfl) rfl) rfl rfl rfl rfl (fc _ _ _ _ _ ⟨_, _, _, rfl⟩ (by exact a_mem)) (fun _ => ?_))
      | ((first | refine on_E hF rfl rfl ?_ | refine od_E rfl rfl ?_); (first | refine ⟨_, yl_eql_rch (r := ⟨2, 5, 8⟩) (s := ⟨2, 5, 8⟩) (e := true) rfl rfl rfl rfl, ?_⟩ | refine ⟨_, yl_eql_rch (r := ⟨1, 0, 5⟩) (s := ⟨1, 0, 5⟩) (e := true) rfl rfl rfl rfl, ?_⟩))
      | (refine on_buildSlice (T := 22) (e := 35) (k := 9) (by_ := 88) hF rfl rfl rfl rfl rfl rfl (by kernel_rfl) a_cel (Nat.le_of_ble_eq_true rfl) (fun b => ?_))
      | (refine on_alloc hF rfl Try.zeroValue3 rfl rfl (fun B => ?_))
      | (refine on_box hF rfl rfl rfl rfl (fun B => ?_))
      | (refine on_store hF rfl rfl rfl rfl a_turn a_vof (by first | rfl | exact hsz.symm | exact hsz) ?_)
      | (refine on_storeE hF rfl rfl rfl rfl a_turn (by (first | omega | (simp only [List.length_append, List.length_cons, List.length_nil, List.length_map] at *; omega))) a_vof (by first | rfl | exact hsz) ?_)
      | (refine on_storeEF hF rfl rfl rfl rfl a_turn (by first | with_reducible assumption | rfl) (by decide) a_vof rfl ?_)
      | (refine on_storeF hF rfl rfl rfl rfl a_turn (by decide) a_vof rfl ?_)) <;> try (refine hK2 _ _ _ a_allK ?_; clear hK2 K2))) <;> (refine hK _ _ _ ?_; clear hK K))
    | with_reducible refine nx_seq ?_
        | with_reducible refine nx_region ?_
        | with_reducible refine nl_nil ?_
        | with_reducible refine nq_then_n ?_
        | with_reducible refine nx_block ?_
        | with_reducible refine nx_skip ?_
        | with_reducible refine nx_exit ?_
        | with_reducible refine nx_ret ?_
        | with_reducible refine nq_then_x ?_
        | with_reducible refine nq_then_r ?_
        | with_reducible refine nq_blk_n ?_
        | with_reducible refine nq_blk_r ?_
        | with_reducible refine nq_blk_hit ?_
        | with_reducible refine nq_blk_miss rfl ?_
        | with_reducible refine nd_nil ?_
    | refine nx_cond_t rfl ?_ | refine nx_cond_f rfl ?_
    | refine nl_pass hF rfl rfl rfl ?_
    | refine nd_pass rfl rfl rfl rfl rfl ?_
    | refine nd_pass2 rfl rfl rfl (fun c => by exact (fun h => by cases h)) a_allK rfl rfl ?_
    | refine nd_pass3 rfl rfl rfl (fun c => by exact (fun h => by cases h)) rfl rfl ?_
    | (with_reducible refine hQ1 _ _ _ ?_; clear hQ1 Q1)
    )
  refine nx_end [] rfl () (fun a w ha hw => res_tmp Try.results60 rfl ha) (by exact a_subR) (by exact a_holds2)
end Law18
end Go.Proofs.Ytigbglagfbbmjaa
