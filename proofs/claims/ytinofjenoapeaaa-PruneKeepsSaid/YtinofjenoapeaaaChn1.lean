/- Contracts of package chain: a backup, the better one, an item by its Id; slices.Reverse of ints. Condition: items whose extents are a slice. -/
import Derived.Test.YtinofjenoapeaaaChnP
import Derived.Test.YtinofjenoapeaaaT2
namespace Go.Proofs.Ytinofjenoapeaaa
open Go.RowKit Go.Shelf
set_option linter.unusedSimpArgs false
set_option linter.unusedVariables false
namespace Chn
variable {W0 : World} {X : Nat → Prop} {R C : List Ch}
set_option maxRecDepth 100000 in
theorem backup_ct (x : It2) (hx : x.ok) : Ct Try.prog 24 [x.v] W0 X R C Unit (fun _ => .bool (backB x)) (fun _ => R) (fun _ => C) := by
  intro w hw
  have hF := isWide_wide
  have hi : backB x = ((decide (x.kind = 2) || decide (x.kind = 3)) && decide (x.a ≤ x.b)) := rfl
  obtain ⟨d1, kind, tl, d4, a, b, d7, d8, e⟩ := x
  obtain ⟨ea, en, ec, rfl⟩ : IsSl e := hx
  dsimp only at hi
  have hp : backB ⟨d1, kind, tl, d4, a, b, d7, d8, .slice ea en ec⟩ = decide ((kind = 2 ∨ kind = 3) ∧ a ≤ b) := by rw [hi, Bool.decide_and, Bool.decide_or]
  rw [hp]
  clear hi hp
  refine calls_nx Try.func24 rfl Try.ntmps24 rfl ?_ hw
  repeat' (first
    | ((first | with_reducible refine nl_op rfl ?_ | refine nd_go rfl rfl rfl ?_); intro K hK; (first
      | ((first | refine on_E hF rfl rfl ?_ | refine od_E rfl rfl ?_ | refine od_R rfl rfl ?_); (first | refine ⟨_, a_yl, ?_⟩ | refine ⟨_, yl_fieldB (T := 27) (f := 1) (q := 1) rfl rfl (by kernel_rfl), ?_⟩ | refine ⟨_, yl_fieldE (T := 27) (f := 1) (j := 1) rfl rfl a_sl (by (first | omega | (simp only [List.length_append, List.length_cons, List.length_nil, List.length_map] at *; omega))) (by kernel_rfl), ?_⟩ | refine ⟨_, yl_fieldB (T := 27) (f := 4) (q := 4) rfl rfl (by kernel_rfl), ?_⟩ | refine ⟨_, yl_fieldE (T := 27) (f := 4) (j := 4) rfl rfl a_sl (by (first | omega | (simp only [List.length_append, List.length_cons, List.length_nil, List.length_map] at *; omega))) (by kernel_rfl), ?_⟩ | refine ⟨_, yl_fieldB (T := 27) (f := 5) (q := 5) rfl rfl (by kernel_rfl), ?_⟩ | refine ⟨_, yl_fieldE (T := 27) (f := 5) (j := 5) rfl rfl a_sl (by (first | omega | (simp only [List.length_append, List.length_cons, List.length_nil, List.length_map] at *; omega))) (by kernel_rfl), ?_⟩))
      | ((first | refine on_Ec hF rfl rfl ?_ | refine od_Ec rfl rfl ?_); refine ⟨_, _, _, a_yc, ?_, ?_⟩ <;> (intro hc; try (exfalso; first | (omega; done) | exact absurd (by with_reducible rfl) hc | (simp at hc; done))))
      | ((first | (refine od_act (fun c => by exact (fun h => by cases h)) ?_; intro K2 hK2) | refine od_last (fun c => by exact (fun h => by cases h)) ?_ | skip); (first
      
      
      
      | (refine on_box hF rfl rfl rfl rfl (fun B => ?_))
      | (refine on_store hF rfl rfl rfl rfl a_turn a_vof (by first | rfl | exact hsz.symm | exact hsz) ?_)
      | (refine on_storeE hF rfl rfl rfl rfl a_turn (by (first | omega | (simp only [List.length_append, List.length_cons, List.length_nil, List.length_map] at *; omega))) a_vof (by first | rfl | exact hsz) ?_)
      | (refine on_storeEF hF rfl rfl rfl rfl a_turn (by first | with_reducible assumption | rfl) (by decide) a_vof rfl ?_)
      | (refine on_storeF hF rfl rfl rfl rfl a_turn (by decide) a_vof rfl ?_)) <;> try (refine hK2 _ _ _ a_allK ?_; clear hK2 K2))) <;> (refine hK _ _ _ ?_; clear hK K))
    | with_reducible refine nx_seq ?_
        | with_reducible refine nx_region ?_
        | with_reducible refine nl_nil ?_
        | with_reducible refine nq_then_n ?_
        | with_reducible refine nx_block ?_
        | with_reducible refine nx_skip ?_
        | with_reducible refine nx_exit ?_
        | with_reducible refine nx_ret ?_
        | with_reducible refine nq_then_x ?_
        | with_reducible refine nq_then_r ?_
        | with_reducible refine nq_blk_n ?_
        | with_reducible refine nq_blk_r ?_
        | with_reducible refine nq_blk_hit ?_
        | with_reducible refine nq_blk_miss rfl ?_
        | with_reducible refine nd_nil ?_
    | refine nx_cond_t rfl ?_ | refine nx_cond_f rfl ?_
    | refine nl_pass hF rfl rfl rfl ?_
    | refine nd_pass rfl rfl rfl rfl rfl ?_
    | refine nd_pass2 rfl rfl rfl (fun c => by exact (fun h => by cases h)) a_allK rfl rfl ?_
    | refine nd_pass3 rfl rfl rfl (fun c => by exact (fun h => by cases h)) rfl rfl ?_
    | (with_reducible refine hQ1 _ _ _ ?_; clear hQ1 Q1)
    )
  all_goals (try dsimp only at *)
  all_goals (first
    | (rw [decide_eq_true (show (kind = 2 ∨ kind = 3) ∧ a ≤ b by omega)]; refine nx_end [] rfl () (fun a w ha hw => res_tmp Try.results24 rfl ha) (by exact a_subR) (by exact a_holds2))
    | (rw [decide_eq_false (show ¬ ((kind = 2 ∨ kind = 3) ∧ a ≤ b) by omega)]; refine nx_end [] rfl () (fun a w ha hw => res_tmp Try.results24 rfl ha) (by exact a_subR) (by exact a_holds2)))
set_option maxRecDepth 100000 in
theorem better_ct (x y : It2) (hx : x.ok) (hy : y.ok) : Ct Try.prog 63 [x.v, y.v] W0 X R C Unit (fun _ => .bool (betterB x y)) (fun _ => R) (fun _ => C) := by
  intro w hw
  have hF := isWide_wide
  have hi : betterB x y = decide (x.a > y.a ∨ (x.a = y.a ∧ x.id > y.id)) := by unfold betterB; rw [Bool.decide_or, Bool.decide_and]
  rw [hi]
  clear hi
  obtain ⟨i1, kind, tl, d4, a, b, d7, d8, e⟩ := x
  obtain ⟨ea, en, ec, rfl⟩ : IsSl e := hx
  obtain ⟨i2, kind2, tl2, d42, a2, b2, d72, d82, e2⟩ := y
  obtain ⟨ea2, en2, ec2, rfl⟩ : IsSl e2 := hy
  dsimp only
  refine calls_nx Try.func63 rfl Try.ntmps63 rfl ?_ hw
  repeat' (first
    | ((first | with_reducible refine nl_op rfl ?_ | refine nd_go rfl rfl rfl ?_); intro K hK; (first
      | ((first | refine on_E hF rfl rfl ?_ | refine od_E rfl rfl ?_ | refine od_R rfl rfl ?_); (first | refine ⟨_, a_yl, ?_⟩ | refine ⟨_, yl_fieldB (T := 27) (f := 0) (q := 0) rfl rfl (by kernel_rfl), ?_⟩ | refine ⟨_, yl_fieldE (T := 27) (f := 0) (j := 0) rfl rfl a_sl (by (first | omega | (simp only [List.length_append, List.length_cons, List.length_nil, List.length_map] at *; omega))) (by kernel_rfl), ?_⟩ | refine ⟨_, yl_fieldB (T := 27) (f := 4) (q := 4) rfl rfl (by kernel_rfl), ?_⟩ | refine ⟨_, yl_fieldE (T := 27) (f := 4) (j := 4) rfl rfl a_sl (by (first | omega | (simp only [List.length_append, List.length_cons, List.length_nil, List.length_map] at *; omega))) (by kernel_rfl), ?_⟩))
      | ((first | refine on_Ec hF rfl rfl ?_ | refine od_Ec rfl rfl ?_); refine ⟨_, _, _, a_yc, ?_, ?_⟩ <;> (intro hc; try (exfalso; first | (omega; done) | exact absurd (by with_reducible rfl) hc | (simp at hc; done))))
      | ((first | (refine od_act (fun c => by exact (fun h => by cases h)) ?_; intro K2 hK2) | refine od_last (fun c => by exact (fun h => by cases h)) ?_ | skip); (first
      
      
      
      | (refine on_box hF rfl rfl rfl rfl (fun B => ?_))
      | (refine on_store hF rfl rfl rfl rfl a_turn a_vof (by first | rfl | exact hsz.symm | exact hsz) ?_)
      | (refine on_storeE hF rfl rfl rfl rfl a_turn (by (first | omega | (simp only [List.length_append, List.length_cons, List.length_nil, List.length_map] at *; omega))) a_vof (by first | rfl | exact hsz) ?_)
      | (refine on_storeEF hF rfl rfl rfl rfl a_turn (by first | with_reducible assumption | rfl) (by decide) a_vof rfl ?_)
      | (refine on_storeF hF rfl rfl rfl rfl a_turn (by decide) a_vof rfl ?_)) <;> try (refine hK2 _ _ _ a_allK ?_; clear hK2 K2))) <;> (refine hK _ _ _ ?_; clear hK K))
    | with_reducible refine nx_seq ?_
        | with_reducible refine nx_region ?_
        | with_reducible refine nl_nil ?_
        | with_reducible refine nq_then_n ?_
        | with_reducible refine nx_block ?_
        | with_reducible refine nx_skip ?_
        | with_reducible refine nx_exit ?_
        | with_reducible refine nx_ret ?_
        | with_reducible refine nq_then_x ?_
        | with_reducible refine nq_then_r ?_
        | with_reducible refine nq_blk_n ?_
        | with_reducible refine nq_blk_r ?_
        | with_reducible refine nq_blk_hit ?_
        | with_reducible refine nq_blk_miss rfl ?_
        | with_reducible refine nd_nil ?_
    | refine nx_cond_t rfl ?_ | refine nx_cond_f rfl ?_
    | refine nl_pass hF rfl rfl rfl ?_
    | refine nd_pass rfl rfl rfl rfl rfl ?_
    | refine nd_pass2 rfl rfl rfl (fun c => by exact (fun h => by cases h)) a_allK rfl rfl ?_
    | refine nd_pass3 rfl rfl rfl (fun c => by exact (fun h => by cases h)) rfl rfl ?_
    | (with_reducible refine hQ1 _ _ _ ?_; clear hQ1 Q1)
    )
  all_goals (try dsimp only at *)
  all_goals (first
    | (rw [decide_eq_true (show a > a2 ∨ (a = a2 ∧ i1 > i2) by omega)]; refine nx_end [] rfl () (fun a w ha hw => res_tmp Try.results63 rfl ha) (by exact a_subR) (by exact a_holds2))
    | (rw [decide_eq_false (show ¬ (a > a2 ∨ (a = a2 ∧ i1 > i2)) by omega)]; refine nx_end [] rfl () (fun a w ha hw => res_tmp Try.results63 rfl ha) (by exact a_subR) (by exact a_holds2)))
set_option maxRecDepth 100000 in
theorem of11_ct (x : It2) (hx : x.ok) (b : Nat) (id : Int) (hb : BoxC b 3 (.int .i64 id) ∈ R) : Ct Try.prog 23 [x.v, ptr b] W0 X R C Unit (fun _ => .bool (decide (x.id = id))) (fun _ => R) (fun _ => C) := by
  intro w hw
  have hF := isWide_wide
  obtain ⟨i1, kind, tl, d4, d5, d6, d7, d8, e⟩ := x
  obtain ⟨ea, en, ec, rfl⟩ : IsSl e := hx
  dsimp only
  refine calls_nx Try.func23 rfl Try.ntmps23 rfl ?_ hw
  repeat' (first
    | ((first | with_reducible refine nl_op rfl ?_ | refine nd_go rfl rfl rfl ?_); intro K hK; (first
      | ((first | refine on_E hF rfl rfl ?_ | refine od_E rfl rfl ?_ | refine od_R rfl rfl ?_); (first | refine ⟨_, a_yl, ?_⟩ | refine ⟨_, yl_fieldB (T := 27) (f := 0) (q := 0) rfl rfl (by kernel_rfl), ?_⟩ | refine ⟨_, yl_fieldE (T := 27) (f := 0) (j := 0) rfl rfl a_sl (by (first | omega | (simp only [List.length_append, List.length_cons, List.length_nil, List.length_map] at *; omega))) (by kernel_rfl), ?_⟩))
      | ((first | refine on_Ec hF rfl rfl ?_ | refine od_Ec rfl rfl ?_); refine ⟨_, _, _, a_yc, ?_, ?_⟩ <;> (intro hc; try (exfalso; first | (omega; done) | exact absurd (by with_reducible rfl) hc | (simp at hc; done))))
      | ((first | (refine od_act (fun c => by exact (fun h => by cases h)) ?_; intro K2 hK2) | refine od_last (fun c => by exact (fun h => by cases h)) ?_ | skip); (first
      
      
      
      | (refine on_box hF rfl rfl rfl rfl (fun B => ?_))
      | (refine on_store hF rfl rfl rfl rfl a_turn a_vof (by first | rfl | exact hsz.symm | exact hsz) ?_)
      | (refine on_storeE hF rfl rfl rfl rfl a_turn (by (first | omega | (simp only [List.length_append, List.length_cons, List.length_nil, List.length_map] at *; omega))) a_vof (by first | rfl | exact hsz) ?_)
      | (refine on_storeEF hF rfl rfl rfl rfl a_turn (by first | with_reducible assumption | rfl) (by decide) a_vof rfl ?_)
      | (refine on_storeF hF rfl rfl rfl rfl a_turn (by decide) a_vof rfl ?_)) <;> try (refine hK2 _ _ _ a_allK ?_; clear hK2 K2))) <;> (refine hK _ _ _ ?_; clear hK K))
    | with_reducible refine nx_seq ?_
        | with_reducible refine nx_region ?_
        | with_reducible refine nl_nil ?_
        | with_reducible refine nq_then_n ?_
        | with_reducible refine nx_block ?_
        | with_reducible refine nx_skip ?_
        | with_reducible refine nx_exit ?_
        | with_reducible refine nx_ret ?_
        | with_reducible refine nq_then_x ?_
        | with_reducible refine nq_then_r ?_
        | with_reducible refine nq_blk_n ?_
        | with_reducible refine nq_blk_r ?_
        | with_reducible refine nq_blk_hit ?_
        | with_reducible refine nq_blk_miss rfl ?_
        | with_reducible refine nd_nil ?_
    | refine nx_cond_t rfl ?_ | refine nx_cond_f rfl ?_
    | refine nl_pass hF rfl rfl rfl ?_
    | refine nd_pass rfl rfl rfl rfl rfl ?_
    | refine nd_pass2 rfl rfl rfl (fun c => by exact (fun h => by cases h)) a_allK rfl rfl ?_
    | refine nd_pass3 rfl rfl rfl (fun c => by exact (fun h => by cases h)) rfl rfl ?_
    | (with_reducible refine hQ1 _ _ _ ?_; clear hQ1 Q1)
    )
  · rw [decide_eq_true hc]
    refine nx_end [] rfl () (fun a w ha hw => res_tmp Try.results23 rfl ha) (by exact a_subR) (by exact a_holds2)
  · rw [decide_eq_false hc]
    refine nx_end [] rfl () (fun a w ha hw => res_tmp Try.results23 rfl ha) (by exact a_subR) (by exact a_holds2)
theorem of11_pred (L : List It2) (hok : ∀ x ∈ L, x.ok) (b : Nat) (id : Int) : PredS Try.prog (L.map It2.v) (fun v => decide ((toIt2 v).id = id)) (.func (.func 23) #[] #[ptr b]) [BoxC b 3 (.int .i64 id)] := ⟨23, [ptr b], rfl, (enters_of Try.func23 (by kernel_rfl) rfl), fun W0 X R C hR x hx => by
  obtain ⟨y, hy, rfl⟩ := List.mem_map.1 hx
  exact of11_ct y (hok y hy) b id (hR _ (by simp))⟩
theorem atX_ok {L : List It2} (hok : ∀ x ∈ L, x.ok) (id : Int) : (atX L id).ok := by
  unfold atX
  cases h : byId L id with
  | none => exact zIt2_ok
  | some x => exact hok x (List.mem_of_find?_eq_some h)
theorem findId_ct (s f : Value) (L : List It2) (hok : ∀ x ∈ L, x.ok) (id : Int) (RS RF : List Ch) (hs : ItN Try.prog (L.map It2.v) s RS) (hf : PredN Try.prog (L.map It2.v) (fun v => decide ((toIt2 v).id = id)) f RF) (hR1 : ∀ r ∈ RS, r ∈ R) (hR2 : ∀ r ∈ RF, r ∈ R) :
    Ct Try.prog 21 [s, f] W0 X R C Unit (fun _ => .tuple #[(atX L id).v, .bool (byId L id).isSome]) (fun _ => R) (fun _ => C) := by
  have h := NItem.find_ct (W0 := W0) (X := X) (R := R) (C := C) s f (L.map It2.v) _ RS RF hs hf (vofs_it2 L hok) hR1 hR2
  rw [show (L.map It2.v).find? (fun v => decide ((toIt2 v).id = id)) = (byId L id).map It2.v from find_it2 L (fun x => decide (x.id = id))] at h
  unfold atX
  cases hl : byId L id with
  | none => rw [hl] at h; exact h
  | some x => rw [hl] at h; exact h
set_option maxRecDepth 100000 in
set_option maxHeartbeats 1000000 in
/-- An item by its Id. -/
theorem of1_ct (s : Value) (hs : IsSl s) (L : List It2) (hok : ∀ x ∈ L, x.ok) (id : Int) (bl : Nat) (hbl : BoxC bl 22 s ∈ R) (hsl : SlC 9 s (L.map It2.v) ∈ R) (hm : L.length * 88 ≤ 140737488355328) :
    Ct Try.prog 20 [.int .i64 id, ptr bl] W0 X R C Unit (fun _ => .tuple #[(atX L id).v, .bool (atOk L id)]) (fun _ => R) (fun _ => C) := by
  intro w hw
  have hF := isWide_wide
  have hvs : VOf Try.prog 22 s := vof_slice (by kernel_rfl) hs
  have hml : (L.map It2.v).length * 88 ≤ 140737488355328 := by simpa using hm
  have hmx : (L.map It2.v).length ≤ maxLen := by unfold maxLen; simp; omega
  have hao := atX_ok hok id
  have hvy := (atX L id).vof hao
  have fd := fun (W0 : World) (X : Nat → Prop) (R C : List Ch) s f RS RF => findId_ct (W0 := W0) (X := X) (R := R) (C := C) s f L hok id RS RF
  have bk := fun (W0 : World) (X : Nat → Prop) (R C : List Ch) => backup_ct (W0 := W0) (X := X) (R := R) (C := C) (atX L id) hao
  have hat : atOk L id = ((byId L id).isSome && backB (atX L id)) := rfl
  rw [hat]
  obtain ⟨y, hy⟩ : ∃ y, atX L id = y := ⟨_, rfl⟩
  obtain ⟨z, hz⟩ : ∃ z, (byId L id).isSome = z := ⟨_, rfl⟩
  obtain ⟨q, hq⟩ : ∃ q, backB y = q := ⟨_, rfl⟩
  rw [hy, hz] at fd
  rw [hy, hq] at bk
  rw [hy] at hvy
  rw [hy, hz, hq]
  clear hat hao
  refine calls_nx Try.func20 rfl Try.ntmps20 rfl ?_ hw
  repeat' (first
    | ((first | with_reducible refine nl_op rfl ?_ | refine nd_go rfl rfl rfl ?_); intro K hK; (first
      | ((first | refine on_E hF rfl rfl ?_ | refine od_E rfl rfl ?_ | refine od_R rfl rfl ?_); (first | refine ⟨_, a_yl, ?_⟩))
      | ((first | refine on_Ec hF rfl rfl ?_ | refine od_Ec rfl rfl ?_); refine ⟨_, _, _, a_yc, ?_, ?_⟩ <;> (intro hc; try (exfalso; first | (omega; done) | exact absurd (by with_reducible rfl) hc | (simp at hc; done))))
      | ((first | (refine od_act (fun c => by exact (fun h => by cases h)) ?_; intro K2 hK2) | refine od_last (fun c => by exact (fun h => by cases h)) ?_ | skip); (first
      
      
      | (refine on_alloc hF rfl Try.zeroValue27 rfl rfl (fun B => ?_))
      | (refine on_box hF rfl rfl rfl rfl (fun B => ?_))
      | (refine on_store hF rfl rfl rfl rfl a_turn a_vof (by first | rfl | exact hsz.symm | exact hsz) ?_)
      | (refine on_storeE hF rfl rfl rfl rfl a_turn (by (first | omega | (simp only [List.length_append, List.length_cons, List.length_nil, List.length_map] at *; omega))) a_vof (by first | rfl | exact hsz) ?_)
      | (refine on_storeEF hF rfl rfl rfl rfl a_turn (by first | with_reducible assumption | rfl) (by decide) a_vof rfl ?_)
      | (refine on_storeF hF rfl rfl rfl rfl a_turn (by decide) a_vof rfl ?_)) <;> try (refine hK2 _ _ _ a_allK ?_; clear hK2 K2))) <;> (refine hK _ _ _ ?_; clear hK K))
    | with_reducible refine nx_seq ?_
        | with_reducible refine nx_region ?_
        | with_reducible refine nl_nil ?_
        | with_reducible refine nq_then_n ?_
        | with_reducible refine nx_block ?_
        | with_reducible refine nx_skip ?_
        | with_reducible refine nx_exit ?_
        | with_reducible refine nx_ret ?_
        | with_reducible refine nq_then_x ?_
        | with_reducible refine nq_then_r ?_
        | with_reducible refine nq_blk_n ?_
        | with_reducible refine nq_blk_r ?_
        | with_reducible refine nq_blk_hit ?_
        | with_reducible refine nq_blk_miss rfl ?_
        | with_reducible refine nd_nil ?_
    | refine nx_cond_t rfl ?_ | refine nx_cond_f rfl ?_
    | refine nl_pass hF rfl rfl rfl ?_
    | refine nd_pass rfl rfl rfl rfl rfl ?_
    | refine nd_pass2 rfl rfl rfl (fun c => by exact (fun h => by cases h)) a_allK rfl rfl ?_
    | refine nd_pass3 rfl rfl rfl (fun c => by exact (fun h => by cases h)) rfl rfl ?_
    | (with_reducible refine hQ1 _ _ _ ?_; clear hQ1 Q1)
    | (refine nd_region (id := 2) hF [1, 0, 0, 1, 2, 0, 2, 0] [0, 1, 2, 3, 4, 5, 6, 7] _ _ (by kernel_rfl) (by kernel_rfl) sub2_same ?_; intro Q1 hQ1))
  rename_i b2
  obtain ⟨b3, hb3⟩ : ∃ b3, b3 = B := ⟨_, rfl⟩
  subst hb3
  refine nx_frz (BoxC b2 3 (.int .i64 id)) (by exact a_pick) ?_
  cases z with
  | true =>
    repeat' (first
    | ((first | with_reducible refine nl_op rfl ?_ | refine nd_go rfl rfl rfl ?_); intro K hK; (first
      | ((first | refine on_E hF rfl rfl ?_ | refine od_E rfl rfl ?_ | refine od_R rfl rfl ?_); (first | refine ⟨_, a_yl, ?_⟩))
      | ((first | refine on_Ec hF rfl rfl ?_ | refine od_Ec rfl rfl ?_); refine ⟨_, _, _, a_yc, ?_, ?_⟩ <;> (intro hc; try (exfalso; first | (omega; done) | exact absurd (by with_reducible rfl) hc | (simp at hc; done))))
      | ((first | (refine od_act (fun c => by exact (fun h => by cases h)) ?_; intro K2 hK2) | refine od_last (fun c => by exact (fun h => by cases h)) ?_ | skip); (first
      | (refine on_callG hF (enters_of Try.func22 (by kernel_rfl) rfl) rfl rfl rfl rfl (NItem.of_ct s (L.map It2.v) (by exact a_mem) hs (vofs_it2 L hok) hml) (fun j => ?_))
      | (refine on_callG hF (enters_of Try.func21 (by kernel_rfl) rfl) rfl rfl rfl rfl (fd _ _ _ _ _ _ _ _ (NItem.of_it j _ (vofs_it2 L hok) hmx).n (of11_pred L hok b2 id).n (by exact a_subR) (by exact a_subR)) (fun _ => ?_))
      | (refine on_callG hF (enters_of Try.func24 (by kernel_rfl) rfl) rfl rfl rfl rfl (bk _ _ _ _) (fun _ => ?_))
      
      | (refine on_alloc hF rfl Try.zeroValue27 rfl rfl (fun B => ?_))
      | (refine on_box hF rfl rfl rfl rfl (fun B => ?_))
      | (refine on_store hF rfl rfl rfl rfl a_turn a_vof (by first | rfl | exact hsz.symm | exact hsz) ?_)
      | (refine on_storeE hF rfl rfl rfl rfl a_turn (by (first | omega | (simp only [List.length_append, List.length_cons, List.length_nil, List.length_map] at *; omega))) a_vof (by first | rfl | exact hsz) ?_)
      | (refine on_storeEF hF rfl rfl rfl rfl a_turn (by first | with_reducible assumption | rfl) (by decide) a_vof rfl ?_)
      | (refine on_storeF hF rfl rfl rfl rfl a_turn (by decide) a_vof rfl ?_)) <;> try (refine hK2 _ _ _ a_allK ?_; clear hK2 K2))) <;> (refine hK _ _ _ ?_; clear hK K))
    | with_reducible refine nx_seq ?_
        | with_reducible refine nx_region ?_
        | with_reducible refine nl_nil ?_
        | with_reducible refine nq_then_n ?_
        | with_reducible refine nx_block ?_
        | with_reducible refine nx_skip ?_
        | with_reducible refine nx_exit ?_
        | with_reducible refine nx_ret ?_
        | with_reducible refine nq_then_x ?_
        | with_reducible refine nq_then_r ?_
        | with_reducible refine nq_blk_n ?_
        | with_reducible refine nq_blk_r ?_
        | with_reducible refine nq_blk_hit ?_
        | with_reducible refine nq_blk_miss rfl ?_
        | with_reducible refine nd_nil ?_
    | refine nx_cond_t rfl ?_ | refine nx_cond_f rfl ?_
    | refine nl_pass hF rfl rfl rfl ?_
    | refine nd_pass rfl rfl rfl rfl rfl ?_
    | refine nd_pass2 rfl rfl rfl (fun c => by exact (fun h => by cases h)) a_allK rfl rfl ?_
    | refine nd_pass3 rfl rfl rfl (fun c => by exact (fun h => by cases h)) rfl rfl ?_
    | (with_reducible refine hQ1 _ _ _ ?_; clear hQ1 Q1)
    | (refine nd_region (id := 2) hF [1, 0, 0, 1, 2, 0, 2, 0] [0, 1, 2, 3, 4, 5, 6, 7] [BoxC B 27 y.v] [] (by kernel_rfl) (by kernel_rfl) (by exact a_allK) ?_; intro Q1 hQ1))
    refine nx_endc [] (BoxC b3 27 y.v :: C) rfl () (fun a w ha hw => res_cell_tmp (T' := 27) Try.results20 rfl rfl (by exact a_mem) hvy ha hw) (by exact a_subR) (by exact a_holds2) (by exact a_holds2)
  | false =>
    repeat' (first
    | ((first | with_reducible refine nl_op rfl ?_ | refine nd_go rfl rfl rfl ?_); intro K hK; (first
      | ((first | refine on_E hF rfl rfl ?_ | refine od_E rfl rfl ?_ | refine od_R rfl rfl ?_); (first | refine ⟨_, a_yl, ?_⟩))
      | ((first | refine on_Ec hF rfl rfl ?_ | refine od_Ec rfl rfl ?_); refine ⟨_, _, _, a_yc, ?_, ?_⟩ <;> (intro hc; try (exfalso; first | (omega; done) | exact absurd (by with_reducible rfl) hc | (simp at hc; done))))
      | ((first | (refine od_act (fun c => by exact (fun h => by cases h)) ?_; intro K2 hK2) | refine od_last (fun c => by exact (fun h => by cases h)) ?_ | skip); (first
      | (refine on_callG hF (enters_of Try.func22 (by kernel_rfl) rfl) rfl rfl rfl rfl (NItem.of_ct s (L.map It2.v) (by exact a_mem) hs (vofs_it2 L hok) hml) (fun j => ?_))
      | (refine on_callG hF (enters_of Try.func21 (by kernel_rfl) rfl) rfl rfl rfl rfl (fd _ _ _ _ _ _ _ _ (NItem.of_it j _ (vofs_it2 L hok) hmx).n (of11_pred L hok b2 id).n (by exact a_subR) (by exact a_subR)) (fun _ => ?_))
      | (refine on_callG hF (enters_of Try.func24 (by kernel_rfl) rfl) rfl rfl rfl rfl (bk _ _ _ _) (fun _ => ?_))
      
      | (refine on_alloc hF rfl Try.zeroValue27 rfl rfl (fun B => ?_))
      | (refine on_box hF rfl rfl rfl rfl (fun B => ?_))
      | (refine on_store hF rfl rfl rfl rfl a_turn a_vof (by first | rfl | exact hsz.symm | exact hsz) ?_)
      | (refine on_storeE hF rfl rfl rfl rfl a_turn (by (first | omega | (simp only [List.length_append, List.length_cons, List.length_nil, List.length_map] at *; omega))) a_vof (by first | rfl | exact hsz) ?_)
      | (refine on_storeEF hF rfl rfl rfl rfl a_turn (by first | with_reducible assumption | rfl) (by decide) a_vof rfl ?_)
      | (refine on_storeF hF rfl rfl rfl rfl a_turn (by decide) a_vof rfl ?_)) <;> try (refine hK2 _ _ _ a_allK ?_; clear hK2 K2))) <;> (refine hK _ _ _ ?_; clear hK K))
    | with_reducible refine nx_seq ?_
        | with_reducible refine nx_region ?_
        | with_reducible refine nl_nil ?_
        | with_reducible refine nq_then_n ?_
        | with_reducible refine nx_block ?_
        | with_reducible refine nx_skip ?_
        | with_reducible refine nx_exit ?_
        | with_reducible refine nx_ret ?_
        | with_reducible refine nq_then_x ?_
        | with_reducible refine nq_then_r ?_
        | with_reducible refine nq_blk_n ?_
        | with_reducible refine nq_blk_r ?_
        | with_reducible refine nq_blk_hit ?_
        | with_reducible refine nq_blk_miss rfl ?_
        | with_reducible refine nd_nil ?_
    | refine nx_cond_t rfl ?_ | refine nx_cond_f rfl ?_
    | refine nl_pass hF rfl rfl rfl ?_
    | refine nd_pass rfl rfl rfl rfl rfl ?_
    | refine nd_pass2 rfl rfl rfl (fun c => by exact (fun h => by cases h)) a_allK rfl rfl ?_
    | refine nd_pass3 rfl rfl rfl (fun c => by exact (fun h => by cases h)) rfl rfl ?_
    | (with_reducible refine hQ1 _ _ _ ?_; clear hQ1 Q1)
    | (refine nd_region (id := 2) hF [1, 0, 0, 1, 2, 0, 2, 0] [0, 1, 2, 3, 4, 5, 6, 7] [BoxC B 27 y.v] [] (by kernel_rfl) (by kernel_rfl) (by exact a_allK) ?_; intro Q1 hQ1))
    refine nx_endc [] (BoxC b3 27 y.v :: C) rfl () (fun a w ha hw => res_cell_tmp (T' := 27) Try.results20 rfl rfl (by exact a_mem) hvy ha hw) (by exact a_subR) (by exact a_holds2) (by exact a_holds2)
/-- A list whose first and last i were turned. -/
def revI (zs : List Int) (i : Nat) : List Int := (List.range zs.length).map fun j => if j < i ∨ zs.length ≤ j + i then zs[zs.length - 1 - j]! else zs[j]!
theorem revI_len (zs : List Int) (i : Nat) : (revI zs i).length = zs.length := by simp [revI]
theorem revI_at (zs : List Int) (i j : Nat) (h : j < zs.length) : (revI zs i)[j]? = some (if j < i ∨ zs.length ≤ j + i then zs[zs.length - 1 - j]! else zs[j]!) := by
  unfold revI; rw [List.getElem?_map, List.getElem?_range h]; rfl
theorem get_bang (zs : List Int) (j : Nat) (h : j < zs.length) : zs[j]? = some zs[j]! := by simp [h]
theorem revI_zero (zs : List Int) : revI zs 0 = zs := by
  apply List.ext_getElem?
  intro j
  by_cases h : j < zs.length
  · rw [revI_at zs 0 j h, if_neg (by omega), get_bang zs j h]
  · rw [List.getElem?_eq_none (by rw [revI_len]; omega), List.getElem?_eq_none (by omega)]
theorem revI_end (zs : List Int) (i : Nat) (h : zs.length ≤ 2 * i + 1) : revI zs i = zs.reverse := by
  apply List.ext_getElem?
  intro j
  by_cases hj : j < zs.length
  · rw [revI_at zs i j hj, List.getElem?_reverse hj, get_bang zs _ (by omega)]
    by_cases hc : j < i ∨ zs.length ≤ j + i
    · rw [if_pos hc]
    · rw [if_neg hc, show zs.length - 1 - j = j by omega]
  · rw [List.getElem?_eq_none (by rw [revI_len]; omega), List.getElem?_eq_none (by simp; omega)]
theorem revI_step (zs : List Int) (i : Nat) (h : 2 * i + 1 < zs.length) : ((revI zs i).set i zs[zs.length - 1 - i]!).set (zs.length - 1 - i) zs[i]! = revI zs (i + 1) := by
  apply List.ext_getElem?
  intro j
  by_cases hj : j < zs.length
  · rw [List.getElem?_set, List.getElem?_set, revI_at zs (i + 1) j hj, revI_at zs i j hj]
    simp only [List.length_set, revI_len]
    by_cases h1 : zs.length - 1 - i = j
    · subst h1
      rw [if_pos rfl, if_pos (by omega), if_pos (by omega)]
      congr 2; omega
    · rw [if_neg h1]
      by_cases h2 : i = j
      · subst h2
        rw [if_pos rfl, if_pos (by omega), if_pos (by omega)]
      · rw [if_neg h2]
        by_cases h3 : j < i ∨ zs.length ≤ j + i
        · rw [if_pos h3, if_pos (by omega)]
        · rw [if_neg h3, if_neg (by omega)]
  · rw [List.getElem?_eq_none (by simp [revI_len]; omega), List.getElem?_eq_none (by rw [revI_len]; omega)]
/-- An element's place, in any state. -/
theorem run_idx {P : Program} {T k n c i g o : Nat} (hT : slT P T k = true) (hi : i < n) (w : World) : (Instr.indexAt T (.slice (some ⟨g, o, none⟩) n c) (.int .i64 (i : Int))).run P w = .ok (elemP (.slice (some ⟨g, o, none⟩) n c) k i) w := by
  unfold slT at hT
  split at hT
  · rename_i e hu
    split at hT
    · rename_i info hinfo
      simp at hT
      have hsz : (sizeOf e).run P w = .ok k w := by simp [sizeOf, typeInfo, hinfo, hT]
      have hi0 : (i : Int) < n := by omega
      simp only [Instr.indexAt, asIntOf, Sem.run_bind, run_underlying hu, Result.andThen, Sem.run_pure]
      simp [Sem.run_bind, hsz, hi, elemP, Addr.add_mid, Result.andThen]
    · cases hT
  · cases hT
theorem run_idx_z {P : Program} {T k n c g o : Nat} {z : Int} (hT : slT P T k = true) (h0 : 0 ≤ z) (hi : z < n) (w : World) : (Instr.indexAt T (.slice (some ⟨g, o, none⟩) n c) (.int .i64 z)).run P w = .ok (elemP (.slice (some ⟨g, o, none⟩) n c) k z.toNat) w := by
  have h := run_idx (c := c) (g := g) (o := o) (i := z.toNat) hT (show z.toNat < n by omega) w
  rwa [Int.toNat_of_nonneg h0] at h
set_option maxRecDepth 100000 in
set_option maxHeartbeats 1000000 in
/-- slices.Reverse of an owned row. -/
theorem rev_ct (v : Value) (hv : IsSl v) (zs : List Int) (hm : zs.length ≤ 4611686018427387903) : Ct Try.prog 25 [v] W0 X R (RowC 3 1 v (zs.map (.int .i64)) :: C) Unit (fun _ => .tuple #[]) (fun _ => R) (fun _ => RowC 3 1 v (zs.reverse.map (.int .i64)) :: C) := by
  intro w hw
  have hF := isWide_wide
  have hlz : (zs.map (Value.int .i64)).length = zs.length := by simp
  by_cases h00 : zs.length = 0
  · obtain rfl : zs = [] := List.eq_nil_of_length_eq_zero h00
    simp only [List.map_nil, List.reverse_nil]
    simp only [List.map_nil] at hw
    refine calls_nx Try.func25 rfl Try.ntmps25 rfl ?_ hw
    repeat' (first
    | ((first | with_reducible refine nl_op rfl ?_ | refine nd_go rfl rfl rfl ?_); intro K hK; (first
      | ((first | refine on_E hF rfl rfl ?_ | refine od_E rfl rfl ?_ | refine od_R rfl rfl ?_); (first | refine ⟨_, a_yl, ?_⟩))
      | ((first | refine on_Ec hF rfl rfl ?_ | refine od_Ec rfl rfl ?_); refine ⟨_, _, _, a_yc, ?_, ?_⟩ <;> (intro hc; try (exfalso; first | (omega; done) | exact absurd (by with_reducible rfl) hc | (simp at hc; done))))
      | ((first | (refine od_act (fun c => by exact (fun h => by cases h)) ?_; intro K2 hK2) | refine od_last (fun c => by exact (fun h => by cases h)) ?_ | skip); (first
      
      
      
      | (refine on_box hF rfl rfl rfl rfl (fun B => ?_))
      | (refine on_store hF rfl rfl rfl rfl a_turn a_vof (by first | rfl | exact hsz.symm | exact hsz) ?_)
      | (refine on_storeE hF rfl rfl rfl rfl a_turn (by (first | omega | (simp only [List.length_append, List.length_cons, List.length_nil, List.length_map] at *; omega))) a_vof (by first | rfl | exact hsz) ?_)
      | (refine on_storeEF hF rfl rfl rfl rfl a_turn (by first | with_reducible assumption | rfl) (by decide) a_vof rfl ?_)
      | (refine on_storeF hF rfl rfl rfl rfl a_turn (by decide) a_vof rfl ?_)) <;> try (refine hK2 _ _ _ a_allK ?_; clear hK2 K2))) <;> (refine hK _ _ _ ?_; clear hK K))
    | with_reducible refine nx_seq ?_
        | with_reducible refine nx_region ?_
        | with_reducible refine nl_nil ?_
        | with_reducible refine nq_then_n ?_
        | with_reducible refine nx_block ?_
        | with_reducible refine nx_skip ?_
        | with_reducible refine nx_exit ?_
        | with_reducible refine nx_ret ?_
        | with_reducible refine nq_then_x ?_
        | with_reducible refine nq_then_r ?_
        | with_reducible refine nq_blk_n ?_
        | with_reducible refine nq_blk_r ?_
        | with_reducible refine nq_blk_hit ?_
        | with_reducible refine nq_blk_miss rfl ?_
        | with_reducible refine nd_nil ?_
    | refine nx_cond_t rfl ?_ | refine nx_cond_f rfl ?_
    | refine nl_pass hF rfl rfl rfl ?_
    | refine nd_pass rfl rfl rfl rfl rfl ?_
    | refine nd_pass2 rfl rfl rfl (fun c => by exact (fun h => by cases h)) a_allK rfl rfl ?_
    | refine nd_pass3 rfl rfl rfl (fun c => by exact (fun h => by cases h)) rfl rfl ?_
    | (with_reducible refine hQ1 _ _ _ ?_; clear hQ1 Q1)
    | (refine nd_region (id := 3) hF [0, 0, 0, 0, 0, 0, 1, 1, 0, 0, 1, 1, 1, 2, 1, 3] [0, 1, 2, 3, 4, 5, 6, 7, 8, 9, 10, 11, 12, 13, 14, 15] _ _ (by kernel_rfl) (by kernel_rfl) sub2_same ?_; intro Q1 hQ1))
    refine nx_loop (ι := Unit) (fun _ => [(0, v), (2, .int .i64 0), (3, .int .i64 ((([] : List Value).length : Int) - 1))]) (fun _ => R) (fun _ => RowC 3 1 v [] :: C) (fun _ => 0) () (by exact a_sub) (by exact a_subR) (by exact a_holds) (fun u => ?_)
    repeat' (first
    | ((first | with_reducible refine nl_op rfl ?_ | refine nd_go rfl rfl rfl ?_); intro K hK; (first
      | ((first | refine on_E hF rfl rfl ?_ | refine od_E rfl rfl ?_ | refine od_R rfl rfl ?_); (first | refine ⟨_, a_yl, ?_⟩))
      | ((first | refine on_Ec hF rfl rfl ?_ | refine od_Ec rfl rfl ?_); refine ⟨_, _, _, a_yc, ?_, ?_⟩ <;> (intro hc; try (exfalso; first | (omega; done) | exact absurd (by with_reducible rfl) hc | (simp at hc; done))))
      | ((first | (refine od_act (fun c => by exact (fun h => by cases h)) ?_; intro K2 hK2) | refine od_last (fun c => by exact (fun h => by cases h)) ?_ | skip); (first
      
      
      
      | (refine on_box hF rfl rfl rfl rfl (fun B => ?_))
      | (refine on_store hF rfl rfl rfl rfl a_turn a_vof (by first | rfl | exact hsz.symm | exact hsz) ?_)
      | (refine on_storeE hF rfl rfl rfl rfl a_turn (by (first | omega | (simp only [List.length_append, List.length_cons, List.length_nil, List.length_map] at *; omega))) a_vof (by first | rfl | exact hsz) ?_)
      | (refine on_storeEF hF rfl rfl rfl rfl a_turn (by first | with_reducible assumption | rfl) (by decide) a_vof rfl ?_)
      | (refine on_storeF hF rfl rfl rfl rfl a_turn (by decide) a_vof rfl ?_)) <;> try (refine hK2 _ _ _ a_allK ?_; clear hK2 K2))) <;> (refine hK _ _ _ ?_; clear hK K))
    | with_reducible refine nx_seq ?_
        | with_reducible refine nx_region ?_
        | with_reducible refine nl_nil ?_
        | with_reducible refine nq_then_n ?_
        | with_reducible refine nx_block ?_
        | with_reducible refine nx_skip ?_
        | with_reducible refine nx_exit ?_
        | with_reducible refine nx_ret ?_
        | with_reducible refine nq_then_x ?_
        | with_reducible refine nq_then_r ?_
        | with_reducible refine nq_blk_n ?_
        | with_reducible refine nq_blk_r ?_
        | with_reducible refine nq_blk_hit ?_
        | with_reducible refine nq_blk_miss rfl ?_
        | with_reducible refine nd_nil ?_
    | refine nx_cond_t rfl ?_ | refine nx_cond_f rfl ?_
    | refine nl_pass hF rfl rfl rfl ?_
    | refine nd_pass rfl rfl rfl rfl rfl ?_
    | refine nd_pass2 rfl rfl rfl (fun c => by exact (fun h => by cases h)) a_allK rfl rfl ?_
    | refine nd_pass3 rfl rfl rfl (fun c => by exact (fun h => by cases h)) rfl rfl ?_
    | (with_reducible refine hQ1 _ _ _ ?_; clear hQ1 Q1)
    | (refine nd_region (id := 3) hF [0, 0, 0, 0, 0, 0, 1, 1, 0, 0, 1, 1, 1, 2, 1, 3] [0, 1, 2, 3, 4, 5, 6, 7, 8, 9, 10, 11, 12, 13, 14, 15] _ _ (by kernel_rfl) (by kernel_rfl) sub2_same ?_; intro Q1 hQ1))
    all_goals (try (exfalso; dsimp only at *; omega))
    refine nx_end_n [] rfl () (fun a w ha hw => res_none Try.results25) (by exact a_subR) (by exact a_holds2)
  obtain ⟨O0, hrow⟩ := hw.hasC (c := RowC 3 1 v (zs.map (.int .i64))) (by simp)
  have hvl : ∃ g c, v = .slice (some ⟨g, 0, none⟩) zs.length c := by
    obtain ⟨g, c, rfl, _⟩ := RowC.len0 hrow (by simp; omega)
    obtain ⟨A', c', e1, _⟩ := RowC.sl hrow
    injection e1 with _ e2 _
    exact ⟨_, _, by rw [e2, hlz]⟩
  obtain ⟨g, c, rfl⟩ := hvl
  have e0 : RowC 3 1 (.slice (some ⟨g, 0, none⟩) zs.length c) (zs.map (.int .i64)) = RowC 3 1 (.slice (some ⟨g, 0, none⟩) zs.length c) ((revI zs 0).map (.int .i64)) := by rw [revI_zero]
  refine calls_nx Try.func25 rfl Try.ntmps25 rfl ?_ hw
  repeat' (first
    | ((first | with_reducible refine nl_op rfl ?_ | refine nd_go rfl rfl rfl ?_); intro K hK; (first
      | ((first | refine on_E hF rfl rfl ?_ | refine od_E rfl rfl ?_ | refine od_R rfl rfl ?_); (first | refine ⟨_, a_yl, ?_⟩))
      | ((first | refine on_Ec hF rfl rfl ?_ | refine od_Ec rfl rfl ?_); refine ⟨_, _, _, a_yc, ?_, ?_⟩ <;> (intro hc; try (exfalso; first | (omega; done) | exact absurd (by with_reducible rfl) hc | (simp at hc; done))))
      | ((first | (refine od_act (fun c => by exact (fun h => by cases h)) ?_; intro K2 hK2) | refine od_last (fun c => by exact (fun h => by cases h)) ?_ | skip); (first
      
      
      
      | (refine on_box hF rfl rfl rfl rfl (fun B => ?_))
      | (refine on_store hF rfl rfl rfl rfl a_turn a_vof (by first | rfl | exact hsz.symm | exact hsz) ?_)
      | (refine on_storeE hF rfl rfl rfl rfl a_turn (by (first | omega | (simp only [List.length_append, List.length_cons, List.length_nil, List.length_map] at *; omega))) a_vof (by first | rfl | exact hsz) ?_)
      | (refine on_storeEF hF rfl rfl rfl rfl a_turn (by first | with_reducible assumption | rfl) (by decide) a_vof rfl ?_)
      | (refine on_storeF hF rfl rfl rfl rfl a_turn (by decide) a_vof rfl ?_)) <;> try (refine hK2 _ _ _ a_allK ?_; clear hK2 K2))) <;> (refine hK _ _ _ ?_; clear hK K))
    | with_reducible refine nx_seq ?_
        | with_reducible refine nx_region ?_
        | with_reducible refine nl_nil ?_
        | with_reducible refine nq_then_n ?_
        | with_reducible refine nx_block ?_
        | with_reducible refine nx_skip ?_
        | with_reducible refine nx_exit ?_
        | with_reducible refine nx_ret ?_
        | with_reducible refine nq_then_x ?_
        | with_reducible refine nq_then_r ?_
        | with_reducible refine nq_blk_n ?_
        | with_reducible refine nq_blk_r ?_
        | with_reducible refine nq_blk_hit ?_
        | with_reducible refine nq_blk_miss rfl ?_
        | with_reducible refine nd_nil ?_
    | refine nx_cond_t rfl ?_ | refine nx_cond_f rfl ?_
    | refine nl_pass hF rfl rfl rfl ?_
    | refine nd_pass rfl rfl rfl rfl rfl ?_
    | refine nd_pass2 rfl rfl rfl (fun c => by exact (fun h => by cases h)) a_allK rfl rfl ?_
    | refine nd_pass3 rfl rfl rfl (fun c => by exact (fun h => by cases h)) rfl rfl ?_
    | (with_reducible refine hQ1 _ _ _ ?_; clear hQ1 Q1)
    | (refine nd_region (id := 3) hF [0, 0, 0, 0, 0, 0, 1, 1, 0, 0, 1, 1, 1, 2, 1, 3] [0, 1, 2, 3, 4, 5, 6, 7, 8, 9, 10, 11, 12, 13, 14, 15] _ _ (by kernel_rfl) (by kernel_rfl) sub2_same ?_; intro Q1 hQ1))
  rw [e0]
  refine nx_loop (ι := { p : Nat × Int // p.1 ≤ zs.length ∧ p.2 = (zs.length : Int) - 1 - p.1 ∧ True }) (fun p => [(0, .slice (some ⟨g, 0, none⟩) zs.length c), (2, .int .i64 (p.1.1 : Int)), (3, .int .i64 p.1.2)]) (fun _ => R) (fun p => RowC 3 1 (.slice (some ⟨g, 0, none⟩) zs.length c) ((revI zs p.1.1).map (.int .i64)) :: C) (fun p => zs.length - p.1.1) ⟨(0, (zs.length : Int) - 1), Nat.zero_le _, by dsimp only; omega, trivial⟩ (by exact a_sub) (by exact a_subR) (by exact a_holds) (fun p => ?_)
  obtain ⟨⟨i, j⟩, hi, hj, _⟩ := p
  dsimp only at hi hj ⊢
  have hlr : ((revI zs i).map (Value.int .i64)).length = zs.length := by rw [List.length_map, revI_len]
  by_cases hlt : 2 * i + 1 < zs.length
  · have hjn : j.toNat = zs.length - 1 - i := by omega
    have hgi : ((revI zs i).map (Value.int .i64))[i]? = some (.int .i64 zs[i]!) := by rw [List.getElem?_map, revI_at zs i i (by omega), if_neg (by omega)]; rfl
    have hgj : ((revI zs i).map (Value.int .i64))[j.toNat]? = some (.int .i64 zs[zs.length - 1 - i]!) := by rw [hjn, List.getElem?_map, revI_at zs i _ (by omega), if_neg (by omega)]; rfl
    have hst : (((revI zs i).map (Value.int .i64)).set i (.int .i64 zs[zs.length - 1 - i]!)).set j.toNat (.int .i64 zs[i]!) = (revI zs (i + 1)).map (.int .i64) := by rw [hjn, ← List.map_set, ← List.map_set, revI_step zs i hlt]
    obtain ⟨xi, hxi⟩ : ∃ xi, zs[i]! = xi := ⟨_, rfl⟩
    obtain ⟨xj, hxj⟩ : ∃ xj, zs[zs.length - 1 - i]! = xj := ⟨_, rfl⟩
    rw [hxi] at hgi hst
    rw [hxj] at hgj hst
    have hls : (((revI zs i).map (Value.int .i64)).set i (.int .i64 xj)).length = zs.length := by rw [List.length_set, hlr]
    have hidx : ∀ w, (Instr.indexAt 28 (.slice (some ⟨g, 0, none⟩) zs.length c) (.int .i64 j)).run Try.prog w = .ok (elemP (.slice (some ⟨g, 0, none⟩) zs.length c) 1 j.toNat) w := fun w => run_idx_z (by kernel_rfl) (by omega) (by omega) w
    have hidi : ∀ w, (Instr.indexAt 28 (.slice (some ⟨g, 0, none⟩) zs.length c) (.int .i64 (i : Int))).run Try.prog w = .ok (elemP (.slice (some ⟨g, 0, none⟩) zs.length c) 1 i) w := fun w => run_idx (by kernel_rfl) (by omega) w
    repeat' (first
    | ((first | with_reducible refine nl_op rfl ?_ | refine nd_go rfl rfl rfl ?_); intro K hK; (first
      | ((first | refine on_E hF rfl rfl ?_ | refine od_E rfl rfl ?_ | refine od_R rfl rfl ?_); (first | refine ⟨_, yl_indexAddr rfl rfl rfl hidx, ?_⟩ | refine ⟨_, yl_indexAddr rfl rfl rfl hidi, ?_⟩ | refine ⟨_, a_yl, ?_⟩))
      | ((first | refine on_Ec hF rfl rfl ?_ | refine od_Ec rfl rfl ?_); refine ⟨_, _, _, a_yc, ?_, ?_⟩ <;> (intro hc; try (exfalso; first | (omega; done) | exact absurd (by with_reducible rfl) hc | (simp at hc; done))))
      | ((first | (refine od_act (fun c => by exact (fun h => by cases h)) ?_; intro K2 hK2) | refine od_last (fun c => by exact (fun h => by cases h)) ?_ | skip); (first
      
      
      
      | (refine on_box hF rfl rfl rfl rfl (fun B => ?_))
      | (refine on_store hF rfl rfl rfl rfl a_turn a_vof (by first | rfl | exact hsz.symm | exact hsz) ?_)
      | (refine on_storeE hF rfl rfl rfl rfl a_turn (by (first | omega | (simp only [List.length_append, List.length_cons, List.length_nil, List.length_map] at *; omega))) a_vof (by first | rfl | exact hsz) ?_)
      | (refine on_storeEF hF rfl rfl rfl rfl a_turn (by first | with_reducible assumption | rfl) (by decide) a_vof rfl ?_)
      | (refine on_storeF hF rfl rfl rfl rfl a_turn (by decide) a_vof rfl ?_)) <;> try (refine hK2 _ _ _ a_allK ?_; clear hK2 K2))) <;> (refine hK _ _ _ ?_; clear hK K))
    | with_reducible refine nx_seq ?_
        | with_reducible refine nx_region ?_
        | with_reducible refine nl_nil ?_
        | with_reducible refine nq_then_n ?_
        | with_reducible refine nx_block ?_
        | with_reducible refine nx_skip ?_
        | with_reducible refine nx_exit ?_
        | with_reducible refine nx_ret ?_
        | with_reducible refine nq_then_x ?_
        | with_reducible refine nq_then_r ?_
        | with_reducible refine nq_blk_n ?_
        | with_reducible refine nq_blk_r ?_
        | with_reducible refine nq_blk_hit ?_
        | with_reducible refine nq_blk_miss rfl ?_
        | with_reducible refine nd_nil ?_
    | refine nx_cond_t rfl ?_ | refine nx_cond_f rfl ?_
    | refine nl_pass hF rfl rfl rfl ?_
    | refine nd_pass rfl rfl rfl rfl rfl ?_
    | refine nd_pass2 rfl rfl rfl (fun c => by exact (fun h => by cases h)) a_allK rfl rfl ?_
    | refine nd_pass3 rfl rfl rfl (fun c => by exact (fun h => by cases h)) rfl rfl ?_
    | (with_reducible refine hQ1 _ _ _ ?_; clear hQ1 Q1)
    | (refine nd_region (id := 3) hF [0, 0, 0, 0, 0, 0, 0, 1, 0, 0, 0, 1, 0, 3, 0, 3] [0, 1, 2, 3, 4, 5, 6, 7, 8, 9, 10, 11, 12, 13, 14, 15] _ _ (by kernel_rfl) (by kernel_rfl) sub2_same ?_; intro Q1 hQ1))
    all_goals (try (exfalso; dsimp only at *; omega))
    rw [hst]
    refine nx_again ⟨(i + 1, j - 1), by dsimp only; omega, by dsimp only; omega, trivial⟩ (by dsimp only; omega) (by exact a_sub) (by exact a_subR) (by exact a_holds)
  · rw [revI_end zs i (by omega)]
    repeat' (first
    | ((first | with_reducible refine nl_op rfl ?_ | refine nd_go rfl rfl rfl ?_); intro K hK; (first
      | ((first | refine on_E hF rfl rfl ?_ | refine od_E rfl rfl ?_ | refine od_R rfl rfl ?_); (first | refine ⟨_, a_yl, ?_⟩))
      | ((first | refine on_Ec hF rfl rfl ?_ | refine od_Ec rfl rfl ?_); refine ⟨_, _, _, a_yc, ?_, ?_⟩ <;> (intro hc; try (exfalso; first | (omega; done) | exact absurd (by with_reducible rfl) hc | (simp at hc; done))))
      | ((first | (refine od_act (fun c => by exact (fun h => by cases h)) ?_; intro K2 hK2) | refine od_last (fun c => by exact (fun h => by cases h)) ?_ | skip); (first
      
      
      
      | (refine on_box hF rfl rfl rfl rfl (fun B => ?_))
      | (refine on_store hF rfl rfl rfl rfl a_turn a_vof (by first | rfl | exact hsz.symm | exact hsz) ?_)
      | (refine on_storeE hF rfl rfl rfl rfl a_turn (by (first | omega | (simp only [List.length_append, List.length_cons, List.length_nil, List.length_map] at *; omega))) a_vof (by first | rfl | exact hsz) ?_)
      | (refine on_storeEF hF rfl rfl rfl rfl a_turn (by first | with_reducible assumption | rfl) (by decide) a_vof rfl ?_)
      | (refine on_storeF hF rfl rfl rfl rfl a_turn (by decide) a_vof rfl ?_)) <;> try (refine hK2 _ _ _ a_allK ?_; clear hK2 K2))) <;> (refine hK _ _ _ ?_; clear hK K))
    | with_reducible refine nx_seq ?_
        | with_reducible refine nx_region ?_
        | with_reducible refine nl_nil ?_
        | with_reducible refine nq_then_n ?_
        | with_reducible refine nx_block ?_
        | with_reducible refine nx_skip ?_
        | with_reducible refine nx_exit ?_
        | with_reducible refine nx_ret ?_
        | with_reducible refine nq_then_x ?_
        | with_reducible refine nq_then_r ?_
        | with_reducible refine nq_blk_n ?_
        | with_reducible refine nq_blk_r ?_
        | with_reducible refine nq_blk_hit ?_
        | with_reducible refine nq_blk_miss rfl ?_
        | with_reducible refine nd_nil ?_
    | refine nx_cond_t rfl ?_ | refine nx_cond_f rfl ?_
    | refine nl_pass hF rfl rfl rfl ?_
    | refine nd_pass rfl rfl rfl rfl rfl ?_
    | refine nd_pass2 rfl rfl rfl (fun c => by exact (fun h => by cases h)) a_allK rfl rfl ?_
    | refine nd_pass3 rfl rfl rfl (fun c => by exact (fun h => by cases h)) rfl rfl ?_
    | (with_reducible refine hQ1 _ _ _ ?_; clear hQ1 Q1)
    | (refine nd_region (id := 3) hF [0, 0, 0, 0, 0, 0, 0, 1, 0, 0, 0, 1, 0, 3, 0, 3] [0, 1, 2, 3, 4, 5, 6, 7, 8, 9, 10, 11, 12, 13, 14, 15] _ _ (by kernel_rfl) (by kernel_rfl) sub2_same ?_; intro Q1 hQ1))
    all_goals (try (exfalso; dsimp only at *; omega))
    refine nx_end_n [] rfl () (fun a w ha hw => res_none Try.results25) (by exact a_subR) (by exact a_holds2)
end Chn
end Go.Proofs.Ytinofjenoapeaaa
