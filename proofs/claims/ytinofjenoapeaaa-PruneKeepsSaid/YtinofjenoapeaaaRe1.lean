/- Contracts of package reach. Condition: items whose extents are a slice. -/
import Derived.Test.YtinofjenoapeaaaReP
import Derived.Test.YtinofjenoapeaaaT2
namespace Go.Proofs.Ytinofjenoapeaaa
open Go.RowKit Go.Shelf
set_option linter.unusedSimpArgs false
set_option linter.unusedVariables false
namespace Re
variable {W0 : World} {X : Nat → Prop} {R C : List Ch}
set_option maxRecDepth 100000 in
theorem seg1_ct (x : It2) (hx : x.ok) (b : Nat) (t : Int) (hb : BoxC b 3 (.int .i64 t) ∈ R) : Ct Try.prog 68 [x.v, ptr b] W0 X R C Unit (fun _ => .bool (segB t x)) (fun _ => R) (fun _ => C) := by
  intro w hw
  have hF := isWide_wide
  have hi : segB t x = (decide (x.kind = 1) && decide (x.tl = t)) := rfl
  obtain ⟨d1, kind, tl, d4, d5, d6, d7, d8, e⟩ := x
  obtain ⟨ea, en, ec, rfl⟩ : IsSl e := hx
  dsimp only at hi
  rw [hi]
  refine calls_nx Try.func68 rfl Try.ntmps68 rfl ?_ hw
  repeat' (first
    | ((first | with_reducible refine nl_op rfl ?_ | refine nd_go rfl rfl rfl ?_); intro K hK; (first
      | ((first | refine on_E hF rfl rfl ?_ | refine od_E rfl rfl ?_ | refine od_R rfl rfl ?_); (first | refine ⟨_, a_yl, ?_⟩ | refine ⟨_, yl_fieldB (T := 27) (f := 1) (q := 1) rfl rfl (by kernel_rfl), ?_⟩ | refine ⟨_, yl_fieldE (T := 27) (f := 1) (j := 1) rfl rfl a_sl (by (first | omega | (simp only [List.length_append, List.length_cons, List.length_nil, List.length_map] at *; omega))) (by kernel_rfl), ?_⟩ | refine ⟨_, yl_fieldB (T := 27) (f := 2) (q := 2) rfl rfl (by kernel_rfl), ?_⟩ | refine ⟨_, yl_fieldE (T := 27) (f := 2) (j := 2) rfl rfl a_sl (by (first | omega | (simp only [List.length_append, List.length_cons, List.length_nil, List.length_map] at *; omega))) (by kernel_rfl), ?_⟩))
      | ((first | refine on_Ec hF rfl rfl ?_ | refine od_Ec rfl rfl ?_); refine ⟨_, _, _, a_yc, ?_, ?_⟩ <;> (intro hc; try (exfalso; first | (omega; done) | exact absurd (by with_reducible rfl) hc | (simp at hc; done))))
      | ((first | (refine od_act (fun c => by exact (fun h => by cases h)) ?_; intro K2 hK2) | refine od_last (fun c => by exact (fun h => by cases h)) ?_ | skip); (first
      
      
      
      | (refine on_box hF rfl rfl rfl rfl (fun B => ?_))
      | (refine on_store hF rfl rfl rfl rfl a_turn a_vof (by first | rfl | exact hsz.symm | exact hsz) ?_)
      | (refine on_storeE hF rfl rfl rfl rfl a_turn (by (first | omega | (simp only [List.length_append, List.length_cons, List.length_nil, List.length_map] at *; omega))) a_vof (by first | rfl | exact hsz) ?_)
      | (refine on_storeEF hF rfl rfl rfl rfl a_turn (by first | with_reducible assumption | rfl) (by decide) a_vof rfl ?_)
      | (refine on_storeF hF rfl rfl rfl rfl a_turn (by decide) a_vof rfl ?_)) <;> try (refine hK2 _ _ _ a_allK ?_; clear hK2 K2))) <;> (refine hK _ _ _ ?_; clear hK K))
    | with_reducible refine nx_seq ?_
        | with_reducible refine nx_region ?_
        | with_reducible refine nl_nil ?_
        | with_reducible refine nq_then_n ?_
        | with_reducible refine nx_block ?_
        | with_reducible refine nx_skip ?_
        | with_reducible refine nx_exit ?_
        | with_reducible refine nx_ret ?_
        | with_reducible refine nq_then_x ?_
        | with_reducible refine nq_then_r ?_
        | with_reducible refine nq_blk_n ?_
        | with_reducible refine nq_blk_r ?_
        | with_reducible refine nq_blk_hit ?_
        | with_reducible refine nq_blk_miss rfl ?_
        | with_reducible refine nd_nil ?_
    | refine nx_cond_t rfl ?_ | refine nx_cond_f rfl ?_
    | refine nl_pass hF rfl rfl rfl ?_
    | refine nd_pass rfl rfl rfl rfl rfl ?_
    | refine nd_pass2 rfl rfl rfl (fun c => by exact (fun h => by cases h)) a_allK rfl rfl ?_
    | refine nd_pass3 rfl rfl rfl (fun c => by exact (fun h => by cases h)) rfl rfl ?_
    | (with_reducible refine hQ1 _ _ _ ?_; clear hQ1 Q1)
    )
  · have h1 : kind = 1 := by assumption
    have h2 : tl = t := hc
    rw [decide_eq_true h1, decide_eq_true h2]
    refine nx_end [] rfl () (fun a w ha hw => res_tmp Try.results68 rfl ha) (by exact a_subR) (by exact a_holds2)
  · have h2 : ¬ tl = t := hc
    rw [decide_eq_false h2, Bool.and_false]
    refine nx_end [] rfl () (fun a w ha hw => res_tmp Try.results68 rfl ha) (by exact a_subR) (by exact a_holds2)
  · have h2 : ¬ kind = 1 := hc
    rw [decide_eq_false h2, Bool.false_and]
    refine nx_end [] rfl () (fun a w ha hw => res_tmp Try.results68 rfl ha) (by exact a_subR) (by exact a_holds2)
theorem seg1_pred (L : List It2) (hok : ∀ x ∈ L, x.ok) (b : Nat) (t : Int) : PredS Try.prog (L.map It2.v) (fun v => segB t (toIt2 v)) (.func (.func 68) #[] #[ptr b]) [BoxC b 3 (.int .i64 t)] := ⟨68, [ptr b], rfl, (enters_of Try.func68 (by kernel_rfl) rfl), fun W0 X R C hR x hx => by
  obtain ⟨y, hy, rfl⟩ := List.mem_map.1 hx
  exact seg1_ct y (hok y hy) b t (hR _ (by simp))⟩
set_option maxRecDepth 100000 in
theorem next1_ct (x : It2) (hx : x.ok) (b : Nat) (n : Int) (hb : BoxC b 3 (.int .i64 n) ∈ R) : Ct Try.prog 50 [x.v, ptr b] W0 X R C Unit (fun _ => .bool (nextB n x)) (fun _ => R) (fun _ => C) := by
  intro w hw
  have hF := isWide_wide
  have hi : nextB n x = (decide (x.a ≤ n) && decide (n < x.b)) := rfl
  obtain ⟨d1, d2, d3, d4, a, bb, d7, d8, e⟩ := x
  obtain ⟨ea, en, ec, rfl⟩ : IsSl e := hx
  dsimp only at hi
  rw [hi]
  refine calls_nx Try.func50 rfl Try.ntmps50 rfl ?_ hw
  repeat' (first
    | ((first | with_reducible refine nl_op rfl ?_ | refine nd_go rfl rfl rfl ?_); intro K hK; (first
      | ((first | refine on_E hF rfl rfl ?_ | refine od_E rfl rfl ?_ | refine od_R rfl rfl ?_); (first | refine ⟨_, a_yl, ?_⟩ | refine ⟨_, yl_fieldB (T := 27) (f := 4) (q := 4) rfl rfl (by kernel_rfl), ?_⟩ | refine ⟨_, yl_fieldE (T := 27) (f := 4) (j := 4) rfl rfl a_sl (by (first | omega | (simp only [List.length_append, List.length_cons, List.length_nil, List.length_map] at *; omega))) (by kernel_rfl), ?_⟩ | refine ⟨_, yl_fieldB (T := 27) (f := 5) (q := 5) rfl rfl (by kernel_rfl), ?_⟩ | refine ⟨_, yl_fieldE (T := 27) (f := 5) (j := 5) rfl rfl a_sl (by (first | omega | (simp only [List.length_append, List.length_cons, List.length_nil, List.length_map] at *; omega))) (by kernel_rfl), ?_⟩))
      | ((first | refine on_Ec hF rfl rfl ?_ | refine od_Ec rfl rfl ?_); refine ⟨_, _, _, a_yc, ?_, ?_⟩ <;> (intro hc; try (exfalso; first | (omega; done) | exact absurd (by with_reducible rfl) hc | (simp at hc; done))))
      | ((first | (refine od_act (fun c => by exact (fun h => by cases h)) ?_; intro K2 hK2) | refine od_last (fun c => by exact (fun h => by cases h)) ?_ | skip); (first
      
      
      
      | (refine on_box hF rfl rfl rfl rfl (fun B => ?_))
      | (refine on_store hF rfl rfl rfl rfl a_turn a_vof (by first | rfl | exact hsz.symm | exact hsz) ?_)
      | (refine on_storeE hF rfl rfl rfl rfl a_turn (by (first | omega | (simp only [List.length_append, List.length_cons, List.length_nil, List.length_map] at *; omega))) a_vof (by first | rfl | exact hsz) ?_)
      | (refine on_storeEF hF rfl rfl rfl rfl a_turn (by first | with_reducible assumption | rfl) (by decide) a_vof rfl ?_)
      | (refine on_storeF hF rfl rfl rfl rfl a_turn (by decide) a_vof rfl ?_)) <;> try (refine hK2 _ _ _ a_allK ?_; clear hK2 K2))) <;> (refine hK _ _ _ ?_; clear hK K))
    | with_reducible refine nx_seq ?_
        | with_reducible refine nx_region ?_
        | with_reducible refine nl_nil ?_
        | with_reducible refine nq_then_n ?_
        | with_reducible refine nx_block ?_
        | with_reducible refine nx_skip ?_
        | with_reducible refine nx_exit ?_
        | with_reducible refine nx_ret ?_
        | with_reducible refine nq_then_x ?_
        | with_reducible refine nq_then_r ?_
        | with_reducible refine nq_blk_n ?_
        | with_reducible refine nq_blk_r ?_
        | with_reducible refine nq_blk_hit ?_
        | with_reducible refine nq_blk_miss rfl ?_
        | with_reducible refine nd_nil ?_
    | refine nx_cond_t rfl ?_ | refine nx_cond_f rfl ?_
    | refine nl_pass hF rfl rfl rfl ?_
    | refine nd_pass rfl rfl rfl rfl rfl ?_
    | refine nd_pass2 rfl rfl rfl (fun c => by exact (fun h => by cases h)) a_allK rfl rfl ?_
    | refine nd_pass3 rfl rfl rfl (fun c => by exact (fun h => by cases h)) rfl rfl ?_
    | (with_reducible refine hQ1 _ _ _ ?_; clear hQ1 Q1)
    )
  · have h1 : a ≤ n := by omega
    have h2 : n < bb := by omega
    rw [decide_eq_true h1, decide_eq_true h2]
    refine nx_end [] rfl () (fun a w ha hw => res_tmp Try.results50 rfl ha) (by exact a_subR) (by exact a_holds2)
  · have h2 : ¬ n < bb := by omega
    rw [decide_eq_false h2, Bool.and_false]
    refine nx_end [] rfl () (fun a w ha hw => res_tmp Try.results50 rfl ha) (by exact a_subR) (by exact a_holds2)
  · have h2 : ¬ a ≤ n := by omega
    rw [decide_eq_false h2, Bool.false_and]
    refine nx_end [] rfl () (fun a w ha hw => res_tmp Try.results50 rfl ha) (by exact a_subR) (by exact a_holds2)
theorem next1_pred (L : List It2) (hok : ∀ x ∈ L, x.ok) (b : Nat) (n : Int) : PredS Try.prog (L.map It2.v) (fun v => nextB n (toIt2 v)) (.func (.func 50) #[] #[ptr b]) [BoxC b 3 (.int .i64 n)] := ⟨50, [ptr b], rfl, (enters_of Try.func50 (by kernel_rfl) rfl), fun W0 X R C hR x hx => by
  obtain ⟨y, hy, rfl⟩ := List.mem_map.1 hx
  exact next1_ct y (hok y hy) b n (hR _ (by simp))⟩
abbrev SegI : Type := (SV × Nat) × Nat × (Nat × Nat)
abbrev segV (i : SegI) : Value := .func (.func 53) #[] #[ptr i.2.2.1, ptr i.2.2.2]
abbrev segR (L : List It2) (t : Int) (i : SegI) : List Ch := BoxC i.2.2.2 54 (.func (.func 68) #[] #[ptr i.2.1]) :: BoxC i.2.2.1 52 (NItem.ofV i.1.2) :: ([BoxC i.1.2 22 i.1.1.1, SlC 9 i.1.1.1 (L.map It2.v)] ++ [BoxC i.2.1 3 (.int .i64 t)])
theorem seg_it (L : List It2) (hok : ∀ x ∈ L, x.ok) (t : Int) (i : SegI) (hm : L.length * 88 ≤ 140737488355328) : It Try.prog ((L.filter (segB t)).map It2.v) (segV i) (segR L t i) := by
  have hmx : (L.map It2.v).length ≤ maxLen := by unfold maxLen; simp; omega
  have h := NItem.keep_it i.2.2.1 i.2.2.2 (NItem.ofV i.1.2) _ (L.map It2.v) (fun v => segB t (toIt2 v)) _ _ (NItem.of_it i.1 _ (vofs_it2 L hok) hmx).n (seg1_pred L hok i.2.1 t).n (vofs_it2 L hok)
  rwa [filter_it2] at h
set_option maxRecDepth 100000 in
set_option maxHeartbeats 1000000 in
theorem seg_ct (s : Value) (hs : IsSl s) (L : List It2) (hok : ∀ x ∈ L, x.ok) (t : Int) (hsl : SlC 9 s (L.map It2.v) ∈ R) (hm : L.length * 88 ≤ 140737488355328) :
    Ct Try.prog 49 [s, .int .i64 t] W0 X R C SegI segV (fun i => segR L t i ++ R) (fun _ => C) := by
  intro w hw
  have hF := isWide_wide
  have hml : (L.map It2.v).length * 88 ≤ 140737488355328 := by simpa using hm
  refine calls_nx Try.func49 rfl Try.ntmps49 rfl ?_ hw
  repeat' (first
    | ((first | with_reducible refine nl_op rfl ?_ | refine nd_go rfl rfl rfl ?_); intro K hK; (first
      | ((first | refine on_E hF rfl rfl ?_ | refine od_E rfl rfl ?_ | refine od_R rfl rfl ?_); (first | refine ⟨_, a_yl, ?_⟩))
      | ((first | refine on_Ec hF rfl rfl ?_ | refine od_Ec rfl rfl ?_); refine ⟨_, _, _, a_yc, ?_, ?_⟩ <;> (intro hc; try (exfalso; first | (omega; done) | exact absurd (by with_reducible rfl) hc | (simp at hc; done))))
      | ((first | (refine od_act (fun c => by exact (fun h => by cases h)) ?_; intro K2 hK2) | refine od_last (fun c => by exact (fun h => by cases h)) ?_ | skip); (first
      
      
      
      | (refine on_box hF rfl rfl rfl rfl (fun B => ?_))
      | (refine on_store hF rfl rfl rfl rfl a_turn a_vof (by first | rfl | exact hsz.symm | exact hsz) ?_)
      | (refine on_storeE hF rfl rfl rfl rfl a_turn (by (first | omega | (simp only [List.length_append, List.length_cons, List.length_nil, List.length_map] at *; omega))) a_vof (by first | rfl | exact hsz) ?_)
      | (refine on_storeEF hF rfl rfl rfl rfl a_turn (by first | with_reducible assumption | rfl) (by decide) a_vof rfl ?_)
      | (refine on_storeF hF rfl rfl rfl rfl a_turn (by decide) a_vof rfl ?_)) <;> try (refine hK2 _ _ _ a_allK ?_; clear hK2 K2))) <;> (refine hK _ _ _ ?_; clear hK K))
    | with_reducible refine nx_seq ?_
        | with_reducible refine nx_region ?_
        | with_reducible refine nl_nil ?_
        | with_reducible refine nq_then_n ?_
        | with_reducible refine nx_block ?_
        | with_reducible refine nx_skip ?_
        | with_reducible refine nx_exit ?_
        | with_reducible refine nx_ret ?_
        | with_reducible refine nq_then_x ?_
        | with_reducible refine nq_then_r ?_
        | with_reducible refine nq_blk_n ?_
        | with_reducible refine nq_blk_r ?_
        | with_reducible refine nq_blk_hit ?_
        | with_reducible refine nq_blk_miss rfl ?_
        | with_reducible refine nd_nil ?_
    | refine nx_cond_t rfl ?_ | refine nx_cond_f rfl ?_
    | refine nl_pass hF rfl rfl rfl ?_
    | refine nd_pass rfl rfl rfl rfl rfl ?_
    | refine nd_pass2 rfl rfl rfl (fun c => by exact (fun h => by cases h)) a_allK rfl rfl ?_
    | refine nd_pass3 rfl rfl rfl (fun c => by exact (fun h => by cases h)) rfl rfl ?_
    | (with_reducible refine hQ1 _ _ _ ?_; clear hQ1 Q1)
    )
  obtain ⟨b1, hb1⟩ : ∃ b1, b1 = B := ⟨_, rfl⟩
  subst hb1
  refine nx_frz (BoxC b1 3 (.int .i64 t)) (by exact a_pick) ?_
  repeat' (first
    | ((first | with_reducible refine nl_op rfl ?_ | refine nd_go rfl rfl rfl ?_); intro K hK; (first
      | ((first | refine on_E hF rfl rfl ?_ | refine od_E rfl rfl ?_ | refine od_R rfl rfl ?_); (first | refine ⟨_, a_yl, ?_⟩))
      | ((first | refine on_Ec hF rfl rfl ?_ | refine od_Ec rfl rfl ?_); refine ⟨_, _, _, a_yc, ?_, ?_⟩ <;> (intro hc; try (exfalso; first | (omega; done) | exact absurd (by with_reducible rfl) hc | (simp at hc; done))))
      | ((first | (refine od_act (fun c => by exact (fun h => by cases h)) ?_; intro K2 hK2) | refine od_last (fun c => by exact (fun h => by cases h)) ?_ | skip); (first
      | (refine on_callG hF (enters_of Try.func22 (by kernel_rfl) rfl) rfl rfl rfl rfl (NItem.of_ct s (L.map It2.v) (by exact a_mem) hs (vofs_it2 L hok) hml) (fun j => ?_))
      | (refine on_callG hF (enters_of Try.func31 (by kernel_rfl) rfl) rfl rfl rfl rfl (NItem.keep_ct _ _ rfl rfl) (fun k => ?_))
      
      
      | (refine on_box hF rfl rfl rfl rfl (fun B => ?_))
      | (refine on_store hF rfl rfl rfl rfl a_turn a_vof (by first | rfl | exact hsz.symm | exact hsz) ?_)
      | (refine on_storeE hF rfl rfl rfl rfl a_turn (by (first | omega | (simp only [List.length_append, List.length_cons, List.length_nil, List.length_map] at *; omega))) a_vof (by first | rfl | exact hsz) ?_)
      | (refine on_storeEF hF rfl rfl rfl rfl a_turn (by first | with_reducible assumption | rfl) (by decide) a_vof rfl ?_)
      | (refine on_storeF hF rfl rfl rfl rfl a_turn (by decide) a_vof rfl ?_)) <;> try (refine hK2 _ _ _ a_allK ?_; clear hK2 K2))) <;> (refine hK _ _ _ ?_; clear hK K))
    | with_reducible refine nx_seq ?_
        | with_reducible refine nx_region ?_
        | with_reducible refine nl_nil ?_
        | with_reducible refine nq_then_n ?_
        | with_reducible refine nx_block ?_
        | with_reducible refine nx_skip ?_
        | with_reducible refine nx_exit ?_
        | with_reducible refine nx_ret ?_
        | with_reducible refine nq_then_x ?_
        | with_reducible refine nq_then_r ?_
        | with_reducible refine nq_blk_n ?_
        | with_reducible refine nq_blk_r ?_
        | with_reducible refine nq_blk_hit ?_
        | with_reducible refine nq_blk_miss rfl ?_
        | with_reducible refine nd_nil ?_
    | refine nx_cond_t rfl ?_ | refine nx_cond_f rfl ?_
    | refine nl_pass hF rfl rfl rfl ?_
    | refine nd_pass rfl rfl rfl rfl rfl ?_
    | refine nd_pass2 rfl rfl rfl (fun c => by exact (fun h => by cases h)) a_allK rfl rfl ?_
    | refine nd_pass3 rfl rfl rfl (fun c => by exact (fun h => by cases h)) rfl rfl ?_
    | (with_reducible refine hQ1 _ _ _ ?_; clear hQ1 Q1)
    )
  refine nx_end [] rfl ((j, b1, k)) (fun a w ha hw => res_tmp Try.results49 rfl ha) (by exact a_subR) (by exact a_holds2)
end Re
end Go.Proofs.Ytinofjenoapeaaa
