/- Contracts of lines.Parent, lines.Fresh. Condition: items whose extents are a slice. -/
import Derived.Test.YtigbglagfbbmjaaLi
import Derived.Test.YtigbglagfbbmjaaFfItemInt
namespace Go.Proofs.Ytigbglagfbbmjaa
open Go.RowKit Go.Shelf
set_option linter.unusedSimpArgs false
set_option linter.unusedVariables false
namespace Li
variable {W0 : World} {X : Nat → Prop} {R C : List Ch}
/-- A timeline's parent, and behind which commit it was left. -/
def parentP (L : List It2) (t : Int) : Int × Int × Bool := if t ≤ 1 ∨ knownL L t = false then (0, 0, false) else (((lineP L t).getD zIt2).par, ((lineP L t).getD zIt2).a, true)
set_option maxRecDepth 100000 in
set_option maxHeartbeats 1000000 in
theorem parent_ct (s : Value) (hs : IsSl s) (L : List It2) (hok : ∀ x ∈ L, x.ok) (t : Int) (hsl : SlC 9 s (L.map It2.v) ∈ R) (hm : L.length * 88 ≤ 140737488355328) :
    Ct Try.prog 62 [s, .int .i64 t] W0 X R C Unit (fun _ => .tuple #[.int .i64 (parentP L t).1, .int .i64 (parentP L t).2.1, .bool (parentP L t).2.2]) (fun _ => R) (fun _ => C) := by
  intro w hw
  have hF := isWide_wide
  have lc := fun (W0 : World) (X : Nat → Prop) (R C : List Ch) h => line_ct (W0 := W0) (X := X) (R := R) (C := C) s hs L hok t h hm
  have kc := fun (W0 : World) (X : Nat → Prop) (R C : List Ch) h => known_ct (W0 := W0) (X := X) (R := R) (C := C) s hs L hok t h hm
  have hvy := (((lineP L t).getD zIt2).vof (lineP_ok hok t))
  have hyo := lineP_ok hok t
  obtain ⟨b, hb⟩ : ∃ b, knownL L t = b := ⟨_, rfl⟩
  obtain ⟨z, hz⟩ : ∃ z, (lineP L t).isSome = z := ⟨_, rfl⟩
  obtain ⟨y, hy⟩ : ∃ y, (lineP L t).getD zIt2 = y := ⟨_, rfl⟩
  have hp : parentP L t = if t ≤ 1 ∨ b = false then (0, 0, false) else (y.par, y.a, true) := by unfold parentP; rw [hb, hy]
  rw [hy, hz] at lc
  rw [hb] at kc
  rw [hy] at hvy hyo
  obtain ⟨d1, kind, tl, d4, a, d6, par, d8, e⟩ := y
  obtain ⟨ea, en, ec, rfl⟩ : IsSl e := hyo
  by_cases h1 : t ≤ 1 ∨ b = false
  · rw [if_pos h1] at hp
    rw [hp]
    refine calls_nx Try.func62 rfl Try.ntmps62 rfl ?_ hw
    cases b with
    | true =>
      have h2 : t ≤ 1 := by rcases h1 with h | h; exact h; cases h
      repeat' (first
    | ((first | with_reducible refine nl_op rfl ?_ | refine nd_go rfl rfl rfl ?_); intro K hK; (first
      | ((first | refine on_E hF rfl rfl ?_ | refine od_E rfl rfl ?_ | refine od_R rfl rfl ?_); (first | refine ⟨_, a_yl, ?_⟩ | refine ⟨_, yl_fieldB (T := 35) (f := 4) (q := 4) rfl rfl (by kernel_rfl), ?_⟩ | refine ⟨_, yl_fieldE (T := 35) (f := 4) (j := 4) rfl rfl a_sl (by (first | omega | (simp only [List.length_append, List.length_cons, List.length_nil, List.length_map] at *; omega))) (by kernel_rfl), ?_⟩ | refine ⟨_, yl_fieldB (T := 35) (f := 6) (q := 6) rfl rfl (by kernel_rfl), ?_⟩ | refine ⟨_, yl_fieldE (T := 35) (f := 6) (j := 6) rfl rfl a_sl (by (first | omega | (simp only [List.length_append, List.length_cons, List.length_nil, List.length_map] at *; omega))) (by kernel_rfl), ?_⟩))
      | ((first | refine on_Ec hF rfl rfl ?_ | refine od_Ec rfl rfl ?_); refine ⟨_, _, _, a_yc, ?_, ?_⟩ <;> (intro hc; try (exfalso; first | (omega; done) | exact absurd (by with_reducible rfl) hc | (simp at hc; done))))
      | ((first | (refine od_act (fun c => by exact (fun h => by cases h)) ?_; intro K2 hK2) | refine od_last (fun c => by exact (fun h => by cases h)) ?_ | skip); (first
      
      
      | (refine on_alloc hF rfl Try.zeroValue35 rfl rfl (fun B => ?_))
      | (refine on_box hF rfl rfl rfl rfl (fun B => ?_))
      | (refine on_store hF rfl rfl rfl rfl a_turn a_vof (by first | rfl | exact hsz.symm | exact hsz) ?_)
      | (refine on_storeE hF rfl rfl rfl rfl a_turn (by (first | omega | (simp only [List.length_append, List.length_cons, List.length_nil, List.length_map] at *; omega))) a_vof (by first | rfl | exact hsz) ?_)
      | (refine on_storeEF hF rfl rfl rfl rfl a_turn (by first | with_reducible assumption | rfl) (by decide) a_vof rfl ?_)
      | (refine on_storeF hF rfl rfl rfl rfl a_turn (by decide) a_vof rfl ?_)) <;> try (refine hK2 _ _ _ a_allK ?_; clear hK2 K2))) <;> (refine hK _ _ _ ?_; clear hK K))
    | with_reducible refine nx_seq ?_
        | with_reducible refine nx_region ?_
        | with_reducible refine nl_nil ?_
        | with_reducible refine nq_then_n ?_
        | with_reducible refine nx_block ?_
        | with_reducible refine nx_skip ?_
        | with_reducible refine nx_exit ?_
        | with_reducible refine nx_ret ?_
        | with_reducible refine nq_then_x ?_
        | with_reducible refine nq_then_r ?_
        | with_reducible refine nq_blk_n ?_
        | with_reducible refine nq_blk_r ?_
        | with_reducible refine nq_blk_hit ?_
        | with_reducible refine nq_blk_miss rfl ?_
        | with_reducible refine nd_nil ?_
    | refine nx_cond_t rfl ?_ | refine nx_cond_f rfl ?_
    | refine nl_pass hF rfl rfl rfl ?_
    | refine nd_pass rfl rfl rfl rfl rfl ?_
    | refine nd_pass2 rfl rfl rfl (fun c => by exact (fun h => by cases h)) a_allK rfl rfl ?_
    | refine nd_pass3 rfl rfl rfl (fun c => by exact (fun h => by cases h)) rfl rfl ?_
    | (with_reducible refine hQ1 _ _ _ ?_; clear hQ1 Q1)
    | (refine nd_region (id := 4) hF [0, 1, 0, 1, 0, 0, 0] [0, 1, 2, 3, 4, 5, 6] _ _ (by kernel_rfl) (by kernel_rfl) sub2_same ?_; intro Q1 hQ1))
      refine nx_end [] rfl () (fun a w ha hw => res_tmp3 Try.results62 rfl rfl rfl ha) (by exact a_subR) (by exact a_holds2)
    | false =>
      repeat' (first
    | ((first | with_reducible refine nl_op rfl ?_ | refine nd_go rfl rfl rfl ?_); intro K hK; (first
      | ((first | refine on_E hF rfl rfl ?_ | refine od_E rfl rfl ?_ | refine od_R rfl rfl ?_); (first | refine ⟨_, a_yl, ?_⟩ | refine ⟨_, yl_fieldB (T := 35) (f := 4) (q := 4) rfl rfl (by kernel_rfl), ?_⟩ | refine ⟨_, yl_fieldE (T := 35) (f := 4) (j := 4) rfl rfl a_sl (by (first | omega | (simp only [List.length_append, List.length_cons, List.length_nil, List.length_map] at *; omega))) (by kernel_rfl), ?_⟩ | refine ⟨_, yl_fieldB (T := 35) (f := 6) (q := 6) rfl rfl (by kernel_rfl), ?_⟩ | refine ⟨_, yl_fieldE (T := 35) (f := 6) (j := 6) rfl rfl a_sl (by (first | omega | (simp only [List.length_append, List.length_cons, List.length_nil, List.length_map] at *; omega))) (by kernel_rfl), ?_⟩))
      | ((first | refine on_Ec hF rfl rfl ?_ | refine od_Ec rfl rfl ?_); refine ⟨_, _, _, a_yc, ?_, ?_⟩ <;> (intro hc; try (exfalso; first | (omega; done) | exact absurd (by with_reducible rfl) hc | (simp at hc; done))))
      | ((first | (refine od_act (fun c => by exact (fun h => by cases h)) ?_; intro K2 hK2) | refine od_last (fun c => by exact (fun h => by cases h)) ?_ | skip); (first
      | (refine on_callG hF (enters_of Try.func67 (by kernel_rfl) rfl) rfl rfl rfl rfl (kc _ _ _ _ (by exact a_mem)) (fun _ => ?_))
      
      | (refine on_alloc hF rfl Try.zeroValue35 rfl rfl (fun B => ?_))
      | (refine on_box hF rfl rfl rfl rfl (fun B => ?_))
      | (refine on_store hF rfl rfl rfl rfl a_turn a_vof (by first | rfl | exact hsz.symm | exact hsz) ?_)
      | (refine on_storeE hF rfl rfl rfl rfl a_turn (by (first | omega | (simp only [List.length_append, List.length_cons, List.length_nil, List.length_map] at *; omega))) a_vof (by first | rfl | exact hsz) ?_)
      | (refine on_storeEF hF rfl rfl rfl rfl a_turn (by first | with_reducible assumption | rfl) (by decide) a_vof rfl ?_)
      | (refine on_storeF hF rfl rfl rfl rfl a_turn (by decide) a_vof rfl ?_)) <;> try (refine hK2 _ _ _ a_allK ?_; clear hK2 K2))) <;> (refine hK _ _ _ ?_; clear hK K))
    | with_reducible refine nx_seq ?_
        | with_reducible refine nx_region ?_
        | with_reducible refine nl_nil ?_
        | with_reducible refine nq_then_n ?_
        | with_reducible refine nx_block ?_
        | with_reducible refine nx_skip ?_
        | with_reducible refine nx_exit ?_
        | with_reducible refine nx_ret ?_
        | with_reducible refine nq_then_x ?_
        | with_reducible refine nq_then_r ?_
        | with_reducible refine nq_blk_n ?_
        | with_reducible refine nq_blk_r ?_
        | with_reducible refine nq_blk_hit ?_
        | with_reducible refine nq_blk_miss rfl ?_
        | with_reducible refine nd_nil ?_
    | refine nx_cond_t rfl ?_ | refine nx_cond_f rfl ?_
    | refine nl_pass hF rfl rfl rfl ?_
    | refine nd_pass rfl rfl rfl rfl rfl ?_
    | refine nd_pass2 rfl rfl rfl (fun c => by exact (fun h => by cases h)) a_allK rfl rfl ?_
    | refine nd_pass3 rfl rfl rfl (fun c => by exact (fun h => by cases h)) rfl rfl ?_
    | (with_reducible refine hQ1 _ _ _ ?_; clear hQ1 Q1)
    | (refine nd_region (id := 4) hF [0, 1, 0, 1, 0, 0, 0] [0, 1, 2, 3, 4, 5, 6] _ _ (by kernel_rfl) (by kernel_rfl) sub2_same ?_; intro Q1 hQ1))
      all_goals refine nx_end [] rfl () (fun a w ha hw => res_tmp3 Try.results62 rfl rfl rfl ha) (by exact a_subR) (by exact a_holds2)
  · rw [if_neg h1] at hp
    rw [hp]
    obtain rfl : b = true := by cases b; exact absurd (.inr rfl) h1; rfl
    have h2 : ¬ t ≤ 1 := fun h => h1 (.inl h)
    refine calls_nx Try.func62 rfl Try.ntmps62 rfl ?_ hw
    repeat' (first
    | ((first | with_reducible refine nl_op rfl ?_ | refine nd_go rfl rfl rfl ?_); intro K hK; (first
      | ((first | refine on_E hF rfl rfl ?_ | refine od_E rfl rfl ?_ | refine od_R rfl rfl ?_); (first | refine ⟨_, a_yl, ?_⟩ | refine ⟨_, yl_fieldB (T := 35) (f := 4) (q := 4) rfl rfl (by kernel_rfl), ?_⟩ | refine ⟨_, yl_fieldE (T := 35) (f := 4) (j := 4) rfl rfl a_sl (by (first | omega | (simp only [List.length_append, List.length_cons, List.length_nil, List.length_map] at *; omega))) (by kernel_rfl), ?_⟩ | refine ⟨_, yl_fieldB (T := 35) (f := 6) (q := 6) rfl rfl (by kernel_rfl), ?_⟩ | refine ⟨_, yl_fieldE (T := 35) (f := 6) (j := 6) rfl rfl a_sl (by (first | omega | (simp only [List.length_append, List.length_cons, List.length_nil, List.length_map] at *; omega))) (by kernel_rfl), ?_⟩))
      | ((first | refine on_Ec hF rfl rfl ?_ | refine od_Ec rfl rfl ?_); refine ⟨_, _, _, a_yc, ?_, ?_⟩ <;> (intro hc; try (exfalso; first | (omega; done) | exact absurd (by with_reducible rfl) hc | (simp at hc; done))))
      | ((first | (refine od_act (fun c => by exact (fun h => by cases h)) ?_; intro K2 hK2) | refine od_last (fun c => by exact (fun h => by cases h)) ?_ | skip); (first
      | (refine on_callG hF (enters_of Try.func67 (by kernel_rfl) rfl) rfl rfl rfl rfl (kc _ _ _ _ (by exact a_mem)) (fun _ => ?_))
      | (refine on_callG hF (enters_of Try.func112 (by kernel_rfl) rfl) rfl rfl rfl rfl (lc _ _ _ _ (by exact a_mem)) (fun _ => ?_))
      
      | (refine on_alloc hF rfl Try.zeroValue35 rfl rfl (fun B => ?_))
      | (refine on_box hF rfl rfl rfl rfl (fun B => ?_))
      | (refine on_store hF rfl rfl rfl rfl a_turn a_vof (by first | rfl | exact hsz.symm | exact hsz) ?_)
      | (refine on_storeE hF rfl rfl rfl rfl a_turn (by (first | omega | (simp only [List.length_append, List.length_cons, List.length_nil, List.length_map] at *; omega))) a_vof (by first | rfl | exact hsz) ?_)
      | (refine on_storeEF hF rfl rfl rfl rfl a_turn (by first | with_reducible assumption | rfl) (by decide) a_vof rfl ?_)
      | (refine on_storeF hF rfl rfl rfl rfl a_turn (by decide) a_vof rfl ?_)) <;> try (refine hK2 _ _ _ a_allK ?_; clear hK2 K2))) <;> (refine hK _ _ _ ?_; clear hK K))
    | with_reducible refine nx_seq ?_
        | with_reducible refine nx_region ?_
        | with_reducible refine nl_nil ?_
        | with_reducible refine nq_then_n ?_
        | with_reducible refine nx_block ?_
        | with_reducible refine nx_skip ?_
        | with_reducible refine nx_exit ?_
        | with_reducible refine nx_ret ?_
        | with_reducible refine nq_then_x ?_
        | with_reducible refine nq_then_r ?_
        | with_reducible refine nq_blk_n ?_
        | with_reducible refine nq_blk_r ?_
        | with_reducible refine nq_blk_hit ?_
        | with_reducible refine nq_blk_miss rfl ?_
        | with_reducible refine nd_nil ?_
    | refine nx_cond_t rfl ?_ | refine nx_cond_f rfl ?_
    | refine nl_pass hF rfl rfl rfl ?_
    | refine nd_pass rfl rfl rfl rfl rfl ?_
    | refine nd_pass2 rfl rfl rfl (fun c => by exact (fun h => by cases h)) a_allK rfl rfl ?_
    | refine nd_pass3 rfl rfl rfl (fun c => by exact (fun h => by cases h)) rfl rfl ?_
    | (with_reducible refine hQ1 _ _ _ ?_; clear hQ1 Q1)
    | (refine nd_region (id := 4) hF [0, 1, 0, 1, 0, 0, 0] [0, 1, 2, 3, 4, 5, 6] _ _ (by kernel_rfl) (by kernel_rfl) sub2_same ?_; intro Q1 hQ1))
    refine nx_end [] rfl () (fun a w ha hw => res_tmp3 Try.results62 rfl rfl rfl ha) (by exact a_subR) (by exact a_holds2)
def maxT (L : List It2) (now : Int) : Int := L.foldl (fun n x => max n x.tl) now
set_option maxRecDepth 100000 in
theorem fresh1_ct (n : Int) (x : It2) (hx : x.ok) : Ct Try.prog 114 [.int .i64 n, x.v] W0 X R C Unit (fun _ => .int .i64 (max n x.tl)) (fun _ => R) (fun _ => C) := by
  intro w hw
  have hF := isWide_wide
  obtain ⟨d1, kind, tl, d4, a, d6, par, d8, e⟩ := x
  obtain ⟨ea, en, ec, rfl⟩ : IsSl e := hx
  refine calls_nx Try.func114 rfl Try.ntmps114 rfl ?_ hw
  repeat' (first
    | ((first | with_reducible refine nl_op rfl ?_ | refine nd_go rfl rfl rfl ?_); intro K hK; (first
      | ((first | refine on_E hF rfl rfl ?_ | refine od_E rfl rfl ?_ | refine od_R rfl rfl ?_); (first | refine ⟨_, a_yl, ?_⟩ | refine ⟨_, yl_fieldB (T := 35) (f := 2) (q := 2) rfl rfl (by kernel_rfl), ?_⟩ | refine ⟨_, yl_fieldE (T := 35) (f := 2) (j := 2) rfl rfl a_sl (by (first | omega | (simp only [List.length_append, List.length_cons, List.length_nil, List.length_map] at *; omega))) (by kernel_rfl), ?_⟩))
      | ((first | refine on_Ec hF rfl rfl ?_ | refine od_Ec rfl rfl ?_); refine ⟨_, _, _, a_yc, ?_, ?_⟩ <;> (intro hc; try (exfalso; first | (omega; done) | exact absurd (by with_reducible rfl) hc | (simp at hc; done))))
      | ((first | (refine od_act (fun c => by exact (fun h => by cases h)) ?_; intro K2 hK2) | refine od_last (fun c => by exact (fun h => by cases h)) ?_ | skip); (first
      
      
      
      | (refine on_box hF rfl rfl rfl rfl (fun B => ?_))
      | (refine on_store hF rfl rfl rfl rfl a_turn a_vof (by first | rfl | exact hsz.symm | exact hsz) ?_)
      | (refine on_storeE hF rfl rfl rfl rfl a_turn (by (first | omega | (simp only [List.length_append, List.length_cons, List.length_nil, List.length_map] at *; omega))) a_vof (by first | rfl | exact hsz) ?_)
      | (refine on_storeEF hF rfl rfl rfl rfl a_turn (by first | with_reducible assumption | rfl) (by decide) a_vof rfl ?_)
      | (refine on_storeF hF rfl rfl rfl rfl a_turn (by decide) a_vof rfl ?_)) <;> try (refine hK2 _ _ _ a_allK ?_; clear hK2 K2))) <;> (refine hK _ _ _ ?_; clear hK K))
    | with_reducible refine nx_seq ?_
        | with_reducible refine nx_region ?_
        | with_reducible refine nl_nil ?_
        | with_reducible refine nq_then_n ?_
        | with_reducible refine nx_block ?_
        | with_reducible refine nx_skip ?_
        | with_reducible refine nx_exit ?_
        | with_reducible refine nx_ret ?_
        | with_reducible refine nq_then_x ?_
        | with_reducible refine nq_then_r ?_
        | with_reducible refine nq_blk_n ?_
        | with_reducible refine nq_blk_r ?_
        | with_reducible refine nq_blk_hit ?_
        | with_reducible refine nq_blk_miss rfl ?_
        | with_reducible refine nd_nil ?_
    | refine nx_cond_t rfl ?_ | refine nx_cond_f rfl ?_
    | refine nl_pass hF rfl rfl rfl ?_
    | refine nd_pass rfl rfl rfl rfl rfl ?_
    | refine nd_pass2 rfl rfl rfl (fun c => by exact (fun h => by cases h)) a_allK rfl rfl ?_
    | refine nd_pass3 rfl rfl rfl (fun c => by exact (fun h => by cases h)) rfl rfl ?_
    | (with_reducible refine hQ1 _ _ _ ?_; clear hQ1 Q1)
    )
  refine nx_end [] rfl () (fun a w ha hw => res_tmp Try.results114 rfl ha) (by exact a_subR) (by exact a_holds2)
theorem freshFold_ct (s : Value) (L : List It2) (hok : ∀ x ∈ L, x.ok) (now : Int) (RS : List Ch) (hs : It Try.prog (L.map It2.v) s RS) (hR1 : ∀ r ∈ RS, r ∈ R) :
    Ct Try.prog 113 [s, .int .i64 now, .func (.func 114) #[] #[]] W0 X R C Unit (fun _ => .int .i64 (maxT L now)) (fun _ => R) (fun _ => C) := by
  have h := FItemInt.fold_ct (W0 := W0) (X := X) (R := R) (C := C) (ι := Int) (fun x vs => vs = [x]) (fun _ _ => []) (L.map It2.v) s RS hs.n hR1 (fun x vs h => ⟨x, h⟩) (fun x hx v h => by injection h with h _; rw [h]; exact vofs_it2 L hok x hx) 114 [] (enters_of Try.func114 (by kernel_rfl) rfl) (fun pre i => i = maxT (pre.map toIt2) now) (fun _ _ => []) (fun i => .int .i64 i) (fun i => vof1 (by kernel_rfl) rfl rfl) (fun i => rfl) now rfl ?_
  · intro w hw
    refine (h w hw).mono fun e w' ⟨i, h1, h2⟩ => ⟨(), ?_, h2⟩
    obtain ⟨i, hi⟩ := i
    rw [h1]
    have e2 : (L.map It2.v).map toIt2 = L := by rw [List.map_map]; exact (List.map_congr_left (fun x _ => rfl)).trans (List.map_id L)
    rw [e2] at hi
    show Ending.returned (Value.int .i64 i) = _
    rw [hi]
  · intro pre x post hx vs hvs i hi W0 X R' E hR
    obtain rfl : vs = [x] := hvs
    have hxm : x ∈ L.map It2.v := by rw [hx]; simp
    obtain ⟨y, hy, rfl⟩ := List.mem_map.1 hxm
    intro w hw
    refine (fresh1_ct (C := E) i y (hok y hy) w hw).mono fun e w' ⟨_, h1, h2⟩ => ⟨⟨max i y.tl, ?_⟩, h1, h2⟩
    show max i y.tl = maxT ((pre ++ [y.v]).map toIt2) now
    rw [hi, List.map_append]
    unfold maxT
    rw [List.foldl_append]; rfl
theorem maxT_le (L : List It2) : ∀ (now b : Int), now ≤ b → (∀ x ∈ L, x.tl ≤ b) → maxT L now ≤ b ∧ now ≤ maxT L now := by
  induction L with
  | nil => intro now b h _; exact ⟨h, Int.le_refl _⟩
  | cons x L ih =>
    intro now b h h2
    have := ih (max now x.tl) b (by have := h2 x (by simp); omega) (fun y hy => h2 y (by simp [hy]))
    unfold maxT at this ⊢
    rw [List.foldl_cons]
    omega
set_option maxRecDepth 100000 in
set_option maxHeartbeats 1000000 in
theorem fresh_ct (s : Value) (hs : IsSl s) (L : List It2) (hok : ∀ x ∈ L, x.ok) (now : Int) (hsl : SlC 9 s (L.map It2.v) ∈ R) (hm : L.length * 88 ≤ 140737488355328) (hn : -9223372036854775808 ≤ now ∧ now ≤ 4611686018427387904) (hL : ∀ x ∈ L, x.tl ≤ 4611686018427387904) :
    Ct Try.prog 68 [s, .int .i64 now] W0 X R C Unit (fun _ => .int .i64 (1 + maxT L now)) (fun _ => R) (fun _ => C) := by
  intro w hw
  have hF := isWide_wide
  have hml : (L.map It2.v).length * 88 ≤ 140737488355328 := by simpa using hm
  have hmx : (L.map It2.v).length ≤ maxLen := by unfold maxLen; simp; omega
  have hb := maxT_le L now 4611686018427387904 hn.2 hL
  refine calls_nx Try.func68 rfl Try.ntmps68 rfl ?_ hw
  repeat' (first
    | ((first | with_reducible refine nl_op rfl ?_ | refine nd_go rfl rfl rfl ?_); intro K hK; (first
      | ((first | refine on_E hF rfl rfl ?_ | refine od_E rfl rfl ?_ | refine od_R rfl rfl ?_); (first | refine ⟨_, a_yl, ?_⟩))
      | ((first | refine on_Ec hF rfl rfl ?_ | refine od_Ec rfl rfl ?_); refine ⟨_, _, _, a_yc, ?_, ?_⟩ <;> (intro hc; try (exfalso; first | (omega; done) | exact absurd (by with_reducible rfl) hc | (simp at hc; done))))
      | ((first | (refine od_act (fun c => by exact (fun h => by cases h)) ?_; intro K2 hK2) | refine od_last (fun c => by exact (fun h => by cases h)) ?_ | skip); (first
      | (refine on_callG hF (enters_of Try.func83 (by kernel_rfl) rfl) rfl rfl rfl rfl (NItem.of_ct s (L.map It2.v) (by exact a_mem) hs (vofs_it2 L hok) hml) (fun j => ?_))
      | (refine on_callG hF (enters_of Try.func113 (by kernel_rfl) rfl) rfl rfl rfl rfl (freshFold_ct _ L hok now _ (NItem.of_it j _ (vofs_it2 L hok) hmx) (by exact a_subR)) (fun _ => ?_))
      
      
      | (refine on_box hF rfl rfl rfl rfl (fun B => ?_))
      | (refine on_store hF rfl rfl rfl rfl a_turn a_vof (by first | rfl | exact hsz.symm | exact hsz) ?_)
      | (refine on_storeE hF rfl rfl rfl rfl a_turn (by (first | omega | (simp only [List.length_append, List.length_cons, List.length_nil, List.length_map] at *; omega))) a_vof (by first | rfl | exact hsz) ?_)
      | (refine on_storeEF hF rfl rfl rfl rfl a_turn (by first | with_reducible assumption | rfl) (by decide) a_vof rfl ?_)
      | (refine on_storeF hF rfl rfl rfl rfl a_turn (by decide) a_vof rfl ?_)) <;> try (refine hK2 _ _ _ a_allK ?_; clear hK2 K2))) <;> (refine hK _ _ _ ?_; clear hK K))
    | with_reducible refine nx_seq ?_
        | with_reducible refine nx_region ?_
        | with_reducible refine nl_nil ?_
        | with_reducible refine nq_then_n ?_
        | with_reducible refine nx_block ?_
        | with_reducible refine nx_skip ?_
        | with_reducible refine nx_exit ?_
        | with_reducible refine nx_ret ?_
        | with_reducible refine nq_then_x ?_
        | with_reducible refine nq_then_r ?_
        | with_reducible refine nq_blk_n ?_
        | with_reducible refine nq_blk_r ?_
        | with_reducible refine nq_blk_hit ?_
        | with_reducible refine nq_blk_miss rfl ?_
        | with_reducible refine nd_nil ?_
    | refine nx_cond_t rfl ?_ | refine nx_cond_f rfl ?_
    | refine nl_pass hF rfl rfl rfl ?_
    | refine nd_pass rfl rfl rfl rfl rfl ?_
    | refine nd_pass2 rfl rfl rfl (fun c => by exact (fun h => by cases h)) a_allK rfl rfl ?_
    | refine nd_pass3 rfl rfl rfl (fun c => by exact (fun h => by cases h)) rfl rfl ?_
    | (with_reducible refine hQ1 _ _ _ ?_; clear hQ1 Q1)
    )
  refine nx_end [] rfl () (fun a w ha hw => res_tmp Try.results68 rfl ha) (by exact a_subR) (by exact a_holds2)
end Li
end Go.Proofs.Ytigbglagfbbmjaa
