/- The contract of breviarylaw05.first. No condition. -/
import Derived.Test.YtncjgkghhcpagaaFcInt
import Derived.Test.YtncjgkghhcpagaaFdInt
import Derived.Test.YtncjgkghhcpagaaFbStr
import Derived.Test.YtncjgkghhcpagaaFfIntInt
import Derived.Test.YtncjgkghhcpagaaS9
namespace Go.Proofs.Ytncjgkghhcpagaa
open Go.RowKit Go.Shelf
set_option linter.unusedSimpArgs false
set_option linter.unusedVariables false
namespace Law05
variable {W0 : World} {X : Nat → Prop} {R C : List Ch}
def L1 : List Value := [.int .i64 5, .int .i64 6, .int .i64 7]
def L2 : List Value := [.string ⟨#[97]⟩, .string ⟨#[98, 99]⟩]
def L3 : List Value := [.int .i64 1, .int .i64 2, .int .i64 3]
def len2 : Value → Bool
  | .string s => decide ((s.size : Int) = 2)
  | _ => false
def toI : Value → Int
  | .int _ i => i
  | _ => 0
theorem vof_i (i : Int) : VOf Try.prog 3 (.int .i64 i) := vof1 (by kernel_rfl) rfl rfl
theorem vof_s (s : ByteArray) : VOf Try.prog 9 (.string s) := vof1 (by kernel_rfl) rfl rfl
theorem vL1 : ∀ x ∈ L1, VOf Try.prog 3 x := fun x hx => by simp only [L1, List.mem_cons, List.not_mem_nil, or_false] at hx; rcases hx with rfl | rfl | rfl <;> exact vof_i _
theorem vL2 : ∀ x ∈ L2, VOf Try.prog 9 x := fun x hx => by simp only [L2, List.mem_cons, List.not_mem_nil, or_false] at hx; rcases hx with rfl | rfl <;> exact vof_s _
theorem vL3 : ∀ x ∈ L3, VOf Try.prog 3 x := fun x hx => by simp only [L3, List.mem_cons, List.not_mem_nil, or_false] at hx; rcases hx with rfl | rfl | rfl <;> exact vof_i _
set_option maxRecDepth 100000 in
theorem firsta_ct (s : ByteArray) : Ct Try.prog 36 [.string s] W0 X R C Unit (fun _ => .bool (len2 (.string s))) (fun _ => R) (fun _ => C) := by
  intro w hw
  have hF := isWide_wide
  simp only [len2]
  refine calls_nx Try.func36 rfl Try.ntmps36 rfl ?_ hw
  repeat' (first
    | ((first | with_reducible refine nl_op rfl ?_ | refine nd_go rfl rfl rfl ?_); intro K hK; (first
      | ((first | refine on_E hF rfl rfl ?_ | refine od_E rfl rfl ?_ | refine od_R rfl rfl ?_); (first | refine ⟨_, a_yl, ?_⟩))
      | ((first | refine on_Ec hF rfl rfl ?_ | refine od_Ec rfl rfl ?_); refine ⟨_, _, _, a_yc, ?_, ?_⟩ <;> (intro hc; try (exfalso; first | (omega; done) | exact absurd (by with_reducible rfl) hc | (simp at hc; done))))
      | ((first | (refine od_act (fun c => by exact (fun h => by cases h)) ?_; intro K2 hK2) | refine od_last (fun c => by exact (fun h => by cases h)) ?_ | skip); (first
      
      
      
      | (refine on_box hF rfl rfl rfl rfl (fun B => ?_))
      | (refine on_store hF rfl rfl rfl rfl a_turn a_vof (by first | rfl | exact hsz.symm | exact hsz) ?_)
      | (refine on_storeE hF rfl rfl rfl rfl a_turn (by (first | omega | (simp only [List.length_append, List.length_cons, List.length_nil, List.length_map] at *; omega))) a_vof (by first | rfl | exact hsz) ?_)
      | (refine on_storeEF hF rfl rfl rfl rfl a_turn (by first | with_reducible assumption | rfl) (by decide) a_vof rfl ?_)
      | (refine on_storeF hF rfl rfl rfl rfl a_turn (by decide) a_vof rfl ?_)) <;> try (refine hK2 _ _ _ a_allK ?_; clear hK2 K2))) <;> (refine hK _ _ _ ?_; clear hK K))
    | with_reducible refine nx_seq ?_
        | with_reducible refine nx_region ?_
        | with_reducible refine nl_nil ?_
        | with_reducible refine nq_then_n ?_
        | with_reducible refine nx_block ?_
        | with_reducible refine nx_skip ?_
        | with_reducible refine nx_exit ?_
        | with_reducible refine nx_ret ?_
        | with_reducible refine nq_then_x ?_
        | with_reducible refine nq_then_r ?_
        | with_reducible refine nq_blk_n ?_
        | with_reducible refine nq_blk_r ?_
        | with_reducible refine nq_blk_hit ?_
        | with_reducible refine nq_blk_miss rfl ?_
        | with_reducible refine nd_nil ?_
    | refine nx_cond_t rfl ?_ | refine nx_cond_f rfl ?_
    | refine nl_pass hF rfl rfl rfl ?_
    | refine nd_pass rfl rfl rfl rfl rfl ?_
    | refine nd_pass2 rfl rfl rfl (fun c => by exact (fun h => by cases h)) a_allK rfl rfl ?_
    | refine nd_pass3 rfl rfl rfl (fun c => by exact (fun h => by cases h)) rfl rfl ?_
    | (with_reducible refine hQ1 _ _ _ ?_; clear hQ1 Q1)
    )
  · rw [decide_eq_true hc]
    refine nx_end [] rfl () (fun a w ha hw => res_tmp Try.results36 rfl ha) (by exact a_subR) (by exact a_holds2)
  · rw [decide_eq_false hc]
    refine nx_end [] rfl () (fun a w ha hw => res_tmp Try.results36 rfl ha) (by exact a_subR) (by exact a_holds2)
theorem firsta_pred : PredS Try.prog L2 len2 (.func (.func 36) #[] #[]) [] := ⟨36, [], rfl, (enters_of Try.func36 (by kernel_rfl) rfl), fun W0 X R C _ x hx => by
  simp only [L2, List.mem_cons, List.not_mem_nil, or_false] at hx
  rcases hx with rfl | rfl <;> exact firsta_ct _⟩
set_option maxRecDepth 100000 in
theorem firstb_ct (i j : Int) (hb : -9223372036854775808 ≤ i + j ∧ i + j ≤ 9223372036854775807) : Ct Try.prog 37 [.int .i64 i, .int .i64 j] W0 X R C Unit (fun _ => .int .i64 (i + j)) (fun _ => R) (fun _ => C) := by
  intro w hw
  have hF := isWide_wide
  refine calls_nx Try.func37 rfl Try.ntmps37 rfl ?_ hw
  repeat' (first
    | ((first | with_reducible refine nl_op rfl ?_ | refine nd_go rfl rfl rfl ?_); intro K hK; (first
      | ((first | refine on_E hF rfl rfl ?_ | refine od_E rfl rfl ?_ | refine od_R rfl rfl ?_); (first | refine ⟨_, a_yl, ?_⟩))
      | ((first | refine on_Ec hF rfl rfl ?_ | refine od_Ec rfl rfl ?_); refine ⟨_, _, _, a_yc, ?_, ?_⟩ <;> (intro hc; try (exfalso; first | (omega; done) | exact absurd (by with_reducible rfl) hc | (simp at hc; done))))
      | ((first | (refine od_act (fun c => by exact (fun h => by cases h)) ?_; intro K2 hK2) | refine od_last (fun c => by exact (fun h => by cases h)) ?_ | skip); (first
      
      
      
      | (refine on_box hF rfl rfl rfl rfl (fun B => ?_))
      | (refine on_store hF rfl rfl rfl rfl a_turn a_vof (by first | rfl | exact hsz.symm | exact hsz) ?_)
      | (refine on_storeE hF rfl rfl rfl rfl a_turn (by (first | omega | (simp only [List.length_append, List.length_cons, List.length_nil, List.length_map] at *; omega))) a_vof (by first | rfl | exact hsz) ?_)
      | (refine on_storeEF hF rfl rfl rfl rfl a_turn (by first | with_reducible assumption | rfl) (by decide) a_vof rfl ?_)
      | (refine on_storeF hF rfl rfl rfl rfl a_turn (by decide) a_vof rfl ?_)) <;> try (refine hK2 _ _ _ a_allK ?_; clear hK2 K2))) <;> (refine hK _ _ _ ?_; clear hK K))
    | with_reducible refine nx_seq ?_
        | with_reducible refine nx_region ?_
        | with_reducible refine nl_nil ?_
        | with_reducible refine nq_then_n ?_
        | with_reducible refine nx_block ?_
        | with_reducible refine nx_skip ?_
        | with_reducible refine nx_exit ?_
        | with_reducible refine nx_ret ?_
        | with_reducible refine nq_then_x ?_
        | with_reducible refine nq_then_r ?_
        | with_reducible refine nq_blk_n ?_
        | with_reducible refine nq_blk_r ?_
        | with_reducible refine nq_blk_hit ?_
        | with_reducible refine nq_blk_miss rfl ?_
        | with_reducible refine nd_nil ?_
    | refine nx_cond_t rfl ?_ | refine nx_cond_f rfl ?_
    | refine nl_pass hF rfl rfl rfl ?_
    | refine nd_pass rfl rfl rfl rfl rfl ?_
    | refine nd_pass2 rfl rfl rfl (fun c => by exact (fun h => by cases h)) a_allK rfl rfl ?_
    | refine nd_pass3 rfl rfl rfl (fun c => by exact (fun h => by cases h)) rfl rfl ?_
    | (with_reducible refine hQ1 _ _ _ ?_; clear hQ1 Q1)
    )
  refine nx_end [] rfl () (fun a w ha hw => res_tmp Try.results37 rfl ha) (by exact a_subR) (by exact a_holds2)
theorem fold_ct (s : Value) (RS : List Ch) (hs : It Try.prog L3 s RS) (hR1 : ∀ r ∈ RS, r ∈ R) :
    Ct Try.prog 25 [s, .int .i64 10, .func (.func 37) #[] #[]] W0 X R C Unit (fun _ => .int .i64 16) (fun _ => R) (fun _ => C) := by
  have h := FIntInt.fold_ct (W0 := W0) (X := X) (R := R) (C := C) (ι := Int) (fun x vs => vs = [x]) (fun _ _ => []) L3 s RS (.inl hs) hR1 (fun x vs h => ⟨x, h⟩) (fun x hx v h => by injection h with h _; rw [h]; exact vL3 x hx) 37 [] (enters_of Try.func37 (by kernel_rfl) rfl) (fun pre i => i = 10 + (pre.map toI).sum) (fun _ _ => []) (fun i => .int .i64 i) (fun i => vof_i i) (fun i => rfl) 10 rfl ?_
  · intro w hw
    refine (h w hw).mono fun e w' ⟨i, h1, h2⟩ => ⟨(), ?_, h2⟩
    obtain ⟨i, rfl⟩ := i
    exact h1
  · intro pre x post hx vs hvs i hi W0 X R' E hR
    obtain rfl : vs = [x] := hvs
    have key : ∃ j, x = .int .i64 j ∧ (-9223372036854775808 ≤ i + j ∧ i + j ≤ 9223372036854775807) := by
      unfold L3 at hx
      match pre, hx, hi with
      | [], hx, hi => injection hx with h1 h2; subst h1; exact ⟨_, rfl, by subst hi; decide⟩
      | [a], hx, hi => injection hx with h0 hx; injection hx with h1 h2; subst h0; subst h1; exact ⟨_, rfl, by subst hi; decide⟩
      | [a, b], hx, hi => injection hx with h0 hx; injection hx with h01 hx; injection hx with h1 h2; subst h0; subst h01; subst h1; exact ⟨_, rfl, by subst hi; decide⟩
      | a :: b :: c :: d, hx, hi => have := congrArg List.length hx; simp at this
    obtain ⟨j, rfl, hb⟩ := key
    intro w hw
    refine (firstb_ct (C := E) i j hb w hw).mono fun e w' ⟨_, h1, h2⟩ => ⟨⟨i + j, ?_⟩, h1, h2⟩
    simp [toI, hi, Int.add_assoc]
set_option maxRecDepth 100000 in
set_option maxHeartbeats 1000000 in
theorem first_ct : Ct Try.prog 6 [] W0 X R C Unit (fun _ => .bool true) (fun _ => R) (fun _ => C) := by
  intro w hw
  have hF := isWide_wide
  have c1 : Cel 1 L1 := Cel.of vL1 (by kernel_rfl)
  have c2 : Cel 1 L2 := Cel.of vL2 (by kernel_rfl)
  have c3 : Cel 1 L3 := Cel.of vL3 (by kernel_rfl)
  have v1 : ∀ x ∈ L1.take (2 : Int).toNat, VOf Try.prog 3 x := fun x hx => vL1 x (List.mem_of_mem_take hx)
  refine calls_nx Try.func6 rfl Try.ntmps6 rfl ?_ hw
  repeat' (first
    | ((first | with_reducible refine nl_op rfl ?_ | refine nd_go rfl rfl rfl ?_); intro K hK; (first
      | ((first | refine on_E hF rfl rfl ?_ | refine od_E rfl rfl ?_ | refine od_R rfl rfl ?_); (first | refine ⟨_, a_yl, ?_⟩))
      | ((first | refine on_Ec hF rfl rfl ?_ | refine od_Ec rfl rfl ?_); refine ⟨_, _, _, a_yc, ?_, ?_⟩ <;> (intro hc; try (exfalso; first | (omega; done) | exact absurd (by with_reducible rfl) hc | (simp at hc; done))))
      | ((first | (refine od_act (fun c => by exact (fun h => by cases h)) ?_; intro K2 hK2) | refine od_last (fun c => by exact (fun h => by cases h)) ?_ | skip); (first
      | (refine on_buildSlice (e := 3) (k := 1) (by_ := 8) (vs := L1) hF rfl rfl rfl rfl rfl rfl (by kernel_rfl) c1 (by decide) (fun b1 => ?_); refine nx_frzRow Pick.here ?_)
      | (refine on_buildSlice (e := 9) (k := 1) (by_ := 16) (vs := L2) hF rfl rfl rfl rfl rfl rfl (by kernel_rfl) c2 (by decide) (fun b2 => ?_); refine nx_frzRow Pick.here ?_)
      | (refine on_buildSlice (e := 3) (k := 1) (by_ := 8) (vs := L3) hF rfl rfl rfl rfl rfl rfl (by kernel_rfl) c3 (by decide) (fun b3 => ?_); refine nx_frzRow Pick.here ?_)
      | (refine on_callG hF (enters_of Try.func11 (by kernel_rfl) rfl) rfl rfl rfl rfl (NInt.of_ct (.slice (some ⟨b1, 0, none⟩) 3 3) L1 (by exact a_mem) ⟨_, _, _, rfl⟩ vL1 (by decide)) (fun i1 => ?_))
      | (refine on_callG hF (enters_of Try.func35 (by kernel_rfl) rfl) rfl rfl rfl rfl (NStr.of_ct (.slice (some ⟨b2, 0, none⟩) 2 2) L2 (by exact a_mem) ⟨_, _, _, rfl⟩ vL2 (by decide)) (fun i2 => ?_))
      | (refine on_callG hF (enters_of Try.func11 (by kernel_rfl) rfl) rfl rfl rfl rfl (NInt.of_ct (.slice (some ⟨b3, 0, none⟩) 3 3) L3 (by exact a_mem) ⟨_, _, _, rfl⟩ vL3 (by decide)) (fun i3 => ?_))
      | (refine on_callG hF (enters_of Try.func19 (by kernel_rfl) rfl) rfl rfl rfl rfl (NInt.first_ct _ 2 rfl) (fun j1 => ?_))
      | (refine on_callG hF (enters_of Try.func9 (by kernel_rfl) rfl) rfl rfl rfl rfl (NInt.list_ct _ _ _ (NInt.first_it j1.1 j1.2 (NInt.ofV i1.2) 2 L1 _ (NInt.of_it i1 L1 vL1 (by decide)).n vL1 (by decide)).n v1 (by exact a_subR) (by decide)) (fun r1 => ?_))
      | (refine on_callG hF (enters_of Try.func34 (by kernel_rfl) rfl) rfl rfl rfl rfl (NStr.find_ct _ _ L2 len2 _ _ (NStr.of_it i2 L2 vL2 (by decide)).n firsta_pred.n vL2 (by exact a_subR) (by exact a_subR)) (fun _ => ?_))
      | (refine on_callG hF (enters_of Try.func25 (by kernel_rfl) rfl) rfl rfl rfl rfl (fold_ct _ _ (NInt.of_it i3 L3 vL3 (by decide)) (by exact a_subR)) (fun _ => ?_))
      | (refine on_buildSlice (T := 22) (e := 3) (k := 1) (by_ := 8) hF rfl rfl rfl rfl rfl rfl (by kernel_rfl) a_cel (Nat.le_of_ble_eq_true rfl) (fun b => ?_))
      | (refine on_buildSlice (T := 72) (e := 9) (k := 1) (by_ := 16) hF rfl rfl rfl rfl rfl rfl (by kernel_rfl) a_cel (Nat.le_of_ble_eq_true rfl) (fun b => ?_))
      
      | (refine on_box hF rfl rfl rfl rfl (fun B => ?_))
      | (refine on_store hF rfl rfl rfl rfl a_turn a_vof (by first | rfl | exact hsz.symm | exact hsz) ?_)
      | (refine on_storeE hF rfl rfl rfl rfl a_turn (by (first | omega | (simp only [List.length_append, List.length_cons, List.length_nil, List.length_map] at *; omega))) a_vof (by first | rfl | exact hsz) ?_)
      | (refine on_storeEF hF rfl rfl rfl rfl a_turn (by first | with_reducible assumption | rfl) (by decide) a_vof rfl ?_)
      | (refine on_storeF hF rfl rfl rfl rfl a_turn (by decide) a_vof rfl ?_)) <;> try (refine hK2 _ _ _ a_allK ?_; clear hK2 K2))) <;> (refine hK _ _ _ ?_; clear hK K))
    | with_reducible refine nx_seq ?_
        | with_reducible refine nx_region ?_
        | with_reducible refine nl_nil ?_
        | with_reducible refine nq_then_n ?_
        | with_reducible refine nx_block ?_
        | with_reducible refine nx_skip ?_
        | with_reducible refine nx_exit ?_
        | with_reducible refine nx_ret ?_
        | with_reducible refine nq_then_x ?_
        | with_reducible refine nq_then_r ?_
        | with_reducible refine nq_blk_n ?_
        | with_reducible refine nq_blk_r ?_
        | with_reducible refine nq_blk_hit ?_
        | with_reducible refine nq_blk_miss rfl ?_
        | with_reducible refine nd_nil ?_
    | refine nx_cond_t rfl ?_ | refine nx_cond_f rfl ?_
    | refine nl_pass hF rfl rfl rfl ?_
    | refine nd_pass rfl rfl rfl rfl rfl ?_
    | refine nd_pass2 rfl rfl rfl (fun c => by exact (fun h => by cases h)) a_allK rfl rfl ?_
    | refine nd_pass3 rfl rfl rfl (fun c => by exact (fun h => by cases h)) rfl rfl ?_
    | (with_reducible refine hQ1 _ _ _ ?_; clear hQ1 Q1)
    )
  · refine nx_end [] rfl () (fun a w ha hw => res_tmp Try.results6 rfl ha) (by exact a_subR) (by exact a_holds2)
  · exact absurd rfl hc
end Law05
end Go.Proofs.Ytncjgkghhcpagaa
