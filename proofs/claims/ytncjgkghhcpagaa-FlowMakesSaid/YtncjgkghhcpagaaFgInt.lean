/- The contract of flow.Runs at one element type. Condition: the argument is an iterator value. -/
import Derived.Test.YtncjgkghhcpagaaFeInt
import Derived.Test.YtncjgkghhcpagaaS9
namespace Go.Proofs.Ytncjgkghhcpagaa
open Go.RowKit Go.Shelf
set_option linter.unusedSimpArgs false
set_option linter.unusedVariables false
namespace NInt
variable {W0 : World} {X : Nat → Prop} {R C : List Ch}
/-- What is given: slices that the asker owns. -/
def runV (x : List Value) (vs : List Value) : Prop := ∃ v, IsSl v ∧ vs = [v]
def runD (x : List Value) (vs : List Value) : List Ch := [RowC 3 1 (vs.headD (.slice none 0 0)) x]
set_option maxRecDepth 100000 in
theorem runs_ct (s : Value) (n : Int) (hs : fnB s = true) : Ct Try.prog 13 [s, .int .i64 n] W0 X R C (Nat × Nat) (fun i => .func (.func 45) #[] #[ptr i.2, ptr i.1]) (fun i => BoxC i.2 3 (.int .i64 n) :: BoxC i.1 27 s :: R) (fun _ => C) := by
  intro w hw
  have hF := isWide_wide
  have hvs : VOf Try.prog 27 s := vof_fn (by kernel_rfl) hs
  refine calls_nx Try.func13 rfl Try.ntmps13 rfl ?_ hw
  repeat' (first
    | ((first | with_reducible refine nl_op rfl ?_ | refine nd_go rfl rfl rfl ?_); intro K hK; (first
      | ((first | refine on_E hF rfl rfl ?_ | refine od_E rfl rfl ?_ | refine od_R rfl rfl ?_); (first | refine ⟨_, a_yl, ?_⟩))
      | ((first | refine on_Ec hF rfl rfl ?_ | refine od_Ec rfl rfl ?_); refine ⟨_, _, _, a_yc, ?_, ?_⟩ <;> (intro hc; try (exfalso; first | (omega; done) | exact absurd (by with_reducible rfl) hc | (simp at hc; done))))
      | ((first | (refine od_act (fun c => by exact (fun h => by cases h)) ?_; intro K2 hK2) | refine od_last (fun c => by exact (fun h => by cases h)) ?_ | skip); (first
      
      
      
      | (refine on_box hF rfl rfl rfl rfl (fun B => ?_))
      | (refine on_store hF rfl rfl rfl rfl a_turn a_vof (by first | rfl | exact hsz.symm | exact hsz) ?_)
      | (refine on_storeE hF rfl rfl rfl rfl a_turn (by (first | omega | (simp only [List.length_append, List.length_cons, List.length_nil, List.length_map] at *; omega))) a_vof (by first | rfl | exact hsz) ?_)
      | (refine on_storeEF hF rfl rfl rfl rfl a_turn (by first | with_reducible assumption | rfl) (by decide) a_vof rfl ?_)
      | (refine on_storeF hF rfl rfl rfl rfl a_turn (by decide) a_vof rfl ?_)) <;> try (refine hK2 _ _ _ a_allK ?_; clear hK2 K2))) <;> (refine hK _ _ _ ?_; clear hK K))
    | with_reducible refine nx_seq ?_
        | with_reducible refine nx_region ?_
        | with_reducible refine nl_nil ?_
        | with_reducible refine nq_then_n ?_
        | with_reducible refine nx_block ?_
        | with_reducible refine nx_skip ?_
        | with_reducible refine nx_exit ?_
        | with_reducible refine nx_ret ?_
        | with_reducible refine nq_then_x ?_
        | with_reducible refine nq_then_r ?_
        | with_reducible refine nq_blk_n ?_
        | with_reducible refine nq_blk_r ?_
        | with_reducible refine nq_blk_hit ?_
        | with_reducible refine nq_blk_miss rfl ?_
        | with_reducible refine nd_nil ?_
    | refine nx_cond_t rfl ?_ | refine nx_cond_f rfl ?_
    | refine nl_pass hF rfl rfl rfl ?_
    | refine nd_pass rfl rfl rfl rfl rfl ?_
    | refine nd_pass2 rfl rfl rfl (fun c => by exact (fun h => by cases h)) a_allK rfl rfl ?_
    | refine nd_pass3 rfl rfl rfl (fun c => by exact (fun h => by cases h)) rfl rfl ?_
    | (with_reducible refine hQ1 _ _ _ ?_; clear hQ1 Q1)
    )
  rename_i b0
  refine nx_frz _ Pick.here ?_
  refine nx_frz _ Pick.here ?_
  refine nx_end [] rfl (b0, B) (fun a w ha hw => res_tmp Try.results13 rfl ha) (by exact a_subR) (by exact a_holds2)
set_option maxRecDepth 100000 in
set_option maxHeartbeats 1000000 in
theorem runs_it (b0 b1 : Nat) (s : Value) (n : Int) (xs : List Value) (RS : List Ch) (hs : ItN Try.prog xs s RS) (hv : ∀ x ∈ xs, VOf Try.prog 3 x) (hn : -9223372036854775808 ≤ n ∧ n ≤ 9223372036854775807) (hm : xs.length * 8 ≤ 140737488355328) :
    ItS Try.prog runV runD (fun _ => []) (chunks n.toNat xs) (.func (.func 45) #[] #[ptr b1, ptr b0]) (BoxC b1 3 (.int .i64 n) :: BoxC b0 27 s :: RS) := by
  refine ⟨45, [ptr b1, ptr b0], rfl, (enters_of Try.func45 (by kernel_rfl) rfl), ?_⟩
  intro y RY J JX hY hy W0 X R E hRS hRY w hw
  have hF := isWide_wide
  have hb0 : BoxC b0 27 s ∈ R := hRS _ (by simp)
  have hb1 : BoxC b1 3 (.int .i64 n) ∈ R := hRS _ (by simp)
  have hR1 : ∀ r ∈ RS, r ∈ R := fun r hr => hRS r (by simp [hr])
  have hvs : VOf Try.prog 27 s := vof_fn (by kernel_rfl) hs.fn
  have hyv : VOf Try.prog 68 y := vof_func (by kernel_rfl) (by obtain ⟨f, lb, h⟩ := hy; exact ⟨f, _, lb, h⟩)
  clear hRS
  refine calls_nx Try.func45 rfl Try.ntmps45 rfl ?_ hw
  repeat' (first
    | ((first | with_reducible refine nl_op rfl ?_ | refine nd_go rfl rfl rfl ?_); intro K hK; (first
      | ((first | refine on_E hF rfl rfl ?_ | refine od_E rfl rfl ?_ | refine od_R rfl rfl ?_); (first | refine ⟨_, a_yl, ?_⟩))
      | ((first | refine on_Ec hF rfl rfl ?_ | refine od_Ec rfl rfl ?_); refine ⟨_, _, _, a_yc, ?_, ?_⟩ <;> (intro hc; try (exfalso; first | (omega; done) | exact absurd (by with_reducible rfl) hc | (simp at hc; done))))
      | ((first | (refine od_act (fun c => by exact (fun h => by cases h)) ?_; intro K2 hK2) | refine od_last (fun c => by exact (fun h => by cases h)) ?_ | skip); (first
      | (refine on_callG hF (enters_of Try.func39 (by kernel_rfl) rfl) rfl rfl rfl rfl (each_ct hs) (fun s1 => ?_))
      | (refine on_buildSlice (T := 22) (e := 3) (k := 1) (by_ := 8) hF rfl rfl rfl rfl rfl rfl (by kernel_rfl) a_cel (Nat.le_of_ble_eq_true rfl) (fun b => ?_))
      | (refine on_append (T := 22) (e := 3) (k := 1) (by_ := 8) hF rfl rfl rfl rfl rfl a_pick (by kernel_rfl) a_sl a_cel (by first | omega | (unfold maxLen; simp only [List.length_map, List.length_append, List.length_cons, List.length_nil, List.length_replicate]; omega) | (simp only [List.length_map, List.length_append, List.length_cons, List.length_nil, List.length_replicate]; omega)) (by first | omega | (unfold maxLen; simp only [List.length_map, List.length_append, List.length_cons, List.length_nil, List.length_replicate]; omega) | (simp only [List.length_map, List.length_append, List.length_cons, List.length_nil, List.length_replicate]; omega)) (fun v => ?_))
      | (refine on_alloc hF rfl Try.zeroValue22 rfl rfl (fun B => ?_))
      | (refine on_box hF rfl rfl rfl rfl (fun B => ?_))
      | (refine on_store hF rfl rfl rfl rfl a_turn a_vof (by first | rfl | exact hsz.symm | exact hsz) ?_)
      | (refine on_storeE hF rfl rfl rfl rfl a_turn (by (first | omega | (simp only [List.length_append, List.length_cons, List.length_nil, List.length_map] at *; omega))) a_vof (by first | rfl | exact hsz) ?_)
      | (refine on_storeEF hF rfl rfl rfl rfl a_turn (by first | with_reducible assumption | rfl) (by decide) a_vof rfl ?_)
      | (refine on_storeF hF rfl rfl rfl rfl a_turn (by decide) a_vof rfl ?_)) <;> try (refine hK2 _ _ _ a_allK ?_; clear hK2 K2))) <;> (refine hK _ _ _ ?_; clear hK K))
    | with_reducible refine nx_seq ?_
        | with_reducible refine nx_region ?_
        | with_reducible refine nl_nil ?_
        | with_reducible refine nq_then_n ?_
        | with_reducible refine nx_block ?_
        | with_reducible refine nx_skip ?_
        | with_reducible refine nx_exit ?_
        | with_reducible refine nx_ret ?_
        | with_reducible refine nq_then_x ?_
        | with_reducible refine nq_then_r ?_
        | with_reducible refine nq_blk_n ?_
        | with_reducible refine nq_blk_r ?_
        | with_reducible refine nq_blk_hit ?_
        | with_reducible refine nq_blk_miss rfl ?_
        | with_reducible refine nd_nil ?_
    | refine nx_cond_t rfl ?_ | refine nx_cond_f rfl ?_
    | refine nl_pass hF rfl rfl rfl ?_
    | refine nd_pass rfl rfl rfl rfl rfl ?_
    | refine nd_pass2 rfl rfl rfl (fun c => by exact (fun h => by cases h)) a_allK rfl rfl ?_
    | refine nd_pass3 rfl rfl rfl (fun c => by exact (fun h => by cases h)) rfl rfl ?_
    | (with_reducible refine hQ1 _ _ _ ?_; clear hQ1 Q1)
    )
  · have : chunks n.toNat xs = [] := by rw [show n.toNat = 0 by omega]; exact chunks_zero _
    rw [this]
    refine nx_end [] rfl none (fun a w ha hw => res_none Try.results45) (by exact a_subR) (by exact a_holds2)
  · rename_i b3
    rename Nat => b4
    have h0 : 0 < n.toNat := by omega
    refine nx_frz (BoxC b3 68 y) (Pick.there Pick.here) ?_
    refine nx_nilRow 3 1 ?_
    refine nx_range hF rfl rfl s1.2 (by exact a_subR) (by rfl) (fun x vs h => by rw [h]; rfl) (fun pre (i : List (List Value) × List Value × SV) => pre = i.1.flatten ++ i.2.1 ∧ (∀ c ∈ i.1, c.length = n.toNat) ∧ i.2.1.length < n.toNat) (fun pre i => BoxC b4 22 i.2.2.1 :: RowC 3 1 i.2.2.1 i.2.1 :: J i.1 :: E)
      (fun _ j (k : Upto (chunks n.toNat xs)) => j = none) (fun _ _ k => JX k.1 :: E) ([], [], ⟨.slice none 0 0, _, _, _, rfl⟩) ⟨rfl, (fun c hc => by cases hc), h0⟩ (by exact a_holds2) ?round ?done ?stop
    case round =>
      rintro lp pre x post hx vs rfl ⟨q, r, v, hv0⟩ ⟨hp1, hp2, hp3⟩ W1 X1 R' hR' E1 K HK
      dsimp only at hp1 hp2 hp3
      have hF := isWide_wide.inRound lp
      have hmem : x ∈ xs := by rw [hx]; simp
      have hvx := hv x hmem
      have hby : BoxC b3 68 y ∈ R' := hR' _ List.mem_cons_self
      have hb1 : BoxC b1 3 (.int .i64 n) ∈ R' := hR' _ (List.mem_cons_of_mem _ hb1)
      have hRY : ∀ r ∈ RY, r ∈ R' := fun r hr => hR' r (List.mem_cons_of_mem _ (hRY r hr))
      have hvv : VOf Try.prog 22 v := vof_slice (by kernel_rfl) hv0
      have hsv : (cv v).size = 1 := by obtain ⟨_, _, _, rfl⟩ := hv0; rfl
      have hcx : Cel 1 [x] := Cel.of (T := 3) (fun y hy => by simp at hy; rw [hy]; exact hvx) (by kernel_rfl)
      have hl : r.length + 1 ≤ xs.length := by rw [hx, hp1]; simp; omega
      have hm1 : r.length + [x].length ≤ maxLen := by unfold maxLen; simp; omega
      have hm2 : (r.length + [x].length) * 8 ≤ 140737488355328 := by simp; omega
      have hlr : ((r ++ [x]).length : Int) = r.length + 1 := by simp
      clear hR' hR1 hb0
      dsimp only
      (try simp only [List.cons_append, List.nil_append])
      repeat' (first
    | ((first | with_reducible refine nl_op rfl ?_ | refine nd_go rfl rfl rfl ?_); intro K hK; (first
      | ((first | refine on_E hF rfl rfl ?_ | refine od_E rfl rfl ?_ | refine od_R rfl rfl ?_); (first | refine ⟨_, a_yl, ?_⟩))
      | ((first | refine on_Ec hF rfl rfl ?_ | refine od_Ec rfl rfl ?_); refine ⟨_, _, _, a_yc, ?_, ?_⟩ <;> (intro hc; try (exfalso; first | (omega; done) | exact absurd (by with_reducible rfl) hc | (simp at hc; done))))
      | ((first | (refine od_act (fun c => by exact (fun h => by cases h)) ?_; intro K2 hK2) | refine od_last (fun c => by exact (fun h => by cases h)) ?_ | skip); (first
      
      | (refine on_buildSlice (T := 22) (e := 3) (k := 1) (by_ := 8) hF rfl rfl rfl rfl rfl rfl (by kernel_rfl) a_cel (Nat.le_of_ble_eq_true rfl) (fun b => ?_))
      | (refine on_append (T := 22) (e := 3) (k := 1) (by_ := 8) hF rfl rfl rfl rfl rfl a_pick (by kernel_rfl) a_sl a_cel (by first | omega | (unfold maxLen; simp only [List.length_map, List.length_append, List.length_cons, List.length_nil, List.length_replicate]; omega) | (simp only [List.length_map, List.length_append, List.length_cons, List.length_nil, List.length_replicate]; omega)) (by first | omega | (unfold maxLen; simp only [List.length_map, List.length_append, List.length_cons, List.length_nil, List.length_replicate]; omega) | (simp only [List.length_map, List.length_append, List.length_cons, List.length_nil, List.length_replicate]; omega)) (fun v => ?_))
      | (refine on_alloc hF rfl Try.zeroValue22 rfl rfl (fun B => ?_))
      | (refine on_box hF rfl rfl rfl rfl (fun B => ?_))
      | (refine on_store hF rfl rfl rfl rfl a_turn a_vof (by first | rfl | exact hsz.symm | exact hsz) ?_)
      | (refine on_storeE hF rfl rfl rfl rfl a_turn (by (first | omega | (simp only [List.length_append, List.length_cons, List.length_nil, List.length_map] at *; omega))) a_vof (by first | rfl | exact hsz) ?_)
      | (refine on_storeEF hF rfl rfl rfl rfl a_turn (by first | with_reducible assumption | rfl) (by decide) a_vof rfl ?_)
      | (refine on_storeF hF rfl rfl rfl rfl a_turn (by decide) a_vof rfl ?_)) <;> try (refine hK2 _ _ _ a_allK ?_; clear hK2 K2))) <;> (refine hK _ _ _ ?_; clear hK K))
    | with_reducible refine nx_seq ?_
        | with_reducible refine nx_region ?_
        | with_reducible refine nl_nil ?_
        | with_reducible refine nq_then_n ?_
        | with_reducible refine nx_block ?_
        | with_reducible refine nx_skip ?_
        | with_reducible refine nx_exit ?_
        | with_reducible refine nx_ret ?_
        | with_reducible refine nq_then_x ?_
        | with_reducible refine nq_then_r ?_
        | with_reducible refine nq_blk_n ?_
        | with_reducible refine nq_blk_r ?_
        | with_reducible refine nq_blk_hit ?_
        | with_reducible refine nq_blk_miss rfl ?_
        | with_reducible refine nd_nil ?_
    | refine nx_cond_t rfl ?_ | refine nx_cond_f rfl ?_
    | refine nl_pass hF rfl rfl rfl ?_
    | refine nd_pass rfl rfl rfl rfl rfl ?_
    | refine nd_pass2 rfl rfl rfl (fun c => by exact (fun h => by cases h)) a_allK rfl rfl ?_
    | refine nd_pass3 rfl rfl rfl (fun c => by exact (fun h => by cases h)) rfl rfl ?_
    | (with_reducible refine hQ1 _ _ _ ?_; clear hQ1 Q1)
    )
      all_goals try (refine nx_frz (BoxC _ _ x) Pick.here ?_)
      refine HK _ _ (BoxC b4 22 v :: RowC 3 1 v r :: J q :: E) _ (by exact a_subR) (by exact a_holds2) (fun E2 => ?_)
      clear HK K
      (try simp only [List.cons_append, List.nil_append])
      repeat' (first
    | ((first | with_reducible refine nl_op rfl ?_ | refine nd_go rfl rfl rfl ?_); intro K hK; (first
      | ((first | refine on_E hF rfl rfl ?_ | refine od_E rfl rfl ?_ | refine od_R rfl rfl ?_); (first | refine ⟨_, a_yl, ?_⟩))
      | ((first | refine on_Ec hF rfl rfl ?_ | refine od_Ec rfl rfl ?_); refine ⟨_, _, _, a_yc, ?_, ?_⟩ <;> (intro hc; try (exfalso; first | (omega; done) | exact absurd (by with_reducible rfl) hc | (simp at hc; done))))
      | ((first | (refine od_act (fun c => by exact (fun h => by cases h)) ?_; intro K2 hK2) | refine od_last (fun c => by exact (fun h => by cases h)) ?_ | skip); (first
      | (refine on_buildSlice (e := 3) (k := 1) (by_ := 8) hF rfl rfl rfl rfl rfl rfl (by kernel_rfl) hcx (by simp) (fun B => ?_)) | (refine on_append (e := 3) (k := 1) (by_ := 8) (xs := r) (ys := [x]) hF rfl rfl rfl rfl rfl (by exact a_pick) (by kernel_rfl) (by exact a_sl) hcx hm1 hm2 (fun v2 => ?_)) | (refine on_store hF rfl rfl rfl rfl (by exact a_turn) (vof_slice (by kernel_rfl) v2.2) (by obtain ⟨_, _, _, e⟩ := v2.2; rw [e, hsv]; rfl) ?_)
      | (refine on_buildSlice (T := 22) (e := 3) (k := 1) (by_ := 8) hF rfl rfl rfl rfl rfl rfl (by kernel_rfl) a_cel (Nat.le_of_ble_eq_true rfl) (fun b => ?_))
      | (refine on_append (T := 22) (e := 3) (k := 1) (by_ := 8) hF rfl rfl rfl rfl rfl a_pick (by kernel_rfl) a_sl a_cel (by first | omega | (unfold maxLen; simp only [List.length_map, List.length_append, List.length_cons, List.length_nil, List.length_replicate]; omega) | (simp only [List.length_map, List.length_append, List.length_cons, List.length_nil, List.length_replicate]; omega)) (by first | omega | (unfold maxLen; simp only [List.length_map, List.length_append, List.length_cons, List.length_nil, List.length_replicate]; omega) | (simp only [List.length_map, List.length_append, List.length_cons, List.length_nil, List.length_replicate]; omega)) (fun v => ?_))
      | (refine on_alloc hF rfl Try.zeroValue22 rfl rfl (fun B => ?_))
      | (refine on_box hF rfl rfl rfl rfl (fun B => ?_))
      | (refine on_store hF rfl rfl rfl rfl a_turn a_vof (by first | rfl | exact hsz.symm | exact hsz) ?_)
      | (refine on_storeE hF rfl rfl rfl rfl a_turn (by (first | omega | (simp only [List.length_append, List.length_cons, List.length_nil, List.length_map] at *; omega))) a_vof (by first | rfl | exact hsz) ?_)
      | (refine on_storeEF hF rfl rfl rfl rfl a_turn (by first | with_reducible assumption | rfl) (by decide) a_vof rfl ?_)
      | (refine on_storeF hF rfl rfl rfl rfl a_turn (by decide) a_vof rfl ?_)) <;> try (refine hK2 _ _ _ a_allK ?_; clear hK2 K2))) <;> (refine hK _ _ _ ?_; clear hK K))
    | with_reducible refine nx_seq ?_
        | with_reducible refine nx_region ?_
        | with_reducible refine nl_nil ?_
        | with_reducible refine nq_then_n ?_
        | with_reducible refine nx_block ?_
        | with_reducible refine nx_skip ?_
        | with_reducible refine nx_exit ?_
        | with_reducible refine nx_ret ?_
        | with_reducible refine nq_then_x ?_
        | with_reducible refine nq_then_r ?_
        | with_reducible refine nq_blk_n ?_
        | with_reducible refine nq_blk_r ?_
        | with_reducible refine nq_blk_hit ?_
        | with_reducible refine nq_blk_miss rfl ?_
        | with_reducible refine nd_nil ?_
    | refine nx_cond_t rfl ?_ | refine nx_cond_f rfl ?_
    | refine nl_pass hF rfl rfl rfl ?_
    | refine nd_pass rfl rfl rfl rfl rfl ?_
    | refine nd_pass2 rfl rfl rfl (fun c => by exact (fun h => by cases h)) a_allK rfl rfl ?_
    | refine nd_pass3 rfl rfl rfl (fun c => by exact (fun h => by cases h)) rfl rfl ?_
    | (with_reducible refine hQ1 _ _ _ ?_; clear hQ1 Q1)
    )
      have hvv2 : VOf Try.prog 22 v2.1 := vof_slice (by kernel_rfl) v2.2
      have hsz : (cv v2.1).size = 1 := by obtain ⟨_, _, _, e⟩ := v2.2; rw [e]; rfl
      have hz : ¬ ((r ++ [x]).length : Int) < n → chunks n.toNat xs = q ++ (r ++ [x]) :: chunks n.toNat post := fun h => by
        rw [hx, hp1, show q.flatten ++ r ++ x :: post = q.flatten ++ ((r ++ [x]) ++ post) by simp, chunks_all h0 q _ hp2, chunks_full h0 (by simp at h ⊢; omega)]
      repeat' (first
    | ((first | with_reducible refine nl_op rfl ?_ | refine nd_go rfl rfl rfl ?_); intro K hK; (first
      | ((first | refine on_E hF rfl rfl ?_ | refine od_E rfl rfl ?_ | refine od_R rfl rfl ?_); (first | refine ⟨_, a_yl, ?_⟩))
      | ((first | refine on_Ec hF rfl rfl ?_ | refine od_Ec rfl rfl ?_); refine ⟨_, _, _, a_yc, ?_, ?_⟩ <;> (intro hc; try (exfalso; first | (omega; done) | exact absurd (by with_reducible rfl) hc | (simp at hc; done))))
      | ((first | (refine od_act (fun c => by exact (fun h => by cases h)) ?_; intro K2 hK2) | refine od_last (fun c => by exact (fun h => by cases h)) ?_ | skip); (first
      | (refine on_yieldD hF hY q (r ++ [x]) _ (hz hc) rfl rfl rfl rfl rfl ⟨_, v2.2, rfl⟩ (by exact a_subR) (pick2 (by exact a_pick) (by exact a_pick)) ?_ ?_)
      | (refine on_buildSlice (T := 22) (e := 3) (k := 1) (by_ := 8) hF rfl rfl rfl rfl rfl rfl (by kernel_rfl) a_cel (Nat.le_of_ble_eq_true rfl) (fun b => ?_))
      | (refine on_append (T := 22) (e := 3) (k := 1) (by_ := 8) hF rfl rfl rfl rfl rfl a_pick (by kernel_rfl) a_sl a_cel (by first | omega | (unfold maxLen; simp only [List.length_map, List.length_append, List.length_cons, List.length_nil, List.length_replicate]; omega) | (simp only [List.length_map, List.length_append, List.length_cons, List.length_nil, List.length_replicate]; omega)) (by first | omega | (unfold maxLen; simp only [List.length_map, List.length_append, List.length_cons, List.length_nil, List.length_replicate]; omega) | (simp only [List.length_map, List.length_append, List.length_cons, List.length_nil, List.length_replicate]; omega)) (fun v => ?_))
      | (refine on_alloc hF rfl Try.zeroValue22 rfl rfl (fun B => ?_))
      | (refine on_box hF rfl rfl rfl rfl (fun B => ?_))
      | (refine on_store hF rfl rfl rfl rfl a_turn a_vof (by first | rfl | exact hsz.symm | exact hsz) ?_)
      | (refine on_storeE hF rfl rfl rfl rfl a_turn (by (first | omega | (simp only [List.length_append, List.length_cons, List.length_nil, List.length_map] at *; omega))) a_vof (by first | rfl | exact hsz) ?_)
      | (refine on_storeEF hF rfl rfl rfl rfl a_turn (by first | with_reducible assumption | rfl) (by decide) a_vof rfl ?_)
      | (refine on_storeF hF rfl rfl rfl rfl a_turn (by decide) a_vof rfl ?_)) <;> try (refine hK2 _ _ _ a_allK ?_; clear hK2 K2))) <;> (refine hK _ _ _ ?_; clear hK K))
    | with_reducible refine nx_seq ?_
        | with_reducible refine nx_region ?_
        | with_reducible refine nl_nil ?_
        | with_reducible refine nq_then_n ?_
        | with_reducible refine nx_block ?_
        | with_reducible refine nx_skip ?_
        | with_reducible refine nx_exit ?_
        | with_reducible refine nx_ret ?_
        | with_reducible refine nq_then_x ?_
        | with_reducible refine nq_then_r ?_
        | with_reducible refine nq_blk_n ?_
        | with_reducible refine nq_blk_r ?_
        | with_reducible refine nq_blk_hit ?_
        | with_reducible refine nq_blk_miss rfl ?_
        | with_reducible refine nd_nil ?_
    | refine nx_cond_t rfl ?_ | refine nx_cond_f rfl ?_
    | refine nl_pass hF rfl rfl rfl ?_
    | refine nd_pass rfl rfl rfl rfl rfl ?_
    | refine nd_pass2 rfl rfl rfl (fun c => by exact (fun h => by cases h)) a_allK rfl rfl ?_
    | refine nd_pass3 rfl rfl rfl (fun c => by exact (fun h => by cases h)) rfl rfl ?_
    | (with_reducible refine hQ1 _ _ _ ?_; clear hQ1 Q1)
    )
      · exact rq_n (q, r ++ [x], v2) ⟨by rw [hp1]; simp, hp2, by simp at *; omega⟩ (by exact a_subR) (by exact a_holds2)
      · refine nx_nilRow 3 1 ?_
        refine rq_n (ι := List (List Value) × List Value × SV) (q ++ [r ++ [x]], [], ⟨.slice none 0 0, _, _, _, rfl⟩) ?_ (by exact a_subR) (by exact a_holds2)
        exact ⟨by rw [hp1]; simp, (fun c hcm => by
          rcases List.mem_append.1 hcm with h | h
          · exact hp2 c h
          · rw [List.mem_singleton.1 h]; simp at hc hlr ⊢; omega), h0⟩
      · exact rq_r (κ := Upto (chunks n.toNat xs)) ⟨q ++ [r ++ [x]], _, _, _, rfl, hz hc⟩ rfl (by exact a_subR) (by exact a_holds2)
    case done =>
      rintro ⟨q, r, v⟩ ⟨hp1, hp2, hp3⟩ M
      dsimp only at hp1 hp2 hp3
      have hvv : VOf Try.prog 22 v.1 := vof_slice (by kernel_rfl) v.2
      have hby : BoxC b3 68 y ∈ BoxC b3 68 y :: R := List.mem_cons_self
      have hz : (0 : Int) < r.length → chunks n.toNat xs = q ++ r :: [] := fun h => by
        rw [hp1, chunks_all h0 q _ hp2, chunks_last (by intro e; rw [e] at h; simp at h) (by omega)]
      have hz0 : ¬ (0 : Int) < r.length → chunks n.toNat xs = q := fun h => by
        obtain rfl : r = [] := List.eq_nil_of_length_eq_zero (by omega)
        rw [hp1, chunks_all h0 q _ hp2]; simp [chunks]
      dsimp only
      (try simp only [List.cons_append, List.nil_append])
      repeat' (first
    | ((first | with_reducible refine nl_op rfl ?_ | refine nd_go rfl rfl rfl ?_); intro K hK; (first
      | ((first | refine on_E hF rfl rfl ?_ | refine od_E rfl rfl ?_ | refine od_R rfl rfl ?_); (first | refine ⟨_, a_yl, ?_⟩))
      | ((first | refine on_Ec hF rfl rfl ?_ | refine od_Ec rfl rfl ?_); refine ⟨_, _, _, a_yc, ?_, ?_⟩ <;> (intro hc; try (exfalso; first | (omega; done) | exact absurd (by with_reducible rfl) hc | (simp at hc; done))))
      | ((first | (refine od_act (fun c => by exact (fun h => by cases h)) ?_; intro K2 hK2) | refine od_last (fun c => by exact (fun h => by cases h)) ?_ | skip); (first
      | (refine on_yieldD hF hY q r _ (hz hc) rfl rfl rfl rfl rfl ⟨_, v.2, rfl⟩ (by exact a_subR) (pick2 (by exact a_pick) (by exact a_pick)) ?_ ?_)
      | (refine on_buildSlice (T := 22) (e := 3) (k := 1) (by_ := 8) hF rfl rfl rfl rfl rfl rfl (by kernel_rfl) a_cel (Nat.le_of_ble_eq_true rfl) (fun b => ?_))
      | (refine on_append (T := 22) (e := 3) (k := 1) (by_ := 8) hF rfl rfl rfl rfl rfl a_pick (by kernel_rfl) a_sl a_cel (by first | omega | (unfold maxLen; simp only [List.length_map, List.length_append, List.length_cons, List.length_nil, List.length_replicate]; omega) | (simp only [List.length_map, List.length_append, List.length_cons, List.length_nil, List.length_replicate]; omega)) (by first | omega | (unfold maxLen; simp only [List.length_map, List.length_append, List.length_cons, List.length_nil, List.length_replicate]; omega) | (simp only [List.length_map, List.length_append, List.length_cons, List.length_nil, List.length_replicate]; omega)) (fun v => ?_))
      | (refine on_alloc hF rfl Try.zeroValue22 rfl rfl (fun B => ?_))
      | (refine on_box hF rfl rfl rfl rfl (fun B => ?_))
      | (refine on_store hF rfl rfl rfl rfl a_turn a_vof (by first | rfl | exact hsz.symm | exact hsz) ?_)
      | (refine on_storeE hF rfl rfl rfl rfl a_turn (by (first | omega | (simp only [List.length_append, List.length_cons, List.length_nil, List.length_map] at *; omega))) a_vof (by first | rfl | exact hsz) ?_)
      | (refine on_storeEF hF rfl rfl rfl rfl a_turn (by first | with_reducible assumption | rfl) (by decide) a_vof rfl ?_)
      | (refine on_storeF hF rfl rfl rfl rfl a_turn (by decide) a_vof rfl ?_)) <;> try (refine hK2 _ _ _ a_allK ?_; clear hK2 K2))) <;> (refine hK _ _ _ ?_; clear hK K))
    | with_reducible refine nx_seq ?_
        | with_reducible refine nx_region ?_
        | with_reducible refine nl_nil ?_
        | with_reducible refine nq_then_n ?_
        | with_reducible refine nx_block ?_
        | with_reducible refine nx_skip ?_
        | with_reducible refine nx_exit ?_
        | with_reducible refine nx_ret ?_
        | with_reducible refine nq_then_x ?_
        | with_reducible refine nq_then_r ?_
        | with_reducible refine nq_blk_n ?_
        | with_reducible refine nq_blk_r ?_
        | with_reducible refine nq_blk_hit ?_
        | with_reducible refine nq_blk_miss rfl ?_
        | with_reducible refine nd_nil ?_
    | refine nx_cond_t rfl ?_ | refine nx_cond_f rfl ?_
    | refine nl_pass hF rfl rfl rfl ?_
    | refine nd_pass rfl rfl rfl rfl rfl ?_
    | refine nd_pass2 rfl rfl rfl (fun c => by exact (fun h => by cases h)) a_allK rfl rfl ?_
    | refine nd_pass3 rfl rfl rfl (fun c => by exact (fun h => by cases h)) rfl rfl ?_
    | (with_reducible refine hQ1 _ _ _ ?_; clear hQ1 Q1)
    )
      · rw [hz hc]
        refine nx_end_n [M] rfl none (fun a w ha hw => res_none Try.results45) (by exact a_subR) (by exact a_holds2)
      · refine nx_end_n [M] rfl (some ⟨q ++ [r], _, _, _, rfl, hz hc⟩) (fun a w ha hw => res_none Try.results45) (by exact a_subR) (by exact a_holds2)
      · rw [hz0 hc]
        refine nx_end_n [M] rfl none (fun a w ha hw => res_none Try.results45) (by exact a_subR) (by exact a_holds2)
    case stop =>
      rintro pre x post hx j k rfl M
      refine nx_ret ?_
      repeat' (first
    | ((first | with_reducible refine nl_op rfl ?_ | refine nd_go rfl rfl rfl ?_); intro K hK; (first
      | ((first | refine on_E hF rfl rfl ?_ | refine od_E rfl rfl ?_ | refine od_R rfl rfl ?_); (first | refine ⟨_, a_yl, ?_⟩))
      | ((first | refine on_Ec hF rfl rfl ?_ | refine od_Ec rfl rfl ?_); refine ⟨_, _, _, a_yc, ?_, ?_⟩ <;> (intro hc; try (exfalso; first | (omega; done) | exact absurd (by with_reducible rfl) hc | (simp at hc; done))))
      | ((first | (refine od_act (fun c => by exact (fun h => by cases h)) ?_; intro K2 hK2) | refine od_last (fun c => by exact (fun h => by cases h)) ?_ | skip); (first
      
      | (refine on_buildSlice (T := 22) (e := 3) (k := 1) (by_ := 8) hF rfl rfl rfl rfl rfl rfl (by kernel_rfl) a_cel (Nat.le_of_ble_eq_true rfl) (fun b => ?_))
      | (refine on_append (T := 22) (e := 3) (k := 1) (by_ := 8) hF rfl rfl rfl rfl rfl a_pick (by kernel_rfl) a_sl a_cel (by first | omega | (unfold maxLen; simp only [List.length_map, List.length_append, List.length_cons, List.length_nil, List.length_replicate]; omega) | (simp only [List.length_map, List.length_append, List.length_cons, List.length_nil, List.length_replicate]; omega)) (by first | omega | (unfold maxLen; simp only [List.length_map, List.length_append, List.length_cons, List.length_nil, List.length_replicate]; omega) | (simp only [List.length_map, List.length_append, List.length_cons, List.length_nil, List.length_replicate]; omega)) (fun v => ?_))
      | (refine on_alloc hF rfl Try.zeroValue22 rfl rfl (fun B => ?_))
      | (refine on_box hF rfl rfl rfl rfl (fun B => ?_))
      | (refine on_store hF rfl rfl rfl rfl a_turn a_vof (by first | rfl | exact hsz.symm | exact hsz) ?_)
      | (refine on_storeE hF rfl rfl rfl rfl a_turn (by (first | omega | (simp only [List.length_append, List.length_cons, List.length_nil, List.length_map] at *; omega))) a_vof (by first | rfl | exact hsz) ?_)
      | (refine on_storeEF hF rfl rfl rfl rfl a_turn (by first | with_reducible assumption | rfl) (by decide) a_vof rfl ?_)
      | (refine on_storeF hF rfl rfl rfl rfl a_turn (by decide) a_vof rfl ?_)) <;> try (refine hK2 _ _ _ a_allK ?_; clear hK2 K2))) <;> (refine hK _ _ _ ?_; clear hK K))
    | with_reducible refine nx_seq ?_
        | with_reducible refine nx_region ?_
        | with_reducible refine nl_nil ?_
        | with_reducible refine nq_then_n ?_
        | with_reducible refine nx_block ?_
        | with_reducible refine nx_skip ?_
        | with_reducible refine nx_exit ?_
        | with_reducible refine nx_ret ?_
        | with_reducible refine nq_then_x ?_
        | with_reducible refine nq_then_r ?_
        | with_reducible refine nq_blk_n ?_
        | with_reducible refine nq_blk_r ?_
        | with_reducible refine nq_blk_hit ?_
        | with_reducible refine nq_blk_miss rfl ?_
        | with_reducible refine nd_nil ?_
    | refine nx_cond_t rfl ?_ | refine nx_cond_f rfl ?_
    | refine nl_pass hF rfl rfl rfl ?_
    | refine nd_pass rfl rfl rfl rfl rfl ?_
    | refine nd_pass2 rfl rfl rfl (fun c => by exact (fun h => by cases h)) a_allK rfl rfl ?_
    | refine nd_pass3 rfl rfl rfl (fun c => by exact (fun h => by cases h)) rfl rfl ?_
    | (with_reducible refine hQ1 _ _ _ ?_; clear hQ1 Q1)
    )
      refine nx_end [M] rfl (some k) (fun a w ha hw => res_none Try.results45) (by exact a_subR) (by exact a_holds2)
end NInt
end Go.Proofs.Ytncjgkghhcpagaa
