/- The contract of breviarylaw18.LinesJoin. Condition: items whose extents are a slice. -/
import Derived.Test.YtigbglagfbbmjaaLaw18A
namespace Go.Proofs.Ytigbglagfbbmjaa
open Go.RowKit Go.Shelf
set_option linter.unusedSimpArgs false
set_option linter.unusedVariables false
namespace Law18
open Li
variable {W0 : World} {X : Nat → Prop} {R C : List Ch}
theorem known_small {L : List It2} {t : Int} (h : knownL L t = true) (hu : ∀ x ∈ L, x.tl ≤ 1099511627776) : t ≤ 1099511627776 := by
  by_cases h1 : 1 < t
  · cases hl : lineP L t with
    | none => rw [knownL_none h1 hl] at h; cases h
    | some x =>
      have h2 := List.find?_some hl
      unfold isLine at h2
      simp at h2
      have := hu x (line_mem hl)
      omega
  · omega
theorem lin_len (L : List It2) : ∀ (k : Nat) (t n : Int), t.toNat ≤ k → (lineageU L t n).length ≤ k
  | k, t, n, hk => by
    by_cases h : 1 ≤ t
    · match k, hk with
      | 0, hk => omega
      | k + 1, hk =>
        have hlt := parent_lt L t h
        have := lin_len L k (parentP L t).1 (min n (parentP L t).2.1) (by omega)
        rw [lineageU, dif_pos h, List.length_append]
        split <;> simp <;> omega
    · rw [lineageU, dif_neg h]; simp
theorem linL_len (L : List It2) (t n : Int) : (lineageL L t n).length ≤ t.toNat := by
  unfold lineageL
  split
  · exact lin_len L _ t n (Nat.le_refl _)
  · simp
set_option maxRecDepth 100000 in
set_option maxHeartbeats 4000000 in
theorem join_ct (s : Value) (hs : IsSl s) (L : List It2) (hok : ∀ x ∈ L, x.ok) (t n : Int) (hsl : SlC 9 s (L.map It2.v) ∈ R) (hm : L.length * 88 ≤ 140737488355328) :
    Ct Try.prog 13 [s, .int .i64 t, .int .i64 n] W0 X R C Unit (fun _ => .bool true) (fun _ => R) (fun _ => C) := by
  intro w hw
  have hF := isWide_wide
  have uc := fun (W0 : World) (X : Nat → Prop) (R C : List Ch) h => usual_ct (W0 := W0) (X := X) (R := R) (C := C) s hs L hok h hm
  have kc := fun (W0 : World) (X : Nat → Prop) (R C : List Ch) h => known_ct (W0 := W0) (X := X) (R := R) (C := C) s hs L hok t h hm
  cases hu : usualB L with
  | false =>
    rw [hu] at uc
    refine calls_nx Try.func13 rfl Try.ntmps13 rfl ?_ hw
    repeat' (first
    | ((first | with_reducible refine nl_op rfl ?_ | refine nd_go rfl rfl rfl ?_); intro K hK; (first
      | ((first | refine on_E hF rfl rfl ?_ | refine od_E rfl rfl ?_ | refine od_R rfl rfl ?_); (first | refine ⟨_, a_yl, ?_⟩ | refine ⟨_, yl_fieldB (T := 101) (f := 0) (q := 0) rfl rfl (by kernel_rfl), ?_⟩ | refine ⟨_, yl_fieldE (T := 101) (f := 0) (j := 0) rfl rfl a_sl (by (first | omega | (simp only [List.length_append, List.length_cons, List.length_nil, List.length_map] at *; omega))) (by kernel_rfl), ?_⟩ | refine ⟨_, yl_fieldB (T := 101) (f := 1) (q := 1) rfl rfl (by kernel_rfl), ?_⟩ | refine ⟨_, yl_fieldE (T := 101) (f := 1) (j := 1) rfl rfl a_sl (by (first | omega | (simp only [List.length_append, List.length_cons, List.length_nil, List.length_map] at *; omega))) (by kernel_rfl), ?_⟩ | refine ⟨_, yl_fieldB (T := 101) (f := 2) (q := 2) rfl rfl (by kernel_rfl), ?_⟩ | refine ⟨_, yl_fieldE (T := 101) (f := 2) (j := 2) rfl rfl a_sl (by (first | omega | (simp only [List.length_append, List.length_cons, List.length_nil, List.length_map] at *; omega))) (by kernel_rfl), ?_⟩))
      | ((first | refine on_Ec hF rfl rfl ?_ | refine od_Ec rfl rfl ?_); refine ⟨_, _, _, a_yc, ?_, ?_⟩ <;> (intro hc; try (exfalso; first | (omega; done) | exact absurd (by with_reducible rfl) hc | (simp at hc; done))))
      | ((first | (refine od_act (fun c => by exact (fun h => by cases h)) ?_; intro K2 hK2) | refine od_last (fun c => by exact (fun h => by cases h)) ?_ | skip); (first
      | (refine on_callG hF (enters_of Try.func60 (by kernel_rfl) rfl) rfl rfl rfl rfl first_ct (fun _ => ?_))
      | (refine on_callG hF (enters_of Try.func61 (by kernel_rfl) rfl) rfl rfl rfl rfl (uc _ _ _ _ (by exact a_mem)) (fun _ => ?_))
      
      | (refine on_alloc hF rfl Try.zeroValue101 rfl rfl (fun B => ?_))
      | (refine on_box hF rfl rfl rfl rfl (fun B => ?_))
      | (refine on_store hF rfl rfl rfl rfl a_turn a_vof (by first | rfl | exact hsz.symm | exact hsz) ?_)
      | (refine on_storeE hF rfl rfl rfl rfl a_turn (by (first | omega | (simp only [List.length_append, List.length_cons, List.length_nil, List.length_map] at *; omega))) a_vof (by first | rfl | exact hsz) ?_)
      | (refine on_storeEF hF rfl rfl rfl rfl a_turn (by first | with_reducible assumption | rfl) (by decide) a_vof rfl ?_)
      | (refine on_storeF hF rfl rfl rfl rfl a_turn (by decide) a_vof rfl ?_)) <;> try (refine hK2 _ _ _ a_allK ?_; clear hK2 K2))) <;> (refine hK _ _ _ ?_; clear hK K))
    | with_reducible refine nx_seq ?_
        | with_reducible refine nx_region ?_
        | with_reducible refine nl_nil ?_
        | with_reducible refine nq_then_n ?_
        | with_reducible refine nx_block ?_
        | with_reducible refine nx_skip ?_
        | with_reducible refine nx_exit ?_
        | with_reducible refine nx_ret ?_
        | with_reducible refine nq_then_x ?_
        | with_reducible refine nq_then_r ?_
        | with_reducible refine nq_blk_n ?_
        | with_reducible refine nq_blk_r ?_
        | with_reducible refine nq_blk_hit ?_
        | with_reducible refine nq_blk_miss rfl ?_
        | with_reducible refine nd_nil ?_
    | refine nx_cond_t rfl ?_ | refine nx_cond_f rfl ?_
    | refine nl_pass hF rfl rfl rfl ?_
    | refine nd_pass rfl rfl rfl rfl rfl ?_
    | refine nd_pass2 rfl rfl rfl (fun c => by exact (fun h => by cases h)) a_allK rfl rfl ?_
    | refine nd_pass3 rfl rfl rfl (fun c => by exact (fun h => by cases h)) rfl rfl ?_
    | (with_reducible refine hQ1 _ _ _ ?_; clear hQ1 Q1)
    )
    refine nx_end [] rfl () (fun a w ha hw => res_tmp Try.results13 rfl ha) (by exact a_subR) (by exact a_holds2)
  | true =>
    rw [hu] at uc
    obtain ⟨ut, ua, ul⟩ := usual_of hu
    cases hk : knownL L t with
    | false =>
      rw [hk] at kc
      refine calls_nx Try.func13 rfl Try.ntmps13 rfl ?_ hw
      repeat' (first
    | ((first | with_reducible refine nl_op rfl ?_ | refine nd_go rfl rfl rfl ?_); intro K hK; (first
      | ((first | refine on_E hF rfl rfl ?_ | refine od_E rfl rfl ?_ | refine od_R rfl rfl ?_); (first | refine ⟨_, a_yl, ?_⟩ | refine ⟨_, yl_fieldB (T := 101) (f := 0) (q := 0) rfl rfl (by kernel_rfl), ?_⟩ | refine ⟨_, yl_fieldE (T := 101) (f := 0) (j := 0) rfl rfl a_sl (by (first | omega | (simp only [List.length_append, List.length_cons, List.length_nil, List.length_map] at *; omega))) (by kernel_rfl), ?_⟩ | refine ⟨_, yl_fieldB (T := 101) (f := 1) (q := 1) rfl rfl (by kernel_rfl), ?_⟩ | refine ⟨_, yl_fieldE (T := 101) (f := 1) (j := 1) rfl rfl a_sl (by (first | omega | (simp only [List.length_append, List.length_cons, List.length_nil, List.length_map] at *; omega))) (by kernel_rfl), ?_⟩ | refine ⟨_, yl_fieldB (T := 101) (f := 2) (q := 2) rfl rfl (by kernel_rfl), ?_⟩ | refine ⟨_, yl_fieldE (T := 101) (f := 2) (j := 2) rfl rfl a_sl (by (first | omega | (simp only [List.length_append, List.length_cons, List.length_nil, List.length_map] at *; omega))) (by kernel_rfl), ?_⟩))
      | ((first | refine on_Ec hF rfl rfl ?_ | refine od_Ec rfl rfl ?_); refine ⟨_, _, _, a_yc, ?_, ?_⟩ <;> (intro hc; try (exfalso; first | (omega; done) | exact absurd (by with_reducible rfl) hc | (simp at hc; done))))
      | ((first | (refine od_act (fun c => by exact (fun h => by cases h)) ?_; intro K2 hK2) | refine od_last (fun c => by exact (fun h => by cases h)) ?_ | skip); (first
      | (refine on_callG hF (enters_of Try.func60 (by kernel_rfl) rfl) rfl rfl rfl rfl first_ct (fun _ => ?_))
      | (refine on_callG hF (enters_of Try.func61 (by kernel_rfl) rfl) rfl rfl rfl rfl (uc _ _ _ _ (by exact a_mem)) (fun _ => ?_))
      | (refine on_callG hF (enters_of Try.func67 (by kernel_rfl) rfl) rfl rfl rfl rfl (kc _ _ _ _ (by exact a_mem)) (fun _ => ?_))
      
      | (refine on_alloc hF rfl Try.zeroValue101 rfl rfl (fun B => ?_))
      | (refine on_box hF rfl rfl rfl rfl (fun B => ?_))
      | (refine on_store hF rfl rfl rfl rfl a_turn a_vof (by first | rfl | exact hsz.symm | exact hsz) ?_)
      | (refine on_storeE hF rfl rfl rfl rfl a_turn (by (first | omega | (simp only [List.length_append, List.length_cons, List.length_nil, List.length_map] at *; omega))) a_vof (by first | rfl | exact hsz) ?_)
      | (refine on_storeEF hF rfl rfl rfl rfl a_turn (by first | with_reducible assumption | rfl) (by decide) a_vof rfl ?_)
      | (refine on_storeF hF rfl rfl rfl rfl a_turn (by decide) a_vof rfl ?_)) <;> try (refine hK2 _ _ _ a_allK ?_; clear hK2 K2))) <;> (refine hK _ _ _ ?_; clear hK K))
    | with_reducible refine nx_seq ?_
        | with_reducible refine nx_region ?_
        | with_reducible refine nl_nil ?_
        | with_reducible refine nq_then_n ?_
        | with_reducible refine nx_block ?_
        | with_reducible refine nx_skip ?_
        | with_reducible refine nx_exit ?_
        | with_reducible refine nx_ret ?_
        | with_reducible refine nq_then_x ?_
        | with_reducible refine nq_then_r ?_
        | with_reducible refine nq_blk_n ?_
        | with_reducible refine nq_blk_r ?_
        | with_reducible refine nq_blk_hit ?_
        | with_reducible refine nq_blk_miss rfl ?_
        | with_reducible refine nd_nil ?_
    | refine nx_cond_t rfl ?_ | refine nx_cond_f rfl ?_
    | refine nl_pass hF rfl rfl rfl ?_
    | refine nd_pass rfl rfl rfl rfl rfl ?_
    | refine nd_pass2 rfl rfl rfl (fun c => by exact (fun h => by cases h)) a_allK rfl rfl ?_
    | refine nd_pass3 rfl rfl rfl (fun c => by exact (fun h => by cases h)) rfl rfl ?_
    | (with_reducible refine hQ1 _ _ _ ?_; clear hQ1 Q1)
    )
      refine nx_end [] rfl () (fun a w ha hw => res_tmp Try.results13 rfl ha) (by exact a_subR) (by exact a_holds2)
    | true =>
      rw [hk] at kc
      by_cases hn : n < 0
      · refine calls_nx Try.func13 rfl Try.ntmps13 rfl ?_ hw
        repeat' (first
    | ((first | with_reducible refine nl_op rfl ?_ | refine nd_go rfl rfl rfl ?_); intro K hK; (first
      | ((first | refine on_E hF rfl rfl ?_ | refine od_E rfl rfl ?_ | refine od_R rfl rfl ?_); (first | refine ⟨_, a_yl, ?_⟩ | refine ⟨_, yl_fieldB (T := 101) (f := 0) (q := 0) rfl rfl (by kernel_rfl), ?_⟩ | refine ⟨_, yl_fieldE (T := 101) (f := 0) (j := 0) rfl rfl a_sl (by (first | omega | (simp only [List.length_append, List.length_cons, List.length_nil, List.length_map] at *; omega))) (by kernel_rfl), ?_⟩ | refine ⟨_, yl_fieldB (T := 101) (f := 1) (q := 1) rfl rfl (by kernel_rfl), ?_⟩ | refine ⟨_, yl_fieldE (T := 101) (f := 1) (j := 1) rfl rfl a_sl (by (first | omega | (simp only [List.length_append, List.length_cons, List.length_nil, List.length_map] at *; omega))) (by kernel_rfl), ?_⟩ | refine ⟨_, yl_fieldB (T := 101) (f := 2) (q := 2) rfl rfl (by kernel_rfl), ?_⟩ | refine ⟨_, yl_fieldE (T := 101) (f := 2) (j := 2) rfl rfl a_sl (by (first | omega | (simp only [List.length_append, List.length_cons, List.length_nil, List.length_map] at *; omega))) (by kernel_rfl), ?_⟩))
      | ((first | refine on_Ec hF rfl rfl ?_ | refine od_Ec rfl rfl ?_); refine ⟨_, _, _, a_yc, ?_, ?_⟩ <;> (intro hc; try (exfalso; first | (omega; done) | exact absurd (by with_reducible rfl) hc | (simp at hc; done))))
      | ((first | (refine od_act (fun c => by exact (fun h => by cases h)) ?_; intro K2 hK2) | refine od_last (fun c => by exact (fun h => by cases h)) ?_ | skip); (first
      | (refine on_callG hF (enters_of Try.func60 (by kernel_rfl) rfl) rfl rfl rfl rfl first_ct (fun _ => ?_))
      | (refine on_callG hF (enters_of Try.func61 (by kernel_rfl) rfl) rfl rfl rfl rfl (uc _ _ _ _ (by exact a_mem)) (fun _ => ?_))
      | (refine on_callG hF (enters_of Try.func67 (by kernel_rfl) rfl) rfl rfl rfl rfl (kc _ _ _ _ (by exact a_mem)) (fun _ => ?_))
      
      | (refine on_alloc hF rfl Try.zeroValue101 rfl rfl (fun B => ?_))
      | (refine on_box hF rfl rfl rfl rfl (fun B => ?_))
      | (refine on_store hF rfl rfl rfl rfl a_turn a_vof (by first | rfl | exact hsz.symm | exact hsz) ?_)
      | (refine on_storeE hF rfl rfl rfl rfl a_turn (by (first | omega | (simp only [List.length_append, List.length_cons, List.length_nil, List.length_map] at *; omega))) a_vof (by first | rfl | exact hsz) ?_)
      | (refine on_storeEF hF rfl rfl rfl rfl a_turn (by first | with_reducible assumption | rfl) (by decide) a_vof rfl ?_)
      | (refine on_storeF hF rfl rfl rfl rfl a_turn (by decide) a_vof rfl ?_)) <;> try (refine hK2 _ _ _ a_allK ?_; clear hK2 K2))) <;> (refine hK _ _ _ ?_; clear hK K))
    | with_reducible refine nx_seq ?_
        | with_reducible refine nx_region ?_
        | with_reducible refine nl_nil ?_
        | with_reducible refine nq_then_n ?_
        | with_reducible refine nx_block ?_
        | with_reducible refine nx_skip ?_
        | with_reducible refine nx_exit ?_
        | with_reducible refine nx_ret ?_
        | with_reducible refine nq_then_x ?_
        | with_reducible refine nq_then_r ?_
        | with_reducible refine nq_blk_n ?_
        | with_reducible refine nq_blk_r ?_
        | with_reducible refine nq_blk_hit ?_
        | with_reducible refine nq_blk_miss rfl ?_
        | with_reducible refine nd_nil ?_
    | refine nx_cond_t rfl ?_ | refine nx_cond_f rfl ?_
    | refine nl_pass hF rfl rfl rfl ?_
    | refine nd_pass rfl rfl rfl rfl rfl ?_
    | refine nd_pass2 rfl rfl rfl (fun c => by exact (fun h => by cases h)) a_allK rfl rfl ?_
    | refine nd_pass3 rfl rfl rfl (fun c => by exact (fun h => by cases h)) rfl rfl ?_
    | (with_reducible refine hQ1 _ _ _ ?_; clear hQ1 Q1)
    )
        refine nx_end [] rfl () (fun a w ha hw => res_tmp Try.results13 rfl ha) (by exact a_subR) (by exact a_holds2)
      · have hts := known_small hk ut
        have lc := fun (W0 : World) (X : Nat → Prop) (R C : List Ch) h => lineage_ct (W0 := W0) (X := X) (R := R) (C := C) s hs L hok t n hts h hm
        have hj := joins_all L ua t n hk (by omega)
        have hll := linL_len L t n
        obtain ⟨Q, hQ⟩ : ∃ Q, lineageL L t n = Q := ⟨_, rfl⟩
        rw [hQ] at lc hj hll
        have hll2 : Q.length ≤ 1099511627776 := by omega
        clear hll
        clear hQ
        refine calls_nx Try.func13 rfl Try.ntmps13 rfl ?_ hw
        repeat' (first
    | ((first | with_reducible refine nl_op rfl ?_ | refine nd_go rfl rfl rfl ?_); intro K hK; (first
      | ((first | refine on_E hF rfl rfl ?_ | refine od_E rfl rfl ?_ | refine od_R rfl rfl ?_); (first | refine ⟨_, a_yl, ?_⟩ | refine ⟨_, yl_fieldB (T := 101) (f := 0) (q := 0) rfl rfl (by kernel_rfl), ?_⟩ | refine ⟨_, yl_fieldE (T := 101) (f := 0) (j := 0) rfl rfl a_sl (by (first | omega | (simp only [List.length_append, List.length_cons, List.length_nil, List.length_map] at *; omega))) (by kernel_rfl), ?_⟩ | refine ⟨_, yl_fieldB (T := 101) (f := 1) (q := 1) rfl rfl (by kernel_rfl), ?_⟩ | refine ⟨_, yl_fieldE (T := 101) (f := 1) (j := 1) rfl rfl a_sl (by (first | omega | (simp only [List.length_append, List.length_cons, List.length_nil, List.length_map] at *; omega))) (by kernel_rfl), ?_⟩ | refine ⟨_, yl_fieldB (T := 101) (f := 2) (q := 2) rfl rfl (by kernel_rfl), ?_⟩ | refine ⟨_, yl_fieldE (T := 101) (f := 2) (j := 2) rfl rfl a_sl (by (first | omega | (simp only [List.length_append, List.length_cons, List.length_nil, List.length_map] at *; omega))) (by kernel_rfl), ?_⟩))
      | ((first | refine on_Ec hF rfl rfl ?_ | refine od_Ec rfl rfl ?_); refine ⟨_, _, _, a_yc, ?_, ?_⟩ <;> (intro hc; try (exfalso; first | (omega; done) | exact absurd (by with_reducible rfl) hc | (simp at hc; done))))
      | ((first | (refine od_act (fun c => by exact (fun h => by cases h)) ?_; intro K2 hK2) | refine od_last (fun c => by exact (fun h => by cases h)) ?_ | skip); (first
      | (refine on_callG hF (enters_of Try.func60 (by kernel_rfl) rfl) rfl rfl rfl rfl first_ct (fun _ => ?_))
      | (refine on_callG hF (enters_of Try.func61 (by kernel_rfl) rfl) rfl rfl rfl rfl (uc _ _ _ _ (by exact a_mem)) (fun _ => ?_))
      | (refine on_callG hF (enters_of Try.func67 (by kernel_rfl) rfl) rfl rfl rfl rfl (kc _ _ _ _ (by exact a_mem)) (fun _ => ?_))
      | (refine on_callG hF (enters_of Try.func65 (by kernel_rfl) rfl) rfl rfl rfl rfl (lc _ _ _ _ (by exact a_mem)) (fun u => ?_); obtain ⟨u, uA, un, uc, rfl⟩ := u; dsimp only; refine nx_len (e := 101) (k := 3) (xs := Q.map Rch.v) (by exact a_mem) (fun hlen => ?_); rw [List.length_map] at hlen; subst hlen)
      
      | (refine on_alloc hF rfl Try.zeroValue101 rfl rfl (fun B => ?_))
      | (refine on_box hF rfl rfl rfl rfl (fun B => ?_))
      | (refine on_store hF rfl rfl rfl rfl a_turn a_vof (by first | rfl | exact hsz.symm | exact hsz) ?_)
      | (refine on_storeE hF rfl rfl rfl rfl a_turn (by (first | omega | (simp only [List.length_append, List.length_cons, List.length_nil, List.length_map] at *; omega))) a_vof (by first | rfl | exact hsz) ?_)
      | (refine on_storeEF hF rfl rfl rfl rfl a_turn (by first | with_reducible assumption | rfl) (by decide) a_vof rfl ?_)
      | (refine on_storeF hF rfl rfl rfl rfl a_turn (by decide) a_vof rfl ?_)) <;> try (refine hK2 _ _ _ a_allK ?_; clear hK2 K2))) <;> (refine hK _ _ _ ?_; clear hK K))
    | with_reducible refine nx_seq ?_
        | with_reducible refine nx_region ?_
        | with_reducible refine nl_nil ?_
        | with_reducible refine nq_then_n ?_
        | with_reducible refine nx_block ?_
        | with_reducible refine nx_skip ?_
        | with_reducible refine nx_exit ?_
        | with_reducible refine nx_ret ?_
        | with_reducible refine nq_then_x ?_
        | with_reducible refine nq_then_r ?_
        | with_reducible refine nq_blk_n ?_
        | with_reducible refine nq_blk_r ?_
        | with_reducible refine nq_blk_hit ?_
        | with_reducible refine nq_blk_miss rfl ?_
        | with_reducible refine nd_nil ?_
    | refine nx_cond_t rfl ?_ | refine nx_cond_f rfl ?_
    | refine nl_pass hF rfl rfl rfl ?_
    | refine nd_pass rfl rfl rfl rfl rfl ?_
    | refine nd_pass2 rfl rfl rfl (fun c => by exact (fun h => by cases h)) a_allK rfl rfl ?_
    | refine nd_pass3 rfl rfl rfl (fun c => by exact (fun h => by cases h)) rfl rfl ?_
    | (with_reducible refine hQ1 _ _ _ ?_; clear hQ1 Q1)
    )
        have hQl : (Q.map Rch.v).length = Q.length := by simp
        refine nx_loop (ι := { p : Nat × Int // p.1 ≤ Q.length ∧ Joins L (Q.drop p.1) p.2 }) (fun p => [(0, s), (7, .int .i64 p.1.2), (29, .slice uA Q.length uc), (30, .int .i64 (Q.length : Int)), (31, .int .i64 (p.1.1 : Int))]) (fun _ => R) (fun _ => RowC 101 3 (.slice uA Q.length uc) (Q.map Rch.v) :: C) (fun p => Q.length - p.1.1) ⟨(0, n), Nat.zero_le _, hj⟩ (by exact a_sub) (by exact a_subR) (by exact a_holds) (fun p => ?_)
        obtain ⟨⟨i, to⟩, hi, hji⟩ := p
        dsimp only at hi hji ⊢
        by_cases hlt : i < Q.length
        · obtain ⟨r, hr⟩ : ∃ r, Q[i]? = some r := ⟨Q[i], by simp [hlt]⟩
          have hrv : (Q.map Rch.v)[i]? = some r.v := by rw [List.getElem?_map, hr]; rfl
          have hd : Q.drop i = r :: Q.drop (i + 1) := by
            obtain ⟨h, he⟩ := List.getElem?_eq_some_iff.1 hr
            rw [← he]; simp
          rw [hd] at hji
          obtain ⟨h1, h2, h3, h4⟩ := hji
          have kr := fun (W0 : World) (X : Nat → Prop) (R C : List Ch) h => known_ct (W0 := W0) (X := X) (R := R) (C := C) s hs L hok r.tl h hm
          rw [h3] at kr
          have hvr : VOf Try.prog 101 r.v := vofk (by kernel_rfl) rfl rfl
          obtain ⟨tl, fr, to2⟩ := r
          dsimp only at h1 h2 h4 kr
          subst h1
          repeat' (first
    | ((first | with_reducible refine nl_op rfl ?_ | refine nd_go rfl rfl rfl ?_); intro K hK; (first
      | ((first | refine on_E hF rfl rfl ?_ | refine od_E rfl rfl ?_ | refine od_R rfl rfl ?_); (first | refine ⟨_, a_yl, ?_⟩ | refine ⟨_, yl_fieldB (T := 101) (f := 0) (q := 0) rfl rfl (by kernel_rfl), ?_⟩ | refine ⟨_, yl_fieldE (T := 101) (f := 0) (j := 0) rfl rfl a_sl (by (first | omega | (simp only [List.length_append, List.length_cons, List.length_nil, List.length_map] at *; omega))) (by kernel_rfl), ?_⟩ | refine ⟨_, yl_fieldB (T := 101) (f := 1) (q := 1) rfl rfl (by kernel_rfl), ?_⟩ | refine ⟨_, yl_fieldE (T := 101) (f := 1) (j := 1) rfl rfl a_sl (by (first | omega | (simp only [List.length_append, List.length_cons, List.length_nil, List.length_map] at *; omega))) (by kernel_rfl), ?_⟩ | refine ⟨_, yl_fieldB (T := 101) (f := 2) (q := 2) rfl rfl (by kernel_rfl), ?_⟩ | refine ⟨_, yl_fieldE (T := 101) (f := 2) (j := 2) rfl rfl a_sl (by (first | omega | (simp only [List.length_append, List.length_cons, List.length_nil, List.length_map] at *; omega))) (by kernel_rfl), ?_⟩))
      | ((first | refine on_Ec hF rfl rfl ?_ | refine od_Ec rfl rfl ?_); refine ⟨_, _, _, a_yc, ?_, ?_⟩ <;> (intro hc; try (exfalso; first | (omega; done) | exact absurd (by with_reducible rfl) hc | (simp at hc; done))))
      | ((first | (refine od_act (fun c => by exact (fun h => by cases h)) ?_; intro K2 hK2) | refine od_last (fun c => by exact (fun h => by cases h)) ?_ | skip); (first
      | (refine on_callG hF (enters_of Try.func67 (by kernel_rfl) rfl) rfl rfl rfl rfl (kr _ _ _ _ (by exact a_mem)) (fun _ => ?_))
      
      | (refine on_alloc hF rfl Try.zeroValue101 rfl rfl (fun B => ?_))
      | (refine on_box hF rfl rfl rfl rfl (fun B => ?_))
      | (refine on_store hF rfl rfl rfl rfl a_turn a_vof (by first | rfl | exact hsz.symm | exact hsz) ?_)
      | (refine on_storeE hF rfl rfl rfl rfl a_turn (by (first | omega | (simp only [List.length_append, List.length_cons, List.length_nil, List.length_map] at *; omega))) a_vof (by first | rfl | exact hsz) ?_)
      | (refine on_storeEF hF rfl rfl rfl rfl a_turn (by first | with_reducible assumption | rfl) (by decide) a_vof rfl ?_)
      | (refine on_storeF hF rfl rfl rfl rfl a_turn (by decide) a_vof rfl ?_)) <;> try (refine hK2 _ _ _ a_allK ?_; clear hK2 K2))) <;> (refine hK _ _ _ ?_; clear hK K))
    | with_reducible refine nx_seq ?_
        | with_reducible refine nx_region ?_
        | with_reducible refine nl_nil ?_
        | with_reducible refine nq_then_n ?_
        | with_reducible refine nx_block ?_
        | with_reducible refine nx_skip ?_
        | with_reducible refine nx_exit ?_
        | with_reducible refine nx_ret ?_
        | with_reducible refine nq_then_x ?_
        | with_reducible refine nq_then_r ?_
        | with_reducible refine nq_blk_n ?_
        | with_reducible refine nq_blk_r ?_
        | with_reducible refine nq_blk_hit ?_
        | with_reducible refine nq_blk_miss rfl ?_
        | with_reducible refine nd_nil ?_
    | refine nx_cond_t rfl ?_ | refine nx_cond_f rfl ?_
    | refine nl_pass hF rfl rfl rfl ?_
    | refine nd_pass rfl rfl rfl rfl rfl ?_
    | refine nd_pass2 rfl rfl rfl (fun c => by exact (fun h => by cases h)) a_allK rfl rfl ?_
    | refine nd_pass3 rfl rfl rfl (fun c => by exact (fun h => by cases h)) rfl rfl ?_
    | (with_reducible refine hQ1 _ _ _ ?_; clear hQ1 Q1)
    )
          all_goals (first
            | (exfalso; dsimp only at *; omega)
            | refine nx_again ⟨(i + 1, fr), by dsimp only; omega, h4⟩ (by dsimp only; omega) (by exact a_sub) (by exact a_subR) (by exact a_holds))
        · rw [List.drop_of_length_le (by omega)] at hji
          have h0 : to = 0 := hji
          subst h0
          repeat' (first
    | ((first | with_reducible refine nl_op rfl ?_ | refine nd_go rfl rfl rfl ?_); intro K hK; (first
      | ((first | refine on_E hF rfl rfl ?_ | refine od_E rfl rfl ?_ | refine od_R rfl rfl ?_); (first | refine ⟨_, a_yl, ?_⟩ | refine ⟨_, yl_fieldB (T := 101) (f := 0) (q := 0) rfl rfl (by kernel_rfl), ?_⟩ | refine ⟨_, yl_fieldE (T := 101) (f := 0) (j := 0) rfl rfl a_sl (by (first | omega | (simp only [List.length_append, List.length_cons, List.length_nil, List.length_map] at *; omega))) (by kernel_rfl), ?_⟩ | refine ⟨_, yl_fieldB (T := 101) (f := 1) (q := 1) rfl rfl (by kernel_rfl), ?_⟩ | refine ⟨_, yl_fieldE (T := 101) (f := 1) (j := 1) rfl rfl a_sl (by (first | omega | (simp only [List.length_append, List.length_cons, List.length_nil, List.length_map] at *; omega))) (by kernel_rfl), ?_⟩ | refine ⟨_, yl_fieldB (T := 101) (f := 2) (q := 2) rfl rfl (by kernel_rfl), ?_⟩ | refine ⟨_, yl_fieldE (T := 101) (f := 2) (j := 2) rfl rfl a_sl (by (first | omega | (simp only [List.length_append, List.length_cons, List.length_nil, List.length_map] at *; omega))) (by kernel_rfl), ?_⟩))
      | ((first | refine on_Ec hF rfl rfl ?_ | refine od_Ec rfl rfl ?_); refine ⟨_, _, _, a_yc, ?_, ?_⟩ <;> (intro hc; try (exfalso; first | (omega; done) | exact absurd (by with_reducible rfl) hc | (simp at hc; done))))
      | ((first | (refine od_act (fun c => by exact (fun h => by cases h)) ?_; intro K2 hK2) | refine od_last (fun c => by exact (fun h => by cases h)) ?_ | skip); (first
      
      
      | (refine on_alloc hF rfl Try.zeroValue101 rfl rfl (fun B => ?_))
      | (refine on_box hF rfl rfl rfl rfl (fun B => ?_))
      | (refine on_store hF rfl rfl rfl rfl a_turn a_vof (by first | rfl | exact hsz.symm | exact hsz) ?_)
      | (refine on_storeE hF rfl rfl rfl rfl a_turn (by (first | omega | (simp only [List.length_append, List.length_cons, List.length_nil, List.length_map] at *; omega))) a_vof (by first | rfl | exact hsz) ?_)
      | (refine on_storeEF hF rfl rfl rfl rfl a_turn (by first | with_reducible assumption | rfl) (by decide) a_vof rfl ?_)
      | (refine on_storeF hF rfl rfl rfl rfl a_turn (by decide) a_vof rfl ?_)) <;> try (refine hK2 _ _ _ a_allK ?_; clear hK2 K2))) <;> (refine hK _ _ _ ?_; clear hK K))
    | with_reducible refine nx_seq ?_
        | with_reducible refine nx_region ?_
        | with_reducible refine nl_nil ?_
        | with_reducible refine nq_then_n ?_
        | with_reducible refine nx_block ?_
        | with_reducible refine nx_skip ?_
        | with_reducible refine nx_exit ?_
        | with_reducible refine nx_ret ?_
        | with_reducible refine nq_then_x ?_
        | with_reducible refine nq_then_r ?_
        | with_reducible refine nq_blk_n ?_
        | with_reducible refine nq_blk_r ?_
        | with_reducible refine nq_blk_hit ?_
        | with_reducible refine nq_blk_miss rfl ?_
        | with_reducible refine nd_nil ?_
    | refine nx_cond_t rfl ?_ | refine nx_cond_f rfl ?_
    | refine nl_pass hF rfl rfl rfl ?_
    | refine nd_pass rfl rfl rfl rfl rfl ?_
    | refine nd_pass2 rfl rfl rfl (fun c => by exact (fun h => by cases h)) a_allK rfl rfl ?_
    | refine nd_pass3 rfl rfl rfl (fun c => by exact (fun h => by cases h)) rfl rfl ?_
    | (with_reducible refine hQ1 _ _ _ ?_; clear hQ1 Q1)
    )
          refine nx_end [] rfl () (fun a w ha hw => res_tmp Try.results13 rfl ha) (by exact a_subR) (by exact a_holds2)
end Law18
end Go.Proofs.Ytigbglagfbbmjaa
