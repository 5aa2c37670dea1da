/- The contract of plan.cover. Condition: items whose extents are a slice, few of them. -/
import Derived.Test.YtinofjenoapeaaaPl1
import Derived.Test.YtinofjenoapeaaaRe2
import Derived.Test.YtinofjenoapeaaaRep
namespace Go.Proofs.Ytinofjenoapeaaa
open Go.RowKit Go.Shelf
set_option linter.unusedSimpArgs false
set_option linter.unusedVariables false
namespace Pl
open Li
variable {W0 : World} {X : Nat → Prop} {R C : List Ch}
/-- A plan as a value. -/
abbrev planV (ch sg lm : Value) (fr to : Int) : Value := .agg #[ch, sg, lm, .int .i64 fr, .int .i64 to]
theorem vofPlan {ch sg lm : Value} (h1 : IsSl ch) (h2 : IsSl sg) (h3 : IsSl lm) (fr to : Int) : VOf Try.prog 43 (planV ch sg lm fr to) := by
  obtain ⟨_, _, _, rfl⟩ := h1
  obtain ⟨_, _, _, rfl⟩ := h2
  obtain ⟨_, _, _, rfl⟩ := h3
  exact vofk (by kernel_rfl) rfl rfl
theorem celI (zs : List Int) : Cel 1 (zs.map (Value.int .i64)) := Cel.of (P := Try.prog) (T := 3) (fun y hy => by obtain ⟨i, _, rfl⟩ := List.mem_map.1 hy; exact vof1 (by kernel_rfl) rfl rfl) (by kernel_rfl)
set_option maxRecDepth 100000 in
set_option maxHeartbeats 2000000 in
theorem cover_ct (s : Value) (hs : IsSl s) (L : List It2) (hok : ∀ x ∈ L, x.ok) (x : Prt) (from_ : Int) (bp : Nat) (ch sg lm : Value) (hch : IsSl ch) (hsg : IsSl sg) (hlm : IsSl lm) (fr to : Int) (S M : List Int) (hS : S.length ≤ 1000000000) (hM : M.length ≤ 1000000000) (hsl : SlC 9 s (L.map It2.v) ∈ R) (hm : L.length ≤ 1000) :
    Ct Try.prog 42 [ptr bp, s, x.v, .int .i64 from_] W0 X R (BoxC bp 43 (planV ch sg lm fr to) :: RowC 3 1 sg (S.map (.int .i64)) :: RowC 3 1 lm (M.map (.int .i64)) :: C) (SV × SV) (fun _ => .bool (Re.cover L x.u from_ x.to).isSome) (fun _ => R) (fun i => BoxC bp 43 (planV ch i.1.1 i.2.1 fr to) :: RowC 3 1 i.1.1 ((S ++ (Re.cover L x.u from_ x.to).getD []).map (.int .i64)) :: RowC 3 1 i.2.1 ((M ++ List.replicate ((Re.cover L x.u from_ x.to).getD []).length x.to).map (.int .i64)) :: C) := by
  intro w hw
  have hF := isWide_wide
  have hvx := vofP x
  have hvsg : VOf Try.prog 28 sg := vof_slice (by kernel_rfl) hsg
  have hvlm : VOf Try.prog 28 lm := vof_slice (by kernel_rfl) hlm
  have hvp := vofPlan hch hsg hlm fr to
  have cc := fun (W0 : World) (X : Nat → Prop) (R C : List Ch) h => Re.cover_ct (W0 := W0) (X := X) (R := R) (C := C) s hs L hok x.u from_ x.to h (by omega)
  have hzl : ((Re.cover L x.u from_ x.to).getD []).length ≤ 1000 := by
    have h1 := Re.above_le L from_
    cases h : Re.cover L x.u from_ x.to with
    | none => simp
    | some zs => have h2 := Re.cover_len L x.u _ from_ x.to zs (Nat.le_refl _) h; simp; omega
  obtain ⟨zs, hzs⟩ : ∃ zs, (Re.cover L x.u from_ x.to).getD [] = zs := ⟨_, rfl⟩
  obtain ⟨b, hb⟩ : ∃ b, (Re.cover L x.u from_ x.to).isSome = b := ⟨_, rfl⟩
  rw [hzs, hb] at cc
  rw [hzs] at hzl
  rw [hzs, hb]
  have hcz := celI zs
  have hl1 : (S.map (Value.int .i64)).length + (zs.map (Value.int .i64)).length ≤ maxLen := by unfold maxLen; simp; omega
  have hl2 : ((S.map (Value.int .i64)).length + (zs.map (Value.int .i64)).length) * 8 ≤ 140737488355328 := by simp; omega
  clear hzs hb
  obtain ⟨cha, chn, chc, rfl⟩ := hch
  obtain ⟨sga, sgn, sgc, rfl⟩ := hsg
  obtain ⟨lma, lmn, lmc, rfl⟩ := hlm
  refine calls_nx Try.func42 rfl Try.ntmps42 rfl ?_ hw
  repeat' (first
    | ((first | with_reducible refine nl_op rfl ?_ | refine nd_go rfl rfl rfl ?_); intro K hK; (first
      | ((first | refine on_E hF rfl rfl ?_ | refine od_E rfl rfl ?_ | refine od_R rfl rfl ?_); (first | refine ⟨_, a_yl, ?_⟩ | refine ⟨_, yl_fieldB (T := 43) (f := 1) (q := 1) rfl rfl (by kernel_rfl), ?_⟩ | refine ⟨_, yl_fieldE (T := 43) (f := 1) (j := 1) rfl rfl a_sl (by (first | omega | (simp only [List.length_append, List.length_cons, List.length_nil, List.length_map] at *; omega))) (by kernel_rfl), ?_⟩ | refine ⟨_, yl_fieldB (T := 43) (f := 2) (q := 2) rfl rfl (by kernel_rfl), ?_⟩ | refine ⟨_, yl_fieldE (T := 43) (f := 2) (j := 2) rfl rfl a_sl (by (first | omega | (simp only [List.length_append, List.length_cons, List.length_nil, List.length_map] at *; omega))) (by kernel_rfl), ?_⟩ | refine ⟨_, yl_fieldB (T := 72) (f := 0) (q := 0) rfl rfl (by kernel_rfl), ?_⟩ | refine ⟨_, yl_fieldE (T := 72) (f := 0) (j := 0) rfl rfl a_sl (by (first | omega | (simp only [List.length_append, List.length_cons, List.length_nil, List.length_map] at *; omega))) (by kernel_rfl), ?_⟩ | refine ⟨_, yl_fieldB (T := 72) (f := 2) (q := 2) rfl rfl (by kernel_rfl), ?_⟩ | refine ⟨_, yl_fieldE (T := 72) (f := 2) (j := 2) rfl rfl a_sl (by (first | omega | (simp only [List.length_append, List.length_cons, List.length_nil, List.length_map] at *; omega))) (by kernel_rfl), ?_⟩))
      | ((first | refine on_Ec hF rfl rfl ?_ | refine od_Ec rfl rfl ?_); refine ⟨_, _, _, a_yc, ?_, ?_⟩ <;> (intro hc; try (exfalso; first | (omega; done) | exact absurd (by with_reducible rfl) hc | (simp at hc; done))))
      | ((first | (refine od_act (fun c => by exact (fun h => by cases h)) ?_; intro K2 hK2) | refine od_last (fun c => by exact (fun h => by cases h)) ?_ | skip); (first
      | (refine on_callG hF (enters_of Try.func64 (by kernel_rfl) rfl) rfl rfl rfl rfl (cc _ _ _ _ (by exact a_mem)) (fun v => ?_))
      | (refine on_append (e := 3) (k := 1) (by_ := 8) (xs := S.map (.int .i64)) (ys := zs.map (.int .i64)) hF rfl rfl rfl rfl rfl a_pick (by kernel_rfl) a_sl hcz hl1 hl2 (fun v1 => ?_); rw [← List.map_append]; obtain ⟨v1, v1a, v1n, v1c, rfl⟩ := v1; dsimp only)
      | (refine on_storeF hF rfl rfl rfl rfl a_turn (Nat.le_of_ble_eq_true rfl) a_vof rfl ?_; simp only [List.setIfInBounds_toArray, List.set_cons_succ, List.set_cons_zero])
      | (refine on_buildSlice (T := 28) (e := 3) (k := 1) (by_ := 8) hF rfl rfl rfl rfl rfl rfl (by kernel_rfl) a_cel (Nat.le_of_ble_eq_true rfl) (fun b => ?_))
      | (refine on_append (T := 28) (e := 3) (k := 1) (by_ := 8) hF rfl rfl rfl rfl rfl a_pick (by kernel_rfl) a_sl a_cel (by first | omega | (unfold maxLen; simp only [List.length_map, List.length_append, List.length_cons, List.length_nil, List.length_replicate]; omega) | (simp only [List.length_map, List.length_append, List.length_cons, List.length_nil, List.length_replicate]; omega)) (by first | omega | (unfold maxLen; simp only [List.length_map, List.length_append, List.length_cons, List.length_nil, List.length_replicate]; omega) | (simp only [List.length_map, List.length_append, List.length_cons, List.length_nil, List.length_replicate]; omega)) (fun v => ?_))
      
      | (refine on_box hF rfl rfl rfl rfl (fun B => ?_))
      | (refine on_store hF rfl rfl rfl rfl a_turn a_vof (by first | rfl | exact hsz.symm | exact hsz) ?_)
      | (refine on_storeE hF rfl rfl rfl rfl a_turn (by (first | omega | (simp only [List.length_append, List.length_cons, List.length_nil, List.length_map] at *; omega))) a_vof (by first | rfl | exact hsz) ?_)
      | (refine on_storeEF hF rfl rfl rfl rfl a_turn (by first | with_reducible assumption | rfl) (by decide) a_vof rfl ?_)
      | (refine on_storeF hF rfl rfl rfl rfl a_turn (by decide) a_vof rfl ?_)) <;> try (refine hK2 _ _ _ a_allK ?_; clear hK2 K2))) <;> (refine hK _ _ _ ?_; clear hK K))
    | with_reducible refine nx_seq ?_
        | with_reducible refine nx_region ?_
        | with_reducible refine nl_nil ?_
        | with_reducible refine nq_then_n ?_
        | with_reducible refine nx_block ?_
        | with_reducible refine nx_skip ?_
        | with_reducible refine nx_exit ?_
        | with_reducible refine nx_ret ?_
        | with_reducible refine nq_then_x ?_
        | with_reducible refine nq_then_r ?_
        | with_reducible refine nq_blk_n ?_
        | with_reducible refine nq_blk_r ?_
        | with_reducible refine nq_blk_hit ?_
        | with_reducible refine nq_blk_miss rfl ?_
        | with_reducible refine nd_nil ?_
    | refine nx_cond_t rfl ?_ | refine nx_cond_f rfl ?_
    | refine nl_pass hF rfl rfl rfl ?_
    | refine nd_pass rfl rfl rfl rfl rfl ?_
    | refine nd_pass2 rfl rfl rfl (fun c => by exact (fun h => by cases h)) a_allK rfl rfl ?_
    | refine nd_pass3 rfl rfl rfl (fun c => by exact (fun h => by cases h)) rfl rfl ?_
    | (with_reducible refine hQ1 _ _ _ ?_; clear hQ1 Q1)
    )
  have hcx : Cel 1 [Value.int .i64 x.to] := celI [x.to]
  have hlz : (zs.map (Value.int .i64)).length = zs.length := by simp
  have hcr := celI (List.replicate (zs.map (Value.int .i64)).length x.to)
  have hr1 : (M.map (Value.int .i64)).length + ((List.replicate (zs.map (Value.int .i64)).length x.to).map (Value.int .i64)).length ≤ maxLen := by unfold maxLen; simp; omega
  have hr2 : ((M.map (Value.int .i64)).length + ((List.replicate (zs.map (Value.int .i64)).length x.to).map (Value.int .i64)).length) * 8 ≤ 140737488355328 := by simp; omega
  repeat' (first
    | ((first | with_reducible refine nl_op rfl ?_ | refine nd_go rfl rfl rfl ?_); intro K hK; (first
      | ((first | refine on_E hF rfl rfl ?_ | refine od_E rfl rfl ?_ | refine od_R rfl rfl ?_); (first | refine ⟨_, a_yl, ?_⟩ | refine ⟨_, yl_fieldB (T := 43) (f := 1) (q := 1) rfl rfl (by kernel_rfl), ?_⟩ | refine ⟨_, yl_fieldE (T := 43) (f := 1) (j := 1) rfl rfl a_sl (by (first | omega | (simp only [List.length_append, List.length_cons, List.length_nil, List.length_map] at *; omega))) (by kernel_rfl), ?_⟩ | refine ⟨_, yl_fieldB (T := 43) (f := 2) (q := 2) rfl rfl (by kernel_rfl), ?_⟩ | refine ⟨_, yl_fieldE (T := 43) (f := 2) (j := 2) rfl rfl a_sl (by (first | omega | (simp only [List.length_append, List.length_cons, List.length_nil, List.length_map] at *; omega))) (by kernel_rfl), ?_⟩ | refine ⟨_, yl_fieldB (T := 72) (f := 0) (q := 0) rfl rfl (by kernel_rfl), ?_⟩ | refine ⟨_, yl_fieldE (T := 72) (f := 0) (j := 0) rfl rfl a_sl (by (first | omega | (simp only [List.length_append, List.length_cons, List.length_nil, List.length_map] at *; omega))) (by kernel_rfl), ?_⟩ | refine ⟨_, yl_fieldB (T := 72) (f := 2) (q := 2) rfl rfl (by kernel_rfl), ?_⟩ | refine ⟨_, yl_fieldE (T := 72) (f := 2) (j := 2) rfl rfl a_sl (by (first | omega | (simp only [List.length_append, List.length_cons, List.length_nil, List.length_map] at *; omega))) (by kernel_rfl), ?_⟩))
      | ((first | refine on_Ec hF rfl rfl ?_ | refine od_Ec rfl rfl ?_); refine ⟨_, _, _, a_yc, ?_, ?_⟩ <;> (intro hc; try (exfalso; first | (omega; done) | exact absurd (by with_reducible rfl) hc | (simp at hc; done))))
      | ((first | (refine od_act (fun c => by exact (fun h => by cases h)) ?_; intro K2 hK2) | refine od_last (fun c => by exact (fun h => by cases h)) ?_ | skip); (first
      | (refine on_buildSlice (e := 3) (k := 1) (by_ := 8) hF rfl rfl rfl rfl rfl rfl (by kernel_rfl) hcx (Nat.le_of_ble_eq_true rfl) (fun bq => ?_); refine nx_frzRow Pick.here ?_)
      | (refine on_callG hF (enters_of Try.func65 (by kernel_rfl) rfl) rfl rfl rfl rfl (Rep.rep_ct _ x.to (zs.map (Value.int .i64)).length (by exact a_mem) ⟨_, _, _, rfl⟩ (by omega)) (fun rp => ?_))
      | (refine on_append (e := 3) (k := 1) (by_ := 8) (xs := M.map (.int .i64)) (ys := (List.replicate (zs.map (Value.int .i64)).length x.to).map (.int .i64)) hF rfl rfl rfl rfl rfl a_pick (by kernel_rfl) a_sl hcr hr1 hr2 (fun v2 => ?_); rw [← List.map_append]; obtain ⟨v2, v2a, v2n, v2c, rfl⟩ := v2; dsimp only)
      | (refine on_storeF hF rfl rfl rfl rfl a_turn (Nat.le_of_ble_eq_true rfl) a_vof rfl ?_; simp only [List.setIfInBounds_toArray, List.set_cons_succ, List.set_cons_zero])
      | (refine on_buildSlice (T := 28) (e := 3) (k := 1) (by_ := 8) hF rfl rfl rfl rfl rfl rfl (by kernel_rfl) a_cel (Nat.le_of_ble_eq_true rfl) (fun b => ?_))
      | (refine on_append (T := 28) (e := 3) (k := 1) (by_ := 8) hF rfl rfl rfl rfl rfl a_pick (by kernel_rfl) a_sl a_cel (by first | omega | (unfold maxLen; simp only [List.length_map, List.length_append, List.length_cons, List.length_nil, List.length_replicate]; omega) | (simp only [List.length_map, List.length_append, List.length_cons, List.length_nil, List.length_replicate]; omega)) (by first | omega | (unfold maxLen; simp only [List.length_map, List.length_append, List.length_cons, List.length_nil, List.length_replicate]; omega) | (simp only [List.length_map, List.length_append, List.length_cons, List.length_nil, List.length_replicate]; omega)) (fun v => ?_))
      
      | (refine on_box hF rfl rfl rfl rfl (fun B => ?_))
      | (refine on_store hF rfl rfl rfl rfl a_turn a_vof (by first | rfl | exact hsz.symm | exact hsz) ?_)
      | (refine on_storeE hF rfl rfl rfl rfl a_turn (by (first | omega | (simp only [List.length_append, List.length_cons, List.length_nil, List.length_map] at *; omega))) a_vof (by first | rfl | exact hsz) ?_)
      | (refine on_storeEF hF rfl rfl rfl rfl a_turn (by first | with_reducible assumption | rfl) (by decide) a_vof rfl ?_)
      | (refine on_storeF hF rfl rfl rfl rfl a_turn (by decide) a_vof rfl ?_)) <;> try (refine hK2 _ _ _ a_allK ?_; clear hK2 K2))) <;> (refine hK _ _ _ ?_; clear hK K))
    | with_reducible refine nx_seq ?_
        | with_reducible refine nx_region ?_
        | with_reducible refine nl_nil ?_
        | with_reducible refine nq_then_n ?_
        | with_reducible refine nx_block ?_
        | with_reducible refine nx_skip ?_
        | with_reducible refine nx_exit ?_
        | with_reducible refine nx_ret ?_
        | with_reducible refine nq_then_x ?_
        | with_reducible refine nq_then_r ?_
        | with_reducible refine nq_blk_n ?_
        | with_reducible refine nq_blk_r ?_
        | with_reducible refine nq_blk_hit ?_
        | with_reducible refine nq_blk_miss rfl ?_
        | with_reducible refine nd_nil ?_
    | refine nx_cond_t rfl ?_ | refine nx_cond_f rfl ?_
    | refine nl_pass hF rfl rfl rfl ?_
    | refine nd_pass rfl rfl rfl rfl rfl ?_
    | refine nd_pass2 rfl rfl rfl (fun c => by exact (fun h => by cases h)) a_allK rfl rfl ?_
    | refine nd_pass3 rfl rfl rfl (fun c => by exact (fun h => by cases h)) rfl rfl ?_
    | (with_reducible refine hQ1 _ _ _ ?_; clear hQ1 Q1)
    | (refine nd_region (id := 3) hF [0, 0, 0, 0, 1, 0, 1, 2, 0, 1, 2, 2, 0, 0, 3] [0, 1, 2, 3, 4, 5, 6, 8, 9, 7, 10, 11, 12, 13, 14] [BoxC bp 43 (.agg #[.slice cha chn chc, .slice v1a v1n v1c, .slice lma lmn lmc, .int .i64 fr, .int .i64 to]), BoxC B 72 x.v, RowC 3 1 v.1 (zs.map (.int .i64))] [] (by kernel_rfl) (by kernel_rfl) (by exact a_allK) ?_; intro Q1 hQ1))
  rw [hlz]
  refine nx_end [] rfl (((⟨.slice v1a v1n v1c, _, _, _, rfl⟩, ⟨.slice v2a v2n v2c, _, _, _, rfl⟩) : SV × SV)) (fun a w ha hw => res_tmp Try.results42 rfl ha) (by exact a_subR) (by exact a_holds2)
end Pl
end Go.Proofs.Ytinofjenoapeaaa
