/- The contract of breviarylaw22.first. No condition. -/
import Derived.Test.YtinofjenoapeaaaLaw22P
import Derived.Test.YtinofjenoapeaaaPl5
namespace Go.Proofs.Ytinofjenoapeaaa
open Go.RowKit Go.Shelf
set_option linter.unusedSimpArgs false
set_option linter.unusedVariables false
namespace Law22
open Pl Li
variable {W0 : World} {X : Nat → Prop} {R C : List Ch}
theorem kp11 : keptB L3 1 1 = false := by unfold keptB; rw [fi1z 1 (by omega)]; rfl
theorem kp33 : keptB L3 3 3 = false := by unfold keptB; rw [fi3]; rfl
theorem kpB (n : Int) : keptB L3 1 n = (decide (2 ≤ n) && decide (n ≤ 5)) := by
  unfold keptB
  by_cases h1 : n < 2
  · rw [fi1z n h1]; simp; omega
  · by_cases h2 : 5 < n
    · rw [fi1n n h2]; simp; omega
    · rw [fi1 n (by omega) (by omega)]; simp; omega
/-- Rising lists of the same numbers are the same. -/
theorem lt_ext : ∀ (a b : List Int), a.Pairwise (· < ·) → b.Pairwise (· < ·) → (∀ x, x ∈ a ↔ x ∈ b) → a = b
  | [], [], _, _, _ => rfl
  | [], y :: b, _, _, h => by have := (h y).2 (by simp); simp at this
  | x :: a, [], _, _, h => by have := (h x).1 (by simp); simp at this
  | x :: a, y :: b, ha, hb, h => by
    obtain ⟨ha1, ha2⟩ := List.pairwise_cons.1 ha
    obtain ⟨hb1, hb2⟩ := List.pairwise_cons.1 hb
    have hxy : x = y := by
      rcases List.mem_cons.1 ((h x).1 (by simp)) with h1 | h1
      · exact h1
      · rcases List.mem_cons.1 ((h y).2 (by simp)) with h2 | h2
        · exact h2.symm
        · have := hb1 x h1; have := ha1 y h2; omega
    subst hxy
    rw [lt_ext a b ha2 hb2 (fun z => ⟨fun hz => ?_, fun hz => ?_⟩)]
    · rcases List.mem_cons.1 ((h z).1 (List.mem_cons_of_mem _ hz)) with h1 | h1
      · have := ha1 z hz; omega
      · exact h1
    · rcases List.mem_cons.1 ((h z).2 (List.mem_cons_of_mem _ hz)) with h1 | h1
      · have := hb1 z hz; omega
      · exact h1
theorem marks3 : marksL L3 = [-1, 0, 1, 2, 3, 4, 5, 6] := by
  unfold marksL
  refine lt_ext _ _ (Sc.upr_lt _) (by decide) (fun x => ?_)
  rw [Sc.mem_upr]
  simp [raw, six, L3, x1, x2, x3]
  omega
theorem keptL3 : keptL L3 1 = [2, 3, 4, 5] := by
  unfold keptL
  rw [marks3]
  simp only [List.filter_cons, List.filter_nil, kpB]; rfl
theorem L3v : L3.map It2.v = [.agg #[.int .i64 1, .int .i64 2, .int .i64 1, .int .i64 0, .int .i64 1, .int .i64 2, .int .i64 0, .int .i64 0, .slice none 0 0], .agg #[.int .i64 2, .int .i64 1, .int .i64 1, .int .i64 0, .int .i64 0, .int .i64 5, .int .i64 0, .int .i64 0, .slice none 0 0], .agg #[.int .i64 3, .int .i64 4, .int .i64 2, .int .i64 0, .int .i64 4, .int .i64 0, .int .i64 1, .int .i64 0, .slice none 0 0]] := rfl
set_option maxRecDepth 100000 in
set_option maxHeartbeats 4000000 in
theorem first_ct : Ct Try.prog 5 [] W0 X R C Unit (fun _ => .bool true) (fun _ => R) (fun _ => C) := by
  intro w hw
  have hF := isWide_wide
  have f1 := fun (W0 : World) (X : Nat → Prop) (R C : List Ch) (s : Value) (hs : IsSl s) (h : SlC 9 s (L3.map It2.v) ∈ R) => find_ct (W0 := W0) (X := X) (R := R) (C := C) s hs L3 L3_ok 1 4 (by omega) h (by decide)
  have f2 := fun (W0 : World) (X : Nat → Prop) (R C : List Ch) (s : Value) (hs : IsSl s) (h : SlC 9 s (L3.map It2.v) ∈ R) => find_ct (W0 := W0) (X := X) (R := R) (C := C) s hs L3 L3_ok 2 4 (by omega) h (by decide)
  have k1 := fun (W0 : World) (X : Nat → Prop) (R C : List Ch) (s : Value) (hs : IsSl s) (h : SlC 9 s (L3.map It2.v) ∈ R) => kept_ct (W0 := W0) (X := X) (R := R) (C := C) s hs L3 L3_ok 1 1 (by omega) h (by decide)
  have k3 := fun (W0 : World) (X : Nat → Prop) (R C : List Ch) (s : Value) (hs : IsSl s) (h : SlC 9 s (L3.map It2.v) ∈ R) => kept_ct (W0 := W0) (X := X) (R := R) (C := C) s hs L3 L3_ok 3 3 (by omega) h (by decide)
  have rc := fun (W0 : World) (X : Nat → Prop) (R C : List Ch) (s : Value) (hs : IsSl s) (h : SlC 9 s (L3.map It2.v) ∈ R) => range_ct (W0 := W0) (X := X) (R := R) (C := C) s hs L3 L3_ok L3_r 1 (by omega) h (by decide)
  have hpv : ∀ (a1 a2 a3 : Option Addr) (n1 n2 n3 c1 c2 c3 : Nat), VOf Try.prog 43 (planV (.slice a1 n1 c1) (.slice a2 n2 c2) (.slice a3 n3 c3) 1 4) := fun a1 a2 a3 n1 n2 n3 c1 c2 c3 => vofPlan ⟨_, _, _, rfl⟩ ⟨_, _, _, rfl⟩ ⟨_, _, _, rfl⟩ 1 4
  rw [fi1 4 (by omega) (by omega)] at f1
  rw [fi2] at f2
  rw [kp11] at k1
  rw [kp33] at k3
  rw [keptL3] at rc
  unfold findRet findC at f1 f2
  dsimp only at f1 f2
  simp only [show x1.id = 1 from rfl, show x1.a = 1 from rfl, ids1, List.map_cons, List.map_nil] at f1 f2
  rw [show rangeRet [2, 3, 4, 5] = .tuple #[.int .i64 2, .int .i64 5, .bool true] from rfl] at rc
  rw [L3v] at f1 f2 k1 k3 rc
  refine calls_nx Try.func5 rfl Try.ntmps5 rfl ?_ hw
  repeat' (first
    | ((first | with_reducible refine nl_op rfl ?_ | refine nd_go rfl rfl rfl ?_); intro K hK; (first
      | ((first | refine on_E hF rfl rfl ?_ | refine od_E rfl rfl ?_ | refine od_R rfl rfl ?_); (first | refine ⟨_, a_yl, ?_⟩ | refine ⟨_, yl_build (T := 27) (us := [(0, _), (1, _), (2, _), (4, _), (5, _)]) rfl rfl rfl (fun w => by go_simp; all_goals rfl), ?_⟩ | refine ⟨_, yl_build (T := 27) (us := [(0, _), (1, _), (2, _), (5, _)]) rfl rfl rfl (fun w => by go_simp; all_goals rfl), ?_⟩ | refine ⟨_, yl_build (T := 27) (us := [(0, _), (1, _), (2, _), (6, _), (4, _)]) rfl rfl rfl (fun w => by go_simp; all_goals rfl), ?_⟩ | refine ⟨_, yl_fieldB (T := 43) (f := 0) (q := 0) rfl rfl (by kernel_rfl), ?_⟩ | refine ⟨_, yl_fieldE (T := 43) (f := 0) (j := 0) rfl rfl a_sl (by (first | omega | (simp only [List.length_append, List.length_cons, List.length_nil, List.length_map] at *; omega))) (by kernel_rfl), ?_⟩ | refine ⟨_, yl_fieldB (T := 43) (f := 1) (q := 1) rfl rfl (by kernel_rfl), ?_⟩ | refine ⟨_, yl_fieldE (T := 43) (f := 1) (j := 1) rfl rfl a_sl (by (first | omega | (simp only [List.length_append, List.length_cons, List.length_nil, List.length_map] at *; omega))) (by kernel_rfl), ?_⟩ | refine ⟨_, yl_fieldB (T := 43) (f := 2) (q := 2) rfl rfl (by kernel_rfl), ?_⟩ | refine ⟨_, yl_fieldE (T := 43) (f := 2) (j := 2) rfl rfl a_sl (by (first | omega | (simp only [List.length_append, List.length_cons, List.length_nil, List.length_map] at *; omega))) (by kernel_rfl), ?_⟩ | refine ⟨_, yl_fieldB (T := 43) (f := 3) (q := 3) rfl rfl (by kernel_rfl), ?_⟩ | refine ⟨_, yl_fieldE (T := 43) (f := 3) (j := 3) rfl rfl a_sl (by (first | omega | (simp only [List.length_append, List.length_cons, List.length_nil, List.length_map] at *; omega))) (by kernel_rfl), ?_⟩ | refine ⟨_, yl_fieldB (T := 43) (f := 4) (q := 4) rfl rfl (by kernel_rfl), ?_⟩ | refine ⟨_, yl_fieldE (T := 43) (f := 4) (j := 4) rfl rfl a_sl (by (first | omega | (simp only [List.length_append, List.length_cons, List.length_nil, List.length_map] at *; omega))) (by kernel_rfl), ?_⟩))
      | ((first | refine on_Ec hF rfl rfl ?_ | refine od_Ec rfl rfl ?_); refine ⟨_, _, _, a_yc, ?_, ?_⟩ <;> (intro hc; try (exfalso; first | (omega; done) | exact absurd (by with_reducible rfl) hc | (simp at hc; done))))
      | ((first | (refine od_act (fun c => by exact (fun h => by cases h)) ?_; intro K2 hK2) | refine od_last (fun c => by exact (fun h => by cases h)) ?_ | skip); (first
      
      | (refine on_buildSlice (T := 22) (e := 27) (k := 9) (by_ := 88) hF rfl rfl rfl rfl rfl rfl (by kernel_rfl) a_cel (Nat.le_of_ble_eq_true rfl) (fun b => ?_))
      | (refine on_alloc hF rfl Try.zeroValue43 rfl rfl (fun B => ?_))
      | (refine on_box hF rfl rfl rfl rfl (fun B => ?_))
      | (refine on_store hF rfl rfl rfl rfl a_turn a_vof (by first | rfl | exact hsz.symm | exact hsz) ?_)
      | (refine on_storeE hF rfl rfl rfl rfl a_turn (by (first | omega | (simp only [List.length_append, List.length_cons, List.length_nil, List.length_map] at *; omega))) a_vof (by first | rfl | exact hsz) ?_)
      | (refine on_storeEF hF rfl rfl rfl rfl a_turn (by first | with_reducible assumption | rfl) (by decide) a_vof rfl ?_)
      | (refine on_storeF hF rfl rfl rfl rfl a_turn (by decide) a_vof rfl ?_)) <;> try (refine hK2 _ _ _ a_allK ?_; clear hK2 K2))) <;> (refine hK _ _ _ ?_; clear hK K))
    | with_reducible refine nx_seq ?_
        | with_reducible refine nx_region ?_
        | with_reducible refine nl_nil ?_
        | with_reducible refine nq_then_n ?_
        | with_reducible refine nx_block ?_
        | with_reducible refine nx_skip ?_
        | with_reducible refine nx_exit ?_
        | with_reducible refine nx_ret ?_
        | with_reducible refine nq_then_x ?_
        | with_reducible refine nq_then_r ?_
        | with_reducible refine nq_blk_n ?_
        | with_reducible refine nq_blk_r ?_
        | with_reducible refine nq_blk_hit ?_
        | with_reducible refine nq_blk_miss rfl ?_
        | with_reducible refine nd_nil ?_
    | refine nx_cond_t rfl ?_ | refine nx_cond_f rfl ?_
    | refine nl_pass hF rfl rfl rfl ?_
    | refine nd_pass rfl rfl rfl rfl rfl ?_
    | refine nd_pass2 rfl rfl rfl (fun c => by exact (fun h => by cases h)) a_allK rfl rfl ?_
    | refine nd_pass3 rfl rfl rfl (fun c => by exact (fun h => by cases h)) rfl rfl ?_
    | (with_reducible refine hQ1 _ _ _ ?_; clear hQ1 Q1)
    )
  obtain ⟨b0, hb0⟩ : ∃ b0, b0 = b := ⟨_, rfl⟩
  subst hb0
  refine nx_frzRow Pick.here ?_
  repeat' (first
    | ((first | with_reducible refine nl_op rfl ?_ | refine nd_go rfl rfl rfl ?_); intro K hK; (first
      | ((first | refine on_E hF rfl rfl ?_ | refine od_E rfl rfl ?_ | refine od_R rfl rfl ?_); (first | refine ⟨_, a_yl, ?_⟩ | refine ⟨_, yl_build (T := 27) (us := [(0, _), (1, _), (2, _), (4, _), (5, _)]) rfl rfl rfl (fun w => by go_simp; all_goals rfl), ?_⟩ | refine ⟨_, yl_build (T := 27) (us := [(0, _), (1, _), (2, _), (5, _)]) rfl rfl rfl (fun w => by go_simp; all_goals rfl), ?_⟩ | refine ⟨_, yl_build (T := 27) (us := [(0, _), (1, _), (2, _), (6, _), (4, _)]) rfl rfl rfl (fun w => by go_simp; all_goals rfl), ?_⟩ | refine ⟨_, yl_fieldB (T := 43) (f := 0) (q := 0) rfl rfl (by kernel_rfl), ?_⟩ | refine ⟨_, yl_fieldE (T := 43) (f := 0) (j := 0) rfl rfl a_sl (by (first | omega | (simp only [List.length_append, List.length_cons, List.length_nil, List.length_map] at *; omega))) (by kernel_rfl), ?_⟩ | refine ⟨_, yl_fieldB (T := 43) (f := 1) (q := 1) rfl rfl (by kernel_rfl), ?_⟩ | refine ⟨_, yl_fieldE (T := 43) (f := 1) (j := 1) rfl rfl a_sl (by (first | omega | (simp only [List.length_append, List.length_cons, List.length_nil, List.length_map] at *; omega))) (by kernel_rfl), ?_⟩ | refine ⟨_, yl_fieldB (T := 43) (f := 2) (q := 2) rfl rfl (by kernel_rfl), ?_⟩ | refine ⟨_, yl_fieldE (T := 43) (f := 2) (j := 2) rfl rfl a_sl (by (first | omega | (simp only [List.length_append, List.length_cons, List.length_nil, List.length_map] at *; omega))) (by kernel_rfl), ?_⟩ | refine ⟨_, yl_fieldB (T := 43) (f := 3) (q := 3) rfl rfl (by kernel_rfl), ?_⟩ | refine ⟨_, yl_fieldE (T := 43) (f := 3) (j := 3) rfl rfl a_sl (by (first | omega | (simp only [List.length_append, List.length_cons, List.length_nil, List.length_map] at *; omega))) (by kernel_rfl), ?_⟩ | refine ⟨_, yl_fieldB (T := 43) (f := 4) (q := 4) rfl rfl (by kernel_rfl), ?_⟩ | refine ⟨_, yl_fieldE (T := 43) (f := 4) (j := 4) rfl rfl a_sl (by (first | omega | (simp only [List.length_append, List.length_cons, List.length_nil, List.length_map] at *; omega))) (by kernel_rfl), ?_⟩))
      | ((first | refine on_Ec hF rfl rfl ?_ | refine od_Ec rfl rfl ?_); refine ⟨_, _, _, a_yc, ?_, ?_⟩ <;> (intro hc; try (exfalso; first | (omega; done) | exact absurd (by with_reducible rfl) hc | (simp at hc; done))))
      | ((first | (refine od_act (fun c => by exact (fun h => by cases h)) ?_; intro K2 hK2) | refine od_last (fun c => by exact (fun h => by cases h)) ?_ | skip); (first
      | (refine on_callG (vs := [.slice (some ⟨b0, 0, none⟩) 3 3, .int .i64 1, .int .i64 4]) hF (enters_of Try.func17 (by kernel_rfl) rfl) rfl rfl rfl rfl (f1 _ _ _ _ _ ⟨_, _, _, rfl⟩ (by exact a_mem)) (fun i => ?_); obtain ⟨⟨c, ca, cn, cc, rfl⟩, ⟨g, ga, gn, gc, rfl⟩, ⟨m, ma, mn, mc, rfl⟩⟩ := i; dsimp only; refine nx_len (e := 3) (k := 1) (xs := [.int .i64 1]) (i := cn) (by exact a_mem) (fun h1 => ?_); have h2 : cn = 1 := h1; clear h1; subst h2; refine nx_len (e := 3) (k := 1) (xs := [.int .i64 2]) (i := gn) (by exact a_mem) (fun h1 => ?_); have h2 : gn = 1 := h1; clear h1; subst h2; refine nx_len (e := 3) (k := 1) (xs := [.int .i64 4]) (i := mn) (by exact a_mem) (fun h1 => ?_); have h2 : mn = 1 := h1; clear h1; subst h2; have hp1 := hpv ca ga ma 1 1 1 cc gc mc)
      | (refine on_callG (vs := [.slice (some ⟨b0, 0, none⟩) 3 3, .int .i64 2, .int .i64 4]) hF (enters_of Try.func17 (by kernel_rfl) rfl) rfl rfl rfl rfl (f2 _ _ _ _ _ ⟨_, _, _, rfl⟩ (by exact a_mem)) (fun i => ?_); obtain ⟨⟨c', ca', cn', cc', rfl⟩, ⟨g', ga', gn', gc', rfl⟩, ⟨m', ma', mn', mc', rfl⟩⟩ := i; dsimp only; refine nx_len (e := 3) (k := 1) (xs := [.int .i64 2]) (i := gn') (by exact a_mem) (fun h1 => ?_); have h2 : gn' = 1 := h1; clear h1; subst h2; have hp2 := hpv ca' ga' ma' cn' 1 mn' cc' gc' mc')
      | (refine on_callG hF (enters_of Try.func19 (by kernel_rfl) rfl) rfl rfl rfl rfl (rc _ _ _ _ _ ⟨_, _, _, rfl⟩ (by exact a_mem)) (fun _ => ?_))
      | (refine on_callG (vs := [.slice (some ⟨b0, 0, none⟩) 3 3, .int .i64 1, .int .i64 1]) hF (enters_of Try.func11 (by kernel_rfl) rfl) rfl rfl rfl rfl (k1 _ _ _ _ _ ⟨_, _, _, rfl⟩ (by exact a_mem)) (fun _ => ?_))
      | (refine on_callG (vs := [.slice (some ⟨b0, 0, none⟩) 3 3, .int .i64 3, .int .i64 3]) hF (enters_of Try.func11 (by kernel_rfl) rfl) rfl rfl rfl rfl (k3 _ _ _ _ _ ⟨_, _, _, rfl⟩ (by exact a_mem)) (fun _ => ?_))
      | (refine on_buildSlice (T := 22) (e := 27) (k := 9) (by_ := 88) hF rfl rfl rfl rfl rfl rfl (by kernel_rfl) a_cel (Nat.le_of_ble_eq_true rfl) (fun b => ?_))
      | (refine on_alloc hF rfl Try.zeroValue43 rfl rfl (fun B => ?_))
      | (refine on_box hF rfl rfl rfl rfl (fun B => ?_))
      | (refine on_store hF rfl rfl rfl rfl a_turn a_vof (by first | rfl | exact hsz.symm | exact hsz) ?_)
      | (refine on_storeE hF rfl rfl rfl rfl a_turn (by (first | omega | (simp only [List.length_append, List.length_cons, List.length_nil, List.length_map] at *; omega))) a_vof (by first | rfl | exact hsz) ?_)
      | (refine on_storeEF hF rfl rfl rfl rfl a_turn (by first | with_reducible assumption | rfl) (by decide) a_vof rfl ?_)
      | (refine on_storeF hF rfl rfl rfl rfl a_turn (by decide) a_vof rfl ?_)) <;> try (refine hK2 _ _ _ a_allK ?_; clear hK2 K2))) <;> (refine hK _ _ _ ?_; clear hK K))
    | with_reducible refine nx_seq ?_
        | with_reducible refine nx_region ?_
        | with_reducible refine nl_nil ?_
        | with_reducible refine nq_then_n ?_
        | with_reducible refine nx_block ?_
        | with_reducible refine nx_skip ?_
        | with_reducible refine nx_exit ?_
        | with_reducible refine nx_ret ?_
        | with_reducible refine nq_then_x ?_
        | with_reducible refine nq_then_r ?_
        | with_reducible refine nq_blk_n ?_
        | with_reducible refine nq_blk_r ?_
        | with_reducible refine nq_blk_hit ?_
        | with_reducible refine nq_blk_miss rfl ?_
        | with_reducible refine nd_nil ?_
    | refine nx_cond_t rfl ?_ | refine nx_cond_f rfl ?_
    | refine nl_pass hF rfl rfl rfl ?_
    | refine nd_pass rfl rfl rfl rfl rfl ?_
    | refine nd_pass2 rfl rfl rfl (fun c => by exact (fun h => by cases h)) a_allK rfl rfl ?_
    | refine nd_pass3 rfl rfl rfl (fun c => by exact (fun h => by cases h)) rfl rfl ?_
    | (with_reducible refine hQ1 _ _ _ ?_; clear hQ1 Q1)
    )
  refine nx_end [] rfl () (fun a w ha hw => res_tmp Try.results5 rfl ha) (by exact a_subR) (by exact a_holds2)
end Law22
end Go.Proofs.Ytinofjenoapeaaa
