/- The contract of breviarylaw12.first. No condition. -/
import Derived.Test.YtigbglagfbbmjaaMk2
namespace Go.Proofs.Ytigbglagfbbmjaa
open Go.RowKit Go.Shelf
set_option linter.unusedSimpArgs false
set_option linter.unusedVariables false
namespace Mk
variable {W0 : World} {X : Nat → Prop} {R C : List Ch}
theorem noteX_ct (m : Nat) (v : Value) (hv : IsSl v) (xs ys : List Int) (n e : Int) (s : Value) (hs : IsSl s) (ws : List Wr) (hok : ∀ x ∈ ws, x.ok) (h0 : xs ≠ []) (hb : xs.length ≤ 1000000) (hsl : SlC 2 s (ws.map Wr.v) ∈ R) (hbw : ws.length ≤ 1000000000000) (he : noteE xs n ws = e) (hy : noteR xs n ws = ys) :
    Ct Try.prog 44 [ptr m, .int .i64 n, s] W0 X R (BoxC m 134 (.agg #[v]) :: RowC 3 1 v (xs.map (.int .i64)) :: C) Unit (fun _ => .int .i64 e) (fun _ => R) (fun _ => BoxC m 134 (.agg #[v]) :: RowC 3 1 v (ys.map (.int .i64)) :: C) := by
  subst he; subst hy; exact note_ct m v hv xs n s hs ws hok h0 hb hsl hbw
theorem sinceX_ct (m : Nat) (v : Value) (hv : IsSl v) (xs ys : List Int) (n : Int) (hb : xs.length ≤ 1000000) (hy : sinceL xs n = ys) :
    Ct Try.prog 45 [ptr m, .int .i64 n] W0 X R (BoxC m 134 (.agg #[v]) :: RowC 3 1 v (xs.map (.int .i64)) :: C) SV (fun u => u.1) (fun _ => R) (fun u => RowC 3 1 u.1 (ys.map (.int .i64)) :: BoxC m 134 (.agg #[v]) :: RowC 3 1 v (xs.map (.int .i64)) :: C) := by
  subst hy; exact since_ct m v hv xs n hb
theorem atX_ct (m : Nat) (v : Value) (hv : IsSl v) (xs : List Int) (b e : Int) (he : atL xs b = e) :
    Ct Try.prog 47 [ptr m, .int .i64 b] W0 X R (BoxC m 134 (.agg #[v]) :: RowC 3 1 v (xs.map (.int .i64)) :: C) Unit (fun _ => .int .i64 e) (fun _ => R) (fun _ => BoxC m 134 (.agg #[v]) :: RowC 3 1 v (xs.map (.int .i64)) :: C) := by
  subst he; exact at_ct m v hv xs b
theorem mostX_ct (m : Nat) (v : Value) (hv : IsSl v) (xs : List Int) (e : Int) (h0 : xs ≠ []) (hb : xs.length ≤ 1000000000000) (he : maxL xs = e) :
    Ct Try.prog 48 [ptr m] W0 X R (BoxC m 134 (.agg #[v]) :: RowC 3 1 v (xs.map (.int .i64)) :: C) Unit (fun _ => .int .i64 e) (fun _ => R) (fun _ => BoxC m 134 (.agg #[v]) :: RowC 3 1 v (xs.map (.int .i64)) :: C) := by
  subst he; exact most_ct m v hv xs h0 hb
end Mk
namespace Law12
open Mk
variable {W0 : World} {X : Nat → Prop} {R C : List Ch}
theorem ok1 (b : Int) : ∀ x ∈ [(⟨b, .slice none 0 0⟩ : Wr)], x.ok := fun x hx => by rw [List.mem_singleton.1 hx]; exact ⟨_, _, _, rfl⟩
set_option maxRecDepth 100000 in
set_option maxHeartbeats 2000000 in
theorem first_ct : Ct Try.prog 42 [] W0 X R C Unit (fun _ => .bool true) (fun _ => R) (fun _ => C) := by
  intro w hw
  have hF := isWide_wide
  refine calls_nx Try.func42 rfl Try.ntmps42 rfl ?_ hw
  refine nx_nilRow 73 2 ?_
  refine nx_frzRow Pick.here ?_
  repeat' (first
    | ((first | with_reducible refine nl_op rfl ?_ | refine nd_go rfl rfl rfl ?_); intro K hK; (first
      | ((first | refine on_E hF rfl rfl ?_ | refine od_E rfl rfl ?_ | refine od_R rfl rfl ?_); (first | refine ⟨_, a_yl, ?_⟩ | refine ⟨_, yl_build (T := 73) (us := [(0, _)]) rfl rfl rfl (fun w => by go_simp; all_goals rfl), ?_⟩))
      | ((first | refine on_Ec hF rfl rfl ?_ | refine od_Ec rfl rfl ?_); refine ⟨_, _, _, a_yc, ?_, ?_⟩ <;> (intro hc; try (exfalso; first | (omega; done) | exact absurd (by with_reducible rfl) hc | (simp at hc; done))))
      | ((first | (refine od_act (fun c => by exact (fun h => by cases h)) ?_; intro K2 hK2) | refine od_last (fun c => by exact (fun h => by cases h)) ?_ | skip); (first
      | (refine on_callG hF (enters_of Try.func43 (by kernel_rfl) rfl) rfl rfl rfl rfl (newO_ct 3 0 (by omega)) (fun i => ?_); obtain ⟨m, v, va, vn, vc, rfl⟩ := i; dsimp only)
      | (refine on_buildSlice (e := 73) (k := 2) (by_ := 32) hF rfl rfl rfl rfl rfl rfl (by kernel_rfl) a_cel (Nat.le_of_ble_eq_true rfl) (fun b => ?_); refine nx_frzRow Pick.here ?_)
      | (refine on_callG (vs := [ptr m, .int .i64 1, _]) hF (enters_of Try.func44 (by kernel_rfl) rfl) rfl rfl rfl rfl ((noteX_ct m (.slice va vn vc) ⟨_, _, _, rfl⟩ [0, 0, 0] [0, 0, 1] 1 0 (.slice (some ⟨b, 0, none⟩) 1 1) ⟨_, _, _, rfl⟩ [⟨2, .slice none 0 0⟩] (ok1 2) (List.cons_ne_nil _ _) (Nat.le_of_ble_eq_true rfl) (show SlC 2 (.slice (some ⟨b, 0, none⟩) 1 1) [.agg #[.int .i64 2, .slice none 0 0]] ∈ _ from by exact a_mem) (Nat.le_of_ble_eq_true rfl) (by kernel_rfl) (by kernel_rfl)).pre (perm2 (by exact a_pick) (by exact a_pick))) (fun _ => ?_))
      | (refine on_callG (vs := [ptr m, .int .i64 0, _]) hF (enters_of Try.func44 (by kernel_rfl) rfl) rfl rfl rfl rfl ((noteX_ct m (.slice va vn vc) ⟨_, _, _, rfl⟩ [0, 0, 1] [0, 0, 1] 0 52 (.slice none 0 0) ⟨_, _, _, rfl⟩ [] (fun _ h => by cases h) (List.cons_ne_nil _ _) (Nat.le_of_ble_eq_true rfl) (show SlC 2 (.slice none 0 0) [] ∈ _ from by exact a_mem) (Nat.le_of_ble_eq_true rfl) (by kernel_rfl) (by kernel_rfl)).pre (perm2 (by exact a_pick) (by exact a_pick))) (fun _ => ?_))
      | (refine on_callG (vs := [ptr m, .int .i64 2, _]) hF (enters_of Try.func44 (by kernel_rfl) rfl) rfl rfl rfl rfl ((noteX_ct m (.slice va vn vc) ⟨_, _, _, rfl⟩ [0, 0, 1] [0, 0, 1] 2 41 (.slice (some ⟨b, 0, none⟩) 1 1) ⟨_, _, _, rfl⟩ [⟨3, .slice none 0 0⟩] (ok1 3) (List.cons_ne_nil _ _) (Nat.le_of_ble_eq_true rfl) (show SlC 2 (.slice (some ⟨b, 0, none⟩) 1 1) [.agg #[.int .i64 3, .slice none 0 0]] ∈ _ from by exact a_mem) (Nat.le_of_ble_eq_true rfl) (by kernel_rfl) (by kernel_rfl)).pre (perm2 (by exact a_pick) (by exact a_pick))) (fun _ => ?_))
      | (refine on_callG hF (enters_of Try.func45 (by kernel_rfl) rfl) rfl rfl rfl rfl ((sinceX_ct m (.slice va vn vc) ⟨_, _, _, rfl⟩ [0, 0, 1] [2] 0 (Nat.le_of_ble_eq_true rfl) (by kernel_rfl)).pre (perm2 (by exact a_pick) (by exact a_pick))) (fun u => ?_); obtain ⟨u, ua, un, uc, rfl⟩ := u; dsimp only; refine nx_len (e := 3) (k := 1) (by exact a_mem) (fun hlen => ?_); have hlen2 : un = 1 := hlen; clear hlen; subst hlen2)
      | (refine on_callG (vs := [ptr m, .int .i64 2]) hF (enters_of Try.func47 (by kernel_rfl) rfl) rfl rfl rfl rfl ((atX_ct m (.slice va vn vc) ⟨_, _, _, rfl⟩ [0, 0, 1] 2 1 (by kernel_rfl)).pre (perm2 (by exact a_pick) (by exact a_pick))) (fun _ => ?_))
      | (refine on_callG (vs := [ptr m, .int .i64 3]) hF (enters_of Try.func47 (by kernel_rfl) rfl) rfl rfl rfl rfl ((atX_ct m (.slice va vn vc) ⟨_, _, _, rfl⟩ [0, 0, 1] 3 (-1) (by kernel_rfl)).pre (perm2 (by exact a_pick) (by exact a_pick))) (fun _ => ?_))
      | (refine on_callG hF (enters_of Try.func48 (by kernel_rfl) rfl) rfl rfl rfl rfl ((mostX_ct m (.slice va vn vc) ⟨_, _, _, rfl⟩ [0, 0, 1] 1 (List.cons_ne_nil _ _) (Nat.le_of_ble_eq_true rfl) (by kernel_rfl)).pre (perm2 (by exact a_pick) (by exact a_pick))) (fun _ => ?_))
      | (refine on_buildSlice (T := 69) (e := 73) (k := 2) (by_ := 32) hF rfl rfl rfl rfl rfl rfl (by kernel_rfl) a_cel (Nat.le_of_ble_eq_true rfl) (fun b => ?_))
      
      | (refine on_box hF rfl rfl rfl rfl (fun B => ?_))
      | (refine on_store hF rfl rfl rfl rfl a_turn a_vof (by first | rfl | exact hsz.symm | exact hsz) ?_)
      | (refine on_storeE hF rfl rfl rfl rfl a_turn (by (first | omega | (simp only [List.length_append, List.length_cons, List.length_nil, List.length_map] at *; omega))) a_vof (by first | rfl | exact hsz) ?_)
      | (refine on_storeEF hF rfl rfl rfl rfl a_turn (by first | with_reducible assumption | rfl) (by decide) a_vof rfl ?_)
      | (refine on_storeF hF rfl rfl rfl rfl a_turn (by decide) a_vof rfl ?_)) <;> try (refine hK2 _ _ _ a_allK ?_; clear hK2 K2))) <;> (refine hK _ _ _ ?_; clear hK K))
    | with_reducible refine nx_seq ?_
        | with_reducible refine nx_region ?_
        | with_reducible refine nl_nil ?_
        | with_reducible refine nq_then_n ?_
        | with_reducible refine nx_block ?_
        | with_reducible refine nx_skip ?_
        | with_reducible refine nx_exit ?_
        | with_reducible refine nx_ret ?_
        | with_reducible refine nq_then_x ?_
        | with_reducible refine nq_then_r ?_
        | with_reducible refine nq_blk_n ?_
        | with_reducible refine nq_blk_r ?_
        | with_reducible refine nq_blk_hit ?_
        | with_reducible refine nq_blk_miss rfl ?_
        | with_reducible refine nd_nil ?_
    | refine nx_cond_t rfl ?_ | refine nx_cond_f rfl ?_
    | refine nl_pass hF rfl rfl rfl ?_
    | refine nd_pass rfl rfl rfl rfl rfl ?_
    | refine nd_pass2 rfl rfl rfl (fun c => by exact (fun h => by cases h)) a_allK rfl rfl ?_
    | refine nd_pass3 rfl rfl rfl (fun c => by exact (fun h => by cases h)) rfl rfl ?_
    | (with_reducible refine hQ1 _ _ _ ?_; clear hQ1 Q1)
    )
  all_goals refine nx_end [] rfl () (fun a w ha hw => res_tmp Try.results42 rfl ha) (by exact a_subR) (by exact a_holds2)
end Law12
end Go.Proofs.Ytigbglagfbbmjaa
