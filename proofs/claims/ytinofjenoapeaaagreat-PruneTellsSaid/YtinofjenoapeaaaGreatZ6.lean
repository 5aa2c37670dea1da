/- The statement PruneTellsSaid: it returns true at every input, and leaves the input as it was. No condition. -/
import Derived.Test.YtinofjenoapeaaaGreatZ5
import Derived.Test.YtinofjenoapeaaaGreatZ2
import Derived.Test.YtinofjenoapeaaaGreatZ3
import Derived.Test.YtinofjenoapeaaaGreatRows
import Derived.Test.YtinofjenoapeaaaGreatZ1
import Derived.WalkKit
import Derived.ProofKit
import Derived.OpenShut
import Derived.ShutString
import Derived.ChangeOld
import Derived.Below
import Derived.SizedLaws
section
namespace Go.Proofs.YtinofjenoapeaaaGreat
open Go.RowKit Go.Shelf
set_option linter.unusedSimpArgs false
set_option linter.unusedVariables false
namespace Ref18
open Li
variable {W0 : World} {X : Nat → Prop} {R C : List Ch}
set_option maxRecDepth 100000 in
set_option maxHeartbeats 4000000 in
theorem all_ct (s : Value) (hs : IsSl s) (L : List It2) (hok : ∀ x ∈ L, x.ok) (hsl : SlC 9 s (L.map It2.v) ∈ R) (hm : L.length * 88 ≤ 140737488355328) :
    Ct Tryz.prog 19 [s] W0 X R C SV (fun v => v.1) (fun _ => R) (fun v => RowC 3 1 v.1 ((allL L).map (.int .i64)) :: C) := by
  intro w hw
  have hF := isWide_wide
  have hs0 := hs
  obtain ⟨sa, sn, sc, rfl⟩ := hs
  obtain rfl := slLen (hw.hasR hsl)
  have hlv : (L.map It2.v).length = L.length := by simp
  have hal := all_len L
  refine calls_nx Tryz.func19 rfl Tryz.ntmps19 rfl ?_ hw
  repeat' (first | ((first | with_reducible refine nl_op rfl ?_ | refine nd_go rfl rfl rfl ?_); intro K hK; (first | ((first | refine on_E hF rfl rfl ?_ | refine od_E rfl rfl ?_ | refine od_R rfl rfl ?_); (first | refine ⟨_, a_yl, ?_⟩ | refine ⟨_, (by first | exact yl_fieldB (T := 33) (f := 1) (q := 1) rfl rfl (by kernel_rfl) | exact yl_fieldE (T := 33) (f := 1) (j := 1) rfl rfl a_sl a_om (by kernel_rfl) | exact yl_fieldB (T := 33) (f := 2) (q := 2) rfl rfl (by kernel_rfl) | exact yl_fieldE (T := 33) (f := 2) (j := 2) rfl rfl a_sl a_om (by kernel_rfl)), ?_⟩)) | ((first | refine on_Ec hF rfl rfl ?_ | refine od_Ec rfl rfl ?_); refine ⟨_, _, _, a_yc, ?_, ?_⟩ <;> (intro hc; try exact a_cut hc)) | ((first | (refine od_act a_nd ?_; intro K2 hK2) | refine od_last a_nd ?_ | skip); (first | (refine on_buildSlice (T := 25) (e := 3) (k := 1) (by_ := 8) hF rfl rfl rfl rfl rfl rfl (by kernel_rfl) a_cel (Nat.le_of_ble_eq_true rfl) (fun b => ?_)) | (refine on_append (T := 25) (e := 3) (k := 1) (by_ := 8) hF rfl rfl rfl rfl rfl a_pick (by kernel_rfl) a_sl a_cel a_bnd a_bnd (fun v => ?_)) | (refine on_alloc hF rfl Tryz.zeroValue33 rfl rfl (fun B => ?_)) | (refine on_box hF rfl rfl rfl rfl (fun B => ?_)) | (refine on_store hF rfl rfl rfl rfl a_turn a_vof a_sz ?_) | (refine on_storeE hF rfl rfl rfl rfl a_turn a_om a_vof a_sz ?_) | (refine on_storeEF hF rfl rfl rfl rfl a_turn a_as (by decide) a_vof rfl ?_) | (refine on_storeF hF rfl rfl rfl rfl a_turn (by decide) a_vof rfl ?_)) <;> try (refine hK2 _ _ _ a_allK ?_; clear hK2 K2))) <;> (refine hK _ _ _ ?_; clear hK K)) | with_reducible (first | refine nx_seq ?_ | refine nx_region ?_ | refine nl_nil ?_ | refine nq_then_n ?_ | refine nx_block ?_ | refine nx_skip ?_ | refine nx_exit ?_ | refine nx_ret ?_ | refine nq_then_x ?_ | refine nq_then_r ?_ | refine nq_blk_n ?_ | refine nq_blk_r ?_ | refine nq_blk_hit ?_ | refine nq_blk_miss rfl ?_ | refine nd_nil ?_) | refine nx_cond_t rfl ?_ | refine nx_cond_f rfl ?_ | refine nl_pass hF rfl rfl rfl ?_ | refine nd_pass rfl rfl rfl rfl rfl ?_ | refine nd_pass2 rfl rfl rfl a_nd a_allK rfl rfl ?_ | refine nd_pass3 rfl rfl rfl a_nd rfl rfl ?_ | (with_reducible refine hQ1 _ _ _ ?_; clear hQ1 Q1) | (refine nd_region (id := 6) hF [0, 1, 0, 0, 0, 1, 0, 0, 1, 0, 1, 1, 0, 0, 0, 0, 0, 0, 0, 1, 0, 0, 0, 0, 0, 0, 0, 1, 2, 0] [0, 1, 2, 3, 4, 5, 6, 7, 8, 9, 10, 11, 12, 13, 14, 15, 16, 17, 18, 19, 20, 21, 22, 23, 24, 25, 26, 27, 28, 29] _ _ (by kernel_rfl) (by kernel_rfl) sub2_same ?_; intro Q1 hQ1))
  refine nx_loop (ι := { p : List Int × Int // ∃ post, allL L = p.1 ++ p.2 :: post } × SV) (fun p => [(0, .slice sa (L.map It2.v).length sc), (3, p.2.1)]) (fun _ => R) (fun p => RowC 3 1 p.2.1 ((p.1.1.1 ++ [p.1.1.2]).map (.int .i64)) :: C) (fun p => (allL L).length - p.1.1.1.length) (⟨([], 1), all_head L⟩, ⟨_, _, _, _, rfl⟩) (by exact a_sub) (by exact a_subR) (by exact a_holds) (fun p => ?_)
  obtain ⟨⟨⟨pre, u⟩, hpost⟩, v⟩ := p
  dsimp only at hpost ⊢
  obtain ⟨v, va, vn, vc, rfl⟩ := v
  dsimp only
  refine nx_len (e := 3) (k := 1) (by exact a_mem) (fun hlen => ?_)
  have hvn : vn = pre.length + 1 := by simpa using hlen
  clear hlen
  have hpl : pre.length + 1 ≤ L.length + 1 := by obtain ⟨post, e⟩ := hpost; rw [e] at hal; simp at hal; omega
  obtain ⟨xs, hxs⟩ : ∃ xs, (pre ++ [u]).map (Value.int .i64) = xs := ⟨_, rfl⟩
  have hxl : xs.length = pre.length + 1 := by rw [← hxs]; simp
  have hget : xs[((xs.length : Int) - 1).toNat]? = some (.int .i64 u) := by rw [hxl, show (((pre.length + 1 : Nat) : Int) - 1).toNat = pre.length by omega, ← hxs]; simp
  rw [hxs]
  obtain rfl : vn = xs.length := by omega
  clear hvn
  repeat' (first | ((first | with_reducible refine nl_op rfl ?_ | refine nd_go rfl rfl rfl ?_); intro K hK; (first | ((first | refine on_E hF rfl rfl ?_ | refine od_E rfl rfl ?_ | refine od_R rfl rfl ?_); (first | refine ⟨_, a_yl, ?_⟩ | refine ⟨_, (by first | exact yl_fieldB (T := 33) (f := 1) (q := 1) rfl rfl (by kernel_rfl) | exact yl_fieldE (T := 33) (f := 1) (j := 1) rfl rfl a_sl a_om (by kernel_rfl) | exact yl_fieldB (T := 33) (f := 2) (q := 2) rfl rfl (by kernel_rfl) | exact yl_fieldE (T := 33) (f := 2) (j := 2) rfl rfl a_sl a_om (by kernel_rfl)), ?_⟩)) | ((first | refine on_Ec hF rfl rfl ?_ | refine od_Ec rfl rfl ?_); refine ⟨_, _, _, a_yc, ?_, ?_⟩ <;> (intro hc; try exact a_cut hc)) | ((first | (refine od_act a_nd ?_; intro K2 hK2) | refine od_last a_nd ?_ | skip); (first | (refine on_buildSlice (T := 25) (e := 3) (k := 1) (by_ := 8) hF rfl rfl rfl rfl rfl rfl (by kernel_rfl) a_cel (Nat.le_of_ble_eq_true rfl) (fun b => ?_)) | (refine on_append (T := 25) (e := 3) (k := 1) (by_ := 8) hF rfl rfl rfl rfl rfl a_pick (by kernel_rfl) a_sl a_cel a_bnd a_bnd (fun v => ?_)) | (refine on_alloc hF rfl Tryz.zeroValue33 rfl rfl (fun B => ?_)) | (refine on_box hF rfl rfl rfl rfl (fun B => ?_)) | (refine on_store hF rfl rfl rfl rfl a_turn a_vof a_sz ?_) | (refine on_storeE hF rfl rfl rfl rfl a_turn a_om a_vof a_sz ?_) | (refine on_storeEF hF rfl rfl rfl rfl a_turn a_as (by decide) a_vof rfl ?_) | (refine on_storeF hF rfl rfl rfl rfl a_turn (by decide) a_vof rfl ?_)) <;> try (refine hK2 _ _ _ a_allK ?_; clear hK2 K2))) <;> (refine hK _ _ _ ?_; clear hK K)) | with_reducible (first | refine nx_seq ?_ | refine nx_region ?_ | refine nl_nil ?_ | refine nq_then_n ?_ | refine nx_block ?_ | refine nx_skip ?_ | refine nx_exit ?_ | refine nx_ret ?_ | refine nq_then_x ?_ | refine nq_then_r ?_ | refine nq_blk_n ?_ | refine nq_blk_r ?_ | refine nq_blk_hit ?_ | refine nq_blk_miss rfl ?_ | refine nd_nil ?_) | refine nx_cond_t rfl ?_ | refine nx_cond_f rfl ?_ | refine nl_pass hF rfl rfl rfl ?_ | refine nd_pass rfl rfl rfl rfl rfl ?_ | refine nd_pass2 rfl rfl rfl a_nd a_allK rfl rfl ?_ | refine nd_pass3 rfl rfl rfl a_nd rfl rfl ?_ | (with_reducible refine hQ1 _ _ _ ?_; clear hQ1 Q1) | (refine nd_region (id := 6) hF [0, 1, 0, 0, 0, 1, 0, 0, 1, 0, 1, 1, 0, 0, 0, 0, 0, 0, 0, 1, 0, 0, 0, 0, 0, 0, 0, 1, 2, 0] [0, 1, 2, 3, 4, 5, 6, 7, 8, 9, 10, 11, 12, 13, 14, 15, 16, 17, 18, 19, 20, 21, 22, 23, 24, 25, 26, 27, 28, 29] _ _ (by kernel_rfl) (by kernel_rfl) sub2_same ?_; intro Q1 hQ1))
  refine nx_loop (ι := { p : Nat × Int // p.1 ≤ L.length ∧ BestI L u (L.take p.1) p.2 }) (fun p => [(0, .slice sa (L.map It2.v).length sc), (3, .slice va xs.length vc), (4, .int .i64 p.1.2), (8, .slice sa (L.map It2.v).length sc), (9, .int .i64 ((L.map It2.v).length : Int)), (10, .int .i64 (p.1.1 : Int))]) (fun _ => R) (fun _ => RowC 3 1 (.slice va xs.length vc) xs :: C) (fun p => L.length - p.1.1) ⟨(0, 0), Nat.zero_le _, BestI.nil L u⟩ (by exact a_sub) (by exact a_subR) (by exact a_holds) (fun p => ?_)
  obtain ⟨⟨i, bst⟩, hi, hbest⟩ := p
  dsimp only at hi hbest ⊢
  by_cases hlt : i < L.length
  · obtain ⟨x, hx⟩ : ∃ x, L[i]? = some x := ⟨L[i], by simp [hlt]⟩
    have hxm : x ∈ L := List.mem_of_getElem? hx
    have hxv : (L.map It2.v)[i]? = some x.v := by rw [List.getElem?_map, hx]; rfl
    have hvx := x.vof (hok x hxm)
    have hxo := hok x hxm
    have htk : L.take (i + 1) = L.take i ++ [x] := by rw [List.take_add_one, hx]; rfl
    have kc := fun (W0 : World) (X : Nat → Prop) (R C : List Ch) h => known_ct L hok hm x.tl.toNat x.tl (Nat.le_refl _) W0 X R C _ hs0 h
    have hkn := fun h h2 => isKn_mk (L := L) (x := x) h h2
    have htake := fun h1 h2 h3 => hbest.take (x := x) h1 h2 h3
    have hskip := fun h => hbest.skip (x := x) h
    have hik : isKn L x = (decide (x.kind = 4) && knownL L x.tl) := rfl
    rw [← htk] at htake hskip
    obtain ⟨d1, kind, tl, d4, a, d6, par, d8, e⟩ := x
    obtain ⟨ea, en, ec, rfl⟩ : IsSl e := hxo
    dsimp only at kc hkn htake hskip hik
    by_cases h1 : kind = 4 ∧ u < tl ∧ (bst = 0 ∨ tl < bst)
    · obtain ⟨rfl, h2, h3⟩ := h1
      cases hk : knownL L tl with
      | true =>
        rw [hk] at kc
        have hb := htake (by rw [hik, hk]; rfl) h2 h3
        by_cases hb0 : bst = 0
        · subst hb0
          repeat' (first | ((first | with_reducible refine nl_op rfl ?_ | refine nd_go rfl rfl rfl ?_); intro K hK; (first | ((first | refine on_E hF rfl rfl ?_ | refine od_E rfl rfl ?_ | refine od_R rfl rfl ?_); (first | refine ⟨_, a_yl, ?_⟩ | refine ⟨_, (by first | exact yl_fieldB (T := 33) (f := 1) (q := 1) rfl rfl (by kernel_rfl) | exact yl_fieldE (T := 33) (f := 1) (j := 1) rfl rfl a_sl a_om (by kernel_rfl) | exact yl_fieldB (T := 33) (f := 2) (q := 2) rfl rfl (by kernel_rfl) | exact yl_fieldE (T := 33) (f := 2) (j := 2) rfl rfl a_sl a_om (by kernel_rfl)), ?_⟩)) | ((first | refine on_Ec hF rfl rfl ?_ | refine od_Ec rfl rfl ?_); refine ⟨_, _, _, a_yc, ?_, ?_⟩ <;> (intro hc; try exact a_cut hc)) | ((first | (refine od_act a_nd ?_; intro K2 hK2) | refine od_last a_nd ?_ | skip); (first | (refine on_callG hF (enters_of Tryz.func34 (by kernel_rfl) rfl) rfl rfl rfl rfl (kc _ _ _ _ (by exact a_mem)) (fun _ => ?_)) | (refine on_buildSlice (T := 25) (e := 3) (k := 1) (by_ := 8) hF rfl rfl rfl rfl rfl rfl (by kernel_rfl) a_cel (Nat.le_of_ble_eq_true rfl) (fun b => ?_)) | (refine on_append (T := 25) (e := 3) (k := 1) (by_ := 8) hF rfl rfl rfl rfl rfl a_pick (by kernel_rfl) a_sl a_cel a_bnd a_bnd (fun v => ?_)) | (refine on_alloc hF rfl Tryz.zeroValue33 rfl rfl (fun B => ?_)) | (refine on_box hF rfl rfl rfl rfl (fun B => ?_)) | (refine on_store hF rfl rfl rfl rfl a_turn a_vof a_sz ?_) | (refine on_storeE hF rfl rfl rfl rfl a_turn a_om a_vof a_sz ?_) | (refine on_storeEF hF rfl rfl rfl rfl a_turn a_as (by decide) a_vof rfl ?_) | (refine on_storeF hF rfl rfl rfl rfl a_turn (by decide) a_vof rfl ?_)) <;> try (refine hK2 _ _ _ a_allK ?_; clear hK2 K2))) <;> (refine hK _ _ _ ?_; clear hK K)) | with_reducible (first | refine nx_seq ?_ | refine nx_region ?_ | refine nl_nil ?_ | refine nq_then_n ?_ | refine nx_block ?_ | refine nx_skip ?_ | refine nx_exit ?_ | refine nx_ret ?_ | refine nq_then_x ?_ | refine nq_then_r ?_ | refine nq_blk_n ?_ | refine nq_blk_r ?_ | refine nq_blk_hit ?_ | refine nq_blk_miss rfl ?_ | refine nd_nil ?_) | refine nx_cond_t rfl ?_ | refine nx_cond_f rfl ?_ | refine nl_pass hF rfl rfl rfl ?_ | refine nd_pass rfl rfl rfl rfl rfl ?_ | refine nd_pass2 rfl rfl rfl a_nd a_allK rfl rfl ?_ | refine nd_pass3 rfl rfl rfl a_nd rfl rfl ?_ | (with_reducible refine hQ1 _ _ _ ?_; clear hQ1 Q1) | (refine nd_region (id := 6) hF [0, 1, 0, 0, 0, 1, 0, 0, 1, 0, 1, 1, 0, 0, 0, 0, 0, 0, 0, 1, 0, 0, 0, 0, 0, 0, 0, 1, 2, 0] [0, 1, 2, 3, 4, 5, 6, 7, 8, 9, 10, 11, 12, 13, 14, 15, 16, 17, 18, 19, 20, 21, 22, 23, 24, 25, 26, 27, 28, 29] _ _ (by kernel_rfl) (by kernel_rfl) sub2_same ?_; intro Q1 hQ1))
          all_goals (first
            | (exfalso; dsimp only at *; omega)
            | refine nx_again ⟨(i + 1, tl), by dsimp only; omega, hb⟩ (by dsimp only; omega) (by exact a_sub) (by exact a_subR) (by exact a_holds))
        · have h4 : tl < bst := by omega
          repeat' (first | ((first | with_reducible refine nl_op rfl ?_ | refine nd_go rfl rfl rfl ?_); intro K hK; (first | ((first | refine on_E hF rfl rfl ?_ | refine od_E rfl rfl ?_ | refine od_R rfl rfl ?_); (first | refine ⟨_, a_yl, ?_⟩ | refine ⟨_, (by first | exact yl_fieldB (T := 33) (f := 1) (q := 1) rfl rfl (by kernel_rfl) | exact yl_fieldE (T := 33) (f := 1) (j := 1) rfl rfl a_sl a_om (by kernel_rfl) | exact yl_fieldB (T := 33) (f := 2) (q := 2) rfl rfl (by kernel_rfl) | exact yl_fieldE (T := 33) (f := 2) (j := 2) rfl rfl a_sl a_om (by kernel_rfl)), ?_⟩)) | ((first | refine on_Ec hF rfl rfl ?_ | refine od_Ec rfl rfl ?_); refine ⟨_, _, _, a_yc, ?_, ?_⟩ <;> (intro hc; try exact a_cut hc)) | ((first | (refine od_act a_nd ?_; intro K2 hK2) | refine od_last a_nd ?_ | skip); (first | (refine on_callG hF (enters_of Tryz.func34 (by kernel_rfl) rfl) rfl rfl rfl rfl (kc _ _ _ _ (by exact a_mem)) (fun _ => ?_)) | (refine on_buildSlice (T := 25) (e := 3) (k := 1) (by_ := 8) hF rfl rfl rfl rfl rfl rfl (by kernel_rfl) a_cel (Nat.le_of_ble_eq_true rfl) (fun b => ?_)) | (refine on_append (T := 25) (e := 3) (k := 1) (by_ := 8) hF rfl rfl rfl rfl rfl a_pick (by kernel_rfl) a_sl a_cel a_bnd a_bnd (fun v => ?_)) | (refine on_alloc hF rfl Tryz.zeroValue33 rfl rfl (fun B => ?_)) | (refine on_box hF rfl rfl rfl rfl (fun B => ?_)) | (refine on_store hF rfl rfl rfl rfl a_turn a_vof a_sz ?_) | (refine on_storeE hF rfl rfl rfl rfl a_turn a_om a_vof a_sz ?_) | (refine on_storeEF hF rfl rfl rfl rfl a_turn a_as (by decide) a_vof rfl ?_) | (refine on_storeF hF rfl rfl rfl rfl a_turn (by decide) a_vof rfl ?_)) <;> try (refine hK2 _ _ _ a_allK ?_; clear hK2 K2))) <;> (refine hK _ _ _ ?_; clear hK K)) | with_reducible (first | refine nx_seq ?_ | refine nx_region ?_ | refine nl_nil ?_ | refine nq_then_n ?_ | refine nx_block ?_ | refine nx_skip ?_ | refine nx_exit ?_ | refine nx_ret ?_ | refine nq_then_x ?_ | refine nq_then_r ?_ | refine nq_blk_n ?_ | refine nq_blk_r ?_ | refine nq_blk_hit ?_ | refine nq_blk_miss rfl ?_ | refine nd_nil ?_) | refine nx_cond_t rfl ?_ | refine nx_cond_f rfl ?_ | refine nl_pass hF rfl rfl rfl ?_ | refine nd_pass rfl rfl rfl rfl rfl ?_ | refine nd_pass2 rfl rfl rfl a_nd a_allK rfl rfl ?_ | refine nd_pass3 rfl rfl rfl a_nd rfl rfl ?_ | (with_reducible refine hQ1 _ _ _ ?_; clear hQ1 Q1) | (refine nd_region (id := 6) hF [0, 1, 0, 0, 0, 1, 0, 0, 1, 0, 1, 1, 0, 0, 0, 0, 0, 0, 0, 1, 0, 0, 0, 0, 0, 0, 0, 1, 2, 0] [0, 1, 2, 3, 4, 5, 6, 7, 8, 9, 10, 11, 12, 13, 14, 15, 16, 17, 18, 19, 20, 21, 22, 23, 24, 25, 26, 27, 28, 29] _ _ (by kernel_rfl) (by kernel_rfl) sub2_same ?_; intro Q1 hQ1))
          all_goals (first
            | (exfalso; dsimp only at *; omega)
            | refine nx_again ⟨(i + 1, tl), by dsimp only; omega, hb⟩ (by dsimp only; omega) (by exact a_sub) (by exact a_subR) (by exact a_holds))
      | false =>
        rw [hk] at kc
        have hb := hskip (fun h => by rw [hik, hk] at h; simp at h)
        by_cases hb0 : bst = 0
        · subst hb0
          repeat' (first | ((first | with_reducible refine nl_op rfl ?_ | refine nd_go rfl rfl rfl ?_); intro K hK; (first | ((first | refine on_E hF rfl rfl ?_ | refine od_E rfl rfl ?_ | refine od_R rfl rfl ?_); (first | refine ⟨_, a_yl, ?_⟩ | refine ⟨_, (by first | exact yl_fieldB (T := 33) (f := 1) (q := 1) rfl rfl (by kernel_rfl) | exact yl_fieldE (T := 33) (f := 1) (j := 1) rfl rfl a_sl a_om (by kernel_rfl) | exact yl_fieldB (T := 33) (f := 2) (q := 2) rfl rfl (by kernel_rfl) | exact yl_fieldE (T := 33) (f := 2) (j := 2) rfl rfl a_sl a_om (by kernel_rfl)), ?_⟩)) | ((first | refine on_Ec hF rfl rfl ?_ | refine od_Ec rfl rfl ?_); refine ⟨_, _, _, a_yc, ?_, ?_⟩ <;> (intro hc; try exact a_cut hc)) | ((first | (refine od_act a_nd ?_; intro K2 hK2) | refine od_last a_nd ?_ | skip); (first | (refine on_callG hF (enters_of Tryz.func34 (by kernel_rfl) rfl) rfl rfl rfl rfl (kc _ _ _ _ (by exact a_mem)) (fun _ => ?_)) | (refine on_buildSlice (T := 25) (e := 3) (k := 1) (by_ := 8) hF rfl rfl rfl rfl rfl rfl (by kernel_rfl) a_cel (Nat.le_of_ble_eq_true rfl) (fun b => ?_)) | (refine on_append (T := 25) (e := 3) (k := 1) (by_ := 8) hF rfl rfl rfl rfl rfl a_pick (by kernel_rfl) a_sl a_cel a_bnd a_bnd (fun v => ?_)) | (refine on_alloc hF rfl Tryz.zeroValue33 rfl rfl (fun B => ?_)) | (refine on_box hF rfl rfl rfl rfl (fun B => ?_)) | (refine on_store hF rfl rfl rfl rfl a_turn a_vof a_sz ?_) | (refine on_storeE hF rfl rfl rfl rfl a_turn a_om a_vof a_sz ?_) | (refine on_storeEF hF rfl rfl rfl rfl a_turn a_as (by decide) a_vof rfl ?_) | (refine on_storeF hF rfl rfl rfl rfl a_turn (by decide) a_vof rfl ?_)) <;> try (refine hK2 _ _ _ a_allK ?_; clear hK2 K2))) <;> (refine hK _ _ _ ?_; clear hK K)) | with_reducible (first | refine nx_seq ?_ | refine nx_region ?_ | refine nl_nil ?_ | refine nq_then_n ?_ | refine nx_block ?_ | refine nx_skip ?_ | refine nx_exit ?_ | refine nx_ret ?_ | refine nq_then_x ?_ | refine nq_then_r ?_ | refine nq_blk_n ?_ | refine nq_blk_r ?_ | refine nq_blk_hit ?_ | refine nq_blk_miss rfl ?_ | refine nd_nil ?_) | refine nx_cond_t rfl ?_ | refine nx_cond_f rfl ?_ | refine nl_pass hF rfl rfl rfl ?_ | refine nd_pass rfl rfl rfl rfl rfl ?_ | refine nd_pass2 rfl rfl rfl a_nd a_allK rfl rfl ?_ | refine nd_pass3 rfl rfl rfl a_nd rfl rfl ?_ | (with_reducible refine hQ1 _ _ _ ?_; clear hQ1 Q1) | (refine nd_region (id := 6) hF [0, 1, 0, 0, 0, 1, 0, 0, 1, 0, 1, 1, 0, 0, 0, 0, 0, 0, 0, 1, 0, 0, 0, 0, 0, 0, 0, 1, 2, 0] [0, 1, 2, 3, 4, 5, 6, 7, 8, 9, 10, 11, 12, 13, 14, 15, 16, 17, 18, 19, 20, 21, 22, 23, 24, 25, 26, 27, 28, 29] _ _ (by kernel_rfl) (by kernel_rfl) sub2_same ?_; intro Q1 hQ1))
          all_goals (first
            | (exfalso; dsimp only at *; omega)
            | refine nx_again ⟨(i + 1, 0), by dsimp only; omega, hb⟩ (by dsimp only; omega) (by exact a_sub) (by exact a_subR) (by exact a_holds))
        · have h4 : tl < bst := by omega
          repeat' (first | ((first | with_reducible refine nl_op rfl ?_ | refine nd_go rfl rfl rfl ?_); intro K hK; (first | ((first | refine on_E hF rfl rfl ?_ | refine od_E rfl rfl ?_ | refine od_R rfl rfl ?_); (first | refine ⟨_, a_yl, ?_⟩ | refine ⟨_, (by first | exact yl_fieldB (T := 33) (f := 1) (q := 1) rfl rfl (by kernel_rfl) | exact yl_fieldE (T := 33) (f := 1) (j := 1) rfl rfl a_sl a_om (by kernel_rfl) | exact yl_fieldB (T := 33) (f := 2) (q := 2) rfl rfl (by kernel_rfl) | exact yl_fieldE (T := 33) (f := 2) (j := 2) rfl rfl a_sl a_om (by kernel_rfl)), ?_⟩)) | ((first | refine on_Ec hF rfl rfl ?_ | refine od_Ec rfl rfl ?_); refine ⟨_, _, _, a_yc, ?_, ?_⟩ <;> (intro hc; try exact a_cut hc)) | ((first | (refine od_act a_nd ?_; intro K2 hK2) | refine od_last a_nd ?_ | skip); (first | (refine on_callG hF (enters_of Tryz.func34 (by kernel_rfl) rfl) rfl rfl rfl rfl (kc _ _ _ _ (by exact a_mem)) (fun _ => ?_)) | (refine on_buildSlice (T := 25) (e := 3) (k := 1) (by_ := 8) hF rfl rfl rfl rfl rfl rfl (by kernel_rfl) a_cel (Nat.le_of_ble_eq_true rfl) (fun b => ?_)) | (refine on_append (T := 25) (e := 3) (k := 1) (by_ := 8) hF rfl rfl rfl rfl rfl a_pick (by kernel_rfl) a_sl a_cel a_bnd a_bnd (fun v => ?_)) | (refine on_alloc hF rfl Tryz.zeroValue33 rfl rfl (fun B => ?_)) | (refine on_box hF rfl rfl rfl rfl (fun B => ?_)) | (refine on_store hF rfl rfl rfl rfl a_turn a_vof a_sz ?_) | (refine on_storeE hF rfl rfl rfl rfl a_turn a_om a_vof a_sz ?_) | (refine on_storeEF hF rfl rfl rfl rfl a_turn a_as (by decide) a_vof rfl ?_) | (refine on_storeF hF rfl rfl rfl rfl a_turn (by decide) a_vof rfl ?_)) <;> try (refine hK2 _ _ _ a_allK ?_; clear hK2 K2))) <;> (refine hK _ _ _ ?_; clear hK K)) | with_reducible (first | refine nx_seq ?_ | refine nx_region ?_ | refine nl_nil ?_ | refine nq_then_n ?_ | refine nx_block ?_ | refine nx_skip ?_ | refine nx_exit ?_ | refine nx_ret ?_ | refine nq_then_x ?_ | refine nq_then_r ?_ | refine nq_blk_n ?_ | refine nq_blk_r ?_ | refine nq_blk_hit ?_ | refine nq_blk_miss rfl ?_ | refine nd_nil ?_) | refine nx_cond_t rfl ?_ | refine nx_cond_f rfl ?_ | refine nl_pass hF rfl rfl rfl ?_ | refine nd_pass rfl rfl rfl rfl rfl ?_ | refine nd_pass2 rfl rfl rfl a_nd a_allK rfl rfl ?_ | refine nd_pass3 rfl rfl rfl a_nd rfl rfl ?_ | (with_reducible refine hQ1 _ _ _ ?_; clear hQ1 Q1) | (refine nd_region (id := 6) hF [0, 1, 0, 0, 0, 1, 0, 0, 1, 0, 1, 1, 0, 0, 0, 0, 0, 0, 0, 1, 0, 0, 0, 0, 0, 0, 0, 1, 2, 0] [0, 1, 2, 3, 4, 5, 6, 7, 8, 9, 10, 11, 12, 13, 14, 15, 16, 17, 18, 19, 20, 21, 22, 23, 24, 25, 26, 27, 28, 29] _ _ (by kernel_rfl) (by kernel_rfl) sub2_same ?_; intro Q1 hQ1))
          all_goals (first
            | (exfalso; dsimp only at *; omega)
            | refine nx_again ⟨(i + 1, bst), by dsimp only; omega, hb⟩ (by dsimp only; omega) (by exact a_sub) (by exact a_subR) (by exact a_holds))
    · have hb := hskip (fun h h2 => by
        rw [hik] at h; simp at h
        exact ⟨fun h3 => h1 ⟨h.1, h2, .inl h3⟩, by
          by_cases h4 : bst ≤ tl
          · exact h4
          · exact absurd ⟨h.1, h2, .inr (by omega)⟩ h1⟩)
      by_cases hk4 : kind = 4
      · by_cases hu : u < tl
        · have h4 : ¬ bst = 0 ∧ ¬ tl < bst := ⟨fun h => h1 ⟨hk4, hu, .inl h⟩, fun h => h1 ⟨hk4, hu, .inr h⟩⟩
          obtain ⟨h5, h6⟩ := h4
          clear h1
          repeat' (first | ((first | with_reducible refine nl_op rfl ?_ | refine nd_go rfl rfl rfl ?_); intro K hK; (first | ((first | refine on_E hF rfl rfl ?_ | refine od_E rfl rfl ?_ | refine od_R rfl rfl ?_); (first | refine ⟨_, a_yl, ?_⟩ | refine ⟨_, (by first | exact yl_fieldB (T := 33) (f := 1) (q := 1) rfl rfl (by kernel_rfl) | exact yl_fieldE (T := 33) (f := 1) (j := 1) rfl rfl a_sl a_om (by kernel_rfl) | exact yl_fieldB (T := 33) (f := 2) (q := 2) rfl rfl (by kernel_rfl) | exact yl_fieldE (T := 33) (f := 2) (j := 2) rfl rfl a_sl a_om (by kernel_rfl)), ?_⟩)) | ((first | refine on_Ec hF rfl rfl ?_ | refine od_Ec rfl rfl ?_); refine ⟨_, _, _, a_yc, ?_, ?_⟩ <;> (intro hc; try exact a_cut hc)) | ((first | (refine od_act a_nd ?_; intro K2 hK2) | refine od_last a_nd ?_ | skip); (first | (refine on_buildSlice (T := 25) (e := 3) (k := 1) (by_ := 8) hF rfl rfl rfl rfl rfl rfl (by kernel_rfl) a_cel (Nat.le_of_ble_eq_true rfl) (fun b => ?_)) | (refine on_append (T := 25) (e := 3) (k := 1) (by_ := 8) hF rfl rfl rfl rfl rfl a_pick (by kernel_rfl) a_sl a_cel a_bnd a_bnd (fun v => ?_)) | (refine on_alloc hF rfl Tryz.zeroValue33 rfl rfl (fun B => ?_)) | (refine on_box hF rfl rfl rfl rfl (fun B => ?_)) | (refine on_store hF rfl rfl rfl rfl a_turn a_vof a_sz ?_) | (refine on_storeE hF rfl rfl rfl rfl a_turn a_om a_vof a_sz ?_) | (refine on_storeEF hF rfl rfl rfl rfl a_turn a_as (by decide) a_vof rfl ?_) | (refine on_storeF hF rfl rfl rfl rfl a_turn (by decide) a_vof rfl ?_)) <;> try (refine hK2 _ _ _ a_allK ?_; clear hK2 K2))) <;> (refine hK _ _ _ ?_; clear hK K)) | with_reducible (first | refine nx_seq ?_ | refine nx_region ?_ | refine nl_nil ?_ | refine nq_then_n ?_ | refine nx_block ?_ | refine nx_skip ?_ | refine nx_exit ?_ | refine nx_ret ?_ | refine nq_then_x ?_ | refine nq_then_r ?_ | refine nq_blk_n ?_ | refine nq_blk_r ?_ | refine nq_blk_hit ?_ | refine nq_blk_miss rfl ?_ | refine nd_nil ?_) | refine nx_cond_t rfl ?_ | refine nx_cond_f rfl ?_ | refine nl_pass hF rfl rfl rfl ?_ | refine nd_pass rfl rfl rfl rfl rfl ?_ | refine nd_pass2 rfl rfl rfl a_nd a_allK rfl rfl ?_ | refine nd_pass3 rfl rfl rfl a_nd rfl rfl ?_ | (with_reducible refine hQ1 _ _ _ ?_; clear hQ1 Q1) | (refine nd_region (id := 6) hF [0, 1, 0, 0, 0, 1, 0, 0, 1, 0, 1, 1, 0, 0, 0, 0, 0, 0, 0, 1, 0, 0, 0, 0, 0, 0, 0, 1, 2, 0] [0, 1, 2, 3, 4, 5, 6, 7, 8, 9, 10, 11, 12, 13, 14, 15, 16, 17, 18, 19, 20, 21, 22, 23, 24, 25, 26, 27, 28, 29] _ _ (by kernel_rfl) (by kernel_rfl) sub2_same ?_; intro Q1 hQ1))
          all_goals (first
            | (exfalso; dsimp only at *; omega)
            | refine nx_again ⟨(i + 1, bst), by dsimp only; omega, hb⟩ (by dsimp only; omega) (by exact a_sub) (by exact a_subR) (by exact a_holds))
        · clear h1
          repeat' (first | ((first | with_reducible refine nl_op rfl ?_ | refine nd_go rfl rfl rfl ?_); intro K hK; (first | ((first | refine on_E hF rfl rfl ?_ | refine od_E rfl rfl ?_ | refine od_R rfl rfl ?_); (first | refine ⟨_, a_yl, ?_⟩ | refine ⟨_, (by first | exact yl_fieldB (T := 33) (f := 1) (q := 1) rfl rfl (by kernel_rfl) | exact yl_fieldE (T := 33) (f := 1) (j := 1) rfl rfl a_sl a_om (by kernel_rfl) | exact yl_fieldB (T := 33) (f := 2) (q := 2) rfl rfl (by kernel_rfl) | exact yl_fieldE (T := 33) (f := 2) (j := 2) rfl rfl a_sl a_om (by kernel_rfl)), ?_⟩)) | ((first | refine on_Ec hF rfl rfl ?_ | refine od_Ec rfl rfl ?_); refine ⟨_, _, _, a_yc, ?_, ?_⟩ <;> (intro hc; try exact a_cut hc)) | ((first | (refine od_act a_nd ?_; intro K2 hK2) | refine od_last a_nd ?_ | skip); (first | (refine on_buildSlice (T := 25) (e := 3) (k := 1) (by_ := 8) hF rfl rfl rfl rfl rfl rfl (by kernel_rfl) a_cel (Nat.le_of_ble_eq_true rfl) (fun b => ?_)) | (refine on_append (T := 25) (e := 3) (k := 1) (by_ := 8) hF rfl rfl rfl rfl rfl a_pick (by kernel_rfl) a_sl a_cel a_bnd a_bnd (fun v => ?_)) | (refine on_alloc hF rfl Tryz.zeroValue33 rfl rfl (fun B => ?_)) | (refine on_box hF rfl rfl rfl rfl (fun B => ?_)) | (refine on_store hF rfl rfl rfl rfl a_turn a_vof a_sz ?_) | (refine on_storeE hF rfl rfl rfl rfl a_turn a_om a_vof a_sz ?_) | (refine on_storeEF hF rfl rfl rfl rfl a_turn a_as (by decide) a_vof rfl ?_) | (refine on_storeF hF rfl rfl rfl rfl a_turn (by decide) a_vof rfl ?_)) <;> try (refine hK2 _ _ _ a_allK ?_; clear hK2 K2))) <;> (refine hK _ _ _ ?_; clear hK K)) | with_reducible (first | refine nx_seq ?_ | refine nx_region ?_ | refine nl_nil ?_ | refine nq_then_n ?_ | refine nx_block ?_ | refine nx_skip ?_ | refine nx_exit ?_ | refine nx_ret ?_ | refine nq_then_x ?_ | refine nq_then_r ?_ | refine nq_blk_n ?_ | refine nq_blk_r ?_ | refine nq_blk_hit ?_ | refine nq_blk_miss rfl ?_ | refine nd_nil ?_) | refine nx_cond_t rfl ?_ | refine nx_cond_f rfl ?_ | refine nl_pass hF rfl rfl rfl ?_ | refine nd_pass rfl rfl rfl rfl rfl ?_ | refine nd_pass2 rfl rfl rfl a_nd a_allK rfl rfl ?_ | refine nd_pass3 rfl rfl rfl a_nd rfl rfl ?_ | (with_reducible refine hQ1 _ _ _ ?_; clear hQ1 Q1) | (refine nd_region (id := 6) hF [0, 1, 0, 0, 0, 1, 0, 0, 1, 0, 1, 1, 0, 0, 0, 0, 0, 0, 0, 1, 0, 0, 0, 0, 0, 0, 0, 1, 2, 0] [0, 1, 2, 3, 4, 5, 6, 7, 8, 9, 10, 11, 12, 13, 14, 15, 16, 17, 18, 19, 20, 21, 22, 23, 24, 25, 26, 27, 28, 29] _ _ (by kernel_rfl) (by kernel_rfl) sub2_same ?_; intro Q1 hQ1))
          all_goals (first
            | (exfalso; dsimp only at *; omega)
            | refine nx_again ⟨(i + 1, bst), by dsimp only; omega, hb⟩ (by dsimp only; omega) (by exact a_sub) (by exact a_subR) (by exact a_holds))
      · clear h1
        repeat' (first | ((first | with_reducible refine nl_op rfl ?_ | refine nd_go rfl rfl rfl ?_); intro K hK; (first | ((first | refine on_E hF rfl rfl ?_ | refine od_E rfl rfl ?_ | refine od_R rfl rfl ?_); (first | refine ⟨_, a_yl, ?_⟩ | refine ⟨_, (by first | exact yl_fieldB (T := 33) (f := 1) (q := 1) rfl rfl (by kernel_rfl) | exact yl_fieldE (T := 33) (f := 1) (j := 1) rfl rfl a_sl a_om (by kernel_rfl) | exact yl_fieldB (T := 33) (f := 2) (q := 2) rfl rfl (by kernel_rfl) | exact yl_fieldE (T := 33) (f := 2) (j := 2) rfl rfl a_sl a_om (by kernel_rfl)), ?_⟩)) | ((first | refine on_Ec hF rfl rfl ?_ | refine od_Ec rfl rfl ?_); refine ⟨_, _, _, a_yc, ?_, ?_⟩ <;> (intro hc; try exact a_cut hc)) | ((first | (refine od_act a_nd ?_; intro K2 hK2) | refine od_last a_nd ?_ | skip); (first | (refine on_buildSlice (T := 25) (e := 3) (k := 1) (by_ := 8) hF rfl rfl rfl rfl rfl rfl (by kernel_rfl) a_cel (Nat.le_of_ble_eq_true rfl) (fun b => ?_)) | (refine on_append (T := 25) (e := 3) (k := 1) (by_ := 8) hF rfl rfl rfl rfl rfl a_pick (by kernel_rfl) a_sl a_cel a_bnd a_bnd (fun v => ?_)) | (refine on_alloc hF rfl Tryz.zeroValue33 rfl rfl (fun B => ?_)) | (refine on_box hF rfl rfl rfl rfl (fun B => ?_)) | (refine on_store hF rfl rfl rfl rfl a_turn a_vof a_sz ?_) | (refine on_storeE hF rfl rfl rfl rfl a_turn a_om a_vof a_sz ?_) | (refine on_storeEF hF rfl rfl rfl rfl a_turn a_as (by decide) a_vof rfl ?_) | (refine on_storeF hF rfl rfl rfl rfl a_turn (by decide) a_vof rfl ?_)) <;> try (refine hK2 _ _ _ a_allK ?_; clear hK2 K2))) <;> (refine hK _ _ _ ?_; clear hK K)) | with_reducible (first | refine nx_seq ?_ | refine nx_region ?_ | refine nl_nil ?_ | refine nq_then_n ?_ | refine nx_block ?_ | refine nx_skip ?_ | refine nx_exit ?_ | refine nx_ret ?_ | refine nq_then_x ?_ | refine nq_then_r ?_ | refine nq_blk_n ?_ | refine nq_blk_r ?_ | refine nq_blk_hit ?_ | refine nq_blk_miss rfl ?_ | refine nd_nil ?_) | refine nx_cond_t rfl ?_ | refine nx_cond_f rfl ?_ | refine nl_pass hF rfl rfl rfl ?_ | refine nd_pass rfl rfl rfl rfl rfl ?_ | refine nd_pass2 rfl rfl rfl a_nd a_allK rfl rfl ?_ | refine nd_pass3 rfl rfl rfl a_nd rfl rfl ?_ | (with_reducible refine hQ1 _ _ _ ?_; clear hQ1 Q1) | (refine nd_region (id := 6) hF [0, 1, 0, 0, 0, 1, 0, 0, 1, 0, 1, 1, 0, 0, 0, 0, 0, 0, 0, 1, 0, 0, 0, 0, 0, 0, 0, 1, 2, 0] [0, 1, 2, 3, 4, 5, 6, 7, 8, 9, 10, 11, 12, 13, 14, 15, 16, 17, 18, 19, 20, 21, 22, 23, 24, 25, 26, 27, 28, 29] _ _ (by kernel_rfl) (by kernel_rfl) sub2_same ?_; intro Q1 hQ1))
        all_goals (first
          | (exfalso; dsimp only at *; omega)
          | refine nx_again ⟨(i + 1, bst), by dsimp only; omega, hb⟩ (by dsimp only; omega) (by exact a_sub) (by exact a_subR) (by exact a_holds))
  · rw [List.take_of_length_le (by omega)] at hbest
    obtain ⟨post, hpo⟩ := hpost
    rcases best_end hbest hpo with ⟨rfl, rfl⟩ | ⟨hb0, p, rfl⟩
    · rw [← hxs, ← hpo] at *
      repeat' (first | ((first | with_reducible refine nl_op rfl ?_ | refine nd_go rfl rfl rfl ?_); intro K hK; (first | ((first | refine on_E hF rfl rfl ?_ | refine od_E rfl rfl ?_ | refine od_R rfl rfl ?_); (first | refine ⟨_, a_yl, ?_⟩ | refine ⟨_, (by first | exact yl_fieldB (T := 33) (f := 1) (q := 1) rfl rfl (by kernel_rfl) | exact yl_fieldE (T := 33) (f := 1) (j := 1) rfl rfl a_sl a_om (by kernel_rfl) | exact yl_fieldB (T := 33) (f := 2) (q := 2) rfl rfl (by kernel_rfl) | exact yl_fieldE (T := 33) (f := 2) (j := 2) rfl rfl a_sl a_om (by kernel_rfl)), ?_⟩)) | ((first | refine on_Ec hF rfl rfl ?_ | refine od_Ec rfl rfl ?_); refine ⟨_, _, _, a_yc, ?_, ?_⟩ <;> (intro hc; try exact a_cut hc)) | ((first | (refine od_act a_nd ?_; intro K2 hK2) | refine od_last a_nd ?_ | skip); (first | (refine on_buildSlice (T := 25) (e := 3) (k := 1) (by_ := 8) hF rfl rfl rfl rfl rfl rfl (by kernel_rfl) a_cel (Nat.le_of_ble_eq_true rfl) (fun b => ?_)) | (refine on_append (T := 25) (e := 3) (k := 1) (by_ := 8) hF rfl rfl rfl rfl rfl a_pick (by kernel_rfl) a_sl a_cel a_bnd a_bnd (fun v => ?_)) | (refine on_alloc hF rfl Tryz.zeroValue33 rfl rfl (fun B => ?_)) | (refine on_box hF rfl rfl rfl rfl (fun B => ?_)) | (refine on_store hF rfl rfl rfl rfl a_turn a_vof a_sz ?_) | (refine on_storeE hF rfl rfl rfl rfl a_turn a_om a_vof a_sz ?_) | (refine on_storeEF hF rfl rfl rfl rfl a_turn a_as (by decide) a_vof rfl ?_) | (refine on_storeF hF rfl rfl rfl rfl a_turn (by decide) a_vof rfl ?_)) <;> try (refine hK2 _ _ _ a_allK ?_; clear hK2 K2))) <;> (refine hK _ _ _ ?_; clear hK K)) | with_reducible (first | refine nx_seq ?_ | refine nx_region ?_ | refine nl_nil ?_ | refine nq_then_n ?_ | refine nx_block ?_ | refine nx_skip ?_ | refine nx_exit ?_ | refine nx_ret ?_ | refine nq_then_x ?_ | refine nq_then_r ?_ | refine nq_blk_n ?_ | refine nq_blk_r ?_ | refine nq_blk_hit ?_ | refine nq_blk_miss rfl ?_ | refine nd_nil ?_) | refine nx_cond_t rfl ?_ | refine nx_cond_f rfl ?_ | refine nl_pass hF rfl rfl rfl ?_ | refine nd_pass rfl rfl rfl rfl rfl ?_ | refine nd_pass2 rfl rfl rfl a_nd a_allK rfl rfl ?_ | refine nd_pass3 rfl rfl rfl a_nd rfl rfl ?_ | (with_reducible refine hQ1 _ _ _ ?_; clear hQ1 Q1) | (refine nd_region (id := 6) hF [0, 1, 0, 0, 0, 1, 0, 0, 1, 0, 1, 1, 0, 0, 0, 0, 0, 0, 0, 1, 0, 0, 0, 0, 0, 0, 0, 1, 2, 0] [0, 1, 2, 3, 4, 5, 6, 7, 8, 9, 10, 11, 12, 13, 14, 15, 16, 17, 18, 19, 20, 21, 22, 23, 24, 25, 26, 27, 28, 29] _ _ (by kernel_rfl) (by kernel_rfl) sub2_same ?_; intro Q1 hQ1))
      refine nx_end [] rfl (⟨_, _, _, _, rfl⟩) (fun a w ha hw => res_tmp Tryz.results19 rfl ha) (by exact a_subR) (by exact a_holds2)
    · repeat' (first | ((first | with_reducible refine nl_op rfl ?_ | refine nd_go rfl rfl rfl ?_); intro K hK; (first | ((first | refine on_E hF rfl rfl ?_ | refine od_E rfl rfl ?_ | refine od_R rfl rfl ?_); (first | refine ⟨_, a_yl, ?_⟩ | refine ⟨_, (by first | exact yl_fieldB (T := 33) (f := 1) (q := 1) rfl rfl (by kernel_rfl) | exact yl_fieldE (T := 33) (f := 1) (j := 1) rfl rfl a_sl a_om (by kernel_rfl) | exact yl_fieldB (T := 33) (f := 2) (q := 2) rfl rfl (by kernel_rfl) | exact yl_fieldE (T := 33) (f := 2) (j := 2) rfl rfl a_sl a_om (by kernel_rfl)), ?_⟩)) | ((first | refine on_Ec hF rfl rfl ?_ | refine od_Ec rfl rfl ?_); refine ⟨_, _, _, a_yc, ?_, ?_⟩ <;> (intro hc; try exact a_cut hc)) | ((first | (refine od_act a_nd ?_; intro K2 hK2) | refine od_last a_nd ?_ | skip); (first | (refine on_buildSlice (T := 25) (e := 3) (k := 1) (by_ := 8) hF rfl rfl rfl rfl rfl rfl (by kernel_rfl) a_cel (Nat.le_of_ble_eq_true rfl) (fun b => ?_)) | (refine on_append (T := 25) (e := 3) (k := 1) (by_ := 8) hF rfl rfl rfl rfl rfl a_pick (by kernel_rfl) a_sl a_cel a_bnd a_bnd (fun v => ?_)) | (refine on_alloc hF rfl Tryz.zeroValue33 rfl rfl (fun B => ?_)) | (refine on_box hF rfl rfl rfl rfl (fun B => ?_)) | (refine on_store hF rfl rfl rfl rfl a_turn a_vof a_sz ?_) | (refine on_storeE hF rfl rfl rfl rfl a_turn a_om a_vof a_sz ?_) | (refine on_storeEF hF rfl rfl rfl rfl a_turn a_as (by decide) a_vof rfl ?_) | (refine on_storeF hF rfl rfl rfl rfl a_turn (by decide) a_vof rfl ?_)) <;> try (refine hK2 _ _ _ a_allK ?_; clear hK2 K2))) <;> (refine hK _ _ _ ?_; clear hK K)) | with_reducible (first | refine nx_seq ?_ | refine nx_region ?_ | refine nl_nil ?_ | refine nq_then_n ?_ | refine nx_block ?_ | refine nx_skip ?_ | refine nx_exit ?_ | refine nx_ret ?_ | refine nq_then_x ?_ | refine nq_then_r ?_ | refine nq_blk_n ?_ | refine nq_blk_r ?_ | refine nq_blk_hit ?_ | refine nq_blk_miss rfl ?_ | refine nd_nil ?_) | refine nx_cond_t rfl ?_ | refine nx_cond_f rfl ?_ | refine nl_pass hF rfl rfl rfl ?_ | refine nd_pass rfl rfl rfl rfl rfl ?_ | refine nd_pass2 rfl rfl rfl a_nd a_allK rfl rfl ?_ | refine nd_pass3 rfl rfl rfl a_nd rfl rfl ?_ | (with_reducible refine hQ1 _ _ _ ?_; clear hQ1 Q1) | (refine nd_region (id := 6) hF [0, 1, 0, 0, 0, 1, 0, 0, 1, 0, 1, 1, 0, 0, 0, 0, 0, 0, 0, 1, 0, 0, 0, 0, 0, 0, 0, 1, 2, 0] [0, 1, 2, 3, 4, 5, 6, 7, 8, 9, 10, 11, 12, 13, 14, 15, 16, 17, 18, 19, 20, 21, 22, 23, 24, 25, 26, 27, 28, 29] _ _ (by kernel_rfl) (by kernel_rfl) sub2_same ?_; intro Q1 hQ1))
      all_goals (try (exfalso; dsimp only at *; omega))
      rw [← hxs, show (pre ++ [u]).map (Value.int .i64) ++ [.int .i64 bst] = (pre ++ [u] ++ [bst]).map (Value.int .i64) by simp]
      refine nx_again (⟨(pre ++ [u], bst), p, by rw [hpo]; simp⟩, v) (by dsimp only; rw [hpo]; simp; omega) (by exact a_sub) (by exact a_subR) (by exact a_holds)
end Ref18
end Go.Proofs.YtinofjenoapeaaaGreat
end
section
namespace Go.Proofs.YtinofjenoapeaaaGreat
open Go.RowKit Go.Shelf
set_option linter.unusedSimpArgs false
set_option linter.unusedVariables false
namespace Rf24
open Pl Li Pr Rf22
variable {W0 : World} {X : Nat → Prop} {R C : List Ch}
def Hit (L : List It2) (z t n : Int) : Prop := ∃ p, findP L t n = some p ∧ (z ∈ Chn.chainIds L p.1.id ∨ z ∈ p.2.1)
theorem wB_true {L : List It2} {c : Int} {x : It2} {t n : Int} (ht : t ∈ allL L) (h1 : c ≤ n) (h2 : n ≤ 45) (h : Hit L x.id t n) : wB L c x = true := (wB_iff L c x).2 (.inr ⟨t, ht, n, h1, h2, h⟩)
theorem wB_false {L : List It2} {c : Int} {x : It2} (hk : ¬ x.kind = 4) (h : ∀ t ∈ allL L, ∀ n, c ≤ n → n ≤ 45 → ¬ Hit L x.id t n) : wB L c x = false := by
  cases hb : wB L c x with
  | false => rfl
  | true =>
    rcases (wB_iff L c x).1 hb with h2 | ⟨t, ht, n, h1, h2, h3⟩
    · exact absurd h2 hk
    · exact absurd h3 (h t ht n h1 h2)
set_option maxRecDepth 100000 in
set_option maxHeartbeats 8000000 in
theorem wanted_ct (s : Value) (hs : IsSl s) (L : List It2) (hok : ∀ x ∈ L, x.ok) (hm : L.length ≤ 20) (c : Int) (hc : -5 ≤ c ∧ c ≤ 60) (x : It2) (hx : x.ok) (hsl : SlC 9 s (L.map It2.v) ∈ R) :
    Ct Tryz.prog 10 [s, x.v, .int .i64 c, .int .i64 45] W0 X R C Unit (fun _ => .bool (wB L c x)) (fun _ => R) (fun _ => C) := by
  intro w hw
  have hF := isWide_wide
  have hvx := x.vof hx
  have ac := fun (W0 : World) (X : Nat → Prop) (R C : List Ch) h => Ref18.all_ct (W0 := W0) (X := X) (R := R) (C := C) s hs L hok h (by omega)
  by_cases hk4 : x.kind = 4
  · rw [(wB_iff L c x).2 (.inl hk4)]
    refine calls_nx Tryz.func10 rfl Tryz.ntmps10 rfl ?_ hw
    repeat' (first | ((first | with_reducible refine nl_op rfl ?_ | refine nd_go rfl rfl rfl ?_); intro K hK; (first | ((first | refine on_E hF rfl rfl ?_ | refine od_E rfl rfl ?_ | refine od_R rfl rfl ?_); (first | refine ⟨_, a_yl, ?_⟩ | refine ⟨_, (by first | exact yl_fieldB (T := 33) (f := 0) (q := 0) rfl rfl (by kernel_rfl) | exact yl_fieldE (T := 33) (f := 0) (j := 0) rfl rfl a_sl a_om (by kernel_rfl) | exact yl_fieldB (T := 33) (f := 1) (q := 1) rfl rfl (by kernel_rfl) | exact yl_fieldE (T := 33) (f := 1) (j := 1) rfl rfl a_sl a_om (by kernel_rfl) | exact yl_fieldB (T := 49) (f := 0) (q := 0) rfl rfl (by kernel_rfl) | exact yl_fieldE (T := 49) (f := 0) (j := 0) rfl rfl a_sl a_om (by kernel_rfl) | exact yl_fieldB (T := 49) (f := 1) (q := 1) rfl rfl (by kernel_rfl) | exact yl_fieldE (T := 49) (f := 1) (j := 1) rfl rfl a_sl a_om (by kernel_rfl)), ?_⟩)) | ((first | refine on_Ec hF rfl rfl ?_ | refine od_Ec rfl rfl ?_); refine ⟨_, _, _, a_yc, ?_, ?_⟩ <;> (intro hc; try exact a_cut hc)) | ((first | (refine od_act a_nd ?_; intro K2 hK2) | refine od_last a_nd ?_ | skip); (first | (refine on_alloc hF rfl Tryz.zeroValue49 rfl rfl (fun B => ?_)) | (refine on_box hF rfl rfl rfl rfl (fun B => ?_)) | (refine on_store hF rfl rfl rfl rfl a_turn a_vof a_sz ?_) | (refine on_storeE hF rfl rfl rfl rfl a_turn a_om a_vof a_sz ?_) | (refine on_storeEF hF rfl rfl rfl rfl a_turn a_as (by decide) a_vof rfl ?_) | (refine on_storeF hF rfl rfl rfl rfl a_turn (by decide) a_vof rfl ?_)) <;> try (refine hK2 _ _ _ a_allK ?_; clear hK2 K2))) <;> (refine hK _ _ _ ?_; clear hK K)) | with_reducible (first | refine nx_seq ?_ | refine nx_region ?_ | refine nl_nil ?_ | refine nq_then_n ?_ | refine nx_block ?_ | refine nx_skip ?_ | refine nx_exit ?_ | refine nx_ret ?_ | refine nq_then_x ?_ | refine nq_then_r ?_ | refine nq_blk_n ?_ | refine nq_blk_r ?_ | refine nq_blk_hit ?_ | refine nq_blk_miss rfl ?_ | refine nd_nil ?_) | refine nx_cond_t rfl ?_ | refine nx_cond_f rfl ?_ | refine nl_pass hF rfl rfl rfl ?_ | refine nd_pass rfl rfl rfl rfl rfl ?_ | refine nd_pass2 rfl rfl rfl a_nd a_allK rfl rfl ?_ | refine nd_pass3 rfl rfl rfl a_nd rfl rfl ?_ | (with_reducible refine hQ1 _ _ _ ?_; clear hQ1 Q1) )
    all_goals (try (exfalso; dsimp only at *; omega))
    refine nx_end [] rfl () (fun a w ha hw => res_tmp Tryz.results10 rfl ha) (by exact a_subR) (by exact a_holds2)
  · have hwt := fun t n => wB_true (L := L) (c := c) (x := x) (t := t) (n := n)
    have hwf := wB_false (L := L) (c := c) (x := x) hk4
    obtain ⟨wb, hwb⟩ : ∃ wb, wB L c x = wb := ⟨_, rfl⟩
    rw [hwb] at hwf ⊢
    simp only [hwb] at hwt
    clear hwb
    have hAl := all_len L
    obtain ⟨A, hA⟩ : ∃ A, allL L = A := ⟨_, rfl⟩
    rw [hA] at ac hwf hAl
    simp only [hA] at hwt
    clear hA
    have hlA : (A.map (Value.int .i64)).length = A.length := by simp
    refine calls_nx Tryz.func10 rfl Tryz.ntmps10 rfl ?_ hw
    repeat' (first | ((first | with_reducible refine nl_op rfl ?_ | refine nd_go rfl rfl rfl ?_); intro K hK; (first | ((first | refine on_E hF rfl rfl ?_ | refine od_E rfl rfl ?_ | refine od_R rfl rfl ?_); (first | refine ⟨_, a_yl, ?_⟩ | refine ⟨_, (by first | exact yl_fieldB (T := 33) (f := 0) (q := 0) rfl rfl (by kernel_rfl) | exact yl_fieldE (T := 33) (f := 0) (j := 0) rfl rfl a_sl a_om (by kernel_rfl) | exact yl_fieldB (T := 33) (f := 1) (q := 1) rfl rfl (by kernel_rfl) | exact yl_fieldE (T := 33) (f := 1) (j := 1) rfl rfl a_sl a_om (by kernel_rfl) | exact yl_fieldB (T := 49) (f := 0) (q := 0) rfl rfl (by kernel_rfl) | exact yl_fieldE (T := 49) (f := 0) (j := 0) rfl rfl a_sl a_om (by kernel_rfl) | exact yl_fieldB (T := 49) (f := 1) (q := 1) rfl rfl (by kernel_rfl) | exact yl_fieldE (T := 49) (f := 1) (j := 1) rfl rfl a_sl a_om (by kernel_rfl)), ?_⟩)) | ((first | refine on_Ec hF rfl rfl ?_ | refine od_Ec rfl rfl ?_); refine ⟨_, _, _, a_yc, ?_, ?_⟩ <;> (intro hc; try exact a_cut hc)) | ((first | (refine od_act a_nd ?_; intro K2 hK2) | refine od_last a_nd ?_ | skip); (first | (refine on_callG hF (enters_of Tryz.func19 (by kernel_rfl) rfl) rfl rfl rfl rfl (ac _ _ _ _ (by exact a_mem)) (fun v => ?_); obtain ⟨v, va, vn, vc, rfl⟩ := v; dsimp only; refine nx_len (e := 3) (k := 1) (xs := A.map (.int .i64)) (i := vn) (by exact a_mem) (fun hlen => ?_); subst hlen; refine nx_frzRow Pick.here ?_) | (refine on_alloc hF rfl Tryz.zeroValue49 rfl rfl (fun B => ?_)) | (refine on_box hF rfl rfl rfl rfl (fun B => ?_)) | (refine on_store hF rfl rfl rfl rfl a_turn a_vof a_sz ?_) | (refine on_storeE hF rfl rfl rfl rfl a_turn a_om a_vof a_sz ?_) | (refine on_storeEF hF rfl rfl rfl rfl a_turn a_as (by decide) a_vof rfl ?_) | (refine on_storeF hF rfl rfl rfl rfl a_turn (by decide) a_vof rfl ?_)) <;> try (refine hK2 _ _ _ a_allK ?_; clear hK2 K2))) <;> (refine hK _ _ _ ?_; clear hK K)) | with_reducible (first | refine nx_seq ?_ | refine nx_region ?_ | refine nl_nil ?_ | refine nq_then_n ?_ | refine nx_block ?_ | refine nx_skip ?_ | refine nx_exit ?_ | refine nx_ret ?_ | refine nq_then_x ?_ | refine nq_then_r ?_ | refine nq_blk_n ?_ | refine nq_blk_r ?_ | refine nq_blk_hit ?_ | refine nq_blk_miss rfl ?_ | refine nd_nil ?_) | refine nx_cond_t rfl ?_ | refine nx_cond_f rfl ?_ | refine nl_pass hF rfl rfl rfl ?_ | refine nd_pass rfl rfl rfl rfl rfl ?_ | refine nd_pass2 rfl rfl rfl a_nd a_allK rfl rfl ?_ | refine nd_pass3 rfl rfl rfl a_nd rfl rfl ?_ | (with_reducible refine hQ1 _ _ _ ?_; clear hQ1 Q1) )
    all_goals (try (exfalso; dsimp only at *; omega))
    obtain ⟨b5, hb5⟩ : ∃ b5, b5 = B := ⟨_, rfl⟩
    subst hb5
    refine nx_frz (BoxC b5 33 x.v) (by exact a_pick) ?_
    refine nx_loop (ι := { i : Nat // i ≤ A.length ∧ ∀ t ∈ A.take i, ∀ n, c ≤ n → n ≤ 45 → ¬ Hit L x.id t n }) (fun i => [(0, s), (2, .int .i64 c), (3, .int .i64 45), (5, ptr b5), (18, .slice va (A.map (Value.int .i64)).length vc), (19, .int .i64 ((A.map (Value.int .i64)).length : Int)), (20, .int .i64 (i.1 : Int))]) (fun _ => BoxC b5 33 x.v :: SlC 1 (.slice va (A.map (Value.int .i64)).length vc) (A.map (.int .i64)) :: R) (fun _ => C) (fun i => A.length - i.1) ⟨0, Nat.zero_le _, fun t h => by simp at h⟩ (by exact a_sub) (by exact a_subR) (by exact a_holds) (fun i => ?_)
    obtain ⟨i, hi, hno⟩ := i
    dsimp only
    by_cases hlt : i < A.length
    · obtain ⟨t, ht⟩ : ∃ t, A[i]? = some t := ⟨_, List.getElem?_eq_getElem hlt⟩
      have htm : t ∈ A := List.mem_of_getElem? ht
      have hxv : (A.map (Value.int .i64))[i]? = some (.int .i64 t) := by rw [List.getElem?_map, ht]; rfl
      have hno2 : (∀ n, c ≤ n → n ≤ 45 → ¬ Hit L x.id t n) → ∀ t ∈ A.take (i + 1), ∀ n, c ≤ n → n ≤ 45 → ¬ Hit L x.id t n := fun h u hu => by
        rw [List.take_add_one, ht] at hu
        rcases List.mem_append.1 hu with hu | hu
        · exact hno u hu
        · simp at hu; subst hu; exact h
      have hwt2 := fun n => hwt t n htm
      clear hwt hwf hno ac
      repeat' (first | ((first | with_reducible refine nl_op rfl ?_ | refine nd_go rfl rfl rfl ?_); intro K hK; (first | ((first | refine on_E hF rfl rfl ?_ | refine od_E rfl rfl ?_ | refine od_R rfl rfl ?_); (first | refine ⟨_, a_yl, ?_⟩ | refine ⟨_, (by first | exact yl_fieldB (T := 33) (f := 0) (q := 0) rfl rfl (by kernel_rfl) | exact yl_fieldE (T := 33) (f := 0) (j := 0) rfl rfl a_sl a_om (by kernel_rfl) | exact yl_fieldB (T := 33) (f := 1) (q := 1) rfl rfl (by kernel_rfl) | exact yl_fieldE (T := 33) (f := 1) (j := 1) rfl rfl a_sl a_om (by kernel_rfl) | exact yl_fieldB (T := 49) (f := 0) (q := 0) rfl rfl (by kernel_rfl) | exact yl_fieldE (T := 49) (f := 0) (j := 0) rfl rfl a_sl a_om (by kernel_rfl) | exact yl_fieldB (T := 49) (f := 1) (q := 1) rfl rfl (by kernel_rfl) | exact yl_fieldE (T := 49) (f := 1) (j := 1) rfl rfl a_sl a_om (by kernel_rfl)), ?_⟩)) | ((first | refine on_Ec hF rfl rfl ?_ | refine od_Ec rfl rfl ?_); refine ⟨_, _, _, a_yc, ?_, ?_⟩ <;> (intro hc; try exact a_cut hc)) | ((first | (refine od_act a_nd ?_; intro K2 hK2) | refine od_last a_nd ?_ | skip); (first | (refine on_alloc hF rfl Tryz.zeroValue49 rfl rfl (fun B => ?_)) | (refine on_box hF rfl rfl rfl rfl (fun B => ?_)) | (refine on_store hF rfl rfl rfl rfl a_turn a_vof a_sz ?_) | (refine on_storeE hF rfl rfl rfl rfl a_turn a_om a_vof a_sz ?_) | (refine on_storeEF hF rfl rfl rfl rfl a_turn a_as (by decide) a_vof rfl ?_) | (refine on_storeF hF rfl rfl rfl rfl a_turn (by decide) a_vof rfl ?_)) <;> try (refine hK2 _ _ _ a_allK ?_; clear hK2 K2))) <;> (refine hK _ _ _ ?_; clear hK K)) | with_reducible (first | refine nx_seq ?_ | refine nx_region ?_ | refine nl_nil ?_ | refine nq_then_n ?_ | refine nx_block ?_ | refine nx_skip ?_ | refine nx_exit ?_ | refine nx_ret ?_ | refine nq_then_x ?_ | refine nq_then_r ?_ | refine nq_blk_n ?_ | refine nq_blk_r ?_ | refine nq_blk_hit ?_ | refine nq_blk_miss rfl ?_ | refine nd_nil ?_) | refine nx_cond_t rfl ?_ | refine nx_cond_f rfl ?_ | refine nl_pass hF rfl rfl rfl ?_ | refine nd_pass rfl rfl rfl rfl rfl ?_ | refine nd_pass2 rfl rfl rfl a_nd a_allK rfl rfl ?_ | refine nd_pass3 rfl rfl rfl a_nd rfl rfl ?_ | (with_reducible refine hQ1 _ _ _ ?_; clear hQ1 Q1) )
      all_goals (try (exfalso; dsimp only at *; omega))
      refine nx_loop (ι := { n : Int // c ≤ n ∧ (n ≤ 46 ∨ n = c) ∧ ∀ m, c ≤ m → m < n → ¬ Hit L x.id t m }) (fun n => [(0, s), (2, .int .i64 c), (3, .int .i64 45), (5, ptr b5), (10, .int .i64 t), (11, .int .i64 n.1), (18, .slice va (A.map (Value.int .i64)).length vc), (19, .int .i64 ((A.map (Value.int .i64)).length : Int)), (20, .int .i64 (i : Int))]) (fun _ => BoxC b5 33 x.v :: SlC 1 (.slice va (A.map (Value.int .i64)).length vc) (A.map (.int .i64)) :: R) (fun _ => C) (fun n => (46 - n.1).toNat) ⟨c, by omega, .inr rfl, fun m h1 h2 => by omega⟩ (by exact a_sub) (by exact a_subR) (by exact a_holds) (fun n => ?_)
      obtain ⟨n, hn1, hn2, hn3⟩ := n
      dsimp only
      by_cases hle : n ≤ 45
      · have fc := fun (W0 : World) (X : Nat → Prop) (R C : List Ch) h => Find_ct (W0 := W0) (X := X) (R := R) (C := C) s hs L hok hm t n h
        have hnx : ¬ Hit L x.id t n → ∀ m, c ≤ m → m < n + 1 → ¬ Hit L x.id t m := fun h m h1 h2 => by
          by_cases e : m = n
          · subst e; exact h
          · exact hn3 m h1 (by omega)
        have hwn := fun h => hwt2 n hn1 hle h
        have hfl := fun p h => refF_few (L := L) (n := n) (t := t) (to := n) (p := p) hm h
        rw [refFind_eq] at hfl
        have hhit : Hit L x.id t n = ∃ p, findP L t n = some p ∧ (x.id ∈ Chn.chainIds L p.1.id ∨ x.id ∈ p.2.1) := rfl
        rw [hhit] at hnx hwn
        clear hwt2 hn3 hno2 hhit
        obtain ⟨q, hq⟩ : ∃ q, findP L t n = q := ⟨_, rfl⟩
        rw [hq] at fc hnx hwn hfl
        clear hq
        cases q with
        | none =>
          unfold FndRet findC at fc
          dsimp only at fc
          have hn4 := hnx (fun ⟨p, h, _⟩ => by cases h)
          have hvz := vofZ
          clear hnx hwn hfl
          repeat' (first | ((first | with_reducible refine nl_op rfl ?_ | refine nd_go rfl rfl rfl ?_); intro K hK; (first | ((first | refine on_E hF rfl rfl ?_ | refine od_E rfl rfl ?_ | refine od_R rfl rfl ?_); (first | refine ⟨_, a_yl, ?_⟩ | refine ⟨_, (by first | exact yl_fieldB (T := 33) (f := 0) (q := 0) rfl rfl (by kernel_rfl) | exact yl_fieldE (T := 33) (f := 0) (j := 0) rfl rfl a_sl a_om (by kernel_rfl) | exact yl_fieldB (T := 33) (f := 1) (q := 1) rfl rfl (by kernel_rfl) | exact yl_fieldE (T := 33) (f := 1) (j := 1) rfl rfl a_sl a_om (by kernel_rfl) | exact yl_fieldB (T := 49) (f := 0) (q := 0) rfl rfl (by kernel_rfl) | exact yl_fieldE (T := 49) (f := 0) (j := 0) rfl rfl a_sl a_om (by kernel_rfl) | exact yl_fieldB (T := 49) (f := 1) (q := 1) rfl rfl (by kernel_rfl) | exact yl_fieldE (T := 49) (f := 1) (j := 1) rfl rfl a_sl a_om (by kernel_rfl)), ?_⟩)) | ((first | refine on_Ec hF rfl rfl ?_ | refine od_Ec rfl rfl ?_); refine ⟨_, _, _, a_yc, ?_, ?_⟩ <;> (intro hc; try exact a_cut hc)) | ((first | (refine od_act a_nd ?_; intro K2 hK2) | refine od_last a_nd ?_ | skip); (first | (refine on_callG hF (enters_of Tryz.func20 (by kernel_rfl) rfl) rfl rfl rfl rfl (fc _ _ _ _ (by exact a_mem)) (fun i => ?_)) | (refine on_alloc hF rfl Tryz.zeroValue49 rfl rfl (fun B => ?_)) | (refine on_box hF rfl rfl rfl rfl (fun B => ?_)) | (refine on_store hF rfl rfl rfl rfl a_turn a_vof a_sz ?_) | (refine on_storeE hF rfl rfl rfl rfl a_turn a_om a_vof a_sz ?_) | (refine on_storeEF hF rfl rfl rfl rfl a_turn a_as (by decide) a_vof rfl ?_) | (refine on_storeF hF rfl rfl rfl rfl a_turn (by decide) a_vof rfl ?_)) <;> try (refine hK2 _ _ _ a_allK ?_; clear hK2 K2))) <;> (refine hK _ _ _ ?_; clear hK K)) | with_reducible (first | refine nx_seq ?_ | refine nx_region ?_ | refine nl_nil ?_ | refine nq_then_n ?_ | refine nx_block ?_ | refine nx_skip ?_ | refine nx_exit ?_ | refine nx_ret ?_ | refine nq_then_x ?_ | refine nq_then_r ?_ | refine nq_blk_n ?_ | refine nq_blk_r ?_ | refine nq_blk_hit ?_ | refine nq_blk_miss rfl ?_ | refine nd_nil ?_) | refine nx_cond_t rfl ?_ | refine nx_cond_f rfl ?_ | refine nl_pass hF rfl rfl rfl ?_ | refine nd_pass rfl rfl rfl rfl rfl ?_ | refine nd_pass2 rfl rfl rfl a_nd a_allK rfl rfl ?_ | refine nd_pass3 rfl rfl rfl a_nd rfl rfl ?_ | (with_reducible refine hQ1 _ _ _ ?_; clear hQ1 Q1) )
          all_goals (try (exfalso; dsimp only at *; omega))
          refine nx_again ⟨n + 1, by omega, by omega, hn4⟩ (by dsimp only; omega) (by exact a_sub) (by exact a_subR) (by exact a_holds)
        | some p =>
          unfold FndRet findC at fc
          dsimp only at fc
          obtain ⟨hp1, hp2⟩ := hfl p rfl
          have hcl := chain_len L p.1.id
          have ic := fun (W0 : World) (X : Nat → Prop) (R C : List Ch) (u : Value) (hu : IsSl u) h => in_ct (W0 := W0) (X := X) (R := R) (C := C) u hu (Chn.chainIds L p.1.id) h x.id (by omega)
          have is_ := fun (W0 : World) (X : Nat → Prop) (R C : List Ch) (u : Value) (hu : IsSl u) h => in_ct (W0 := W0) (X := X) (R := R) (C := C) u hu p.2.1 h x.id (by omega)
          have hvp := fun i : SV × SV × SV => vofPlan i.1.2 i.2.1.2 i.2.2.2 p.1.a n
          clear hfl
          by_cases h1 : x.id ∈ Chn.chainIds L p.1.id
          · obtain rfl := hwn ⟨p, rfl, .inl h1⟩
            rw [decide_eq_true h1] at ic
            clear hnx hwn is_
            repeat' (first | ((first | with_reducible refine nl_op rfl ?_ | refine nd_go rfl rfl rfl ?_); intro K hK; (first | ((first | refine on_E hF rfl rfl ?_ | refine od_E rfl rfl ?_ | refine od_R rfl rfl ?_); (first | refine ⟨_, a_yl, ?_⟩ | refine ⟨_, (by first | exact yl_fieldB (T := 33) (f := 0) (q := 0) rfl rfl (by kernel_rfl) | exact yl_fieldE (T := 33) (f := 0) (j := 0) rfl rfl a_sl a_om (by kernel_rfl) | exact yl_fieldB (T := 33) (f := 1) (q := 1) rfl rfl (by kernel_rfl) | exact yl_fieldE (T := 33) (f := 1) (j := 1) rfl rfl a_sl a_om (by kernel_rfl) | exact yl_fieldB (T := 49) (f := 0) (q := 0) rfl rfl (by kernel_rfl) | exact yl_fieldE (T := 49) (f := 0) (j := 0) rfl rfl a_sl a_om (by kernel_rfl) | exact yl_fieldB (T := 49) (f := 1) (q := 1) rfl rfl (by kernel_rfl) | exact yl_fieldE (T := 49) (f := 1) (j := 1) rfl rfl a_sl a_om (by kernel_rfl)), ?_⟩)) | ((first | refine on_Ec hF rfl rfl ?_ | refine od_Ec rfl rfl ?_); refine ⟨_, _, _, a_yc, ?_, ?_⟩ <;> (intro hc; try exact a_cut hc)) | ((first | (refine od_act a_nd ?_; intro K2 hK2) | refine od_last a_nd ?_ | skip); (first | (refine on_callG hF (enters_of Tryz.func20 (by kernel_rfl) rfl) rfl rfl rfl rfl (fc _ _ _ _ (by exact a_mem)) (fun i => ?_); have hvi := hvp i; obtain ⟨⟨_, ca, cn, cc, rfl⟩, ⟨_, ga, gn, gc, rfl⟩, ⟨_, ma, mn, mc, rfl⟩⟩ := i; dsimp only at hvi ⊢; refine nx_frzRow Pick.here (nx_frzRow Pick.here ?_)) | (refine on_callG hF (enters_of Tryz.func21 (by kernel_rfl) rfl) rfl rfl rfl rfl (ic _ _ _ _ _ ⟨_, _, _, rfl⟩ (by exact a_mem)) (fun _ => ?_)) | (refine on_alloc hF rfl Tryz.zeroValue49 rfl rfl (fun B => ?_)) | (refine on_box hF rfl rfl rfl rfl (fun B => ?_)) | (refine on_store hF rfl rfl rfl rfl a_turn a_vof a_sz ?_) | (refine on_storeE hF rfl rfl rfl rfl a_turn a_om a_vof a_sz ?_) | (refine on_storeEF hF rfl rfl rfl rfl a_turn a_as (by decide) a_vof rfl ?_) | (refine on_storeF hF rfl rfl rfl rfl a_turn (by decide) a_vof rfl ?_)) <;> try (refine hK2 _ _ _ a_allK ?_; clear hK2 K2))) <;> (refine hK _ _ _ ?_; clear hK K)) | with_reducible (first | refine nx_seq ?_ | refine nx_region ?_ | refine nl_nil ?_ | refine nq_then_n ?_ | refine nx_block ?_ | refine nx_skip ?_ | refine nx_exit ?_ | refine nx_ret ?_ | refine nq_then_x ?_ | refine nq_then_r ?_ | refine nq_blk_n ?_ | refine nq_blk_r ?_ | refine nq_blk_hit ?_ | refine nq_blk_miss rfl ?_ | refine nd_nil ?_) | refine nx_cond_t rfl ?_ | refine nx_cond_f rfl ?_ | refine nl_pass hF rfl rfl rfl ?_ | refine nd_pass rfl rfl rfl rfl rfl ?_ | refine nd_pass2 rfl rfl rfl a_nd a_allK rfl rfl ?_ | refine nd_pass3 rfl rfl rfl a_nd rfl rfl ?_ | (with_reducible refine hQ1 _ _ _ ?_; clear hQ1 Q1) )
            all_goals (try (exfalso; dsimp only at *; omega))
            refine nx_end [] rfl () (fun a w ha hw => res_tmp Tryz.results10 rfl ha) (by exact a_subR) (by exact a_holds2)
          · rw [decide_eq_false h1] at ic
            by_cases h2 : x.id ∈ p.2.1
            · obtain rfl := hwn ⟨p, rfl, .inr h2⟩
              rw [decide_eq_true h2] at is_
              clear hnx hwn
              repeat' (first | ((first | with_reducible refine nl_op rfl ?_ | refine nd_go rfl rfl rfl ?_); intro K hK; (first | ((first | refine on_E hF rfl rfl ?_ | refine od_E rfl rfl ?_ | refine od_R rfl rfl ?_); (first | refine ⟨_, a_yl, ?_⟩ | refine ⟨_, (by first | exact yl_fieldB (T := 33) (f := 0) (q := 0) rfl rfl (by kernel_rfl) | exact yl_fieldE (T := 33) (f := 0) (j := 0) rfl rfl a_sl a_om (by kernel_rfl) | exact yl_fieldB (T := 33) (f := 1) (q := 1) rfl rfl (by kernel_rfl) | exact yl_fieldE (T := 33) (f := 1) (j := 1) rfl rfl a_sl a_om (by kernel_rfl) | exact yl_fieldB (T := 49) (f := 0) (q := 0) rfl rfl (by kernel_rfl) | exact yl_fieldE (T := 49) (f := 0) (j := 0) rfl rfl a_sl a_om (by kernel_rfl) | exact yl_fieldB (T := 49) (f := 1) (q := 1) rfl rfl (by kernel_rfl) | exact yl_fieldE (T := 49) (f := 1) (j := 1) rfl rfl a_sl a_om (by kernel_rfl)), ?_⟩)) | ((first | refine on_Ec hF rfl rfl ?_ | refine od_Ec rfl rfl ?_); refine ⟨_, _, _, a_yc, ?_, ?_⟩ <;> (intro hc; try exact a_cut hc)) | ((first | (refine od_act a_nd ?_; intro K2 hK2) | refine od_last a_nd ?_ | skip); (first | (refine on_callG hF (enters_of Tryz.func20 (by kernel_rfl) rfl) rfl rfl rfl rfl (fc _ _ _ _ (by exact a_mem)) (fun i => ?_); have hvi := hvp i; obtain ⟨⟨_, ca, cn, cc, rfl⟩, ⟨_, ga, gn, gc, rfl⟩, ⟨_, ma, mn, mc, rfl⟩⟩ := i; dsimp only at hvi ⊢; refine nx_frzRow Pick.here (nx_frzRow Pick.here ?_)) | (refine on_callG hF (enters_of Tryz.func21 (by kernel_rfl) rfl) rfl rfl rfl rfl (ic _ _ _ _ _ ⟨_, _, _, rfl⟩ (by exact a_mem)) (fun _ => ?_)) | (refine on_callG hF (enters_of Tryz.func21 (by kernel_rfl) rfl) rfl rfl rfl rfl (is_ _ _ _ _ _ ⟨_, _, _, rfl⟩ (by exact a_mem)) (fun _ => ?_)) | (refine on_alloc hF rfl Tryz.zeroValue49 rfl rfl (fun B => ?_)) | (refine on_box hF rfl rfl rfl rfl (fun B => ?_)) | (refine on_store hF rfl rfl rfl rfl a_turn a_vof a_sz ?_) | (refine on_storeE hF rfl rfl rfl rfl a_turn a_om a_vof a_sz ?_) | (refine on_storeEF hF rfl rfl rfl rfl a_turn a_as (by decide) a_vof rfl ?_) | (refine on_storeF hF rfl rfl rfl rfl a_turn (by decide) a_vof rfl ?_)) <;> try (refine hK2 _ _ _ a_allK ?_; clear hK2 K2))) <;> (refine hK _ _ _ ?_; clear hK K)) | with_reducible (first | refine nx_seq ?_ | refine nx_region ?_ | refine nl_nil ?_ | refine nq_then_n ?_ | refine nx_block ?_ | refine nx_skip ?_ | refine nx_exit ?_ | refine nx_ret ?_ | refine nq_then_x ?_ | refine nq_then_r ?_ | refine nq_blk_n ?_ | refine nq_blk_r ?_ | refine nq_blk_hit ?_ | refine nq_blk_miss rfl ?_ | refine nd_nil ?_) | refine nx_cond_t rfl ?_ | refine nx_cond_f rfl ?_ | refine nl_pass hF rfl rfl rfl ?_ | refine nd_pass rfl rfl rfl rfl rfl ?_ | refine nd_pass2 rfl rfl rfl a_nd a_allK rfl rfl ?_ | refine nd_pass3 rfl rfl rfl a_nd rfl rfl ?_ | (with_reducible refine hQ1 _ _ _ ?_; clear hQ1 Q1) )
              all_goals (try (exfalso; dsimp only at *; omega))
              refine nx_end [] rfl () (fun a w ha hw => res_tmp Tryz.results10 rfl ha) (by exact a_subR) (by exact a_holds2)
            · rw [decide_eq_false h2] at is_
              have hn4 := hnx (fun ⟨p', h, h3⟩ => by injection h with h; subst h; exact h3.elim h1 h2)
              clear hnx hwn
              repeat' (first | ((first | with_reducible refine nl_op rfl ?_ | refine nd_go rfl rfl rfl ?_); intro K hK; (first | ((first | refine on_E hF rfl rfl ?_ | refine od_E rfl rfl ?_ | refine od_R rfl rfl ?_); (first | refine ⟨_, a_yl, ?_⟩ | refine ⟨_, (by first | exact yl_fieldB (T := 33) (f := 0) (q := 0) rfl rfl (by kernel_rfl) | exact yl_fieldE (T := 33) (f := 0) (j := 0) rfl rfl a_sl a_om (by kernel_rfl) | exact yl_fieldB (T := 33) (f := 1) (q := 1) rfl rfl (by kernel_rfl) | exact yl_fieldE (T := 33) (f := 1) (j := 1) rfl rfl a_sl a_om (by kernel_rfl) | exact yl_fieldB (T := 49) (f := 0) (q := 0) rfl rfl (by kernel_rfl) | exact yl_fieldE (T := 49) (f := 0) (j := 0) rfl rfl a_sl a_om (by kernel_rfl) | exact yl_fieldB (T := 49) (f := 1) (q := 1) rfl rfl (by kernel_rfl) | exact yl_fieldE (T := 49) (f := 1) (j := 1) rfl rfl a_sl a_om (by kernel_rfl)), ?_⟩)) | ((first | refine on_Ec hF rfl rfl ?_ | refine od_Ec rfl rfl ?_); refine ⟨_, _, _, a_yc, ?_, ?_⟩ <;> (intro hc; try exact a_cut hc)) | ((first | (refine od_act a_nd ?_; intro K2 hK2) | refine od_last a_nd ?_ | skip); (first | (refine on_callG hF (enters_of Tryz.func20 (by kernel_rfl) rfl) rfl rfl rfl rfl (fc _ _ _ _ (by exact a_mem)) (fun i => ?_); have hvi := hvp i; obtain ⟨⟨_, ca, cn, cc, rfl⟩, ⟨_, ga, gn, gc, rfl⟩, ⟨_, ma, mn, mc, rfl⟩⟩ := i; dsimp only at hvi ⊢; refine nx_frzRow Pick.here (nx_frzRow Pick.here ?_)) | (refine on_callG hF (enters_of Tryz.func21 (by kernel_rfl) rfl) rfl rfl rfl rfl (ic _ _ _ _ _ ⟨_, _, _, rfl⟩ (by exact a_mem)) (fun _ => ?_)) | (refine on_callG hF (enters_of Tryz.func21 (by kernel_rfl) rfl) rfl rfl rfl rfl (is_ _ _ _ _ _ ⟨_, _, _, rfl⟩ (by exact a_mem)) (fun _ => ?_)) | (refine on_alloc hF rfl Tryz.zeroValue49 rfl rfl (fun B => ?_)) | (refine on_box hF rfl rfl rfl rfl (fun B => ?_)) | (refine on_store hF rfl rfl rfl rfl a_turn a_vof a_sz ?_) | (refine on_storeE hF rfl rfl rfl rfl a_turn a_om a_vof a_sz ?_) | (refine on_storeEF hF rfl rfl rfl rfl a_turn a_as (by decide) a_vof rfl ?_) | (refine on_storeF hF rfl rfl rfl rfl a_turn (by decide) a_vof rfl ?_)) <;> try (refine hK2 _ _ _ a_allK ?_; clear hK2 K2))) <;> (refine hK _ _ _ ?_; clear hK K)) | with_reducible (first | refine nx_seq ?_ | refine nx_region ?_ | refine nl_nil ?_ | refine nq_then_n ?_ | refine nx_block ?_ | refine nx_skip ?_ | refine nx_exit ?_ | refine nx_ret ?_ | refine nq_then_x ?_ | refine nq_then_r ?_ | refine nq_blk_n ?_ | refine nq_blk_r ?_ | refine nq_blk_hit ?_ | refine nq_blk_miss rfl ?_ | refine nd_nil ?_) | refine nx_cond_t rfl ?_ | refine nx_cond_f rfl ?_ | refine nl_pass hF rfl rfl rfl ?_ | refine nd_pass rfl rfl rfl rfl rfl ?_ | refine nd_pass2 rfl rfl rfl a_nd a_allK rfl rfl ?_ | refine nd_pass3 rfl rfl rfl a_nd rfl rfl ?_ | (with_reducible refine hQ1 _ _ _ ?_; clear hQ1 Q1) )
              all_goals (try (exfalso; dsimp only at *; omega))
              refine nx_again ⟨n + 1, by omega, by omega, hn4⟩ (by dsimp only; omega) (by exact a_sub) (by exact a_subR) (by exact a_holds)
      · have hn4 := hno2 (fun m h1 h2 => hn3 m h1 (by omega))
        clear hwt2 hn3 hno2
        repeat' (first | ((first | with_reducible refine nl_op rfl ?_ | refine nd_go rfl rfl rfl ?_); intro K hK; (first | ((first | refine on_E hF rfl rfl ?_ | refine od_E rfl rfl ?_ | refine od_R rfl rfl ?_); (first | refine ⟨_, a_yl, ?_⟩ | refine ⟨_, (by first | exact yl_fieldB (T := 33) (f := 0) (q := 0) rfl rfl (by kernel_rfl) | exact yl_fieldE (T := 33) (f := 0) (j := 0) rfl rfl a_sl a_om (by kernel_rfl) | exact yl_fieldB (T := 33) (f := 1) (q := 1) rfl rfl (by kernel_rfl) | exact yl_fieldE (T := 33) (f := 1) (j := 1) rfl rfl a_sl a_om (by kernel_rfl) | exact yl_fieldB (T := 49) (f := 0) (q := 0) rfl rfl (by kernel_rfl) | exact yl_fieldE (T := 49) (f := 0) (j := 0) rfl rfl a_sl a_om (by kernel_rfl) | exact yl_fieldB (T := 49) (f := 1) (q := 1) rfl rfl (by kernel_rfl) | exact yl_fieldE (T := 49) (f := 1) (j := 1) rfl rfl a_sl a_om (by kernel_rfl)), ?_⟩)) | ((first | refine on_Ec hF rfl rfl ?_ | refine od_Ec rfl rfl ?_); refine ⟨_, _, _, a_yc, ?_, ?_⟩ <;> (intro hc; try exact a_cut hc)) | ((first | (refine od_act a_nd ?_; intro K2 hK2) | refine od_last a_nd ?_ | skip); (first | (refine on_alloc hF rfl Tryz.zeroValue49 rfl rfl (fun B => ?_)) | (refine on_box hF rfl rfl rfl rfl (fun B => ?_)) | (refine on_store hF rfl rfl rfl rfl a_turn a_vof a_sz ?_) | (refine on_storeE hF rfl rfl rfl rfl a_turn a_om a_vof a_sz ?_) | (refine on_storeEF hF rfl rfl rfl rfl a_turn a_as (by decide) a_vof rfl ?_) | (refine on_storeF hF rfl rfl rfl rfl a_turn (by decide) a_vof rfl ?_)) <;> try (refine hK2 _ _ _ a_allK ?_; clear hK2 K2))) <;> (refine hK _ _ _ ?_; clear hK K)) | with_reducible (first | refine nx_seq ?_ | refine nx_region ?_ | refine nl_nil ?_ | refine nq_then_n ?_ | refine nx_block ?_ | refine nx_skip ?_ | refine nx_exit ?_ | refine nx_ret ?_ | refine nq_then_x ?_ | refine nq_then_r ?_ | refine nq_blk_n ?_ | refine nq_blk_r ?_ | refine nq_blk_hit ?_ | refine nq_blk_miss rfl ?_ | refine nd_nil ?_) | refine nx_cond_t rfl ?_ | refine nx_cond_f rfl ?_ | refine nl_pass hF rfl rfl rfl ?_ | refine nd_pass rfl rfl rfl rfl rfl ?_ | refine nd_pass2 rfl rfl rfl a_nd a_allK rfl rfl ?_ | refine nd_pass3 rfl rfl rfl a_nd rfl rfl ?_ | (with_reducible refine hQ1 _ _ _ ?_; clear hQ1 Q1) )
        all_goals (try (exfalso; dsimp only at *; omega))
        refine nx_again ⟨i + 1, by omega, hn4⟩ (by dsimp only; omega) (by exact a_sub) (by exact a_subR) (by exact a_holds)
    · obtain rfl := hwf (by rw [List.take_of_length_le (by omega)] at hno; exact hno)
      clear hwt hwf hno ac
      repeat' (first | ((first | with_reducible refine nl_op rfl ?_ | refine nd_go rfl rfl rfl ?_); intro K hK; (first | ((first | refine on_E hF rfl rfl ?_ | refine od_E rfl rfl ?_ | refine od_R rfl rfl ?_); (first | refine ⟨_, a_yl, ?_⟩ | refine ⟨_, (by first | exact yl_fieldB (T := 33) (f := 0) (q := 0) rfl rfl (by kernel_rfl) | exact yl_fieldE (T := 33) (f := 0) (j := 0) rfl rfl a_sl a_om (by kernel_rfl) | exact yl_fieldB (T := 33) (f := 1) (q := 1) rfl rfl (by kernel_rfl) | exact yl_fieldE (T := 33) (f := 1) (j := 1) rfl rfl a_sl a_om (by kernel_rfl) | exact yl_fieldB (T := 49) (f := 0) (q := 0) rfl rfl (by kernel_rfl) | exact yl_fieldE (T := 49) (f := 0) (j := 0) rfl rfl a_sl a_om (by kernel_rfl) | exact yl_fieldB (T := 49) (f := 1) (q := 1) rfl rfl (by kernel_rfl) | exact yl_fieldE (T := 49) (f := 1) (j := 1) rfl rfl a_sl a_om (by kernel_rfl)), ?_⟩)) | ((first | refine on_Ec hF rfl rfl ?_ | refine od_Ec rfl rfl ?_); refine ⟨_, _, _, a_yc, ?_, ?_⟩ <;> (intro hc; try exact a_cut hc)) | ((first | (refine od_act a_nd ?_; intro K2 hK2) | refine od_last a_nd ?_ | skip); (first | (refine on_alloc hF rfl Tryz.zeroValue49 rfl rfl (fun B => ?_)) | (refine on_box hF rfl rfl rfl rfl (fun B => ?_)) | (refine on_store hF rfl rfl rfl rfl a_turn a_vof a_sz ?_) | (refine on_storeE hF rfl rfl rfl rfl a_turn a_om a_vof a_sz ?_) | (refine on_storeEF hF rfl rfl rfl rfl a_turn a_as (by decide) a_vof rfl ?_) | (refine on_storeF hF rfl rfl rfl rfl a_turn (by decide) a_vof rfl ?_)) <;> try (refine hK2 _ _ _ a_allK ?_; clear hK2 K2))) <;> (refine hK _ _ _ ?_; clear hK K)) | with_reducible (first | refine nx_seq ?_ | refine nx_region ?_ | refine nl_nil ?_ | refine nq_then_n ?_ | refine nx_block ?_ | refine nx_skip ?_ | refine nx_exit ?_ | refine nx_ret ?_ | refine nq_then_x ?_ | refine nq_then_r ?_ | refine nq_blk_n ?_ | refine nq_blk_r ?_ | refine nq_blk_hit ?_ | refine nq_blk_miss rfl ?_ | refine nd_nil ?_) | refine nx_cond_t rfl ?_ | refine nx_cond_f rfl ?_ | refine nl_pass hF rfl rfl rfl ?_ | refine nd_pass rfl rfl rfl rfl rfl ?_ | refine nd_pass2 rfl rfl rfl a_nd a_allK rfl rfl ?_ | refine nd_pass3 rfl rfl rfl a_nd rfl rfl ?_ | (with_reducible refine hQ1 _ _ _ ?_; clear hQ1 Q1) )
      all_goals (try (exfalso; dsimp only at *; omega))
      refine nx_end [] rfl () (fun a w ha hw => res_tmp Tryz.results10 rfl ha) (by exact a_subR) (by exact a_holds2)
end Rf24
end Go.Proofs.YtinofjenoapeaaaGreat
end
section
namespace Go.Proofs.YtinofjenoapeaaaGreat
open Go.RowKit Go.Shelf
set_option linter.unusedSimpArgs false
set_option linter.unusedVariables false
namespace Law24
open Pl Li Pr
variable {W0 : World} {X : Nat → Prop} {R C : List Ch}
def y1 : It2 := ⟨1, 2, 1, 0, 1, 1, 0, 0, .slice none 0 0⟩
def y2 : It2 := ⟨2, 2, 1, 0, 5, 5, 0, 0, .slice none 0 0⟩
def y3 : It2 := ⟨3, 1, 1, 0, 0, 9, 0, 0, .slice none 0 0⟩
def M3 : List It2 := [y1, y2, y3]
theorem mem_M3 {p : It2 → Prop} (h1 : p y1) (h2 : p y2) (h3 : p y3) : ∀ x ∈ M3, p x := fun x hx => by
  simp only [M3, List.mem_cons, List.not_mem_nil, or_false] at hx
  rcases hx with rfl | rfl | rfl <;> assumption
theorem M3_ok : ∀ x ∈ M3, x.ok := mem_M3 ⟨_, _, _, rfl⟩ ⟨_, _, _, rfl⟩ ⟨_, _, _, rfl⟩
theorem M3_r : ∀ x ∈ M3, 0 ≤ x.a ∧ x.a ≤ 1099511627776 ∧ 0 ≤ x.b ∧ x.b ≤ 1099511627776 := mem_M3 (by simp [y1]) (by simp [y2]) (by simp [y3])
theorem M3_tl : ∀ x ∈ M3, x.tl ≤ 1099511627776 := mem_M3 (by simp [y1]) (by simp [y2]) (by simp [y3])
theorem kn1 : knownL M3 1 = true := by rw [knownL_le (by omega)]; rfl
theorem pa1 : parentP M3 1 = (0, 0, false) := by unfold parentP; rw [if_pos (.inl (by omega))]
theorem way1 (n : Int) : wayU M3 1 n = [⟨1, min 0 n, n⟩] := by rw [way_ge (by omega), pa1]; simp only; rw [way_lt (by omega)]
theorem ch1 : Chn.chainOf M3 1 = some [y1] := by
  unfold Chn.chainOf
  rw [if_pos (by rfl), show Chn.atX M3 1 = y1 from rfl, Chn.chainUp_full (by rfl)]
theorem ch2 : Chn.chainOf M3 2 = some [y2] := by
  unfold Chn.chainOf
  rw [if_pos (by rfl), show Chn.atX M3 2 = y2 from rfl, Chn.chainUp_full (by rfl)]
theorem ids1 : Chn.chainIds M3 1 = [1] := by unfold Chn.chainIds; rw [ch1]; rfl
theorem ids2 : Chn.chainIds M3 2 = [2] := by unfold Chn.chainIds; rw [ch2]; rfl
theorem bk1 (n : Int) (h : 1 ≤ n) : Chn.backupsB M3 1 n y1 = true := by
  unfold Chn.backupsB; rw [show y1.id = 1 from rfl, ch1]; simp [Chn.backB, y1]; exact decide_eq_true h
theorem bk2 (n : Int) (h : 5 ≤ n) : Chn.backupsB M3 1 n y2 = true := by
  unfold Chn.backupsB; rw [show y2.id = 2 from rfl, ch2]; simp [Chn.backB, y2]; exact decide_eq_true h
theorem bk2n (n : Int) (h : n < 5) : Chn.backupsB M3 1 n y2 = false := by
  unfold Chn.backupsB; rw [show decide (y2.b ≤ n) = false from decide_eq_false (by simp [y2]; omega)]; simp
theorem bk3 (n : Int) : Chn.backupsB M3 1 n y3 = false := by unfold Chn.backupsB; simp [Chn.backB, y3]
theorem be2 (n l : Int) (hl : l ≤ 0) (h : 5 ≤ n) : Chn.bestOf M3 1 l n = (y2, true) := by
  unfold Chn.bestOf
  rw [show M3.filter (Chn.backupsB M3 1 n) = [y1, y2] by rw [show M3 = [y1, y2, y3] from rfl]; simp only [List.filter_cons, List.filter_nil]; rw [show [y1, y2, y3] = M3 from rfl, bk1 n (by omega), bk2 n h, bk3]; rfl]
  have s1 : Chn.bestStep l (zIt2, false) y1 = (y1, true) := by
    unfold Chn.bestStep
    rw [decide_eq_true (show l ≤ y1.a from by show l ≤ 1; omega)]; rfl
  have s2 : Chn.bestStep l (y1, true) y2 = (y2, true) := by
    unfold Chn.bestStep
    rw [decide_eq_true (show l ≤ y2.a from by show l ≤ 5; omega)]; rfl
  rw [List.foldl_cons, s1, List.foldl_cons, s2]; rfl
theorem be1 (n l : Int) (hl : l ≤ 0) (h1 : 1 ≤ n) (h : n < 5) : Chn.bestOf M3 1 l n = (y1, true) := by
  unfold Chn.bestOf
  rw [show M3.filter (Chn.backupsB M3 1 n) = [y1] by rw [show M3 = [y1, y2, y3] from rfl]; simp only [List.filter_cons, List.filter_nil]; rw [show [y1, y2, y3] = M3 from rfl, bk1 n h1, bk2n n h, bk3]; rfl]
  simp [Chn.bestStep, y1]
  omega
theorem nx (n : Int) (h0 : 0 ≤ n) (h : n < 9) : Re.nextSeg M3 1 n = some y3 := by
  unfold Re.nextSeg
  rw [show M3.filter (Re.segB 1) = [y3] from rfl, List.find?_cons_of_pos (by unfold Re.nextB; rw [decide_eq_true (show y3.a ≤ n from h0), decide_eq_true (show n < y3.b from h)]; rfl)]
theorem nx9 : Re.nextSeg M3 1 9 = none := rfl
theorem co (a n : Int) (h0 : 0 ≤ a) (h1 : a < n) (h9 : n ≤ 9) : Re.cover M3 1 a n = some [3] := by
  rw [Re.cover_some h1 (nx a h0 (by omega)), show y3.b = 9 from rfl, Re.cover_done (by omega)]; rfl
theorem con (a n : Int) (h0 : 0 ≤ a) (ha : a < 9) (h9 : 9 < n) : Re.cover M3 1 a n = none := by
  rw [Re.cover_some (by omega) (nx a h0 ha), show y3.b = 9 from rfl, Re.cover_none h9 nx9]; rfl
theorem fi (n : Int) (b : It2) (hb : Chn.bestOf M3 1 (min 0 n) n = (b, true)) (hn : 0 ≤ n) : findP M3 1 n = if (Re.cover M3 1 b.a n).isSome then some (b, (Re.cover M3 1 b.a n).getD [], List.replicate ((Re.cover M3 1 b.a n).getD []).length n) else none := by
  unfold findP
  rw [if_neg (by rw [kn1]; simp; omega), way1, findI, dif_pos (by simp)]
  simp only [List.getElem_cons_zero]
  rw [hb, if_pos rfl]
  have hp : planAt M3 [⟨1, min 0 n, n⟩] 0 ⟨1, min 0 n, n⟩ b = ((Re.cover M3 1 b.a n).getD [], List.replicate ((Re.cover M3 1 b.a n).getD []).length n, (Re.cover M3 1 b.a n).isSome) := by
    unfold planAt covStep
    simp
  rw [hp]
theorem ob_hi (n z : Int) (h : 5 ≤ n) (hz : z ∈ objL M3 1 n) : z = 2 ∨ z = 3 := by
  unfold objL at hz
  rw [fi n y2 (be2 n _ (by omega) h) (by omega), show y2.a = 5 from rfl] at hz
  by_cases h5 : 5 < n
  · by_cases h9 : n ≤ 9
    · rw [co 5 n (by omega) h5 h9] at hz
      simp only [Option.isSome_some, if_true, Sc.mem_upr, show y2.id = 2 from rfl, ids2, Option.getD_some] at hz
      simpa using hz
    · rw [con 5 n (by omega) (by omega) (by omega)] at hz
      simp at hz
  · rw [Re.cover_done h5] at hz
    simp only [Option.isSome_some, if_true, Sc.mem_upr, show y2.id = 2 from rfl, ids2, Option.getD_some] at hz
    simp at hz
    exact .inl hz
theorem ob6 (z : Int) (h : z = 2 ∨ z = 3) : z ∈ objL M3 1 6 := by
  unfold objL
  rw [fi 6 y2 (be2 6 _ (by omega) (by omega)) (by omega), show y2.a = 5 from rfl, co 5 6 (by omega) (by omega) (by omega)]
  simp only [Option.isSome_some, if_true, Sc.mem_upr, show y2.id = 2 from rfl, ids2, Option.getD_some]
  simpa using h
theorem ob2 : (1 : Int) ∈ objL M3 1 2 := by
  unfold objL
  rw [fi 2 y1 (be1 2 _ (by omega) (by omega) (by omega)) (by omega), show y1.a = 1 from rfl, co 1 2 (by omega) (by omega) (by omega)]
  simp only [Option.isSome_some, if_true, Sc.mem_upr, show y1.id = 1 from rfl, ids1, Option.getD_some]
  simp
theorem al1 : ∀ t, t ∈ allL M3 ↔ t = 1 := fun t => by
  rw [mem_all]
  refine ⟨fun h => h.elim id (fun ⟨x, hx, hk, _⟩ => ?_), .inl⟩
  exfalso
  revert hk
  revert x
  exact mem_M3 (by simp [isKn, y1]) (by simp [isKn, y2]) (by simp [isKn, y3])
theorem wantM (c z : Int) : z ∈ wantL M3 c ↔ ∃ n ∈ placesL M3 c, z ∈ objL M3 1 n := by
  unfold wantL
  rw [Sc.mem_upr]
  unfold wantZ
  rw [List.mem_append, show lineIds M3 = [] from rfl, List.mem_flatten]
  constructor
  · rintro (h | ⟨l, hl, hz⟩)
    · cases h
    · obtain ⟨t, ht, rfl⟩ := List.mem_map.1 hl
      obtain rfl := (al1 t).1 ht
      unfold tObj at hz
      obtain ⟨l, hl, hz⟩ := List.mem_flatten.1 hz
      obtain ⟨n, hn, rfl⟩ := List.mem_map.1 hl
      exact ⟨n, hn, hz⟩
  · rintro ⟨n, hn, hz⟩
    exact .inr ⟨_, List.mem_map.2 ⟨1, (al1 1).2 rfl, rfl⟩, List.mem_flatten.2 ⟨_, List.mem_map.2 ⟨n, hn, rfl⟩, hz⟩⟩
theorem want6 : wantL M3 6 = [2, 3] := by
  refine lt_same _ _ (Sc.upr_lt _) (by decide) (fun z => ?_)
  rw [wantM]
  constructor
  · rintro ⟨n, hn, hz⟩
    have := (mem_places.1 hn).1
    have := ob_hi n z (by omega) hz
    simpa using this
  · intro h
    exact ⟨6, places_c M3 6, ob6 z (by simpa using h)⟩
theorem want2 : ∀ x ∈ M3, x.id ∈ wantL M3 2 := by
  have h6 : (6 : Int) ∈ placesL M3 2 := mem_places.2 ⟨by omega, y2, by simp [M3], by simp [sixP, y2]⟩
  refine mem_M3 ?_ ?_ ?_
  · exact (wantM 2 _).2 ⟨2, places_c M3 2, ob2⟩
  · exact (wantM 2 _).2 ⟨6, h6, ob6 _ (.inl rfl)⟩
  · exact (wantM 2 _).2 ⟨6, h6, ob6 _ (.inr rfl)⟩
theorem upr_one (z : Int) : Sc.upr [z] = [z] := lt_same _ _ (Sc.upr_lt _) (List.pairwise_singleton _ _) (fun x => Sc.mem_upr _ _)
theorem rest6 : restL M3 6 = [1] := by
  unfold restL
  rw [want6, show (M3.filter (notIn [2, 3])).map It2.id = [1] from rfl, upr_one]
theorem rest2 : restL M3 2 = [] := by
  unfold restL
  rw [List.filter_eq_nil_iff.2 (fun x hx => by unfold notIn; simp [want2 x hx])]
  exact upr_nil
theorem M3v : M3.map It2.v = [.agg #[.int .i64 1, .int .i64 2, .int .i64 1, .int .i64 0, .int .i64 1, .int .i64 1, .int .i64 0, .int .i64 0, .slice none 0 0], .agg #[.int .i64 2, .int .i64 2, .int .i64 1, .int .i64 0, .int .i64 5, .int .i64 5, .int .i64 0, .int .i64 0, .slice none 0 0], .agg #[.int .i64 3, .int .i64 1, .int .i64 1, .int .i64 0, .int .i64 0, .int .i64 9, .int .i64 0, .int .i64 0, .slice none 0 0]] := rfl
set_option maxRecDepth 100000 in
set_option maxHeartbeats 4000000 in
theorem first_ct : Ct Tryz.prog 4 [] W0 X R C Unit (fun _ => .bool true) (fun _ => R) (fun _ => C) := by
  intro w hw
  have hF := isWide_wide
  have w6 := fun (W0 : World) (X : Nat → Prop) (R C : List Ch) (s : Value) (hs : IsSl s) (h : SlC 9 s (M3.map It2.v) ∈ R) => want_ct (W0 := W0) (X := X) (R := R) (C := C) s hs M3 M3_ok 6 (by omega) M3_r M3_tl h (by decide)
  have r6 := fun (W0 : World) (X : Nat → Prop) (R C : List Ch) (s : Value) (hs : IsSl s) (h : SlC 9 s (M3.map It2.v) ∈ R) => rest_ct (W0 := W0) (X := X) (R := R) (C := C) s hs M3 M3_ok 6 (by omega) M3_r M3_tl h (by decide)
  have r2 := fun (W0 : World) (X : Nat → Prop) (R C : List Ch) (s : Value) (hs : IsSl s) (h : SlC 9 s (M3.map It2.v) ∈ R) => rest_ct (W0 := W0) (X := X) (R := R) (C := C) s hs M3 M3_ok 2 (by omega) M3_r M3_tl h (by decide)
  rw [want6] at w6
  rw [rest6] at r6
  rw [rest2] at r2
  simp only [List.map_cons, List.map_nil] at w6 r6 r2
  rw [M3v] at w6 r6 r2
  refine calls_nx Tryz.func4 rfl Tryz.ntmps4 rfl ?_ hw
  repeat' (first | ((first | with_reducible refine nl_op rfl ?_ | refine nd_go rfl rfl rfl ?_); intro K hK; (first | ((first | refine on_E hF rfl rfl ?_ | refine od_E rfl rfl ?_ | refine od_R rfl rfl ?_); (first | refine ⟨_, a_yl, ?_⟩ | refine ⟨_, (by first | exact yl_build (T := 33) (us := [(0, _), (1, _), (2, _), (4, _), (5, _)]) rfl rfl rfl (fun w => by go_simp; all_goals rfl) | exact yl_build (T := 33) (us := [(0, _), (1, _), (2, _), (5, _)]) rfl rfl rfl (fun w => by go_simp; all_goals rfl)), ?_⟩)) | ((first | refine on_Ec hF rfl rfl ?_ | refine od_Ec rfl rfl ?_); refine ⟨_, _, _, a_yc, ?_, ?_⟩ <;> (intro hc; try exact a_cut hc)) | ((first | (refine od_act a_nd ?_; intro K2 hK2) | refine od_last a_nd ?_ | skip); (first | (refine on_buildSlice (T := 22) (e := 33) (k := 9) (by_ := 88) hF rfl rfl rfl rfl rfl rfl (by kernel_rfl) a_cel (Nat.le_of_ble_eq_true rfl) (fun b => ?_)) | (refine on_box hF rfl rfl rfl rfl (fun B => ?_)) | (refine on_store hF rfl rfl rfl rfl a_turn a_vof a_sz ?_) | (refine on_storeE hF rfl rfl rfl rfl a_turn a_om a_vof a_sz ?_) | (refine on_storeEF hF rfl rfl rfl rfl a_turn a_as (by decide) a_vof rfl ?_) | (refine on_storeF hF rfl rfl rfl rfl a_turn (by decide) a_vof rfl ?_)) <;> try (refine hK2 _ _ _ a_allK ?_; clear hK2 K2))) <;> (refine hK _ _ _ ?_; clear hK K)) | with_reducible (first | refine nx_seq ?_ | refine nx_region ?_ | refine nl_nil ?_ | refine nq_then_n ?_ | refine nx_block ?_ | refine nx_skip ?_ | refine nx_exit ?_ | refine nx_ret ?_ | refine nq_then_x ?_ | refine nq_then_r ?_ | refine nq_blk_n ?_ | refine nq_blk_r ?_ | refine nq_blk_hit ?_ | refine nq_blk_miss rfl ?_ | refine nd_nil ?_) | refine nx_cond_t rfl ?_ | refine nx_cond_f rfl ?_ | refine nl_pass hF rfl rfl rfl ?_ | refine nd_pass rfl rfl rfl rfl rfl ?_ | refine nd_pass2 rfl rfl rfl a_nd a_allK rfl rfl ?_ | refine nd_pass3 rfl rfl rfl a_nd rfl rfl ?_ | (with_reducible refine hQ1 _ _ _ ?_; clear hQ1 Q1) )
  obtain ⟨b0, hb0⟩ : ∃ b0, b0 = b := ⟨_, rfl⟩
  subst hb0
  refine nx_frzRow Pick.here ?_
  repeat' (first | ((first | with_reducible refine nl_op rfl ?_ | refine nd_go rfl rfl rfl ?_); intro K hK; (first | ((first | refine on_E hF rfl rfl ?_ | refine od_E rfl rfl ?_ | refine od_R rfl rfl ?_); (first | refine ⟨_, a_yl, ?_⟩ | refine ⟨_, (by first | exact yl_build (T := 33) (us := [(0, _), (1, _), (2, _), (4, _), (5, _)]) rfl rfl rfl (fun w => by go_simp; all_goals rfl) | exact yl_build (T := 33) (us := [(0, _), (1, _), (2, _), (5, _)]) rfl rfl rfl (fun w => by go_simp; all_goals rfl)), ?_⟩)) | ((first | refine on_Ec hF rfl rfl ?_ | refine od_Ec rfl rfl ?_); refine ⟨_, _, _, a_yc, ?_, ?_⟩ <;> (intro hc; try exact a_cut hc)) | ((first | (refine od_act a_nd ?_; intro K2 hK2) | refine od_last a_nd ?_ | skip); (first | (refine on_callG (vs := [.slice (some ⟨b0, 0, none⟩) 3 3, .int .i64 6]) hF (enters_of Tryz.func8 (by kernel_rfl) rfl) rfl rfl rfl rfl (w6 _ _ _ _ _ ⟨_, _, _, rfl⟩ (by exact a_mem)) (fun u => ?_); obtain ⟨u, ua, un, uc, rfl⟩ := u; dsimp only; refine nx_len (e := 3) (k := 1) (xs := [.int .i64 2, .int .i64 3]) (i := un) (by exact a_mem) (fun h1 => ?_); have h2 : un = 2 := h1; clear h1; subst h2; refine nx_frzRow Pick.here ?_) | (refine on_callG (vs := [.slice (some ⟨b0, 0, none⟩) 3 3, .int .i64 6]) hF (enters_of Tryz.func9 (by kernel_rfl) rfl) rfl rfl rfl rfl (r6 _ _ _ _ _ ⟨_, _, _, rfl⟩ (by exact a_mem)) (fun u => ?_); obtain ⟨u, va, vn, vc, rfl⟩ := u; dsimp only; refine nx_len (e := 3) (k := 1) (xs := [.int .i64 1]) (i := vn) (by exact a_mem) (fun h1 => ?_); have h2 : vn = 1 := h1; clear h1; subst h2; refine nx_frzRow Pick.here ?_) | (refine on_callG (vs := [.slice (some ⟨b0, 0, none⟩) 3 3, .int .i64 2]) hF (enters_of Tryz.func9 (by kernel_rfl) rfl) rfl rfl rfl rfl (r2 _ _ _ _ _ ⟨_, _, _, rfl⟩ (by exact a_mem)) (fun u => ?_); obtain ⟨u, ta, tn, tc, rfl⟩ := u; dsimp only; refine nx_len (e := 3) (k := 1) (xs := []) (i := tn) (by exact a_mem) (fun h1 => ?_); have h2 : tn = 0 := h1; clear h1; subst h2; refine nx_frzRow Pick.here ?_) | (refine on_buildSlice (T := 22) (e := 33) (k := 9) (by_ := 88) hF rfl rfl rfl rfl rfl rfl (by kernel_rfl) a_cel (Nat.le_of_ble_eq_true rfl) (fun b => ?_)) | (refine on_box hF rfl rfl rfl rfl (fun B => ?_)) | (refine on_store hF rfl rfl rfl rfl a_turn a_vof a_sz ?_) | (refine on_storeE hF rfl rfl rfl rfl a_turn a_om a_vof a_sz ?_) | (refine on_storeEF hF rfl rfl rfl rfl a_turn a_as (by decide) a_vof rfl ?_) | (refine on_storeF hF rfl rfl rfl rfl a_turn (by decide) a_vof rfl ?_)) <;> try (refine hK2 _ _ _ a_allK ?_; clear hK2 K2))) <;> (refine hK _ _ _ ?_; clear hK K)) | with_reducible (first | refine nx_seq ?_ | refine nx_region ?_ | refine nl_nil ?_ | refine nq_then_n ?_ | refine nx_block ?_ | refine nx_skip ?_ | refine nx_exit ?_ | refine nx_ret ?_ | refine nq_then_x ?_ | refine nq_then_r ?_ | refine nq_blk_n ?_ | refine nq_blk_r ?_ | refine nq_blk_hit ?_ | refine nq_blk_miss rfl ?_ | refine nd_nil ?_) | refine nx_cond_t rfl ?_ | refine nx_cond_f rfl ?_ | refine nl_pass hF rfl rfl rfl ?_ | refine nd_pass rfl rfl rfl rfl rfl ?_ | refine nd_pass2 rfl rfl rfl a_nd a_allK rfl rfl ?_ | refine nd_pass3 rfl rfl rfl a_nd rfl rfl ?_ | (with_reducible refine hQ1 _ _ _ ?_; clear hQ1 Q1) )
  refine nx_end [] rfl () (fun a w ha hw => res_tmp Tryz.results4 rfl ha) (by exact a_subR) (by exact a_holds2)
end Law24
end Go.Proofs.YtinofjenoapeaaaGreat
end
section
namespace Go.Proofs.YtinofjenoapeaaaGreat
open Go.RowKit Go.Shelf
set_option linter.unusedSimpArgs false
set_option linter.unusedVariables false
namespace Law24
variable {W0 : World} {X : Nat → Prop} {R C : List Ch}
structure Few (L : List It2) : Prop where
  r : ∀ x ∈ L, 0 ≤ x.a ∧ x.a ≤ 40 ∧ 0 ≤ x.b ∧ x.b ≤ 40 ∧ x.tl ≤ 1099511627776
  inc : (L.map It2.id).Pairwise (· < ·)
  len : L.length ≤ 20
structure FewI (L : List It2) (i : Nat) : Prop where
  r : ∀ x ∈ L.take i, 0 ≤ x.a ∧ x.a ≤ 40 ∧ 0 ≤ x.b ∧ x.b ≤ 40 ∧ x.tl ≤ 1099511627776
  inc : ((L.take i).map It2.id).Pairwise (· < ·)
theorem pw_snoc {l : List Int} {a b : Int} (h : (l ++ [a]).Pairwise (· < ·)) (hab : a < b) : (l ++ [a] ++ [b]).Pairwise (· < ·) := by
  rw [List.pairwise_append]
  refine ⟨h, List.pairwise_singleton _ _, fun x hx y hy => ?_⟩
  obtain rfl := List.mem_singleton.1 hy
  rcases List.mem_append.1 hx with hx | hx
  · have := (List.pairwise_append.1 h).2.2 x hx a (by simp); omega
  · obtain rfl := List.mem_singleton.1 hx; exact hab
theorem FewI.zero (L : List It2) : FewI L 0 := ⟨fun x hx => by simp at hx, by simp⟩
theorem FewI.step {L : List It2} {i : Nat} {x : It2} (h : FewI L i) (hx : L[i]? = some x) (hr : 0 ≤ x.a ∧ x.a ≤ 40 ∧ 0 ≤ x.b ∧ x.b ≤ 40 ∧ x.tl ≤ 1099511627776) (hi : i = 0 ∨ ∃ j y, i = j + 1 ∧ L[j]? = some y ∧ y.id < x.id) : FewI L (i + 1) := by
  have ht : L.take (i + 1) = L.take i ++ [x] := by rw [List.take_add_one, hx]; rfl
  refine ⟨fun z hz => ?_, ?_⟩
  · rw [ht] at hz
    rcases List.mem_append.1 hz with hz | hz
    · exact h.r z hz
    · obtain rfl := List.mem_singleton.1 hz; exact hr
  · rw [ht, List.map_append]
    rcases hi with rfl | ⟨j, y, rfl, hy, hlt⟩
    · simp
    · have h2 := h.inc
      have ht2 : L.take (j + 1) = L.take j ++ [y] := by rw [List.take_add_one, hy]; rfl
      rw [ht2, List.map_append] at h2 ⊢
      exact pw_snoc h2 hlt
set_option maxRecDepth 100000 in
set_option maxHeartbeats 4000000 in
theorem few_ct (s : Value) (hs : IsSl s) (L : List It2) (hok : ∀ x ∈ L, x.ok) (hsl : SlC 9 s (L.map It2.v) ∈ R) (hm : L.length * 88 ≤ 140737488355328) :
    Ct Tryz.prog 5 [s] W0 X R C { b : Bool // b = true → Few L } (fun i => .bool i.1) (fun _ => R) (fun _ => C) := by
  intro w hw
  have hF := isWide_wide
  obtain ⟨sa, sn, sc, rfl⟩ := hs
  obtain rfl := slLen (hw.hasR hsl)
  have hlv : (L.map It2.v).length = L.length := by simp
  refine calls_nx Tryz.func5 rfl Tryz.ntmps5 rfl ?_ hw
  repeat' (first | ((first | with_reducible refine nl_op rfl ?_ | refine nd_go rfl rfl rfl ?_); intro K hK; (first | ((first | refine on_E hF rfl rfl ?_ | refine od_E rfl rfl ?_ | refine od_R rfl rfl ?_); (first | refine ⟨_, a_yl, ?_⟩ | refine ⟨_, (by first | exact yl_fieldB (T := 33) (f := 0) (q := 0) rfl rfl (by kernel_rfl) | exact yl_fieldE (T := 33) (f := 0) (j := 0) rfl rfl a_sl a_om (by kernel_rfl) | exact yl_fieldB (T := 33) (f := 2) (q := 2) rfl rfl (by kernel_rfl) | exact yl_fieldE (T := 33) (f := 2) (j := 2) rfl rfl a_sl a_om (by kernel_rfl) | exact yl_fieldB (T := 33) (f := 4) (q := 4) rfl rfl (by kernel_rfl) | exact yl_fieldE (T := 33) (f := 4) (j := 4) rfl rfl a_sl a_om (by kernel_rfl) | exact yl_fieldB (T := 33) (f := 5) (q := 5) rfl rfl (by kernel_rfl) | exact yl_fieldE (T := 33) (f := 5) (j := 5) rfl rfl a_sl a_om (by kernel_rfl)), ?_⟩)) | ((first | refine on_Ec hF rfl rfl ?_ | refine od_Ec rfl rfl ?_); refine ⟨_, _, _, a_yc, ?_, ?_⟩ <;> (intro hc; try exact a_cut hc)) | ((first | (refine od_act a_nd ?_; intro K2 hK2) | refine od_last a_nd ?_ | skip); (first | (refine on_alloc hF rfl Tryz.zeroValue33 rfl rfl (fun B => ?_)) | (refine on_box hF rfl rfl rfl rfl (fun B => ?_)) | (refine on_store hF rfl rfl rfl rfl a_turn a_vof a_sz ?_) | (refine on_storeE hF rfl rfl rfl rfl a_turn a_om a_vof a_sz ?_) | (refine on_storeEF hF rfl rfl rfl rfl a_turn a_as (by decide) a_vof rfl ?_) | (refine on_storeF hF rfl rfl rfl rfl a_turn (by decide) a_vof rfl ?_)) <;> try (refine hK2 _ _ _ a_allK ?_; clear hK2 K2))) <;> (refine hK _ _ _ ?_; clear hK K)) | with_reducible (first | refine nx_seq ?_ | refine nx_region ?_ | refine nl_nil ?_ | refine nq_then_n ?_ | refine nx_block ?_ | refine nx_skip ?_ | refine nx_exit ?_ | refine nx_ret ?_ | refine nq_then_x ?_ | refine nq_then_r ?_ | refine nq_blk_n ?_ | refine nq_blk_r ?_ | refine nq_blk_hit ?_ | refine nq_blk_miss rfl ?_ | refine nd_nil ?_) | refine nx_cond_t rfl ?_ | refine nx_cond_f rfl ?_ | refine nl_pass hF rfl rfl rfl ?_ | refine nd_pass rfl rfl rfl rfl rfl ?_ | refine nd_pass2 rfl rfl rfl a_nd a_allK rfl rfl ?_ | refine nd_pass3 rfl rfl rfl a_nd rfl rfl ?_ | (with_reducible refine hQ1 _ _ _ ?_; clear hQ1 Q1) | (refine nd_region (id := 4) hF [0, 1, 0, 0, 0, 1, 0, 0, 0, 0, 1, 0, 0, 0, 0, 1, 0, 0, 0, 0, 1, 0, 0, 0, 0, 0, 0, 0, 0, 0, 1, 1, 1, 0, 1, 0, 0, 0] [0, 1, 2, 3, 4, 5, 6, 7, 8, 9, 10, 11, 12, 13, 14, 15, 16, 17, 18, 19, 20, 21, 22, 23, 24, 25, 26, 27, 28, 29, 30, 31, 32, 33, 34, 35, 36, 37] _ _ (by kernel_rfl) (by kernel_rfl) sub2_same ?_; intro Q1 hQ1))
  refine nx_loop (ι := { i : Nat // i ≤ L.length ∧ FewI L i }) (fun i => [(0, .slice sa (L.map It2.v).length sc), (5, .slice sa (L.map It2.v).length sc), (6, .int .i64 ((L.map It2.v).length : Int)), (7, .int .i64 (i.1 : Int))]) (fun _ => R) (fun _ => C) (fun i => L.length - i.1) ⟨0, Nat.zero_le _, FewI.zero L⟩ (by exact a_sub) (by exact a_subR) (by exact a_holds) (fun i => ?_)
  obtain ⟨i, hi, hI⟩ := i
  dsimp only
  by_cases hlt : i < L.length
  · obtain ⟨x, hx⟩ : ∃ x, L[i]? = some x := ⟨L[i], by simp [hlt]⟩
    have hxm : x ∈ L := List.mem_of_getElem? hx
    have hxv : (L.map It2.v)[i]? = some x.v := by rw [List.getElem?_map, hx]; rfl
    have hvx := x.vof (hok x hxm)
    have hst := hI.step hx
    clear hI
    match i, hst, hlt, hi, hx, hxv with
    | 0, hst, hlt, hi, hx, hxv =>
      repeat' (first | ((first | with_reducible refine nl_op rfl ?_ | refine nd_go rfl rfl rfl ?_); intro K hK; (first | ((first | refine on_E hF rfl rfl ?_ | refine od_E rfl rfl ?_ | refine od_R rfl rfl ?_); (first | refine ⟨_, a_yl, ?_⟩ | refine ⟨_, (by first | exact yl_fieldB (T := 33) (f := 0) (q := 0) rfl rfl (by kernel_rfl) | exact yl_fieldE (T := 33) (f := 0) (j := 0) rfl rfl a_sl a_om (by kernel_rfl) | exact yl_fieldB (T := 33) (f := 2) (q := 2) rfl rfl (by kernel_rfl) | exact yl_fieldE (T := 33) (f := 2) (j := 2) rfl rfl a_sl a_om (by kernel_rfl) | exact yl_fieldB (T := 33) (f := 4) (q := 4) rfl rfl (by kernel_rfl) | exact yl_fieldE (T := 33) (f := 4) (j := 4) rfl rfl a_sl a_om (by kernel_rfl) | exact yl_fieldB (T := 33) (f := 5) (q := 5) rfl rfl (by kernel_rfl) | exact yl_fieldE (T := 33) (f := 5) (j := 5) rfl rfl a_sl a_om (by kernel_rfl)), ?_⟩)) | ((first | refine on_Ec hF rfl rfl ?_ | refine od_Ec rfl rfl ?_); refine ⟨_, _, _, a_yc, ?_, ?_⟩ <;> (intro hc; try exact a_cut hc)) | ((first | (refine od_act a_nd ?_; intro K2 hK2) | refine od_last a_nd ?_ | skip); (first | (refine on_alloc hF rfl Tryz.zeroValue33 rfl rfl (fun B => ?_)) | (refine on_box hF rfl rfl rfl rfl (fun B => ?_)) | (refine on_store hF rfl rfl rfl rfl a_turn a_vof a_sz ?_) | (refine on_storeE hF rfl rfl rfl rfl a_turn a_om a_vof a_sz ?_) | (refine on_storeEF hF rfl rfl rfl rfl a_turn a_as (by decide) a_vof rfl ?_) | (refine on_storeF hF rfl rfl rfl rfl a_turn (by decide) a_vof rfl ?_)) <;> try (refine hK2 _ _ _ a_allK ?_; clear hK2 K2))) <;> (refine hK _ _ _ ?_; clear hK K)) | with_reducible (first | refine nx_seq ?_ | refine nx_region ?_ | refine nl_nil ?_ | refine nq_then_n ?_ | refine nx_block ?_ | refine nx_skip ?_ | refine nx_exit ?_ | refine nx_ret ?_ | refine nq_then_x ?_ | refine nq_then_r ?_ | refine nq_blk_n ?_ | refine nq_blk_r ?_ | refine nq_blk_hit ?_ | refine nq_blk_miss rfl ?_ | refine nd_nil ?_) | refine nx_cond_t rfl ?_ | refine nx_cond_f rfl ?_ | refine nl_pass hF rfl rfl rfl ?_ | refine nd_pass rfl rfl rfl rfl rfl ?_ | refine nd_pass2 rfl rfl rfl a_nd a_allK rfl rfl ?_ | refine nd_pass3 rfl rfl rfl a_nd rfl rfl ?_ | (with_reducible refine hQ1 _ _ _ ?_; clear hQ1 Q1) | (refine nd_region (id := 4) hF [0, 1, 0, 0, 0, 1, 0, 0, 0, 0, 1, 0, 0, 0, 0, 1, 0, 0, 0, 0, 1, 0, 0, 0, 0, 0, 0, 0, 0, 0, 1, 1, 1, 0, 1, 0, 0, 0] [0, 1, 2, 3, 4, 5, 6, 7, 8, 9, 10, 11, 12, 13, 14, 15, 16, 17, 18, 19, 20, 21, 22, 23, 24, 25, 26, 27, 28, 29, 30, 31, 32, 33, 34, 35, 36, 37] _ _ (by kernel_rfl) (by kernel_rfl) sub2_same ?_; intro Q1 hQ1))
      all_goals (first
        | (exfalso; dsimp only at *; omega)
        | refine nx_again ⟨1, by omega, hst ⟨by omega, by omega, by omega, by omega, by omega⟩ (.inl rfl)⟩ (by dsimp only; omega) (by exact a_sub) (by exact a_subR) (by exact a_holds)
        | refine nx_end [] rfl ((⟨false, fun h => by cases h⟩ : { b : Bool // b = true → Few L })) (fun a w ha hw => res_tmp Tryz.results5 rfl ha) (by exact a_subR) (by exact a_holds2))
    | j + 1, hst, hlt, hi, hx, hxv =>
      obtain ⟨y, hy⟩ : ∃ y, L[j]? = some y := ⟨_, List.getElem?_eq_getElem (by omega)⟩
      have hyv : (L.map It2.v)[j]? = some y.v := by rw [List.getElem?_map, hy]; rfl
      have hvy := y.vof (hok y (List.mem_of_getElem? hy))
      have hz : ((j + 1 : Nat) : Int) - 1 = (j : Int) := by omega
      repeat' (first | ((first | with_reducible refine nl_op rfl ?_ | refine nd_go rfl rfl rfl ?_); intro K hK; (first | ((first | refine on_E hF rfl rfl ?_ | refine od_E rfl rfl ?_ | refine od_R rfl rfl ?_); (first | refine ⟨_, yl_subZ hz (by omega) rfl rfl rfl, ?_⟩ | refine ⟨_, a_yl, ?_⟩ | refine ⟨_, (by first | exact yl_fieldB (T := 33) (f := 0) (q := 0) rfl rfl (by kernel_rfl) | exact yl_fieldE (T := 33) (f := 0) (j := 0) rfl rfl a_sl a_om (by kernel_rfl) | exact yl_fieldB (T := 33) (f := 2) (q := 2) rfl rfl (by kernel_rfl) | exact yl_fieldE (T := 33) (f := 2) (j := 2) rfl rfl a_sl a_om (by kernel_rfl) | exact yl_fieldB (T := 33) (f := 4) (q := 4) rfl rfl (by kernel_rfl) | exact yl_fieldE (T := 33) (f := 4) (j := 4) rfl rfl a_sl a_om (by kernel_rfl) | exact yl_fieldB (T := 33) (f := 5) (q := 5) rfl rfl (by kernel_rfl) | exact yl_fieldE (T := 33) (f := 5) (j := 5) rfl rfl a_sl a_om (by kernel_rfl)), ?_⟩)) | ((first | refine on_Ec hF rfl rfl ?_ | refine od_Ec rfl rfl ?_); refine ⟨_, _, _, a_yc, ?_, ?_⟩ <;> (intro hc; try exact a_cut hc)) | ((first | (refine od_act a_nd ?_; intro K2 hK2) | refine od_last a_nd ?_ | skip); (first | (refine on_alloc hF rfl Tryz.zeroValue33 rfl rfl (fun B => ?_)) | (refine on_box hF rfl rfl rfl rfl (fun B => ?_)) | (refine on_store hF rfl rfl rfl rfl a_turn a_vof a_sz ?_) | (refine on_storeE hF rfl rfl rfl rfl a_turn a_om a_vof a_sz ?_) | (refine on_storeEF hF rfl rfl rfl rfl a_turn a_as (by decide) a_vof rfl ?_) | (refine on_storeF hF rfl rfl rfl rfl a_turn (by decide) a_vof rfl ?_)) <;> try (refine hK2 _ _ _ a_allK ?_; clear hK2 K2))) <;> (refine hK _ _ _ ?_; clear hK K)) | with_reducible (first | refine nx_seq ?_ | refine nx_region ?_ | refine nl_nil ?_ | refine nq_then_n ?_ | refine nx_block ?_ | refine nx_skip ?_ | refine nx_exit ?_ | refine nx_ret ?_ | refine nq_then_x ?_ | refine nq_then_r ?_ | refine nq_blk_n ?_ | refine nq_blk_r ?_ | refine nq_blk_hit ?_ | refine nq_blk_miss rfl ?_ | refine nd_nil ?_) | refine nx_cond_t rfl ?_ | refine nx_cond_f rfl ?_ | refine nl_pass hF rfl rfl rfl ?_ | refine nd_pass rfl rfl rfl rfl rfl ?_ | refine nd_pass2 rfl rfl rfl a_nd a_allK rfl rfl ?_ | refine nd_pass3 rfl rfl rfl a_nd rfl rfl ?_ | (with_reducible refine hQ1 _ _ _ ?_; clear hQ1 Q1) | (refine nd_region (id := 4) hF [0, 1, 0, 0, 0, 1, 0, 0, 0, 0, 1, 0, 0, 0, 0, 1, 0, 0, 0, 0, 1, 0, 0, 0, 0, 0, 0, 0, 0, 0, 1, 1, 1, 0, 1, 0, 0, 0] [0, 1, 2, 3, 4, 5, 6, 7, 8, 9, 10, 11, 12, 13, 14, 15, 16, 17, 18, 19, 20, 21, 22, 23, 24, 25, 26, 27, 28, 29, 30, 31, 32, 33, 34, 35, 36, 37] _ _ (by kernel_rfl) (by kernel_rfl) sub2_same ?_; intro Q1 hQ1))
      all_goals (first
        | (exfalso; dsimp only at *; omega)
        | refine nx_again ⟨j + 2, by omega, hst ⟨by omega, by omega, by omega, by omega, by omega⟩ (.inr ⟨j, y, rfl, hy, by omega⟩)⟩ (by dsimp only; omega) (by exact a_sub) (by exact a_subR) (by exact a_holds)
        | refine nx_end [] rfl ((⟨false, fun h => by cases h⟩ : { b : Bool // b = true → Few L })) (fun a w ha hw => res_tmp Tryz.results5 rfl ha) (by exact a_subR) (by exact a_holds2))
  · have he : L.take i = L := List.take_of_length_le (by omega)
    have h1 := hI.r
    have h2 := hI.inc
    rw [he] at h1 h2
    clear hI
    by_cases h20 : L.length ≤ 20
    · repeat' (first | ((first | with_reducible refine nl_op rfl ?_ | refine nd_go rfl rfl rfl ?_); intro K hK; (first | ((first | refine on_E hF rfl rfl ?_ | refine od_E rfl rfl ?_ | refine od_R rfl rfl ?_); (first | refine ⟨_, a_yl, ?_⟩ | refine ⟨_, (by first | exact yl_fieldB (T := 33) (f := 0) (q := 0) rfl rfl (by kernel_rfl) | exact yl_fieldE (T := 33) (f := 0) (j := 0) rfl rfl a_sl a_om (by kernel_rfl) | exact yl_fieldB (T := 33) (f := 2) (q := 2) rfl rfl (by kernel_rfl) | exact yl_fieldE (T := 33) (f := 2) (j := 2) rfl rfl a_sl a_om (by kernel_rfl) | exact yl_fieldB (T := 33) (f := 4) (q := 4) rfl rfl (by kernel_rfl) | exact yl_fieldE (T := 33) (f := 4) (j := 4) rfl rfl a_sl a_om (by kernel_rfl) | exact yl_fieldB (T := 33) (f := 5) (q := 5) rfl rfl (by kernel_rfl) | exact yl_fieldE (T := 33) (f := 5) (j := 5) rfl rfl a_sl a_om (by kernel_rfl)), ?_⟩)) | ((first | refine on_Ec hF rfl rfl ?_ | refine od_Ec rfl rfl ?_); refine ⟨_, _, _, a_yc, ?_, ?_⟩ <;> (intro hc; try exact a_cut hc)) | ((first | (refine od_act a_nd ?_; intro K2 hK2) | refine od_last a_nd ?_ | skip); (first | (refine on_alloc hF rfl Tryz.zeroValue33 rfl rfl (fun B => ?_)) | (refine on_box hF rfl rfl rfl rfl (fun B => ?_)) | (refine on_store hF rfl rfl rfl rfl a_turn a_vof a_sz ?_) | (refine on_storeE hF rfl rfl rfl rfl a_turn a_om a_vof a_sz ?_) | (refine on_storeEF hF rfl rfl rfl rfl a_turn a_as (by decide) a_vof rfl ?_) | (refine on_storeF hF rfl rfl rfl rfl a_turn (by decide) a_vof rfl ?_)) <;> try (refine hK2 _ _ _ a_allK ?_; clear hK2 K2))) <;> (refine hK _ _ _ ?_; clear hK K)) | with_reducible (first | refine nx_seq ?_ | refine nx_region ?_ | refine nl_nil ?_ | refine nq_then_n ?_ | refine nx_block ?_ | refine nx_skip ?_ | refine nx_exit ?_ | refine nx_ret ?_ | refine nq_then_x ?_ | refine nq_then_r ?_ | refine nq_blk_n ?_ | refine nq_blk_r ?_ | refine nq_blk_hit ?_ | refine nq_blk_miss rfl ?_ | refine nd_nil ?_) | refine nx_cond_t rfl ?_ | refine nx_cond_f rfl ?_ | refine nl_pass hF rfl rfl rfl ?_ | refine nd_pass rfl rfl rfl rfl rfl ?_ | refine nd_pass2 rfl rfl rfl a_nd a_allK rfl rfl ?_ | refine nd_pass3 rfl rfl rfl a_nd rfl rfl ?_ | (with_reducible refine hQ1 _ _ _ ?_; clear hQ1 Q1) | (refine nd_region (id := 4) hF [0, 1, 0, 0, 0, 1, 0, 0, 0, 0, 1, 0, 0, 0, 0, 1, 0, 0, 0, 0, 1, 0, 0, 0, 0, 0, 0, 0, 0, 0, 1, 1, 1, 0, 1, 0, 0, 0] [0, 1, 2, 3, 4, 5, 6, 7, 8, 9, 10, 11, 12, 13, 14, 15, 16, 17, 18, 19, 20, 21, 22, 23, 24, 25, 26, 27, 28, 29, 30, 31, 32, 33, 34, 35, 36, 37] _ _ (by kernel_rfl) (by kernel_rfl) sub2_same ?_; intro Q1 hQ1))
      all_goals (try (exfalso; dsimp only at *; omega))
      refine nx_end [] rfl ((⟨true, fun _ => ⟨h1, h2, h20⟩⟩ : { b : Bool // b = true → Few L })) (fun a w ha hw => res_tmp Tryz.results5 rfl ha) (by exact a_subR) (by exact a_holds2)
    · repeat' (first | ((first | with_reducible refine nl_op rfl ?_ | refine nd_go rfl rfl rfl ?_); intro K hK; (first | ((first | refine on_E hF rfl rfl ?_ | refine od_E rfl rfl ?_ | refine od_R rfl rfl ?_); (first | refine ⟨_, a_yl, ?_⟩ | refine ⟨_, (by first | exact yl_fieldB (T := 33) (f := 0) (q := 0) rfl rfl (by kernel_rfl) | exact yl_fieldE (T := 33) (f := 0) (j := 0) rfl rfl a_sl a_om (by kernel_rfl) | exact yl_fieldB (T := 33) (f := 2) (q := 2) rfl rfl (by kernel_rfl) | exact yl_fieldE (T := 33) (f := 2) (j := 2) rfl rfl a_sl a_om (by kernel_rfl) | exact yl_fieldB (T := 33) (f := 4) (q := 4) rfl rfl (by kernel_rfl) | exact yl_fieldE (T := 33) (f := 4) (j := 4) rfl rfl a_sl a_om (by kernel_rfl) | exact yl_fieldB (T := 33) (f := 5) (q := 5) rfl rfl (by kernel_rfl) | exact yl_fieldE (T := 33) (f := 5) (j := 5) rfl rfl a_sl a_om (by kernel_rfl)), ?_⟩)) | ((first | refine on_Ec hF rfl rfl ?_ | refine od_Ec rfl rfl ?_); refine ⟨_, _, _, a_yc, ?_, ?_⟩ <;> (intro hc; try exact a_cut hc)) | ((first | (refine od_act a_nd ?_; intro K2 hK2) | refine od_last a_nd ?_ | skip); (first | (refine on_alloc hF rfl Tryz.zeroValue33 rfl rfl (fun B => ?_)) | (refine on_box hF rfl rfl rfl rfl (fun B => ?_)) | (refine on_store hF rfl rfl rfl rfl a_turn a_vof a_sz ?_) | (refine on_storeE hF rfl rfl rfl rfl a_turn a_om a_vof a_sz ?_) | (refine on_storeEF hF rfl rfl rfl rfl a_turn a_as (by decide) a_vof rfl ?_) | (refine on_storeF hF rfl rfl rfl rfl a_turn (by decide) a_vof rfl ?_)) <;> try (refine hK2 _ _ _ a_allK ?_; clear hK2 K2))) <;> (refine hK _ _ _ ?_; clear hK K)) | with_reducible (first | refine nx_seq ?_ | refine nx_region ?_ | refine nl_nil ?_ | refine nq_then_n ?_ | refine nx_block ?_ | refine nx_skip ?_ | refine nx_exit ?_ | refine nx_ret ?_ | refine nq_then_x ?_ | refine nq_then_r ?_ | refine nq_blk_n ?_ | refine nq_blk_r ?_ | refine nq_blk_hit ?_ | refine nq_blk_miss rfl ?_ | refine nd_nil ?_) | refine nx_cond_t rfl ?_ | refine nx_cond_f rfl ?_ | refine nl_pass hF rfl rfl rfl ?_ | refine nd_pass rfl rfl rfl rfl rfl ?_ | refine nd_pass2 rfl rfl rfl a_nd a_allK rfl rfl ?_ | refine nd_pass3 rfl rfl rfl a_nd rfl rfl ?_ | (with_reducible refine hQ1 _ _ _ ?_; clear hQ1 Q1) | (refine nd_region (id := 4) hF [0, 1, 0, 0, 0, 1, 0, 0, 0, 0, 1, 0, 0, 0, 0, 1, 0, 0, 0, 0, 1, 0, 0, 0, 0, 0, 0, 0, 0, 0, 1, 1, 1, 0, 1, 0, 0, 0] [0, 1, 2, 3, 4, 5, 6, 7, 8, 9, 10, 11, 12, 13, 14, 15, 16, 17, 18, 19, 20, 21, 22, 23, 24, 25, 26, 27, 28, 29, 30, 31, 32, 33, 34, 35, 36, 37] _ _ (by kernel_rfl) (by kernel_rfl) sub2_same ?_; intro Q1 hQ1))
      all_goals (try (exfalso; dsimp only at *; omega))
      refine nx_end [] rfl ((⟨false, fun h => by cases h⟩ : { b : Bool // b = true → Few L })) (fun a w ha hw => res_tmp Tryz.results5 rfl ha) (by exact a_subR) (by exact a_holds2)
end Law24
end Go.Proofs.YtinofjenoapeaaaGreat
end
section
namespace Go.Proofs.YtinofjenoapeaaaGreat
open Go.RowKit Go.Shelf
set_option linter.unusedSimpArgs false
set_option linter.unusedVariables false
namespace Law24
open Pl Li Pr
variable {W0 : World} {X : Nat → Prop} {R C : List Ch}
theorem restL_len (L : List It2) (c : Int) : (restL L c).length ≤ L.length := by
  unfold restL
  refine Nat.le_trans (Sc.upr_len _) ?_
  rw [List.length_map]
  exact List.length_filter_le _ _
set_option maxRecDepth 100000 in
set_option maxHeartbeats 8000000 in
theorem tells_ct (s : Value) (hs : IsSl s) (L : List It2) (hok : ∀ x ∈ L, x.ok) (c : Int) (hsl : SlC 9 s (L.map It2.v) ∈ R) (hm : L.length * 88 ≤ 140737488355328) :
    Ct Tryz.prog 3 [s, .int .i64 c] W0 X R C Unit (fun _ => .bool true) (fun _ => R) (fun _ => C) := by
  intro w hw
  have hF := isWide_wide
  have fc := fun (W0 : World) (X : Nat → Prop) (R C : List Ch) h => few_ct (W0 := W0) (X := X) (R := R) (C := C) _ hs L hok h hm
  by_cases hcc : -5 ≤ c ∧ c ≤ 60
  · refine calls_nx Tryz.func3 rfl Tryz.ntmps3 rfl ?_ hw
    repeat' (first | ((first | with_reducible refine nl_op rfl ?_ | refine nd_go rfl rfl rfl ?_); intro K hK; (first | ((first | refine on_E hF rfl rfl ?_ | refine od_E rfl rfl ?_ | refine od_R rfl rfl ?_); (first | refine ⟨_, a_yl, ?_⟩)) | ((first | refine on_Ec hF rfl rfl ?_ | refine od_Ec rfl rfl ?_); refine ⟨_, _, _, a_yc, ?_, ?_⟩ <;> (intro hc; try exact a_cut hc)) | ((first | (refine od_act a_nd ?_; intro K2 hK2) | refine od_last a_nd ?_ | skip); (first | (refine on_callG hF (enters_of Tryz.func4 (by kernel_rfl) rfl) rfl rfl rfl rfl first_ct (fun _ => ?_)) | (refine on_callG hF (enters_of Tryz.func5 (by kernel_rfl) rfl) rfl rfl rfl rfl (fc _ _ _ _ (by exact a_mem)) (fun i => ?_); obtain ⟨bf, hbf⟩ := i; dsimp only; cases bf) | (refine on_box hF rfl rfl rfl rfl (fun B => ?_)) | (refine on_store hF rfl rfl rfl rfl a_turn a_vof a_sz ?_) | (refine on_storeE hF rfl rfl rfl rfl a_turn a_om a_vof a_sz ?_) | (refine on_storeEF hF rfl rfl rfl rfl a_turn a_as (by decide) a_vof rfl ?_) | (refine on_storeF hF rfl rfl rfl rfl a_turn (by decide) a_vof rfl ?_)) <;> try (refine hK2 _ _ _ a_allK ?_; clear hK2 K2))) <;> (refine hK _ _ _ ?_; clear hK K)) | with_reducible (first | refine nx_seq ?_ | refine nx_region ?_ | refine nl_nil ?_ | refine nq_then_n ?_ | refine nx_block ?_ | refine nx_skip ?_ | refine nx_exit ?_ | refine nx_ret ?_ | refine nq_then_x ?_ | refine nq_then_r ?_ | refine nq_blk_n ?_ | refine nq_blk_r ?_ | refine nq_blk_hit ?_ | refine nq_blk_miss rfl ?_ | refine nd_nil ?_) | refine nx_cond_t rfl ?_ | refine nx_cond_f rfl ?_ | refine nl_pass hF rfl rfl rfl ?_ | refine nd_pass rfl rfl rfl rfl rfl ?_ | refine nd_pass2 rfl rfl rfl a_nd a_allK rfl rfl ?_ | refine nd_pass3 rfl rfl rfl a_nd rfl rfl ?_ | (with_reducible refine hQ1 _ _ _ ?_; clear hQ1 Q1) )
    all_goals (try (exfalso; dsimp only at *; omega))
    · refine nx_end [] rfl () (fun a w ha hw => res_tmp Tryz.results3 rfl ha) (by exact a_subR) (by exact a_holds2)
    · have hf := hbf rfl
      have hr : ∀ x ∈ L, 0 ≤ x.a ∧ x.a ≤ 40 ∧ 0 ≤ x.b ∧ x.b ≤ 40 := fun x hx => by have := hf.r x hx; omega
      have hL := hf.len
      have sc := fun (W0 : World) (X : Nat → Prop) (R C : List Ch) h => Rf24.split_ct (W0 := W0) (X := X) (R := R) (C := C) s hs L hok c (Rf24.wB L c) (fun W0 X R C x hx h2 => Rf24.wanted_ct s hs L hok hf.len c hcc x (hok x hx) h2) h (by omega)
      rw [Rf24.want_list hr hf.inc, Rf24.rest_list hr hf.inc] at sc
      have wc := fun (W0 : World) (X : Nat → Prop) (R C : List Ch) h => want_ct (W0 := W0) (X := X) (R := R) (C := C) s hs L hok c (by omega) (fun x hx => by have := hf.r x hx; omega) (fun x hx => (hf.r x hx).2.2.2.2) h hf.len
      have rc := fun (W0 : World) (X : Nat → Prop) (R C : List Ch) h => rest_ct (W0 := W0) (X := X) (R := R) (C := C) s hs L hok c (by omega) (fun x hx => by have := hf.r x hx; omega) (fun x hx => (hf.r x hx).2.2.2.2) h hf.len
      have hwl := wantL_len L c hL
      have hrl := restL_len L c
      obtain ⟨ws, hws⟩ : ∃ ws, wantL L c = ws := ⟨_, rfl⟩
      obtain ⟨rs, hrs⟩ : ∃ rs, restL L c = rs := ⟨_, rfl⟩
      rw [hws] at sc wc hwl
      rw [hrs] at sc rc hrl
      clear hws hrs hf hr hbf fc
      repeat' (first | ((first | with_reducible refine nl_op rfl ?_ | refine nd_go rfl rfl rfl ?_); intro K hK; (first | ((first | refine on_E hF rfl rfl ?_ | refine od_E rfl rfl ?_ | refine od_R rfl rfl ?_); (first | refine ⟨_, a_yl, ?_⟩)) | ((first | refine on_Ec hF rfl rfl ?_ | refine od_Ec rfl rfl ?_); refine ⟨_, _, _, a_yc, ?_, ?_⟩ <;> (intro hc; try exact a_cut hc)) | ((first | (refine od_act a_nd ?_; intro K2 hK2) | refine od_last a_nd ?_ | skip); (first | (refine on_callG hF (enters_of Tryz.func6 (by kernel_rfl) rfl) rfl rfl rfl rfl (sc _ _ _ _ (by exact a_mem)) (fun i => ?_); obtain ⟨⟨u, hu⟩, ⟨v, hv⟩⟩ := i; dsimp only; refine nx_frzRow Pick.here (nx_frzRow Pick.here ?_)) | (refine on_callG hF (enters_of Tryz.func8 (by kernel_rfl) rfl) rfl rfl rfl rfl (wc _ _ _ _ (by exact a_mem)) (fun p => ?_); obtain ⟨p, hp⟩ := p; dsimp only; refine nx_frzRow Pick.here ?_) | (refine on_callG hF (enters_of Tryz.func9 (by kernel_rfl) rfl) rfl rfl rfl rfl (rc _ _ _ _ (by exact a_mem)) (fun q => ?_); obtain ⟨q, hq⟩ := q; dsimp only; refine nx_frzRow Pick.here ?_) | (refine on_callG (vs := [p, u]) hF (enters_of Tryz.func7 (by kernel_rfl) rfl) rfl rfl rfl rfl (Rf24.same_ct p u hp hu ws (by exact a_mem) (by exact a_mem) (by omega)) (fun _ => ?_)) | (refine on_callG (vs := [q, v]) hF (enters_of Tryz.func7 (by kernel_rfl) rfl) rfl rfl rfl rfl (Rf24.same_ct q v hq hv rs (by exact a_mem) (by exact a_mem) (by omega)) (fun _ => ?_)) | (refine on_box hF rfl rfl rfl rfl (fun B => ?_)) | (refine on_store hF rfl rfl rfl rfl a_turn a_vof a_sz ?_) | (refine on_storeE hF rfl rfl rfl rfl a_turn a_om a_vof a_sz ?_) | (refine on_storeEF hF rfl rfl rfl rfl a_turn a_as (by decide) a_vof rfl ?_) | (refine on_storeF hF rfl rfl rfl rfl a_turn (by decide) a_vof rfl ?_)) <;> try (refine hK2 _ _ _ a_allK ?_; clear hK2 K2))) <;> (refine hK _ _ _ ?_; clear hK K)) | with_reducible (first | refine nx_seq ?_ | refine nx_region ?_ | refine nl_nil ?_ | refine nq_then_n ?_ | refine nx_block ?_ | refine nx_skip ?_ | refine nx_exit ?_ | refine nx_ret ?_ | refine nq_then_x ?_ | refine nq_then_r ?_ | refine nq_blk_n ?_ | refine nq_blk_r ?_ | refine nq_blk_hit ?_ | refine nq_blk_miss rfl ?_ | refine nd_nil ?_) | refine nx_cond_t rfl ?_ | refine nx_cond_f rfl ?_ | refine nl_pass hF rfl rfl rfl ?_ | refine nd_pass rfl rfl rfl rfl rfl ?_ | refine nd_pass2 rfl rfl rfl a_nd a_allK rfl rfl ?_ | refine nd_pass3 rfl rfl rfl a_nd rfl rfl ?_ | (with_reducible refine hQ1 _ _ _ ?_; clear hQ1 Q1) )
      all_goals (try (exfalso; dsimp only at *; omega))
      refine nx_end [] rfl () (fun a w ha hw => res_tmp Tryz.results3 rfl ha) (by exact a_subR) (by exact a_holds2)
  · refine calls_nx Tryz.func3 rfl Tryz.ntmps3 rfl ?_ hw
    repeat' (first | ((first | with_reducible refine nl_op rfl ?_ | refine nd_go rfl rfl rfl ?_); intro K hK; (first | ((first | refine on_E hF rfl rfl ?_ | refine od_E rfl rfl ?_ | refine od_R rfl rfl ?_); (first | refine ⟨_, a_yl, ?_⟩)) | ((first | refine on_Ec hF rfl rfl ?_ | refine od_Ec rfl rfl ?_); refine ⟨_, _, _, a_yc, ?_, ?_⟩ <;> (intro hc; try exact a_cut hc)) | ((first | (refine od_act a_nd ?_; intro K2 hK2) | refine od_last a_nd ?_ | skip); (first | (refine on_callG hF (enters_of Tryz.func4 (by kernel_rfl) rfl) rfl rfl rfl rfl first_ct (fun _ => ?_)) | (refine on_callG hF (enters_of Tryz.func5 (by kernel_rfl) rfl) rfl rfl rfl rfl (fc _ _ _ _ (by exact a_mem)) (fun i => ?_); obtain ⟨bf, hbf⟩ := i; dsimp only; cases bf) | (refine on_box hF rfl rfl rfl rfl (fun B => ?_)) | (refine on_store hF rfl rfl rfl rfl a_turn a_vof a_sz ?_) | (refine on_storeE hF rfl rfl rfl rfl a_turn a_om a_vof a_sz ?_) | (refine on_storeEF hF rfl rfl rfl rfl a_turn a_as (by decide) a_vof rfl ?_) | (refine on_storeF hF rfl rfl rfl rfl a_turn (by decide) a_vof rfl ?_)) <;> try (refine hK2 _ _ _ a_allK ?_; clear hK2 K2))) <;> (refine hK _ _ _ ?_; clear hK K)) | with_reducible (first | refine nx_seq ?_ | refine nx_region ?_ | refine nl_nil ?_ | refine nq_then_n ?_ | refine nx_block ?_ | refine nx_skip ?_ | refine nx_exit ?_ | refine nx_ret ?_ | refine nq_then_x ?_ | refine nq_then_r ?_ | refine nq_blk_n ?_ | refine nq_blk_r ?_ | refine nq_blk_hit ?_ | refine nq_blk_miss rfl ?_ | refine nd_nil ?_) | refine nx_cond_t rfl ?_ | refine nx_cond_f rfl ?_ | refine nl_pass hF rfl rfl rfl ?_ | refine nd_pass rfl rfl rfl rfl rfl ?_ | refine nd_pass2 rfl rfl rfl a_nd a_allK rfl rfl ?_ | refine nd_pass3 rfl rfl rfl a_nd rfl rfl ?_ | (with_reducible refine hQ1 _ _ _ ?_; clear hQ1 Q1) )
    all_goals (first
      | (exfalso; dsimp only at *; omega)
      | refine nx_end [] rfl () (fun a w ha hw => res_tmp Tryz.results3 rfl ha) (by exact a_subR) (by exact a_holds2))
end Law24
end Go.Proofs.YtinofjenoapeaaaGreat
end
section
namespace Go.Proofs.YtinofjenoapeaaaGreat.pruneTells
open Go.ChangeShapes Go.WideShapes Go.ChangeAt Go.RowKit
open Go.ChangeMaps (open_string shut_string)
set_option linter.unusedVariables false
open Go.Proofs.YtinofjenoapeaaaGreat
theorem own : ownKnob Tryz.prog.godebug = none := by kernel_rfl
theorem laidOut : laidOutB Tryz.prog = true := by kernel_rfl
set_option maxRecDepth 100000 in
theorem lifted (os : Os) (started : os.Started) (H : Type) (enc : TypeId × Value → H) :
    ReturnsInHanded {} Tryz.checked os 3 .any (Rows.pruneTellsSpec.pre6 enc Tryz.prog Tryz.f3 Rows.pruneTellsRow.domain false) (Rows.pruneTellsSpec.post enc Tryz.prog Tryz.f3 false true false false) := by
  refine returnsInHanded_of_change_sized (C := Tryz.checked) own started (by kernel_rfl) Tryz.func3
    (ChangeSpec.witness6 (enc := enc) (C := Tryz.checked) false ⟨#[], #[.slice none 0 0, .int .i64 0], []⟩ 8 (by kernel_rfl) (by kernel_rfl) (by kernel_rfl) (by kernel_rfl)) ?_
  intro W base args ds gs before hval0 hW hcnd hsz0 _
  have hsz : (DataW.weightsEach Tryz.prog (Tryz.f3.params.toList ++ Rows.pruneTellsSpec.plain.varTypes Tryz.prog) (ds ++ gs)).all (· ≤ reachBytes) = true := hsz0
  have hval : ∀ (j : Nat) t v, Tryz.f3.params[j]? = some t → args[j]? = some v → Value.okWide Tryz.prog W .any base t v := hval0
  have hW' := hW
  obtain ⟨p, q, hA0, hV, rfl, hfz, hnd⟩ := hW
  have hA : DataW.TrodAll enc Tryz.prog W 0 (fun _ => true) true Tryz.f3.params.toList args.toList ds p := hA0
  rw [Tryz.params3] at hA hval hsz
  obtain ⟨v0, vs0, d0, ds0, p0, q0, hargs, rfl, rfl, h0, r0⟩ := trodAll_cons hA
  obtain ⟨v1, vs1, d1, ds1, p1, q1, rfl, rfl, rfl, h1, r1⟩ := trodAll_cons r0
  obtain ⟨rfl, rfl, rfl⟩ := trodAll_nil r1
  obtain rfl : args = #[v0, v1] := by cases args; simp_all
  obtain ⟨rfl, rfl⟩ := trodVars_none hV
  have k0 := h0
  have lt0 : ∀ x ∈ p0, x.block < W.heap.size := by obtain ⟨m, hm⟩ := k0; exact DataW.trod_lt m _ _ _ hm
  obtain ⟨a0, len0, cap0, rfl⟩ := okWide_slice Tryz.underlying22 (hval 0 22 v0 rfl rfl)
  obtain ⟨L0, I0, l0⟩ := its_open h0
  have z0 := slice_bound hsz (j := 0) rfl rfl Tryz.underlying22 (by kernel_rfl : _ = 88) h0
  obtain ⟨a1, rfl, rfl, rfl, w1⟩ := open_int Tryz.underlying3 (hval 1 3 v1 rfl rfl) h1
  clear hA0 hval0 hsz0 hsz
  refine ((Ct.retB (v := .bool true) (R := [SlC 9 (.slice a0 len0 cap0) (L0.map It2.v)]) (Law24.tells_ct _ ⟨_, _, _, rfl⟩ L0 I0.ok a1 List.mem_cons_self (by omega)) I0.ch)).mono fun e W' ⟨he, bel⟩ => ?_
  subst he
  exact ⟨_, rfl, _, _, _, [], _, [], hW', trodAll_mk1 (shut_bool Tryz.underlying4 _), (trodAll_cons_mk (Below.trod laidOut (by kernel_rfl) (of_decide_eq_true (by kernel_rfl)) k0 bel lt0) (trodAll_cons_mk (shut_int Tryz.underlying3 w1) trodAll_mk0)), rfl, bel.frame _, fun h => by cases h⟩
theorem over : Rows.pruneTellsRow.holds Tryz.pinned (OpenSpec.ofChange Rows.pruneTellsSpec) :=
  OpenClaim.holds_of_wide 3 Tryz.f3 rfl rfl rfl rfl rfl rfl rfl ⟨rfl, rfl, rfl, rfl, rfl⟩ rfl rfl rfl rfl rfl (by kernel_rfl) Tryz.func3 (by kernel_rfl)
    (of_decide_eq_true (by kernel_rfl)) (by unfold Func.isWrapper; first | (rw [if_pos (by decide +kernel)]; kernel_rfl) | (rw [if_neg (by decide +kernel)]; exact ⟨rfl, rfl⟩))
    (fun os started H enc _ => lifted os started H enc)
theorem proved : Rows.PruneTellsSaid := over
end Go.Proofs.YtinofjenoapeaaaGreat.pruneTells
namespace Go.Proofs.YtinofjenoapeaaaGreat
/-- The row, under a short name, for the claim. -/
theorem pruneTells_holds : Rows.PruneTellsSaid := pruneTells.proved
end Go.Proofs.YtinofjenoapeaaaGreat
end
