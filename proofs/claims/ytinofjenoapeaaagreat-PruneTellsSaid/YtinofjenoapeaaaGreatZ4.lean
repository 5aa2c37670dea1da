/- The document's plan is the code's, as plain functions. No condition. -/
import Derived.Test.YtinofjenoapeaaaGreatZ3
import Derived.Test.YtinofjenoapeaaaGreatZ2
import Derived.Test.YtinofjenoapeaaaGreatShelf
import Derived.Lib.RowBridge
import Derived.Test.YtinofjenoapeaaaGreatProg
section
namespace Go.Proofs.YtinofjenoapeaaaGreat
open Go.RowKit Go.Shelf
set_option linter.unusedSimpArgs false
set_option linter.unusedVariables false
namespace Ord
variable {W0 : World} {X : Nat → Prop} {R C : List Ch}
theorem lowI_ok {ks : List Int} (hks : ks.Pairwise (· < ·)) (k : Int) : LowI ks k (lowI ks k) := by
  induction ks with
  | nil => exact ⟨Nat.le_refl _, fun j x h => by simp [lowI] at h, fun j x h hx => by simp at hx⟩
  | cons y ks ih =>
    obtain ⟨h1, h2⟩ := List.pairwise_cons.1 hks
    have ih := ih h2
    unfold lowI at ih ⊢
    by_cases hy : y < k
    · rw [List.filter_cons_of_pos (by simpa using hy)]
      refine ⟨by have := ih.le; simp only [List.length_cons]; omega, fun j x hj hx => ?_, fun j x hj hx => ?_⟩
      · cases j with
        | zero => simp at hx; omega
        | succ j => exact ih.lt j x (by simp only [List.length_cons] at hj; omega) (by simpa using hx)
      · cases j with
        | zero => simp at hj
        | succ j => exact ih.ge j x (by simp only [List.length_cons] at hj; omega) (by simpa using hx)
    · have he : ks.filter (fun x => decide (x < k)) = [] := List.filter_eq_nil_iff.2 (fun x hx => by have := h1 x hx; simp; omega)
      rw [List.filter_cons_of_neg (by simpa using hy), he]
      refine ⟨Nat.zero_le _, fun j x hj => absurd hj (Nat.not_lt_zero _), fun j x _ hx => ?_⟩
      rcases List.mem_cons.1 (List.mem_of_getElem? hx) with rfl | h
      · omega
      · have := h1 x h; omega
/-- A map whose keys are these. -/
def OrdC (bm : Nat) (ks : List Int) : Ch := ExC (ι := SV) (fun s => [BoxC bm 65 (.agg #[s.1]), RowC 73 2 s.1 (ks.map pv)])
theorem ordOpen {bm : Nat} {ks : List Int} {E : List Ch} {w : World} (h : St W0 X R (OrdC bm ks :: E) w) : ∃ s : SV, St W0 X R (BoxC bm 65 (.agg #[s.1]) :: RowC 73 2 s.1 (ks.map pv) :: E) w := St.exC h
theorem nx_ord {K : Act → World → Prop} {n : Nat} {l : List (Nat × Value)} {d : List Deferred} {bm : Nat} {s : Value} (hs : IsSl s) {ks : List Int} {E1 E : List Ch} (h1 : Pick C (BoxC bm 65 (.agg #[s])) E1) (h2 : Pick E1 (RowC 73 2 s (ks.map pv)) E) (h : Nx K n l d W0 X R (OrdC bm ks :: E)) : Nx K n l d W0 X R C := fun a w ha hw =>
  h a w ha (St.toEx (f := fun s : SV => [BoxC bm 65 (.agg #[s.1]), RowC 73 2 s.1 (ks.map pv)]) ⟨s, hs⟩ (hw.perm (perm2 h1 h2)))
theorem ordR {bm : Nat} {ks : List Int} {w : World} (h : St W0 X R C w) (hm : OrdC bm ks ∈ R) : ∃ s : SV, St W0 X (BoxC bm 65 (.agg #[s.1]) :: SlC 2 s.1 (ks.map pv) :: R) C w := by
  obtain ⟨ht, OR, OC, h1, h2, h3, h4⟩ := h
  obtain ⟨O, ⟨⟨s, O1, g1, g2, O2, g3, g4, _⟩, _⟩, hO⟩ := h1 _ hm
  refine ⟨s, ht, OR, OC, fun r hr => ?_, h2, h3, h4⟩
  rcases List.mem_cons.1 hr with rfl | hr
  · exact ⟨O1, g1, fun k hk => hO k (g2 k hk)⟩
  · rcases List.mem_cons.1 hr with rfl | hr
    · obtain ⟨O', k1, k2⟩ := RowC.slC g3
      exact ⟨O', k1, fun k hk => hO k (g4 k (k2 k hk)).1⟩
    · exact h1 r hr
theorem vofM {s : Value} (hs : IsSl s) : VOf Tryz.prog 65 (.agg #[s]) := by
  obtain ⟨_, _, _, rfl⟩ := hs
  exact vofk (by kernel_rfl) rfl rfl
theorem find_ct (bm : Nat) (s : Value) (hs : IsSl s) (ks : List Int) (hks : ks.Pairwise (· < ·)) (k : Int) (hb : BoxC bm 65 (.agg #[s]) ∈ R) (hsl : SlC 2 s (ks.map pv) ∈ R) (hm : ks.length ≤ 4000000000) :
    Ct Tryz.prog 32 [ptr bm, .int .i64 k] W0 X R C Unit (fun _ => .tuple #[.int .i64 (lowI ks k : Int), .bool (decide (k ∈ ks))]) (fun _ => R) (fun _ => C) := by
  intro w hw
  have hF := isWide_wide
  have hvm := vofM hs
  have hvs : VOf Tryz.prog 63 s := vof_slice (by kernel_rfl) hs
  obtain ⟨sa, sn, sc, rfl⟩ := hs
  refine calls_nx Tryz.func32 rfl Tryz.ntmps32 rfl ?_ hw
  repeat' (first | ((first | with_reducible refine nl_op rfl ?_ | refine nd_go rfl rfl rfl ?_); intro K hK; (first | ((first | refine on_E hF rfl rfl ?_ | refine od_E rfl rfl ?_ | refine od_R rfl rfl ?_); (first | refine ⟨_, a_yl, ?_⟩ | refine ⟨_, (by first | exact yl_fieldB (T := 65) (f := 0) (q := 0) rfl rfl (by kernel_rfl) | exact yl_fieldE (T := 65) (f := 0) (j := 0) rfl rfl a_sl a_om (by kernel_rfl)), ?_⟩)) | ((first | refine on_Ec hF rfl rfl ?_ | refine od_Ec rfl rfl ?_); refine ⟨_, _, _, a_yc, ?_, ?_⟩ <;> (intro hc; try exact a_cut hc)) | ((first | (refine od_act a_nd ?_; intro K2 hK2) | refine od_last a_nd ?_ | skip); (first | (refine on_call (vs := [.slice sa sn sc, .int .i64 k, .func (.func 54) #[] #[]]) hF rfl rfl rfl rfl (enters_of Tryz.func53 (by kernel_rfl) rfl) (bs_ct _ ⟨_, _, _, rfl⟩ ks hks k (by exact a_mem) hm) (fun _ => ?_)) | (refine on_box hF rfl rfl rfl rfl (fun B => ?_)) | (refine on_store hF rfl rfl rfl rfl a_turn a_vof a_sz ?_) | (refine on_storeE hF rfl rfl rfl rfl a_turn a_om a_vof a_sz ?_) | (refine on_storeEF hF rfl rfl rfl rfl a_turn a_as (by decide) a_vof rfl ?_) | (refine on_storeF hF rfl rfl rfl rfl a_turn (by decide) a_vof rfl ?_)) <;> try (refine hK2 _ _ _ a_allK ?_; clear hK2 K2))) <;> (refine hK _ _ _ ?_; clear hK K)) | with_reducible (first | refine nx_seq ?_ | refine nx_region ?_ | refine nl_nil ?_ | refine nq_then_n ?_ | refine nx_block ?_ | refine nx_skip ?_ | refine nx_exit ?_ | refine nx_ret ?_ | refine nq_then_x ?_ | refine nq_then_r ?_ | refine nq_blk_n ?_ | refine nq_blk_r ?_ | refine nq_blk_hit ?_ | refine nq_blk_miss rfl ?_ | refine nd_nil ?_) | refine nx_cond_t rfl ?_ | refine nx_cond_f rfl ?_ | refine nl_pass hF rfl rfl rfl ?_ | refine nd_pass rfl rfl rfl rfl rfl ?_ | refine nd_pass2 rfl rfl rfl a_nd a_allK rfl rfl ?_ | refine nd_pass3 rfl rfl rfl a_nd rfl rfl ?_ | (with_reducible refine hQ1 _ _ _ ?_; clear hQ1 Q1) )
  refine nx_end [] rfl () (fun a w ha hw => res_tmp2 Tryz.results32 rfl rfl ha) (by exact a_subR) (by exact a_holds2)
theorem new_ct : Ct Tryz.prog 13 [] W0 X R C Nat (fun B => ptr B) (fun _ => R) (fun B => OrdC B [] :: C) := by
  intro w hw
  have hF := isWide_wide
  have hvm := vofM (s := .slice none 0 0) ⟨_, _, _, rfl⟩
  refine calls_nx Tryz.func13 rfl Tryz.ntmps13 rfl ?_ hw
  repeat' (first | ((first | with_reducible refine nl_op rfl ?_ | refine nd_go rfl rfl rfl ?_); intro K hK; (first | ((first | refine on_E hF rfl rfl ?_ | refine od_E rfl rfl ?_ | refine od_R rfl rfl ?_); (first | refine ⟨_, a_yl, ?_⟩ | refine ⟨_, (by first | exact yl_build (T := 65) (us := []) rfl rfl rfl (fun w => by go_simp; all_goals rfl)), ?_⟩)) | ((first | refine on_Ec hF rfl rfl ?_ | refine od_Ec rfl rfl ?_); refine ⟨_, _, _, a_yc, ?_, ?_⟩ <;> (intro hc; try exact a_cut hc)) | ((first | (refine od_act a_nd ?_; intro K2 hK2) | refine od_last a_nd ?_ | skip); (first  | (refine on_box hF rfl rfl rfl rfl (fun B => ?_)) | (refine on_store hF rfl rfl rfl rfl a_turn a_vof a_sz ?_) | (refine on_storeE hF rfl rfl rfl rfl a_turn a_om a_vof a_sz ?_) | (refine on_storeEF hF rfl rfl rfl rfl a_turn a_as (by decide) a_vof rfl ?_) | (refine on_storeF hF rfl rfl rfl rfl a_turn (by decide) a_vof rfl ?_)) <;> try (refine hK2 _ _ _ a_allK ?_; clear hK2 K2))) <;> (refine hK _ _ _ ?_; clear hK K)) | with_reducible (first | refine nx_seq ?_ | refine nx_region ?_ | refine nl_nil ?_ | refine nq_then_n ?_ | refine nx_block ?_ | refine nx_skip ?_ | refine nx_exit ?_ | refine nx_ret ?_ | refine nq_then_x ?_ | refine nq_then_r ?_ | refine nq_blk_n ?_ | refine nq_blk_r ?_ | refine nq_blk_hit ?_ | refine nq_blk_miss rfl ?_ | refine nd_nil ?_) | refine nx_cond_t rfl ?_ | refine nx_cond_f rfl ?_ | refine nl_pass hF rfl rfl rfl ?_ | refine nd_pass rfl rfl rfl rfl rfl ?_ | refine nd_pass2 rfl rfl rfl a_nd a_allK rfl rfl ?_ | refine nd_pass3 rfl rfl rfl a_nd rfl rfl ?_ | (with_reducible refine hQ1 _ _ _ ?_; clear hQ1 Q1) )
  obtain ⟨bm, hbm⟩ : ∃ bm, bm = B := ⟨_, rfl⟩
  subst hbm
  refine nx_nilRow 73 2 ?_
  refine nx_ord (bm := bm) (s := .slice none 0 0) (ks := []) ⟨_, _, _, rfl⟩ (by exact a_pick) (by exact a_pick) ?_
  refine nx_end [] rfl bm (fun a w ha hw => res_tmp Tryz.results13 rfl ha) (by exact a_subR) (by exact a_holds2)
theorem put_ct (bm : Nat) (zs : List Int) (k : Int) (hm : zs.length ≤ 1000000000) : Ct Tryz.prog 18 [ptr bm, .int .i64 k, .bool true] W0 X R (OrdC bm (Sc.upr zs) :: C) Unit (fun _ => .bool (!decide (k ∈ Sc.upr zs))) (fun _ => R) (fun _ => OrdC bm (Sc.upr (zs ++ [k])) :: C) := by
  intro w hw
  have hF := isWide_wide
  obtain ⟨⟨s, hs⟩, hw⟩ := ordOpen hw
  dsimp only at hw
  have hvm := vofM hs
  have hvs : VOf Tryz.prog 63 s := vof_slice (by kernel_rfl) hs
  obtain ⟨sa, sn, sc, rfl⟩ := hs
  have hul := Sc.upr_len zs
  have hlt := Sc.upr_lt zs
  have hL := lowI_ok hlt k
  have hpe := put_eq hL
  have hph := put_has (zs := zs) (k := k)
  have hmem := fun x h => hL.mem hlt (x := x) h
  obtain ⟨ks, hks⟩ : ∃ ks, Sc.upr zs = ks := ⟨_, rfl⟩
  obtain ⟨zs', hzs'⟩ : ∃ zs', Sc.upr (zs ++ [k]) = zs' := ⟨_, rfl⟩
  rw [hks] at hw hul hlt hL hpe hph hmem ⊢
  rw [hzs'] at hpe hph ⊢
  obtain ⟨i, hi⟩ : ∃ i, lowI ks k = i := ⟨_, rfl⟩
  have fc := fun (W0 : World) (X : Nat → Prop) (R C : List Ch) h1 h2 => find_ct (W0 := W0) (X := X) (R := R) (C := C) bm (.slice sa sn sc) ⟨_, _, _, rfl⟩ ks hlt k h1 h2 (by omega)
  rw [hi] at hL hpe hmem fc
  have hlk : (ks.map pv).length = ks.length := by simp
  clear hi hks hzs'
  by_cases hk : k ∈ ks
  · rw [decide_eq_true hk] at fc ⊢
    have h := hph hk
    subst h
    have hil : i < ks.length := by
      rcases Nat.lt_or_ge i ks.length with h | h
      · exact h
      · obtain rfl : i = ks.length := by have := hL.le; omega
        exact absurd hk hL.none
    obtain ⟨x, hx⟩ : ∃ x, ks[i]? = some x := ⟨_, List.getElem?_eq_getElem hil⟩
    obtain rfl := (hmem x hx).1 hk
    have hxv : (ks.map pv)[i]? = some (pv x) := by rw [List.getElem?_map, hx]; rfl
    have hset : (ks.map pv).set i (pv x) = ks.map pv := by
      obtain ⟨h1, h2⟩ := List.getElem?_eq_some_iff.1 hxv
      rw [← h2]; exact List.set_getElem_self h1
    refine calls_nx Tryz.func18 rfl Tryz.ntmps18 rfl ?_ hw
    repeat' (first | ((first | with_reducible refine nl_op rfl ?_ | refine nd_go rfl rfl rfl ?_); intro K hK; (first | ((first | refine on_E hF rfl rfl ?_ | refine od_E rfl rfl ?_ | refine od_R rfl rfl ?_); (first | refine ⟨_, a_yl, ?_⟩ | refine ⟨_, (by first | exact yl_build (T := 73) (us := [(0, _), (1, _)]) rfl rfl rfl (fun w => by go_simp; all_goals rfl) | exact yl_fieldB (T := 65) (f := 0) (q := 0) rfl rfl (by kernel_rfl) | exact yl_fieldE (T := 65) (f := 0) (j := 0) rfl rfl a_sl a_om (by kernel_rfl) | exact yl_fieldB (T := 73) (f := 1) (q := 1) rfl rfl (by kernel_rfl) | exact yl_fieldE (T := 73) (f := 1) (j := 1) rfl rfl a_sl a_om (by kernel_rfl)), ?_⟩)) | ((first | refine on_Ec hF rfl rfl ?_ | refine od_Ec rfl rfl ?_); refine ⟨_, _, _, a_yc, ?_, ?_⟩ <;> (intro hc; try exact a_cut hc)) | ((first | (refine od_act a_nd ?_; intro K2 hK2) | refine od_last a_nd ?_ | skip); (first | (refine on_callG (vs := [ptr bm, .int .i64 x]) hF (enters_of Tryz.func32 (by kernel_rfl) rfl) rfl rfl rfl rfl ((Ct.lend2 (readsOf_same (BoxC bm 65 (.agg #[.slice sa sn sc])) (readsOf_row (e := 73) (k := 2) (v := .slice sa sn sc) (xs := ks.map pv) readsOf_nil)) (fun W0 X => fc W0 X _ _ (by exact a_mem) (by exact a_mem))).pre (perm2 (by exact a_pick) (by exact a_pick))) (fun _ => ?_)) | (refine on_storeEF (e := 73) (k := 2) (xs := ks.map pv) (cs := #[.int .i64 x, .bool true]) hF rfl rfl rfl rfl a_turn hxv (Nat.le_of_ble_eq_true rfl) a_vof rfl ?_; simp only [List.setIfInBounds_toArray, List.set_cons_succ, List.set_cons_zero]; rw [hset]) | (refine on_buildSlice (T := 63) (e := 73) (k := 2) (by_ := 16) hF rfl rfl rfl rfl rfl rfl (by kernel_rfl) a_cel (Nat.le_of_ble_eq_true rfl) (fun b => ?_)) | (refine on_box hF rfl rfl rfl rfl (fun B => ?_)) | (refine on_store hF rfl rfl rfl rfl a_turn a_vof a_sz ?_) | (refine on_storeE hF rfl rfl rfl rfl a_turn a_om a_vof a_sz ?_) | (refine on_storeEF hF rfl rfl rfl rfl a_turn a_as (by decide) a_vof rfl ?_) | (refine on_storeF hF rfl rfl rfl rfl a_turn (by decide) a_vof rfl ?_)) <;> try (refine hK2 _ _ _ a_allK ?_; clear hK2 K2))) <;> (refine hK _ _ _ ?_; clear hK K)) | with_reducible (first | refine nx_seq ?_ | refine nx_region ?_ | refine nl_nil ?_ | refine nq_then_n ?_ | refine nx_block ?_ | refine nx_skip ?_ | refine nx_exit ?_ | refine nx_ret ?_ | refine nq_then_x ?_ | refine nq_then_r ?_ | refine nq_blk_n ?_ | refine nq_blk_r ?_ | refine nq_blk_hit ?_ | refine nq_blk_miss rfl ?_ | refine nd_nil ?_) | refine nx_cond_t rfl ?_ | refine nx_cond_f rfl ?_ | refine nl_pass hF rfl rfl rfl ?_ | refine nd_pass rfl rfl rfl rfl rfl ?_ | refine nd_pass2 rfl rfl rfl a_nd a_allK rfl rfl ?_ | refine nd_pass3 rfl rfl rfl a_nd rfl rfl ?_ | (with_reducible refine hQ1 _ _ _ ?_; clear hQ1 Q1) )
    refine nx_ord (bm := bm) (s := .slice sa sn sc) (ks := ks) ⟨_, _, _, rfl⟩ (by exact a_pick) (by exact a_pick) ?_
    refine nx_end [] rfl () (fun a w ha hw => res_tmp Tryz.results18 rfl ha) (by exact a_subR) (by exact a_holds2)
  · rw [decide_eq_false hk] at fc ⊢
    have h := hpe hk
    subst h
    have hcy : Cel 2 [pv k] := celPv [k]
    have hins : (ks.map pv).take i ++ pv k :: (ks.map pv).drop i = (ks.take i ++ k :: ks.drop i).map pv := by simp
    have hil : i ≤ (ks.map pv).length := by rw [hlk]; exact hL.le
    refine calls_nx Tryz.func18 rfl Tryz.ntmps18 rfl ?_ hw
    repeat' (first | ((first | with_reducible refine nl_op rfl ?_ | refine nd_go rfl rfl rfl ?_); intro K hK; (first | ((first | refine on_E hF rfl rfl ?_ | refine od_E rfl rfl ?_ | refine od_R rfl rfl ?_); (first | refine ⟨_, a_yl, ?_⟩ | refine ⟨_, (by first | exact yl_build (T := 73) (us := [(0, _), (1, _)]) rfl rfl rfl (fun w => by go_simp; all_goals rfl) | exact yl_fieldB (T := 65) (f := 0) (q := 0) rfl rfl (by kernel_rfl) | exact yl_fieldE (T := 65) (f := 0) (j := 0) rfl rfl a_sl a_om (by kernel_rfl) | exact yl_fieldB (T := 73) (f := 1) (q := 1) rfl rfl (by kernel_rfl) | exact yl_fieldE (T := 73) (f := 1) (j := 1) rfl rfl a_sl a_om (by kernel_rfl)), ?_⟩)) | ((first | refine on_Ec hF rfl rfl ?_ | refine od_Ec rfl rfl ?_); refine ⟨_, _, _, a_yc, ?_, ?_⟩ <;> (intro hc; try exact a_cut hc)) | ((first | (refine od_act a_nd ?_; intro K2 hK2) | refine od_last a_nd ?_ | skip); (first | (refine on_callG (vs := [ptr bm, .int .i64 k]) hF (enters_of Tryz.func32 (by kernel_rfl) rfl) rfl rfl rfl rfl ((Ct.lend2 (readsOf_same (BoxC bm 65 (.agg #[.slice sa sn sc])) (readsOf_row (e := 73) (k := 2) (v := .slice sa sn sc) (xs := ks.map pv) readsOf_nil)) (fun W0 X => fc W0 X _ _ (by exact a_mem) (by exact a_mem))).pre (perm2 (by exact a_pick) (by exact a_pick))) (fun _ => ?_)) | (refine on_buildSlice (e := 73) (k := 2) (by_ := 16) hF rfl rfl rfl rfl rfl rfl (by kernel_rfl) hcy (Nat.le_of_ble_eq_true rfl) (fun bq => ?_)) | (refine on_callG hF (enters_of Tryz.func33 (by kernel_rfl) rfl) rfl rfl rfl rfl ((insert_ct (.slice sa sn sc) ⟨_, _, _, rfl⟩ (ks.map pv) (celPv ks) (pv k) hcy bq i hil (by omega)).pre (perm2 (by exact a_pick) (by exact a_pick))) (fun u => ?_); rw [hins]; obtain ⟨u, ua, un, uc, rfl⟩ := u; dsimp only) | (refine on_storeF hF rfl rfl rfl rfl a_turn (Nat.le_of_ble_eq_true rfl) a_vof rfl ?_; simp only [List.setIfInBounds_toArray, List.set_cons_succ, List.set_cons_zero]) | (refine on_buildSlice (T := 63) (e := 73) (k := 2) (by_ := 16) hF rfl rfl rfl rfl rfl rfl (by kernel_rfl) a_cel (Nat.le_of_ble_eq_true rfl) (fun b => ?_)) | (refine on_box hF rfl rfl rfl rfl (fun B => ?_)) | (refine on_store hF rfl rfl rfl rfl a_turn a_vof a_sz ?_) | (refine on_storeE hF rfl rfl rfl rfl a_turn a_om a_vof a_sz ?_) | (refine on_storeEF hF rfl rfl rfl rfl a_turn a_as (by decide) a_vof rfl ?_) | (refine on_storeF hF rfl rfl rfl rfl a_turn (by decide) a_vof rfl ?_)) <;> try (refine hK2 _ _ _ a_allK ?_; clear hK2 K2))) <;> (refine hK _ _ _ ?_; clear hK K)) | with_reducible (first | refine nx_seq ?_ | refine nx_region ?_ | refine nl_nil ?_ | refine nq_then_n ?_ | refine nx_block ?_ | refine nx_skip ?_ | refine nx_exit ?_ | refine nx_ret ?_ | refine nq_then_x ?_ | refine nq_then_r ?_ | refine nq_blk_n ?_ | refine nq_blk_r ?_ | refine nq_blk_hit ?_ | refine nq_blk_miss rfl ?_ | refine nd_nil ?_) | refine nx_cond_t rfl ?_ | refine nx_cond_f rfl ?_ | refine nl_pass hF rfl rfl rfl ?_ | refine nd_pass rfl rfl rfl rfl rfl ?_ | refine nd_pass2 rfl rfl rfl a_nd a_allK rfl rfl ?_ | refine nd_pass3 rfl rfl rfl a_nd rfl rfl ?_ | (with_reducible refine hQ1 _ _ _ ?_; clear hQ1 Q1) )
    refine nx_ord (bm := bm) (s := .slice ua un uc) (ks := ks.take i ++ k :: ks.drop i) ⟨_, _, _, rfl⟩ (by exact a_pick) (by exact a_pick) ?_
    refine nx_end [] rfl () (fun a w ha hw => res_tmp Tryz.results18 rfl ha) (by exact a_subR) (by exact a_holds2)
theorem get_ct (bm : Nat) (ks : List Int) (hks : ks.Pairwise (· < ·)) (k : Int) (hb : OrdC bm ks ∈ R) (hm : ks.length ≤ 4000000000) : Ct Tryz.prog 17 [ptr bm, .int .i64 k] W0 X R C Unit (fun _ => .tuple #[.bool (decide (k ∈ ks)), .bool (decide (k ∈ ks))]) (fun _ => R) (fun _ => C) := by
  intro w hw
  have hF := isWide_wide
  obtain ⟨⟨s, hs⟩, hw⟩ := ordR hw hb
  dsimp only at hw
  have hvm := vofM hs
  have hvs : VOf Tryz.prog 63 s := vof_slice (by kernel_rfl) hs
  obtain ⟨sa, sn, sc, rfl⟩ := hs
  have hL := lowI_ok hks k
  have hmem := fun x h => hL.mem hks (x := x) h
  have fc := fun (W0 : World) (X : Nat → Prop) (R C : List Ch) h1 h2 => find_ct (W0 := W0) (X := X) (R := R) (C := C) bm (.slice sa sn sc) ⟨_, _, _, rfl⟩ ks hks k h1 h2 hm
  obtain ⟨i, hi⟩ : ∃ i, lowI ks k = i := ⟨_, rfl⟩
  rw [hi] at hL hmem fc
  have hlk : (ks.map pv).length = ks.length := by simp
  clear hi
  by_cases hk : k ∈ ks
  · rw [decide_eq_true hk] at fc ⊢
    have hil : i < ks.length := by
      rcases Nat.lt_or_ge i ks.length with h | h
      · exact h
      · obtain rfl : i = ks.length := by have := hL.le; omega
        exact absurd hk hL.none
    obtain ⟨x, hx⟩ : ∃ x, ks[i]? = some x := ⟨_, List.getElem?_eq_getElem hil⟩
    obtain rfl := (hmem x hx).1 hk
    have hxv : (ks.map pv)[i]? = some (pv x) := by rw [List.getElem?_map, hx]; rfl
    have hvp := vofPv x
    refine calls_nx Tryz.func17 rfl Tryz.ntmps17 rfl ?_ hw
    repeat' (first | ((first | with_reducible refine nl_op rfl ?_ | refine nd_go rfl rfl rfl ?_); intro K hK; (first | ((first | refine on_E hF rfl rfl ?_ | refine od_E rfl rfl ?_ | refine od_R rfl rfl ?_); (first | refine ⟨_, a_yl, ?_⟩ | refine ⟨_, (by first | exact yl_fieldB (T := 65) (f := 0) (q := 0) rfl rfl (by kernel_rfl) | exact yl_fieldE (T := 65) (f := 0) (j := 0) rfl rfl a_sl a_om (by kernel_rfl) | exact yl_fieldB (T := 73) (f := 1) (q := 1) rfl rfl (by kernel_rfl) | exact yl_fieldE (T := 73) (f := 1) (j := 1) rfl rfl a_sl a_om (by kernel_rfl)), ?_⟩)) | ((first | refine on_Ec hF rfl rfl ?_ | refine od_Ec rfl rfl ?_); refine ⟨_, _, _, a_yc, ?_, ?_⟩ <;> (intro hc; try exact a_cut hc)) | ((first | (refine od_act a_nd ?_; intro K2 hK2) | refine od_last a_nd ?_ | skip); (first | (refine on_callG hF (enters_of Tryz.func32 (by kernel_rfl) rfl) rfl rfl rfl rfl (fc _ _ _ _ (by exact a_mem) (by exact a_mem)) (fun _ => ?_)) | (refine on_box hF rfl rfl rfl rfl (fun B => ?_)) | (refine on_store hF rfl rfl rfl rfl a_turn a_vof a_sz ?_) | (refine on_storeE hF rfl rfl rfl rfl a_turn a_om a_vof a_sz ?_) | (refine on_storeEF hF rfl rfl rfl rfl a_turn a_as (by decide) a_vof rfl ?_) | (refine on_storeF hF rfl rfl rfl rfl a_turn (by decide) a_vof rfl ?_)) <;> try (refine hK2 _ _ _ a_allK ?_; clear hK2 K2))) <;> (refine hK _ _ _ ?_; clear hK K)) | with_reducible (first | refine nx_seq ?_ | refine nx_region ?_ | refine nl_nil ?_ | refine nq_then_n ?_ | refine nx_block ?_ | refine nx_skip ?_ | refine nx_exit ?_ | refine nx_ret ?_ | refine nq_then_x ?_ | refine nq_then_r ?_ | refine nq_blk_n ?_ | refine nq_blk_r ?_ | refine nq_blk_hit ?_ | refine nq_blk_miss rfl ?_ | refine nd_nil ?_) | refine nx_cond_t rfl ?_ | refine nx_cond_f rfl ?_ | refine nl_pass hF rfl rfl rfl ?_ | refine nd_pass rfl rfl rfl rfl rfl ?_ | refine nd_pass2 rfl rfl rfl a_nd a_allK rfl rfl ?_ | refine nd_pass3 rfl rfl rfl a_nd rfl rfl ?_ | (with_reducible refine hQ1 _ _ _ ?_; clear hQ1 Q1) )
    refine nx_end [] rfl () (fun a w ha hw => res_tmp2 Tryz.results17 rfl rfl ha) (by exact a_subR) (by exact a_holds2)
  · rw [decide_eq_false hk] at fc ⊢
    refine calls_nx Tryz.func17 rfl Tryz.ntmps17 rfl ?_ hw
    repeat' (first | ((first | with_reducible refine nl_op rfl ?_ | refine nd_go rfl rfl rfl ?_); intro K hK; (first | ((first | refine on_E hF rfl rfl ?_ | refine od_E rfl rfl ?_ | refine od_R rfl rfl ?_); (first | refine ⟨_, a_yl, ?_⟩ | refine ⟨_, (by first | exact yl_fieldB (T := 65) (f := 0) (q := 0) rfl rfl (by kernel_rfl) | exact yl_fieldE (T := 65) (f := 0) (j := 0) rfl rfl a_sl a_om (by kernel_rfl) | exact yl_fieldB (T := 73) (f := 1) (q := 1) rfl rfl (by kernel_rfl) | exact yl_fieldE (T := 73) (f := 1) (j := 1) rfl rfl a_sl a_om (by kernel_rfl)), ?_⟩)) | ((first | refine on_Ec hF rfl rfl ?_ | refine od_Ec rfl rfl ?_); refine ⟨_, _, _, a_yc, ?_, ?_⟩ <;> (intro hc; try exact a_cut hc)) | ((first | (refine od_act a_nd ?_; intro K2 hK2) | refine od_last a_nd ?_ | skip); (first | (refine on_callG hF (enters_of Tryz.func32 (by kernel_rfl) rfl) rfl rfl rfl rfl (fc _ _ _ _ (by exact a_mem) (by exact a_mem)) (fun _ => ?_)) | (refine on_box hF rfl rfl rfl rfl (fun B => ?_)) | (refine on_store hF rfl rfl rfl rfl a_turn a_vof a_sz ?_) | (refine on_storeE hF rfl rfl rfl rfl a_turn a_om a_vof a_sz ?_) | (refine on_storeEF hF rfl rfl rfl rfl a_turn a_as (by decide) a_vof rfl ?_) | (refine on_storeF hF rfl rfl rfl rfl a_turn (by decide) a_vof rfl ?_)) <;> try (refine hK2 _ _ _ a_allK ?_; clear hK2 K2))) <;> (refine hK _ _ _ ?_; clear hK K)) | with_reducible (first | refine nx_seq ?_ | refine nx_region ?_ | refine nl_nil ?_ | refine nq_then_n ?_ | refine nx_block ?_ | refine nx_skip ?_ | refine nx_exit ?_ | refine nx_ret ?_ | refine nq_then_x ?_ | refine nq_then_r ?_ | refine nq_blk_n ?_ | refine nq_blk_r ?_ | refine nq_blk_hit ?_ | refine nq_blk_miss rfl ?_ | refine nd_nil ?_) | refine nx_cond_t rfl ?_ | refine nx_cond_f rfl ?_ | refine nl_pass hF rfl rfl rfl ?_ | refine nd_pass rfl rfl rfl rfl rfl ?_ | refine nd_pass2 rfl rfl rfl a_nd a_allK rfl rfl ?_ | refine nd_pass3 rfl rfl rfl a_nd rfl rfl ?_ | (with_reducible refine hQ1 _ _ _ ?_; clear hQ1 Q1) )
    refine nx_end [] rfl () (fun a w ha hw => res_tmp2 Tryz.results17 rfl rfl ha) (by exact a_subR) (by exact a_holds2)
end Ord
end Go.Proofs.YtinofjenoapeaaaGreat
end
section
namespace Go.Proofs.YtinofjenoapeaaaGreat
open Go.RowKit Go.Shelf
set_option linter.unusedSimpArgs false
set_option linter.unusedVariables false
theorem list_at {α : Type} {l : List α} {i : Nat} {x : α} (h : l[i]? = some x) : l = l.take i ++ x :: l.drop (i + 1) ∧ l.take (i + 1) = l.take i ++ [x] := by
  obtain ⟨h1, rfl⟩ := List.getElem?_eq_some_iff.1 h
  refine ⟨by rw [← List.drop_eq_getElem_cons h1, List.take_append_drop], by rw [List.take_add_one, h]; rfl⟩
namespace Ord
variable {W0 : World} {X : Nat → Prop} {R C : List Ch}
theorem clone_ct (s : Value) (hsh : IsSl s) (ks : List Int) (hs : SlC 2 s (ks.map pv) ∈ R) (hm : ks.length ≤ 1000000000) : Ct Tryz.prog 38 [s] W0 X R C SV (fun v => v.1) (fun _ => R) (fun v => RowC 73 2 v.1 (ks.map pv) :: C) := by
  intro w hw
  have hF := isWide_wide
  have hc := celPv ks
  obtain ⟨xs, hxs⟩ : ∃ xs, ks.map pv = xs := ⟨_, rfl⟩
  have hlx : xs.length = ks.length := by rw [← hxs]; simp
  rw [hxs] at hc hs ⊢
  obtain ⟨a, i, c, rfl⟩ := hsh
  have h1 := hw.hasR hs
  obtain ⟨_, ⟨A, c', e1, h2, h3, h4⟩, _⟩ := h1
  have hm1 : 0 + xs.length ≤ maxLen := by unfold maxLen; omega
  have hm2 : (0 + xs.length) * 16 ≤ 140737488355328 := by omega
  clear hxs
  refine calls_nx Tryz.func38 rfl Tryz.ntmps38 rfl ?_ hw
  cases a with
  | none =>
    obtain rfl : xs = [] := by
      injection e1 with e2 e3 e4
      have := h3 e2.symm
      exact List.eq_nil_of_length_eq_zero (by omega)
    repeat' (first | ((first | with_reducible refine nl_op rfl ?_ | refine nd_go rfl rfl rfl ?_); intro K hK; (first | ((first | refine on_E hF rfl rfl ?_ | refine od_E rfl rfl ?_ | refine od_R rfl rfl ?_); (first | refine ⟨_, a_yl, ?_⟩)) | ((first | refine on_Ec hF rfl rfl ?_ | refine od_Ec rfl rfl ?_); refine ⟨_, _, _, a_yc, ?_, ?_⟩ <;> (intro hc; try exact a_cut hc)) | ((first | (refine od_act a_nd ?_; intro K2 hK2) | refine od_last a_nd ?_ | skip); (first | (refine on_buildSlice (T := 63) (e := 73) (k := 2) (by_ := 16) hF rfl rfl rfl rfl rfl rfl (by kernel_rfl) a_cel (Nat.le_of_ble_eq_true rfl) (fun b => ?_)) | (refine on_append (T := 63) (e := 73) (k := 2) (by_ := 16) hF rfl rfl rfl rfl rfl a_pick (by kernel_rfl) a_sl a_cel a_bnd a_bnd (fun v => ?_)) | (refine on_box hF rfl rfl rfl rfl (fun B => ?_)) | (refine on_store hF rfl rfl rfl rfl a_turn a_vof a_sz ?_) | (refine on_storeE hF rfl rfl rfl rfl a_turn a_om a_vof a_sz ?_) | (refine on_storeEF hF rfl rfl rfl rfl a_turn a_as (by decide) a_vof rfl ?_) | (refine on_storeF hF rfl rfl rfl rfl a_turn (by decide) a_vof rfl ?_)) <;> try (refine hK2 _ _ _ a_allK ?_; clear hK2 K2))) <;> (refine hK _ _ _ ?_; clear hK K)) | with_reducible (first | refine nx_seq ?_ | refine nx_region ?_ | refine nl_nil ?_ | refine nq_then_n ?_ | refine nx_block ?_ | refine nx_skip ?_ | refine nx_exit ?_ | refine nx_ret ?_ | refine nq_then_x ?_ | refine nq_then_r ?_ | refine nq_blk_n ?_ | refine nq_blk_r ?_ | refine nq_blk_hit ?_ | refine nq_blk_miss rfl ?_ | refine nd_nil ?_) | refine nx_cond_t rfl ?_ | refine nx_cond_f rfl ?_ | refine nl_pass hF rfl rfl rfl ?_ | refine nd_pass rfl rfl rfl rfl rfl ?_ | refine nd_pass2 rfl rfl rfl a_nd a_allK rfl rfl ?_ | refine nd_pass3 rfl rfl rfl a_nd rfl rfl ?_ | (with_reducible refine hQ1 _ _ _ ?_; clear hQ1 Q1) )
    refine nx_nilRow 73 2 ?_
    refine nx_end [] rfl (⟨.slice none 0 0, _, _, _, rfl⟩) (fun a w ha hw => res_tmp Tryz.results38 rfl ha) (by exact a_subR) (by exact a_holds2)
  | some a =>
    repeat' (first | ((first | with_reducible refine nl_op rfl ?_ | refine nd_go rfl rfl rfl ?_); intro K hK; (first | ((first | refine on_E hF rfl rfl ?_ | refine od_E rfl rfl ?_ | refine od_R rfl rfl ?_); (first | refine ⟨_, a_yl, ?_⟩)) | ((first | refine on_Ec hF rfl rfl ?_ | refine od_Ec rfl rfl ?_); refine ⟨_, _, _, a_yc, ?_, ?_⟩ <;> (intro hc; try exact a_cut hc)) | ((first | (refine od_act a_nd ?_; intro K2 hK2) | refine od_last a_nd ?_ | skip); (first | (refine on_buildSlice (e := 73) (k := 2) (by_ := 16) hF rfl rfl rfl rfl rfl rfl (by kernel_rfl) Cel.nil (by decide) (fun B => ?_)) | (refine on_append (e := 73) (k := 2) (by_ := 16) hF rfl rfl rfl rfl rfl (by exact a_pick) (by kernel_rfl) (by exact a_sl) hc (by exact hm1) (by exact hm2) (fun v => ?_)) | (refine on_buildSlice (T := 63) (e := 73) (k := 2) (by_ := 16) hF rfl rfl rfl rfl rfl rfl (by kernel_rfl) a_cel (Nat.le_of_ble_eq_true rfl) (fun b => ?_)) | (refine on_append (T := 63) (e := 73) (k := 2) (by_ := 16) hF rfl rfl rfl rfl rfl a_pick (by kernel_rfl) a_sl a_cel a_bnd a_bnd (fun v => ?_)) | (refine on_box hF rfl rfl rfl rfl (fun B => ?_)) | (refine on_store hF rfl rfl rfl rfl a_turn a_vof a_sz ?_) | (refine on_storeE hF rfl rfl rfl rfl a_turn a_om a_vof a_sz ?_) | (refine on_storeEF hF rfl rfl rfl rfl a_turn a_as (by decide) a_vof rfl ?_) | (refine on_storeF hF rfl rfl rfl rfl a_turn (by decide) a_vof rfl ?_)) <;> try (refine hK2 _ _ _ a_allK ?_; clear hK2 K2))) <;> (refine hK _ _ _ ?_; clear hK K)) | with_reducible (first | refine nx_seq ?_ | refine nx_region ?_ | refine nl_nil ?_ | refine nq_then_n ?_ | refine nx_block ?_ | refine nx_skip ?_ | refine nx_exit ?_ | refine nx_ret ?_ | refine nq_then_x ?_ | refine nq_then_r ?_ | refine nq_blk_n ?_ | refine nq_blk_r ?_ | refine nq_blk_hit ?_ | refine nq_blk_miss rfl ?_ | refine nd_nil ?_) | refine nx_cond_t rfl ?_ | refine nx_cond_f rfl ?_ | refine nl_pass hF rfl rfl rfl ?_ | refine nd_pass rfl rfl rfl rfl rfl ?_ | refine nd_pass2 rfl rfl rfl a_nd a_allK rfl rfl ?_ | refine nd_pass3 rfl rfl rfl a_nd rfl rfl ?_ | (with_reducible refine hQ1 _ _ _ ?_; clear hQ1 Q1) )
    refine nx_end [] rfl v (fun a w ha hw => res_tmp Tryz.results38 rfl ha) (by exact a_subR) (by exact a_holds2)
theorem all_ct (s : Value) (hs : IsSl s) : Ct Tryz.prog 37 [s] W0 X R C Nat (fun B => .func (.func 63) #[] #[ptr B]) (fun B => BoxC B 63 s :: R) (fun _ => C) := by
  intro w hw
  have hF := isWide_wide
  have hvs : VOf Tryz.prog 63 s := vof_slice (by kernel_rfl) hs
  refine calls_nx Tryz.func37 rfl Tryz.ntmps37 rfl ?_ hw
  repeat' (first | ((first | with_reducible refine nl_op rfl ?_ | refine nd_go rfl rfl rfl ?_); intro K hK; (first | ((first | refine on_E hF rfl rfl ?_ | refine od_E rfl rfl ?_ | refine od_R rfl rfl ?_); (first | refine ⟨_, a_yl, ?_⟩)) | ((first | refine on_Ec hF rfl rfl ?_ | refine od_Ec rfl rfl ?_); refine ⟨_, _, _, a_yc, ?_, ?_⟩ <;> (intro hc; try exact a_cut hc)) | ((first | (refine od_act a_nd ?_; intro K2 hK2) | refine od_last a_nd ?_ | skip); (first  | (refine on_box hF rfl rfl rfl rfl (fun B => ?_)) | (refine on_store hF rfl rfl rfl rfl a_turn a_vof a_sz ?_) | (refine on_storeE hF rfl rfl rfl rfl a_turn a_om a_vof a_sz ?_) | (refine on_storeEF hF rfl rfl rfl rfl a_turn a_as (by decide) a_vof rfl ?_) | (refine on_storeF hF rfl rfl rfl rfl a_turn (by decide) a_vof rfl ?_)) <;> try (refine hK2 _ _ _ a_allK ?_; clear hK2 K2))) <;> (refine hK _ _ _ ?_; clear hK K)) | with_reducible (first | refine nx_seq ?_ | refine nx_region ?_ | refine nl_nil ?_ | refine nq_then_n ?_ | refine nx_block ?_ | refine nx_skip ?_ | refine nx_exit ?_ | refine nx_ret ?_ | refine nq_then_x ?_ | refine nq_then_r ?_ | refine nq_blk_n ?_ | refine nq_blk_r ?_ | refine nq_blk_hit ?_ | refine nq_blk_miss rfl ?_ | refine nd_nil ?_) | refine nx_cond_t rfl ?_ | refine nx_cond_f rfl ?_ | refine nl_pass hF rfl rfl rfl ?_ | refine nd_pass rfl rfl rfl rfl rfl ?_ | refine nd_pass2 rfl rfl rfl a_nd a_allK rfl rfl ?_ | refine nd_pass3 rfl rfl rfl a_nd rfl rfl ?_ | (with_reducible refine hQ1 _ _ _ ?_; clear hQ1 Q1) )
  refine nx_frz _ Pick.here ?_
  refine nx_end [] rfl B (fun a w ha hw => res_tmp Tryz.results37 rfl ha) (by exact a_subR) (by exact a_holds2)
def allV (p : Int × Nat) (vs : List Value) : Prop := vs = [.int .i64 (p.2 : Int), pv p.1]
set_option maxRecDepth 100000 in
set_option maxHeartbeats 1000000 in
theorem all_it (B : Nat) (s : Value) (hs : IsSl s) (ks : List Int) (hm : ks.length ≤ 1000000000) : ItS Tryz.prog allV (fun _ _ => []) (fun _ => []) ks.zipIdx (.func (.func 63) #[] #[ptr B]) [BoxC B 63 s, SlC 2 s (ks.map pv)] := by
  refine ⟨63, [ptr B], rfl, (enters_of Tryz.func63 (by kernel_rfl) rfl), ?_⟩
  intro y RY J JX hY hy W0 X R E hRS hRY w hw
  have hF := isWide_wide
  have hb : BoxC B 63 s ∈ R := hRS _ (by simp)
  have hsl : SlC 2 s (ks.map pv) ∈ R := hRS _ (by simp)
  have hvs : VOf Tryz.prog 63 s := vof_slice (by kernel_rfl) hs
  have hyv : VOf Tryz.prog 107 y := vof_func (by kernel_rfl) (by obtain ⟨f, lb, h⟩ := hy; exact ⟨f, _, lb, h⟩)
  obtain ⟨sa, sn, sc, rfl⟩ := hs
  obtain rfl := slLen (hw.hasR hsl)
  have hlp : (ks.map pv).length = ks.length := by simp
  refine calls_nx Tryz.func63 rfl Tryz.ntmps63 rfl ?_ hw
  repeat' (first | ((first | with_reducible refine nl_op rfl ?_ | refine nd_go rfl rfl rfl ?_); intro K hK; (first | ((first | refine on_E hF rfl rfl ?_ | refine od_E rfl rfl ?_ | refine od_R rfl rfl ?_); (first | refine ⟨_, a_yl, ?_⟩)) | ((first | refine on_Ec hF rfl rfl ?_ | refine od_Ec rfl rfl ?_); refine ⟨_, _, _, a_yc, ?_, ?_⟩ <;> (intro hc; try exact a_cut hc)) | ((first | (refine od_act a_nd ?_; intro K2 hK2) | refine od_last a_nd ?_ | skip); (first | (refine on_alloc hF rfl Tryz.zeroValue73 rfl rfl (fun B => ?_)) | (refine on_box hF rfl rfl rfl rfl (fun B => ?_)) | (refine on_store hF rfl rfl rfl rfl a_turn a_vof a_sz ?_) | (refine on_storeE hF rfl rfl rfl rfl a_turn a_om a_vof a_sz ?_) | (refine on_storeEF hF rfl rfl rfl rfl a_turn a_as (by decide) a_vof rfl ?_) | (refine on_storeF hF rfl rfl rfl rfl a_turn (by decide) a_vof rfl ?_)) <;> try (refine hK2 _ _ _ a_allK ?_; clear hK2 K2))) <;> (refine hK _ _ _ ?_; clear hK K)) | with_reducible (first | refine nx_seq ?_ | refine nx_region ?_ | refine nl_nil ?_ | refine nq_then_n ?_ | refine nx_block ?_ | refine nx_skip ?_ | refine nx_exit ?_ | refine nx_ret ?_ | refine nq_then_x ?_ | refine nq_then_r ?_ | refine nq_blk_n ?_ | refine nq_blk_r ?_ | refine nq_blk_hit ?_ | refine nq_blk_miss rfl ?_ | refine nd_nil ?_) | refine nx_cond_t rfl ?_ | refine nx_cond_f rfl ?_ | refine nl_pass hF rfl rfl rfl ?_ | refine nd_pass rfl rfl rfl rfl rfl ?_ | refine nd_pass2 rfl rfl rfl a_nd a_allK rfl rfl ?_ | refine nd_pass3 rfl rfl rfl a_nd rfl rfl ?_ | (with_reducible refine hQ1 _ _ _ ?_; clear hQ1 Q1) )
  rw [← List.take_zero (l := ks.zipIdx)]
  refine nx_loop (ι := { i : Nat // i ≤ ks.length }) (fun i => [(0, y), (1, ptr B), (5, .slice sa (ks.map pv).length sc), (6, .int .i64 ((ks.map pv).length : Int)), (7, .int .i64 (i.1 : Int))]) (fun _ => R) (fun i => J (ks.zipIdx.take i.1) :: E) (fun i => ks.length - i.1) ⟨0, Nat.zero_le _⟩ (by exact a_sub) (by exact a_subR) (by exact a_holds) (fun i => ?_)
  obtain ⟨i, hi⟩ := i
  dsimp only
  by_cases hlt : i < ks.length
  · obtain ⟨x, hx⟩ : ∃ x, ks[i]? = some x := ⟨_, List.getElem?_eq_getElem hlt⟩
    have hxv : (ks.map pv)[i]? = some (pv x) := by rw [List.getElem?_map, hx]; rfl
    have hvx := vofPv x
    have hz : ks.zipIdx[i]? = some (x, i) := by rw [List.getElem?_zipIdx, hx]; simp
    obtain ⟨hsp, hnx⟩ := list_at hz
    repeat' (first | ((first | with_reducible refine nl_op rfl ?_ | refine nd_go rfl rfl rfl ?_); intro K hK; (first | ((first | refine on_E hF rfl rfl ?_ | refine od_E rfl rfl ?_ | refine od_R rfl rfl ?_); (first | refine ⟨_, a_yl, ?_⟩)) | ((first | refine on_Ec hF rfl rfl ?_ | refine od_Ec rfl rfl ?_); refine ⟨_, _, _, a_yc, ?_, ?_⟩ <;> (intro hc; try exact a_cut hc)) | ((first | (refine od_act a_nd ?_; intro K2 hK2) | refine od_last a_nd ?_ | skip); (first | (refine on_yieldD hF hY (ks.zipIdx.take i) (x, i) _ hsp rfl rfl rfl rfl rfl rfl hRY (show Pick _ _ _ from by exact a_pick) ?_ ?_) | (refine on_alloc hF rfl Tryz.zeroValue73 rfl rfl (fun B => ?_)) | (refine on_box hF rfl rfl rfl rfl (fun B => ?_)) | (refine on_store hF rfl rfl rfl rfl a_turn a_vof a_sz ?_) | (refine on_storeE hF rfl rfl rfl rfl a_turn a_om a_vof a_sz ?_) | (refine on_storeEF hF rfl rfl rfl rfl a_turn a_as (by decide) a_vof rfl ?_) | (refine on_storeF hF rfl rfl rfl rfl a_turn (by decide) a_vof rfl ?_)) <;> try (refine hK2 _ _ _ a_allK ?_; clear hK2 K2))) <;> (refine hK _ _ _ ?_; clear hK K)) | with_reducible (first | refine nx_seq ?_ | refine nx_region ?_ | refine nl_nil ?_ | refine nq_then_n ?_ | refine nx_block ?_ | refine nx_skip ?_ | refine nx_exit ?_ | refine nx_ret ?_ | refine nq_then_x ?_ | refine nq_then_r ?_ | refine nq_blk_n ?_ | refine nq_blk_r ?_ | refine nq_blk_hit ?_ | refine nq_blk_miss rfl ?_ | refine nd_nil ?_) | refine nx_cond_t rfl ?_ | refine nx_cond_f rfl ?_ | refine nl_pass hF rfl rfl rfl ?_ | refine nd_pass rfl rfl rfl rfl rfl ?_ | refine nd_pass2 rfl rfl rfl a_nd a_allK rfl rfl ?_ | refine nd_pass3 rfl rfl rfl a_nd rfl rfl ?_ | (with_reducible refine hQ1 _ _ _ ?_; clear hQ1 Q1) )
    all_goals (try (exfalso; dsimp only at *; omega))
    · rw [← hnx]
      refine nx_again ⟨i + 1, by omega⟩ (by dsimp only; omega) (by exact a_sub) (by exact a_subR) (by exact a_holds)
    · refine nx_end [] rfl (some ⟨ks.zipIdx.take i ++ [(x, i)], _, _, _, rfl, hsp⟩) (fun a w ha hw => res_none Tryz.results63) (by exact a_subR) (by exact a_holds2)
  · have he : ks.zipIdx.take i = ks.zipIdx := List.take_of_length_le (by rw [List.length_zipIdx]; omega)
    rw [he]
    repeat' (first | ((first | with_reducible refine nl_op rfl ?_ | refine nd_go rfl rfl rfl ?_); intro K hK; (first | ((first | refine on_E hF rfl rfl ?_ | refine od_E rfl rfl ?_ | refine od_R rfl rfl ?_); (first | refine ⟨_, a_yl, ?_⟩)) | ((first | refine on_Ec hF rfl rfl ?_ | refine od_Ec rfl rfl ?_); refine ⟨_, _, _, a_yc, ?_, ?_⟩ <;> (intro hc; try exact a_cut hc)) | ((first | (refine od_act a_nd ?_; intro K2 hK2) | refine od_last a_nd ?_ | skip); (first | (refine on_alloc hF rfl Tryz.zeroValue73 rfl rfl (fun B => ?_)) | (refine on_box hF rfl rfl rfl rfl (fun B => ?_)) | (refine on_store hF rfl rfl rfl rfl a_turn a_vof a_sz ?_) | (refine on_storeE hF rfl rfl rfl rfl a_turn a_om a_vof a_sz ?_) | (refine on_storeEF hF rfl rfl rfl rfl a_turn a_as (by decide) a_vof rfl ?_) | (refine on_storeF hF rfl rfl rfl rfl a_turn (by decide) a_vof rfl ?_)) <;> try (refine hK2 _ _ _ a_allK ?_; clear hK2 K2))) <;> (refine hK _ _ _ ?_; clear hK K)) | with_reducible (first | refine nx_seq ?_ | refine nx_region ?_ | refine nl_nil ?_ | refine nq_then_n ?_ | refine nx_block ?_ | refine nx_skip ?_ | refine nx_exit ?_ | refine nx_ret ?_ | refine nq_then_x ?_ | refine nq_then_r ?_ | refine nq_blk_n ?_ | refine nq_blk_r ?_ | refine nq_blk_hit ?_ | refine nq_blk_miss rfl ?_ | refine nd_nil ?_) | refine nx_cond_t rfl ?_ | refine nx_cond_f rfl ?_ | refine nl_pass hF rfl rfl rfl ?_ | refine nd_pass rfl rfl rfl rfl rfl ?_ | refine nd_pass2 rfl rfl rfl a_nd a_allK rfl rfl ?_ | refine nd_pass3 rfl rfl rfl a_nd rfl rfl ?_ | (with_reducible refine hQ1 _ _ _ ?_; clear hQ1 Q1) )
    all_goals (try (exfalso; dsimp only at *; omega))
    refine nx_end_n [] rfl none (fun a w ha hw => res_none Tryz.results63) (by exact a_subR) (by exact a_holds2)
theorem walk_ct (f : Value) (hf : fnB f = true) : Ct Tryz.prog 36 [f] W0 X R C Nat (fun B => .func (.func 62) #[] #[ptr B]) (fun B => BoxC B 78 f :: R) (fun _ => C) := by
  intro w hw
  have hF := isWide_wide
  have hvf : VOf Tryz.prog 78 f := vof_fn (by kernel_rfl) hf
  refine calls_nx Tryz.func36 rfl Tryz.ntmps36 rfl ?_ hw
  repeat' (first | ((first | with_reducible refine nl_op rfl ?_ | refine nd_go rfl rfl rfl ?_); intro K hK; (first | ((first | refine on_E hF rfl rfl ?_ | refine od_E rfl rfl ?_ | refine od_R rfl rfl ?_); (first | refine ⟨_, a_yl, ?_⟩)) | ((first | refine on_Ec hF rfl rfl ?_ | refine od_Ec rfl rfl ?_); refine ⟨_, _, _, a_yc, ?_, ?_⟩ <;> (intro hc; try exact a_cut hc)) | ((first | (refine od_act a_nd ?_; intro K2 hK2) | refine od_last a_nd ?_ | skip); (first  | (refine on_box hF rfl rfl rfl rfl (fun B => ?_)) | (refine on_store hF rfl rfl rfl rfl a_turn a_vof a_sz ?_) | (refine on_storeE hF rfl rfl rfl rfl a_turn a_om a_vof a_sz ?_) | (refine on_storeEF hF rfl rfl rfl rfl a_turn a_as (by decide) a_vof rfl ?_) | (refine on_storeF hF rfl rfl rfl rfl a_turn (by decide) a_vof rfl ?_)) <;> try (refine hK2 _ _ _ a_allK ?_; clear hK2 K2))) <;> (refine hK _ _ _ ?_; clear hK K)) | with_reducible (first | refine nx_seq ?_ | refine nx_region ?_ | refine nl_nil ?_ | refine nq_then_n ?_ | refine nx_block ?_ | refine nx_skip ?_ | refine nx_exit ?_ | refine nx_ret ?_ | refine nq_then_x ?_ | refine nq_then_r ?_ | refine nq_blk_n ?_ | refine nq_blk_r ?_ | refine nq_blk_hit ?_ | refine nq_blk_miss rfl ?_ | refine nd_nil ?_) | refine nx_cond_t rfl ?_ | refine nx_cond_f rfl ?_ | refine nl_pass hF rfl rfl rfl ?_ | refine nd_pass rfl rfl rfl rfl rfl ?_ | refine nd_pass2 rfl rfl rfl a_nd a_allK rfl rfl ?_ | refine nd_pass3 rfl rfl rfl a_nd rfl rfl ?_ | (with_reducible refine hQ1 _ _ _ ?_; clear hQ1 Q1) )
  refine nx_frz _ Pick.here ?_
  refine nx_end [] rfl B (fun a w ha hw => res_tmp Tryz.results36 rfl ha) (by exact a_subR) (by exact a_holds2)
def keyV (k : Int) (vs : List Value) : Prop := vs = [.int .i64 k, .bool true]
theorem zip_fst {ks : List Int} {pre post : List (Int × Nat)} (h : ks.zipIdx = pre ++ post) : ks = pre.map (·.1) ++ post.map (·.1) := by
  have := congrArg (List.map (·.1)) h
  rw [List.map_append] at this
  rw [← this]; simp
set_option maxRecDepth 100000 in
set_option maxHeartbeats 1000000 in
theorem walk_it (B2 Bs : Nat) (s : Value) (hs : IsSl s) (ks : List Int) (hm : ks.length ≤ 1000000000) : ItS Tryz.prog keyV (fun _ _ => []) (fun _ => []) ks (.func (.func 62) #[] #[ptr B2]) (BoxC B2 78 (.func (.func 63) #[] #[ptr Bs]) :: [BoxC Bs 63 s, SlC 2 s (ks.map pv)]) := by
  refine ⟨62, [ptr B2], rfl, (enters_of Tryz.func62 (by kernel_rfl) rfl), ?_⟩
  intro y RY J JX hY hy W0 X R E hRS hRY w hw
  have hF := isWide_wide
  have hb : BoxC B2 78 (.func (.func 63) #[] #[ptr Bs]) ∈ R := hRS _ (by simp)
  have hR1 : ∀ r ∈ [BoxC Bs 63 s, SlC 2 s (ks.map pv)], r ∈ R := fun r hr => hRS r (List.mem_cons_of_mem _ hr)
  have hvf : VOf Tryz.prog 78 (.func (.func 63) #[] #[ptr Bs]) := vof_fn (by kernel_rfl) rfl
  have hyv : VOf Tryz.prog 46 y := vof_func (by kernel_rfl) (by obtain ⟨f, lb, h⟩ := hy; exact ⟨f, _, lb, h⟩)
  clear hRS
  refine calls_nx Tryz.func62 rfl Tryz.ntmps62 rfl ?_ hw
  repeat' (first | ((first | with_reducible refine nl_op rfl ?_ | refine nd_go rfl rfl rfl ?_); intro K hK; (first | ((first | refine on_E hF rfl rfl ?_ | refine od_E rfl rfl ?_ | refine od_R rfl rfl ?_); (first | refine ⟨_, a_yl, ?_⟩ | refine ⟨_, (by first | exact yl_fieldB (T := 73) (f := 0) (q := 0) rfl rfl (by kernel_rfl) | exact yl_fieldE (T := 73) (f := 0) (j := 0) rfl rfl a_sl a_om (by kernel_rfl) | exact yl_fieldB (T := 73) (f := 1) (q := 1) rfl rfl (by kernel_rfl) | exact yl_fieldE (T := 73) (f := 1) (j := 1) rfl rfl a_sl a_om (by kernel_rfl)), ?_⟩)) | ((first | refine on_Ec hF rfl rfl ?_ | refine od_Ec rfl rfl ?_); refine ⟨_, _, _, a_yc, ?_, ?_⟩ <;> (intro hc; try exact a_cut hc)) | ((first | (refine od_act a_nd ?_; intro K2 hK2) | refine od_last a_nd ?_ | skip); (first | (refine on_alloc hF rfl Tryz.zeroValue73 rfl rfl (fun B => ?_)) | (refine on_box hF rfl rfl rfl rfl (fun B => ?_)) | (refine on_store hF rfl rfl rfl rfl a_turn a_vof a_sz ?_) | (refine on_storeE hF rfl rfl rfl rfl a_turn a_om a_vof a_sz ?_) | (refine on_storeEF hF rfl rfl rfl rfl a_turn a_as (by decide) a_vof rfl ?_) | (refine on_storeF hF rfl rfl rfl rfl a_turn (by decide) a_vof rfl ?_)) <;> try (refine hK2 _ _ _ a_allK ?_; clear hK2 K2))) <;> (refine hK _ _ _ ?_; clear hK K)) | with_reducible (first | refine nx_seq ?_ | refine nx_region ?_ | refine nl_nil ?_ | refine nq_then_n ?_ | refine nx_block ?_ | refine nx_skip ?_ | refine nx_exit ?_ | refine nx_ret ?_ | refine nq_then_x ?_ | refine nq_then_r ?_ | refine nq_blk_n ?_ | refine nq_blk_r ?_ | refine nq_blk_hit ?_ | refine nq_blk_miss rfl ?_ | refine nd_nil ?_) | refine nx_cond_t rfl ?_ | refine nx_cond_f rfl ?_ | refine nl_pass hF rfl rfl rfl ?_ | refine nd_pass rfl rfl rfl rfl rfl ?_ | refine nd_pass2 rfl rfl rfl a_nd a_allK rfl rfl ?_ | refine nd_pass3 rfl rfl rfl a_nd rfl rfl ?_ | (with_reducible refine hQ1 _ _ _ ?_; clear hQ1 Q1) )
  refine nx_frz _ Pick.here ?_
  refine nx_range hF rfl rfl (all_it Bs s hs ks hm) (fun r hr => List.mem_cons_of_mem _ (hR1 r hr)) (by rfl) (fun x vs h => by rw [h]; rfl) (fun _ (_ : Unit) => True) (fun pre _ => J (pre.map (·.1)) :: E) (fun q j (_ : Unit) => j = none) (fun q _ _ => JX (q.map (·.1)) :: E) () trivial (by exact a_holds2) ?round ?done ?stop
  case round =>
    rintro lp pre ⟨x, i⟩ post hx vs rfl _ _ W1 X1 R' hR' E1 K HK
    have hF := isWide_wide.inRound lp
    have hvx := vofPv x
    have hby : BoxC B 46 y ∈ R' := hR' _ List.mem_cons_self
    have hRY : ∀ r ∈ RY, r ∈ R' := fun r hr => hR' r (List.mem_cons_of_mem _ (hRY r hr))
    have hsp := zip_fst hx
    rw [List.map_cons] at hsp
    have hnx : (pre ++ [(x, i)]).map (·.1) = pre.map (·.1) ++ [x] := by simp
    dsimp only at hsp ⊢
    clear hR' hR1 hb
    (try simp only [List.cons_append, List.nil_append])
    repeat' (first | ((first | with_reducible refine nl_op rfl ?_ | refine nd_go rfl rfl rfl ?_); intro K hK; (first | ((first | refine on_E hF rfl rfl ?_ | refine od_E rfl rfl ?_ | refine od_R rfl rfl ?_); (first | refine ⟨_, a_yl, ?_⟩ | refine ⟨_, (by first | exact yl_fieldB (T := 73) (f := 0) (q := 0) rfl rfl (by kernel_rfl) | exact yl_fieldE (T := 73) (f := 0) (j := 0) rfl rfl a_sl a_om (by kernel_rfl) | exact yl_fieldB (T := 73) (f := 1) (q := 1) rfl rfl (by kernel_rfl) | exact yl_fieldE (T := 73) (f := 1) (j := 1) rfl rfl a_sl a_om (by kernel_rfl)), ?_⟩)) | ((first | refine on_Ec hF rfl rfl ?_ | refine od_Ec rfl rfl ?_); refine ⟨_, _, _, a_yc, ?_, ?_⟩ <;> (intro hc; try exact a_cut hc)) | ((first | (refine od_act a_nd ?_; intro K2 hK2) | refine od_last a_nd ?_ | skip); (first | (refine on_alloc hF rfl Tryz.zeroValue73 rfl rfl (fun B => ?_)) | (refine on_box hF rfl rfl rfl rfl (fun B => ?_)) | (refine on_store hF rfl rfl rfl rfl a_turn a_vof a_sz ?_) | (refine on_storeE hF rfl rfl rfl rfl a_turn a_om a_vof a_sz ?_) | (refine on_storeEF hF rfl rfl rfl rfl a_turn a_as (by decide) a_vof rfl ?_) | (refine on_storeF hF rfl rfl rfl rfl a_turn (by decide) a_vof rfl ?_)) <;> try (refine hK2 _ _ _ a_allK ?_; clear hK2 K2))) <;> (refine hK _ _ _ ?_; clear hK K)) | with_reducible (first | refine nx_seq ?_ | refine nx_region ?_ | refine nl_nil ?_ | refine nq_then_n ?_ | refine nx_block ?_ | refine nx_skip ?_ | refine nx_exit ?_ | refine nx_ret ?_ | refine nq_then_x ?_ | refine nq_then_r ?_ | refine nq_blk_n ?_ | refine nq_blk_r ?_ | refine nq_blk_hit ?_ | refine nq_blk_miss rfl ?_ | refine nd_nil ?_) | refine nx_cond_t rfl ?_ | refine nx_cond_f rfl ?_ | refine nl_pass hF rfl rfl rfl ?_ | refine nd_pass rfl rfl rfl rfl rfl ?_ | refine nd_pass2 rfl rfl rfl a_nd a_allK rfl rfl ?_ | refine nd_pass3 rfl rfl rfl a_nd rfl rfl ?_ | (with_reducible refine hQ1 _ _ _ ?_; clear hQ1 Q1) )
    refine nx_frz (BoxC _ _ (pv x)) Pick.here ?_
    refine HK _ _ (J (pre.map (·.1)) :: E) _ (by exact a_subR) (by exact a_holds2) (fun E2 => ?_)
    clear HK K
    (try simp only [List.cons_append, List.nil_append])
    rw [hnx]
    repeat' (first | ((first | with_reducible refine nl_op rfl ?_ | refine nd_go rfl rfl rfl ?_); intro K hK; (first | ((first | refine on_E hF rfl rfl ?_ | refine od_E rfl rfl ?_ | refine od_R rfl rfl ?_); (first | refine ⟨_, a_yl, ?_⟩ | refine ⟨_, (by first | exact yl_fieldB (T := 73) (f := 0) (q := 0) rfl rfl (by kernel_rfl) | exact yl_fieldE (T := 73) (f := 0) (j := 0) rfl rfl a_sl a_om (by kernel_rfl) | exact yl_fieldB (T := 73) (f := 1) (q := 1) rfl rfl (by kernel_rfl) | exact yl_fieldE (T := 73) (f := 1) (j := 1) rfl rfl a_sl a_om (by kernel_rfl)), ?_⟩)) | ((first | refine on_Ec hF rfl rfl ?_ | refine od_Ec rfl rfl ?_); refine ⟨_, _, _, a_yc, ?_, ?_⟩ <;> (intro hc; try exact a_cut hc)) | ((first | (refine od_act a_nd ?_; intro K2 hK2) | refine od_last a_nd ?_ | skip); (first | (refine on_yieldD hF hY (pre.map (·.1)) x _ hsp rfl rfl rfl rfl rfl rfl (by exact a_subR) (show Pick _ _ _ from by exact a_pick) ?_ ?_) | (refine on_alloc hF rfl Tryz.zeroValue73 rfl rfl (fun B => ?_)) | (refine on_box hF rfl rfl rfl rfl (fun B => ?_)) | (refine on_store hF rfl rfl rfl rfl a_turn a_vof a_sz ?_) | (refine on_storeE hF rfl rfl rfl rfl a_turn a_om a_vof a_sz ?_) | (refine on_storeEF hF rfl rfl rfl rfl a_turn a_as (by decide) a_vof rfl ?_) | (refine on_storeF hF rfl rfl rfl rfl a_turn (by decide) a_vof rfl ?_)) <;> try (refine hK2 _ _ _ a_allK ?_; clear hK2 K2))) <;> (refine hK _ _ _ ?_; clear hK K)) | with_reducible (first | refine nx_seq ?_ | refine nx_region ?_ | refine nl_nil ?_ | refine nq_then_n ?_ | refine nx_block ?_ | refine nx_skip ?_ | refine nx_exit ?_ | refine nx_ret ?_ | refine nq_then_x ?_ | refine nq_then_r ?_ | refine nq_blk_n ?_ | refine nq_blk_r ?_ | refine nq_blk_hit ?_ | refine nq_blk_miss rfl ?_ | refine nd_nil ?_) | refine nx_cond_t rfl ?_ | refine nx_cond_f rfl ?_ | refine nl_pass hF rfl rfl rfl ?_ | refine nd_pass rfl rfl rfl rfl rfl ?_ | refine nd_pass2 rfl rfl rfl a_nd a_allK rfl rfl ?_ | refine nd_pass3 rfl rfl rfl a_nd rfl rfl ?_ | (with_reducible refine hQ1 _ _ _ ?_; clear hQ1 Q1) )
    · exact rq_n () trivial (by exact a_subR) (by exact a_holds2)
    · exact rq_r () rfl (by exact a_subR) (by exact a_holds2)
  case done =>
    intro _ _ M
    rw [show ks.zipIdx.map (·.1) = ks by simp]
    repeat' (first | ((first | with_reducible refine nl_op rfl ?_ | refine nd_go rfl rfl rfl ?_); intro K hK; (first | ((first | refine on_E hF rfl rfl ?_ | refine od_E rfl rfl ?_ | refine od_R rfl rfl ?_); (first | refine ⟨_, a_yl, ?_⟩ | refine ⟨_, (by first | exact yl_fieldB (T := 73) (f := 0) (q := 0) rfl rfl (by kernel_rfl) | exact yl_fieldE (T := 73) (f := 0) (j := 0) rfl rfl a_sl a_om (by kernel_rfl) | exact yl_fieldB (T := 73) (f := 1) (q := 1) rfl rfl (by kernel_rfl) | exact yl_fieldE (T := 73) (f := 1) (j := 1) rfl rfl a_sl a_om (by kernel_rfl)), ?_⟩)) | ((first | refine on_Ec hF rfl rfl ?_ | refine od_Ec rfl rfl ?_); refine ⟨_, _, _, a_yc, ?_, ?_⟩ <;> (intro hc; try exact a_cut hc)) | ((first | (refine od_act a_nd ?_; intro K2 hK2) | refine od_last a_nd ?_ | skip); (first | (refine on_alloc hF rfl Tryz.zeroValue73 rfl rfl (fun B => ?_)) | (refine on_box hF rfl rfl rfl rfl (fun B => ?_)) | (refine on_store hF rfl rfl rfl rfl a_turn a_vof a_sz ?_) | (refine on_storeE hF rfl rfl rfl rfl a_turn a_om a_vof a_sz ?_) | (refine on_storeEF hF rfl rfl rfl rfl a_turn a_as (by decide) a_vof rfl ?_) | (refine on_storeF hF rfl rfl rfl rfl a_turn (by decide) a_vof rfl ?_)) <;> try (refine hK2 _ _ _ a_allK ?_; clear hK2 K2))) <;> (refine hK _ _ _ ?_; clear hK K)) | with_reducible (first | refine nx_seq ?_ | refine nx_region ?_ | refine nl_nil ?_ | refine nq_then_n ?_ | refine nx_block ?_ | refine nx_skip ?_ | refine nx_exit ?_ | refine nx_ret ?_ | refine nq_then_x ?_ | refine nq_then_r ?_ | refine nq_blk_n ?_ | refine nq_blk_r ?_ | refine nq_blk_hit ?_ | refine nq_blk_miss rfl ?_ | refine nd_nil ?_) | refine nx_cond_t rfl ?_ | refine nx_cond_f rfl ?_ | refine nl_pass hF rfl rfl rfl ?_ | refine nd_pass rfl rfl rfl rfl rfl ?_ | refine nd_pass2 rfl rfl rfl a_nd a_allK rfl rfl ?_ | refine nd_pass3 rfl rfl rfl a_nd rfl rfl ?_ | (with_reducible refine hQ1 _ _ _ ?_; clear hQ1 Q1) )
    refine nx_end_n [M] rfl none (fun a w ha hw => res_none Tryz.results62) (by exact a_subR) (by exact a_holds2)
  case stop =>
    rintro pre ⟨x, i⟩ post hx _ _ rfl M
    have hsp := zip_fst hx
    rw [List.map_cons] at hsp
    have hnx : (pre ++ [(x, i)]).map (·.1) = pre.map (·.1) ++ [x] := by simp
    dsimp only at hsp
    refine nx_ret ?_
    repeat' (first | ((first | with_reducible refine nl_op rfl ?_ | refine nd_go rfl rfl rfl ?_); intro K hK; (first | ((first | refine on_E hF rfl rfl ?_ | refine od_E rfl rfl ?_ | refine od_R rfl rfl ?_); (first | refine ⟨_, a_yl, ?_⟩ | refine ⟨_, (by first | exact yl_fieldB (T := 73) (f := 0) (q := 0) rfl rfl (by kernel_rfl) | exact yl_fieldE (T := 73) (f := 0) (j := 0) rfl rfl a_sl a_om (by kernel_rfl) | exact yl_fieldB (T := 73) (f := 1) (q := 1) rfl rfl (by kernel_rfl) | exact yl_fieldE (T := 73) (f := 1) (j := 1) rfl rfl a_sl a_om (by kernel_rfl)), ?_⟩)) | ((first | refine on_Ec hF rfl rfl ?_ | refine od_Ec rfl rfl ?_); refine ⟨_, _, _, a_yc, ?_, ?_⟩ <;> (intro hc; try exact a_cut hc)) | ((first | (refine od_act a_nd ?_; intro K2 hK2) | refine od_last a_nd ?_ | skip); (first | (refine on_alloc hF rfl Tryz.zeroValue73 rfl rfl (fun B => ?_)) | (refine on_box hF rfl rfl rfl rfl (fun B => ?_)) | (refine on_store hF rfl rfl rfl rfl a_turn a_vof a_sz ?_) | (refine on_storeE hF rfl rfl rfl rfl a_turn a_om a_vof a_sz ?_) | (refine on_storeEF hF rfl rfl rfl rfl a_turn a_as (by decide) a_vof rfl ?_) | (refine on_storeF hF rfl rfl rfl rfl a_turn (by decide) a_vof rfl ?_)) <;> try (refine hK2 _ _ _ a_allK ?_; clear hK2 K2))) <;> (refine hK _ _ _ ?_; clear hK K)) | with_reducible (first | refine nx_seq ?_ | refine nx_region ?_ | refine nl_nil ?_ | refine nq_then_n ?_ | refine nx_block ?_ | refine nx_skip ?_ | refine nx_exit ?_ | refine nx_ret ?_ | refine nq_then_x ?_ | refine nq_then_r ?_ | refine nq_blk_n ?_ | refine nq_blk_r ?_ | refine nq_blk_hit ?_ | refine nq_blk_miss rfl ?_ | refine nd_nil ?_) | refine nx_cond_t rfl ?_ | refine nx_cond_f rfl ?_ | refine nl_pass hF rfl rfl rfl ?_ | refine nd_pass rfl rfl rfl rfl rfl ?_ | refine nd_pass2 rfl rfl rfl a_nd a_allK rfl rfl ?_ | refine nd_pass3 rfl rfl rfl a_nd rfl rfl ?_ | (with_reducible refine hQ1 _ _ _ ?_; clear hQ1 Q1) )
    rw [hnx]
    refine nx_end [M] rfl (some ⟨pre.map (·.1) ++ [x], _, _, post.map (·.1), rfl, by rw [hsp]⟩) (fun a w ha hw => res_none Tryz.results62) (by exact a_subR) (by exact a_holds2)
/-- What the map's iterator is. -/
def mallR (bm : Nat) (ks : List Int) (i : Nat × Nat × SV) : List Ch := BoxC i.1 78 (.func (.func 63) #[] #[ptr i.2.1]) :: [BoxC i.2.1 63 i.2.2.1, SlC 2 i.2.2.1 (ks.map pv)]
theorem mall_ct (bm : Nat) (ks : List Int) (hb : OrdC bm ks ∈ R) (hm : ks.length ≤ 1000000000) : Ct Tryz.prog 22 [ptr bm] W0 X R C (Nat × Nat × SV) (fun i => .func (.func 62) #[] #[ptr i.1]) (fun i => mallR bm ks i ++ R) (fun _ => C) := by
  intro w hw
  have hF := isWide_wide
  obtain ⟨⟨s, hs⟩, hw⟩ := ordR hw hb
  dsimp only at hw
  have hvm := vofM hs
  have hvs : VOf Tryz.prog 63 s := vof_slice (by kernel_rfl) hs
  obtain ⟨sa, sn, sc, rfl⟩ := hs
  refine calls_nx Tryz.func22 rfl Tryz.ntmps22 rfl ?_ hw
  repeat' (first | ((first | with_reducible refine nl_op rfl ?_ | refine nd_go rfl rfl rfl ?_); intro K hK; (first | ((first | refine on_E hF rfl rfl ?_ | refine od_E rfl rfl ?_ | refine od_R rfl rfl ?_); (first | refine ⟨_, a_yl, ?_⟩ | refine ⟨_, (by first | exact yl_fieldB (T := 65) (f := 0) (q := 0) rfl rfl (by kernel_rfl) | exact yl_fieldE (T := 65) (f := 0) (j := 0) rfl rfl a_sl a_om (by kernel_rfl)), ?_⟩)) | ((first | refine on_Ec hF rfl rfl ?_ | refine od_Ec rfl rfl ?_); refine ⟨_, _, _, a_yc, ?_, ?_⟩ <;> (intro hc; try exact a_cut hc)) | ((first | (refine od_act a_nd ?_; intro K2 hK2) | refine od_last a_nd ?_ | skip); (first | (refine on_callG hF (enters_of Tryz.func38 (by kernel_rfl) rfl) rfl rfl rfl rfl (clone_ct (.slice sa sn sc) ⟨_, _, _, rfl⟩ ks (by exact a_mem) hm) (fun v => ?_); refine nx_frzRow Pick.here ?_) | (refine on_callG hF (enters_of Tryz.func37 (by kernel_rfl) rfl) rfl rfl rfl rfl (all_ct v.1 v.2) (fun b1 => ?_)) | (refine on_call (vs := [.func (.func 63) #[] #[ptr b1]]) hF rfl rfl rfl rfl (enters_of Tryz.func36 (by kernel_rfl) rfl) (walk_ct _ rfl) (fun b2 => ?_)) | (refine on_buildSlice (T := 63) (e := 73) (k := 2) (by_ := 16) hF rfl rfl rfl rfl rfl rfl (by kernel_rfl) a_cel (Nat.le_of_ble_eq_true rfl) (fun b => ?_)) | (refine on_box hF rfl rfl rfl rfl (fun B => ?_)) | (refine on_store hF rfl rfl rfl rfl a_turn a_vof a_sz ?_) | (refine on_storeE hF rfl rfl rfl rfl a_turn a_om a_vof a_sz ?_) | (refine on_storeEF hF rfl rfl rfl rfl a_turn a_as (by decide) a_vof rfl ?_) | (refine on_storeF hF rfl rfl rfl rfl a_turn (by decide) a_vof rfl ?_)) <;> try (refine hK2 _ _ _ a_allK ?_; clear hK2 K2))) <;> (refine hK _ _ _ ?_; clear hK K)) | with_reducible (first | refine nx_seq ?_ | refine nx_region ?_ | refine nl_nil ?_ | refine nq_then_n ?_ | refine nx_block ?_ | refine nx_skip ?_ | refine nx_exit ?_ | refine nx_ret ?_ | refine nq_then_x ?_ | refine nq_then_r ?_ | refine nq_blk_n ?_ | refine nq_blk_r ?_ | refine nq_blk_hit ?_ | refine nq_blk_miss rfl ?_ | refine nd_nil ?_) | refine nx_cond_t rfl ?_ | refine nx_cond_f rfl ?_ | refine nl_pass hF rfl rfl rfl ?_ | refine nd_pass rfl rfl rfl rfl rfl ?_ | refine nd_pass2 rfl rfl rfl a_nd a_allK rfl rfl ?_ | refine nd_pass3 rfl rfl rfl a_nd rfl rfl ?_ | (with_reducible refine hQ1 _ _ _ ?_; clear hQ1 Q1) )
  unfold mallR
  (try simp only [List.cons_append, List.nil_append])
  refine nx_end [] rfl ((b2, b1, v) : Nat × Nat × SV) (fun a w ha hw => res_tmp Tryz.results22 rfl ha) (by exact a_subR) (by exact a_holds2)
theorem keys_ct (bm : Nat) (ks : List Int) (hb : OrdC bm ks ∈ R) (hm : ks.length ≤ 1000000000) : Ct Tryz.prog 11 [ptr bm] W0 X R C SV (fun v => v.1) (fun _ => R) (fun v => RowC 3 1 v.1 (ks.map (.int .i64)) :: C) := by
  intro w hw
  have hF := isWide_wide
  refine calls_nx Tryz.func11 rfl Tryz.ntmps11 rfl ?_ hw
  repeat' (first | ((first | with_reducible refine nl_op rfl ?_ | refine nd_go rfl rfl rfl ?_); intro K hK; (first | ((first | refine on_E hF rfl rfl ?_ | refine od_E rfl rfl ?_ | refine od_R rfl rfl ?_); (first | refine ⟨_, a_yl, ?_⟩)) | ((first | refine on_Ec hF rfl rfl ?_ | refine od_Ec rfl rfl ?_); refine ⟨_, _, _, a_yc, ?_, ?_⟩ <;> (intro hc; try exact a_cut hc)) | ((first | (refine od_act a_nd ?_; intro K2 hK2) | refine od_last a_nd ?_ | skip); (first | (refine on_callG hF (enters_of Tryz.func22 (by kernel_rfl) rfl) rfl rfl rfl rfl (mall_ct bm ks (by exact a_mem) hm) (fun i => ?_); unfold mallR; (try simp only [List.cons_append, List.nil_append])) | (refine on_buildSlice (T := 25) (e := 3) (k := 1) (by_ := 8) hF rfl rfl rfl rfl rfl rfl (by kernel_rfl) a_cel (Nat.le_of_ble_eq_true rfl) (fun b => ?_)) | (refine on_append (T := 25) (e := 3) (k := 1) (by_ := 8) hF rfl rfl rfl rfl rfl a_pick (by kernel_rfl) a_sl a_cel a_bnd a_bnd (fun v => ?_)) | (refine on_alloc hF rfl Tryz.zeroValue25 rfl rfl (fun B => ?_)) | (refine on_box hF rfl rfl rfl rfl (fun B => ?_)) | (refine on_store hF rfl rfl rfl rfl a_turn a_vof a_sz ?_) | (refine on_storeE hF rfl rfl rfl rfl a_turn a_om a_vof a_sz ?_) | (refine on_storeEF hF rfl rfl rfl rfl a_turn a_as (by decide) a_vof rfl ?_) | (refine on_storeF hF rfl rfl rfl rfl a_turn (by decide) a_vof rfl ?_)) <;> try (refine hK2 _ _ _ a_allK ?_; clear hK2 K2))) <;> (refine hK _ _ _ ?_; clear hK K)) | with_reducible (first | refine nx_seq ?_ | refine nx_region ?_ | refine nl_nil ?_ | refine nq_then_n ?_ | refine nx_block ?_ | refine nx_skip ?_ | refine nx_exit ?_ | refine nx_ret ?_ | refine nq_then_x ?_ | refine nq_then_r ?_ | refine nq_blk_n ?_ | refine nq_blk_r ?_ | refine nq_blk_hit ?_ | refine nq_blk_miss rfl ?_ | refine nd_nil ?_) | refine nx_cond_t rfl ?_ | refine nx_cond_f rfl ?_ | refine nl_pass hF rfl rfl rfl ?_ | refine nd_pass rfl rfl rfl rfl rfl ?_ | refine nd_pass2 rfl rfl rfl a_nd a_allK rfl rfl ?_ | refine nd_pass3 rfl rfl rfl a_nd rfl rfl ?_ | (with_reducible refine hQ1 _ _ _ ?_; clear hQ1 Q1) )
  obtain ⟨b3, hb3⟩ : ∃ b3, b3 = B := ⟨_, rfl⟩
  subst hb3
  obtain ⟨b2, b1, v⟩ := i
  dsimp only
  refine nx_nilRow 3 1 ?_
  refine nx_range hF rfl rfl (walk_it b2 b1 v.1 v.2 ks hm) (by exact a_subR) (by rfl) (fun x vs h => by rw [h]; rfl) (fun _ (_ : SV) => True) (fun pre u => BoxC b3 25 u.1 :: RowC 3 1 u.1 (pre.map (.int .i64)) :: C) (fun _ _ (_ : Unit) => False) (fun _ _ _ => []) ⟨.slice none 0 0, _, _, _, rfl⟩ trivial (by exact a_holds2) ?round ?done ?stop
  case round =>
    rintro lp pre x post hx vs rfl ⟨u, hu⟩ _ W1 X1 R' hR' E1 K HK
    have hF := isWide_wide.inRound lp
    have hvu : VOf Tryz.prog 25 u := vof_slice (by kernel_rfl) hu
    have hsu : (cv u).size = 1 := by obtain ⟨_, _, _, rfl⟩ := hu; rfl
    have hcx : Cel 1 [Value.int .i64 x] := Cel.of (P := Tryz.prog) (T := 3) (fun y hy => by simp at hy; rw [hy]; exact vof1 (by kernel_rfl) rfl rfl) (by kernel_rfl)
    have hl : pre.length + 1 ≤ ks.length := by rw [hx]; simp
    have hm1 : (pre.map (Value.int .i64)).length + 1 ≤ maxLen := by unfold maxLen; rw [List.length_map]; omega
    have hm2 : ((pre.map (Value.int .i64)).length + 1) * 8 ≤ 140737488355328 := by rw [List.length_map]; omega
    have hnx : (pre ++ [x]).map (Value.int .i64) = pre.map (.int .i64) ++ [.int .i64 x] := by simp
    dsimp only
    clear hR'
    (try simp only [List.cons_append, List.nil_append])
    repeat' (first | ((first | with_reducible refine nl_op rfl ?_ | refine nd_go rfl rfl rfl ?_); intro K hK; (first | ((first | refine on_E hF rfl rfl ?_ | refine od_E rfl rfl ?_ | refine od_R rfl rfl ?_); (first | refine ⟨_, a_yl, ?_⟩)) | ((first | refine on_Ec hF rfl rfl ?_ | refine od_Ec rfl rfl ?_); refine ⟨_, _, _, a_yc, ?_, ?_⟩ <;> (intro hc; try exact a_cut hc)) | ((first | (refine od_act a_nd ?_; intro K2 hK2) | refine od_last a_nd ?_ | skip); (first | (refine on_buildSlice (T := 25) (e := 3) (k := 1) (by_ := 8) hF rfl rfl rfl rfl rfl rfl (by kernel_rfl) a_cel (Nat.le_of_ble_eq_true rfl) (fun b => ?_)) | (refine on_append (T := 25) (e := 3) (k := 1) (by_ := 8) hF rfl rfl rfl rfl rfl a_pick (by kernel_rfl) a_sl a_cel a_bnd a_bnd (fun v => ?_)) | (refine on_alloc hF rfl Tryz.zeroValue25 rfl rfl (fun B => ?_)) | (refine on_box hF rfl rfl rfl rfl (fun B => ?_)) | (refine on_store hF rfl rfl rfl rfl a_turn a_vof a_sz ?_) | (refine on_storeE hF rfl rfl rfl rfl a_turn a_om a_vof a_sz ?_) | (refine on_storeEF hF rfl rfl rfl rfl a_turn a_as (by decide) a_vof rfl ?_) | (refine on_storeF hF rfl rfl rfl rfl a_turn (by decide) a_vof rfl ?_)) <;> try (refine hK2 _ _ _ a_allK ?_; clear hK2 K2))) <;> (refine hK _ _ _ ?_; clear hK K)) | with_reducible (first | refine nx_seq ?_ | refine nx_region ?_ | refine nl_nil ?_ | refine nq_then_n ?_ | refine nx_block ?_ | refine nx_skip ?_ | refine nx_exit ?_ | refine nx_ret ?_ | refine nq_then_x ?_ | refine nq_then_r ?_ | refine nq_blk_n ?_ | refine nq_blk_r ?_ | refine nq_blk_hit ?_ | refine nq_blk_miss rfl ?_ | refine nd_nil ?_) | refine nx_cond_t rfl ?_ | refine nx_cond_f rfl ?_ | refine nl_pass hF rfl rfl rfl ?_ | refine nd_pass rfl rfl rfl rfl rfl ?_ | refine nd_pass2 rfl rfl rfl a_nd a_allK rfl rfl ?_ | refine nd_pass3 rfl rfl rfl a_nd rfl rfl ?_ | (with_reducible refine hQ1 _ _ _ ?_; clear hQ1 Q1) )
    refine HK _ _ (BoxC b3 25 u :: RowC 3 1 u (pre.map (.int .i64)) :: C) _ (by exact a_subR) (by exact a_holds2) (fun E2 => ?_)
    clear HK K
    (try simp only [List.cons_append, List.nil_append])
    repeat' (first | ((first | with_reducible refine nl_op rfl ?_ | refine nd_go rfl rfl rfl ?_); intro K hK; (first | ((first | refine on_E hF rfl rfl ?_ | refine od_E rfl rfl ?_ | refine od_R rfl rfl ?_); (first | refine ⟨_, a_yl, ?_⟩)) | ((first | refine on_Ec hF rfl rfl ?_ | refine od_Ec rfl rfl ?_); refine ⟨_, _, _, a_yc, ?_, ?_⟩ <;> (intro hc; try exact a_cut hc)) | ((first | (refine od_act a_nd ?_; intro K2 hK2) | refine od_last a_nd ?_ | skip); (first | (refine on_buildSlice (e := 3) (k := 1) (by_ := 8) hF rfl rfl rfl rfl rfl rfl (by kernel_rfl) hcx (Nat.le_of_ble_eq_true rfl) (fun B => ?_)) | (refine on_append (e := 3) (k := 1) (by_ := 8) (xs := pre.map (.int .i64)) (ys := [.int .i64 x]) hF rfl rfl rfl rfl rfl a_pick (by kernel_rfl) a_sl hcx hm1 hm2 (fun v2 => ?_)) | (refine on_store hF rfl rfl rfl rfl (by exact a_turn) (vof_slice (by kernel_rfl) v2.2) (by obtain ⟨_, _, _, e⟩ := v2.2; rw [e, hsu]; rfl) ?_) | (refine on_buildSlice (T := 25) (e := 3) (k := 1) (by_ := 8) hF rfl rfl rfl rfl rfl rfl (by kernel_rfl) a_cel (Nat.le_of_ble_eq_true rfl) (fun b => ?_)) | (refine on_append (T := 25) (e := 3) (k := 1) (by_ := 8) hF rfl rfl rfl rfl rfl a_pick (by kernel_rfl) a_sl a_cel a_bnd a_bnd (fun v => ?_)) | (refine on_alloc hF rfl Tryz.zeroValue25 rfl rfl (fun B => ?_)) | (refine on_box hF rfl rfl rfl rfl (fun B => ?_)) | (refine on_store hF rfl rfl rfl rfl a_turn a_vof a_sz ?_) | (refine on_storeE hF rfl rfl rfl rfl a_turn a_om a_vof a_sz ?_) | (refine on_storeEF hF rfl rfl rfl rfl a_turn a_as (by decide) a_vof rfl ?_) | (refine on_storeF hF rfl rfl rfl rfl a_turn (by decide) a_vof rfl ?_)) <;> try (refine hK2 _ _ _ a_allK ?_; clear hK2 K2))) <;> (refine hK _ _ _ ?_; clear hK K)) | with_reducible (first | refine nx_seq ?_ | refine nx_region ?_ | refine nl_nil ?_ | refine nq_then_n ?_ | refine nx_block ?_ | refine nx_skip ?_ | refine nx_exit ?_ | refine nx_ret ?_ | refine nq_then_x ?_ | refine nq_then_r ?_ | refine nq_blk_n ?_ | refine nq_blk_r ?_ | refine nq_blk_hit ?_ | refine nq_blk_miss rfl ?_ | refine nd_nil ?_) | refine nx_cond_t rfl ?_ | refine nx_cond_f rfl ?_ | refine nl_pass hF rfl rfl rfl ?_ | refine nd_pass rfl rfl rfl rfl rfl ?_ | refine nd_pass2 rfl rfl rfl a_nd a_allK rfl rfl ?_ | refine nd_pass3 rfl rfl rfl a_nd rfl rfl ?_ | (with_reducible refine hQ1 _ _ _ ?_; clear hQ1 Q1) )
    exact rq_n v2 trivial (by exact a_subR) (by rw [hnx]; exact a_holds2)
  case done =>
    rintro ⟨u, hu⟩ _ M
    have hvu : VOf Tryz.prog 25 u := vof_slice (by kernel_rfl) hu
    dsimp only
    (try simp only [List.cons_append, List.nil_append])
    repeat' (first | ((first | with_reducible refine nl_op rfl ?_ | refine nd_go rfl rfl rfl ?_); intro K hK; (first | ((first | refine on_E hF rfl rfl ?_ | refine od_E rfl rfl ?_ | refine od_R rfl rfl ?_); (first | refine ⟨_, a_yl, ?_⟩)) | ((first | refine on_Ec hF rfl rfl ?_ | refine od_Ec rfl rfl ?_); refine ⟨_, _, _, a_yc, ?_, ?_⟩ <;> (intro hc; try exact a_cut hc)) | ((first | (refine od_act a_nd ?_; intro K2 hK2) | refine od_last a_nd ?_ | skip); (first | (refine on_buildSlice (T := 25) (e := 3) (k := 1) (by_ := 8) hF rfl rfl rfl rfl rfl rfl (by kernel_rfl) a_cel (Nat.le_of_ble_eq_true rfl) (fun b => ?_)) | (refine on_append (T := 25) (e := 3) (k := 1) (by_ := 8) hF rfl rfl rfl rfl rfl a_pick (by kernel_rfl) a_sl a_cel a_bnd a_bnd (fun v => ?_)) | (refine on_alloc hF rfl Tryz.zeroValue25 rfl rfl (fun B => ?_)) | (refine on_box hF rfl rfl rfl rfl (fun B => ?_)) | (refine on_store hF rfl rfl rfl rfl a_turn a_vof a_sz ?_) | (refine on_storeE hF rfl rfl rfl rfl a_turn a_om a_vof a_sz ?_) | (refine on_storeEF hF rfl rfl rfl rfl a_turn a_as (by decide) a_vof rfl ?_) | (refine on_storeF hF rfl rfl rfl rfl a_turn (by decide) a_vof rfl ?_)) <;> try (refine hK2 _ _ _ a_allK ?_; clear hK2 K2))) <;> (refine hK _ _ _ ?_; clear hK K)) | with_reducible (first | refine nx_seq ?_ | refine nx_region ?_ | refine nl_nil ?_ | refine nq_then_n ?_ | refine nx_block ?_ | refine nx_skip ?_ | refine nx_exit ?_ | refine nx_ret ?_ | refine nq_then_x ?_ | refine nq_then_r ?_ | refine nq_blk_n ?_ | refine nq_blk_r ?_ | refine nq_blk_hit ?_ | refine nq_blk_miss rfl ?_ | refine nd_nil ?_) | refine nx_cond_t rfl ?_ | refine nx_cond_f rfl ?_ | refine nl_pass hF rfl rfl rfl ?_ | refine nd_pass rfl rfl rfl rfl rfl ?_ | refine nd_pass2 rfl rfl rfl a_nd a_allK rfl rfl ?_ | refine nd_pass3 rfl rfl rfl a_nd rfl rfl ?_ | (with_reducible refine hQ1 _ _ _ ?_; clear hQ1 Q1) )
    refine nx_end [M] rfl (⟨u, hu⟩) (fun a w ha hw => res_tmp Tryz.results11 rfl ha) (by exact a_subR) (by exact a_holds2)
  case stop =>
    intro pre x post hx j _ h
    exact h.elim
end Ord
end Go.Proofs.YtinofjenoapeaaaGreat
end
section
namespace Go.Proofs.YtinofjenoapeaaaGreat
open Go.RowKit Go.Shelf
set_option linter.unusedSimpArgs false
set_option linter.unusedVariables false
def arT (P : Program) (T N : Nat) : Bool := match P.underlying T with | some (.array n e) => n == N && oneT P e | _ => false
/-- A cell of an array of one-celled elements. -/
theorem yl_indexA {P : Program} {G : World → Prop} {n : Nat} {l : List (Nat × Value)} {d : List Deferred} {o : Oper} {T : TypeId} {x y : Operand} {cs : Array Value} {i : Nat} {u : Value} (N : Nat) (ho : o.op = .index T x y) (hx : ev l x = some (.agg cs)) (hy : ev l y = some (.int .i64 (i : Int))) (hT : arT P T N = true) (hi : i < N) (hc : cs[i]? = some u) : Yl P G n l d o u := ⟨(fun c => by rw [ho]; exact (fun h => by cases h)), (fun a w ha hw => by
    unfold arT at hT
    split at hT
    · rename_i n' e h1
      simp only [Bool.and_eq_true, beq_iff_eq] at hT
      obtain ⟨rfl, h2⟩ := hT
      unfold oneT at h2
      split at h2
      · rename_i dd inf e1 e2
        simp only [Bool.and_eq_true, Bool.not_eq_true', beq_iff_eq] at h2
        have hagg : (isAgg e).run P w = .ok false w := by
          have h3 := h2.1
          simp only [isAgg, Sem.run_bind, run_underlying e1, Result.andThen]
          cases dd <;> first | rfl | (simp [TypeDesc.isRow] at h3)
        have hsz : (sizeOf e).run P w = .ok 1 w := by simp [sizeOf, typeInfo, e2, h2.2]
        have hle : (0 : Int) ≤ (i : Int) ∧ (i : Int) < (n' : Int) := by omega
        simp [execOp, ho, ha.eval hx, ha.eval hy, Instr.index, asIntOf, run_underlying h1, part, hagg, hsz, hc, Sem.run_bind, Result.andThen, hle, hi]
      · cases h2
    · cases hT)⟩
namespace Pr
open Go.Proofs.YtinofjenoapeaaaGreat.Ord
variable {W0 : World} {X : Nat → Prop} {R C : List Ch}
theorem upr_nil : Sc.upr [] = [] := List.eq_nil_of_length_eq_zero (Nat.le_zero.1 (Sc.upr_len []))
def sixP (x : It2) : List Int := [x.a - 1, x.a, x.a + 1, x.b - 1, x.b, x.b + 1]
def cItem (c : Int) : It2 := ⟨0, 0, 0, 0, c, c, 0, 0, .slice none 0 0⟩
def fromC (c : Int) (zs : List Int) : List Int := zs.filter fun n => decide (c ≤ n)
def plRow (M : List It2) (c : Int) : List Int := (M.map fun x => fromC c (sixP x)).flatten
/-- The commits from c on at which plans may change. -/
def placesL (L : List It2) (c : Int) : List Int := Sc.upr (plRow (cItem c :: L) c)
theorem plRow_snoc (M : List It2) (c : Int) (i : Nat) (x : It2) (hx : M[i]? = some x) : plRow (M.take (i + 1)) c = plRow (M.take i) c ++ fromC c (sixP x) := by
  unfold plRow; rw [List.take_add_one, hx]; simp
theorem plRow_len (M : List It2) (c : Int) : (plRow M c).length ≤ 6 * M.length := by
  unfold plRow
  induction M with
  | nil => simp
  | cons x M ih =>
    have := List.length_filter_le (fun n => decide (c ≤ n)) (sixP x)
    simp [sixP, fromC] at this ih ⊢
    omega
theorem celIt (L : List It2) (hok : ∀ x ∈ L, x.ok) : Cel 9 (L.map It2.v) := Cel.of (P := Tryz.prog) (T := 33) (vofs_it2 L hok) (by kernel_rfl)
set_option maxRecDepth 100000 in
set_option maxHeartbeats 4000000 in
theorem places_ct (s : Value) (hs : IsSl s) (L : List It2) (hok : ∀ x ∈ L, x.ok) (c : Int) (hc : -1099511627776 ≤ c ∧ c ≤ 1099511627776) (hr : ∀ x ∈ L, 0 ≤ x.a ∧ x.a ≤ 1099511627776 ∧ 0 ≤ x.b ∧ x.b ≤ 1099511627776) (hsl : SlC 9 s (L.map It2.v) ∈ R) (hm : L.length ≤ 1000) :
    Ct Tryz.prog 23 [s, .int .i64 c] W0 X R C SV (fun v => v.1) (fun _ => R) (fun v => RowC 3 1 v.1 ((placesL L c).map (.int .i64)) :: C) := by
  intro w hw
  have hF := isWide_wide
  obtain ⟨M, hM⟩ : ∃ M, cItem c :: L = M := ⟨_, rfl⟩
  have hMok : ∀ x ∈ M, x.ok := fun x hx => by
    rw [← hM] at hx
    rcases List.mem_cons.1 hx with rfl | hx
    · exact ⟨_, _, _, rfl⟩
    · exact hok x hx
  have hMr : ∀ x ∈ M, -1099511627776 ≤ x.a ∧ x.a ≤ 1099511627776 ∧ -1099511627776 ≤ x.b ∧ x.b ≤ 1099511627776 := fun x hx => by
    rw [← hM] at hx
    rcases List.mem_cons.1 hx with rfl | hx
    · exact ⟨hc.1, hc.2, hc.1, hc.2⟩
    · have := hr x hx; omega
  have hMl : M.length = L.length + 1 := by rw [← hM]; rfl
  have hMv : [(cItem c).v] ++ L.map It2.v = M.map It2.v := by rw [← hM]; rfl
  have hcl : Cel 9 [(cItem c).v] := celIt [cItem c] (fun x hx => by rw [List.mem_singleton.1 hx]; exact ⟨_, _, _, rfl⟩)
  have hcL := celIt L hok
  have hl1 : [(cItem c).v].length + (L.map It2.v).length ≤ maxLen := by unfold maxLen; simp; omega
  have hl2 : ([(cItem c).v].length + (L.map It2.v).length) * 88 ≤ 140737488355328 := by simp; omega
  have hres : placesL L c = Sc.upr (plRow M c) := by unfold placesL; rw [hM]
  have hlM : (M.map It2.v).length = M.length := by simp
  rw [hres]
  clear hres hr hok hM
  refine calls_nx Tryz.func23 rfl Tryz.ntmps23 rfl ?_ hw
  repeat' (first | ((first | with_reducible refine nl_op rfl ?_ | refine nd_go rfl rfl rfl ?_); intro K hK; (first | ((first | refine on_E hF rfl rfl ?_ | refine od_E rfl rfl ?_ | refine od_R rfl rfl ?_); (first | refine ⟨_, a_yl, ?_⟩ | refine ⟨_, (by first | exact yl_build (T := 33) (us := [(4, _), (5, _)]) rfl rfl rfl (fun w => by go_simp; all_goals rfl) | exact yl_build (T := 81) (us := [(0, _), (1, _), (2, _), (3, _), (4, _), (5, _)]) rfl rfl rfl (fun w => by go_simp; all_goals rfl) | exact yl_fieldB (T := 33) (f := 4) (q := 4) rfl rfl (by kernel_rfl) | exact yl_fieldE (T := 33) (f := 4) (j := 4) rfl rfl a_sl a_om (by kernel_rfl) | exact yl_fieldB (T := 33) (f := 5) (q := 5) rfl rfl (by kernel_rfl) | exact yl_fieldE (T := 33) (f := 5) (j := 5) rfl rfl a_sl a_om (by kernel_rfl)), ?_⟩)) | ((first | refine on_Ec hF rfl rfl ?_ | refine od_Ec rfl rfl ?_); refine ⟨_, _, _, a_yc, ?_, ?_⟩ <;> (intro hc; try exact a_cut hc)) | ((first | (refine od_act a_nd ?_; intro K2 hK2) | refine od_last a_nd ?_ | skip); (first | (refine on_callG hF (enters_of Tryz.func13 (by kernel_rfl) rfl) rfl rfl rfl rfl new_ct (fun bm => ?_)) | (refine on_buildSlice (e := 33) (k := 9) (by_ := 88) (vs := [(cItem c).v]) hF rfl rfl rfl rfl rfl rfl (by kernel_rfl) hcl (Nat.le_of_ble_eq_true rfl) (fun bq => ?_)) | (refine on_append (e := 33) (k := 9) (by_ := 88) (xs := [(cItem c).v]) (ys := L.map It2.v) hF rfl rfl rfl rfl rfl a_pick (by kernel_rfl) a_sl hcL hl1 hl2 (fun u => ?_); rw [hMv]; obtain ⟨u, ua, un, uc, rfl⟩ := u; dsimp only; refine nx_len (e := 33) (k := 9) (xs := M.map It2.v) (i := un) (by exact a_mem) (fun hlen => ?_); subst hlen; refine nx_frzRow Pick.here ?_) | (refine on_buildSlice (T := 22) (e := 33) (k := 9) (by_ := 88) hF rfl rfl rfl rfl rfl rfl (by kernel_rfl) a_cel (Nat.le_of_ble_eq_true rfl) (fun b => ?_)) | (refine on_append (T := 22) (e := 33) (k := 9) (by_ := 88) hF rfl rfl rfl rfl rfl a_pick (by kernel_rfl) a_sl a_cel a_bnd a_bnd (fun v => ?_)) | (refine on_alloc hF rfl Tryz.zeroValue33 rfl rfl (fun B => ?_)) | (refine on_box hF rfl rfl rfl rfl (fun B => ?_)) | (refine on_store hF rfl rfl rfl rfl a_turn a_vof a_sz ?_) | (refine on_storeE hF rfl rfl rfl rfl a_turn a_om a_vof a_sz ?_) | (refine on_storeEF hF rfl rfl rfl rfl a_turn a_as (by decide) a_vof rfl ?_) | (refine on_storeF hF rfl rfl rfl rfl a_turn (by decide) a_vof rfl ?_)) <;> try (refine hK2 _ _ _ a_allK ?_; clear hK2 K2))) <;> (refine hK _ _ _ ?_; clear hK K)) | with_reducible (first | refine nx_seq ?_ | refine nx_region ?_ | refine nl_nil ?_ | refine nq_then_n ?_ | refine nx_block ?_ | refine nx_skip ?_ | refine nx_exit ?_ | refine nx_ret ?_ | refine nq_then_x ?_ | refine nq_then_r ?_ | refine nq_blk_n ?_ | refine nq_blk_r ?_ | refine nq_blk_hit ?_ | refine nq_blk_miss rfl ?_ | refine nd_nil ?_) | refine nx_cond_t rfl ?_ | refine nx_cond_f rfl ?_ | refine nl_pass hF rfl rfl rfl ?_ | refine nd_pass rfl rfl rfl rfl rfl ?_ | refine nd_pass2 rfl rfl rfl a_nd a_allK rfl rfl ?_ | refine nd_pass3 rfl rfl rfl a_nd rfl rfl ?_ | (with_reducible refine hQ1 _ _ _ ?_; clear hQ1 Q1) )
  rw [show ([] : List Int) = Sc.upr (plRow (M.take 0) c) from (upr_nil).symm]
  refine nx_loop (ι := { i : Nat // i ≤ M.length }) (fun i => [(1, .int .i64 c), (5, ptr bm), (16, .slice ua (M.map It2.v).length uc), (17, .int .i64 ((M.map It2.v).length : Int)), (18, .int .i64 (i.1 : Int))]) (fun _ => SlC 9 (.slice ua (M.map It2.v).length uc) (M.map It2.v) :: R) (fun i => OrdC bm (Sc.upr (plRow (M.take i.1) c)) :: C) (fun i => M.length - i.1) ⟨0, Nat.zero_le _⟩ (by exact a_sub) (by exact a_subR) (by exact a_holds) (fun i => ?_)
  obtain ⟨i, hi⟩ := i
  dsimp only
  by_cases hlt : i < M.length
  · obtain ⟨x, hx⟩ : ∃ x, M[i]? = some x := ⟨_, List.getElem?_eq_getElem hlt⟩
    have hxm : x ∈ M := List.mem_of_getElem? hx
    have hxv : (M.map It2.v)[i]? = some x.v := by rw [List.getElem?_map, hx]; rfl
    have hvx := x.vof (hMok x hxm)
    have hrx := hMr x hxm
    have hsn := plRow_snoc M c i x hx
    have hzl := plRow_len (M.take i) c
    rw [List.length_take, Nat.min_eq_left (by omega)] at hzl
    clear hMr hMok
    obtain ⟨zs, hzs⟩ : ∃ zs, plRow (M.take i) c = zs := ⟨_, rfl⟩
    rw [hzs] at hsn hzl ⊢
    repeat' (first | ((first | with_reducible refine nl_op rfl ?_ | refine nd_go rfl rfl rfl ?_); intro K hK; (first | ((first | refine on_E hF rfl rfl ?_ | refine od_E rfl rfl ?_ | refine od_R rfl rfl ?_); (first | refine ⟨_, a_yl, ?_⟩ | refine ⟨_, (by first | exact yl_build (T := 33) (us := [(4, _), (5, _)]) rfl rfl rfl (fun w => by go_simp; all_goals rfl) | exact yl_build (T := 81) (us := [(0, _), (1, _), (2, _), (3, _), (4, _), (5, _)]) rfl rfl rfl (fun w => by go_simp; all_goals rfl) | exact yl_fieldB (T := 33) (f := 4) (q := 4) rfl rfl (by kernel_rfl) | exact yl_fieldE (T := 33) (f := 4) (j := 4) rfl rfl a_sl a_om (by kernel_rfl) | exact yl_fieldB (T := 33) (f := 5) (q := 5) rfl rfl (by kernel_rfl) | exact yl_fieldE (T := 33) (f := 5) (j := 5) rfl rfl a_sl a_om (by kernel_rfl)), ?_⟩)) | ((first | refine on_Ec hF rfl rfl ?_ | refine od_Ec rfl rfl ?_); refine ⟨_, _, _, a_yc, ?_, ?_⟩ <;> (intro hc; try exact a_cut hc)) | ((first | (refine od_act a_nd ?_; intro K2 hK2) | refine od_last a_nd ?_ | skip); (first | (refine on_buildSlice (T := 22) (e := 33) (k := 9) (by_ := 88) hF rfl rfl rfl rfl rfl rfl (by kernel_rfl) a_cel (Nat.le_of_ble_eq_true rfl) (fun b => ?_)) | (refine on_append (T := 22) (e := 33) (k := 9) (by_ := 88) hF rfl rfl rfl rfl rfl a_pick (by kernel_rfl) a_sl a_cel a_bnd a_bnd (fun v => ?_)) | (refine on_alloc hF rfl Tryz.zeroValue33 rfl rfl (fun B => ?_)) | (refine on_box hF rfl rfl rfl rfl (fun B => ?_)) | (refine on_store hF rfl rfl rfl rfl a_turn a_vof a_sz ?_) | (refine on_storeE hF rfl rfl rfl rfl a_turn a_om a_vof a_sz ?_) | (refine on_storeEF hF rfl rfl rfl rfl a_turn a_as (by decide) a_vof rfl ?_) | (refine on_storeF hF rfl rfl rfl rfl a_turn (by decide) a_vof rfl ?_)) <;> try (refine hK2 _ _ _ a_allK ?_; clear hK2 K2))) <;> (refine hK _ _ _ ?_; clear hK K)) | with_reducible (first | refine nx_seq ?_ | refine nx_region ?_ | refine nl_nil ?_ | refine nq_then_n ?_ | refine nx_block ?_ | refine nx_skip ?_ | refine nx_exit ?_ | refine nx_ret ?_ | refine nq_then_x ?_ | refine nq_then_r ?_ | refine nq_blk_n ?_ | refine nq_blk_r ?_ | refine nq_blk_hit ?_ | refine nq_blk_miss rfl ?_ | refine nd_nil ?_) | refine nx_cond_t rfl ?_ | refine nx_cond_f rfl ?_ | refine nl_pass hF rfl rfl rfl ?_ | refine nd_pass rfl rfl rfl rfl rfl ?_ | refine nd_pass2 rfl rfl rfl a_nd a_allK rfl rfl ?_ | refine nd_pass3 rfl rfl rfl a_nd rfl rfl ?_ | (with_reducible refine hQ1 _ _ _ ?_; clear hQ1 Q1) )
    all_goals (try (exfalso; dsimp only at *; omega))
    rw [show Sc.upr zs = Sc.upr (zs ++ fromC c ((sixP x).take 0)) from by simp [fromC]]
    clear hxv hvx
    refine nx_loop (ι := { j : Nat // j ≤ 6 }) (fun j => [(1, .int .i64 c), (5, ptr bm), (16, .slice ua (M.map It2.v).length uc), (17, .int .i64 ((M.map It2.v).length : Int)), (18, .int .i64 (i : Int)), (38, .agg #[.int .i64 (x.a - 1), .int .i64 x.a, .int .i64 (x.a + 1), .int .i64 (x.b - 1), .int .i64 x.b, .int .i64 (x.b + 1)]), (39, .int .i64 (j.1 : Int))]) (fun _ => SlC 9 (.slice ua (M.map It2.v).length uc) (M.map It2.v) :: R) (fun j => OrdC bm (Sc.upr (zs ++ fromC c ((sixP x).take j.1))) :: C) (fun j => 6 - j.1) ⟨0, Nat.zero_le _⟩ (by exact a_sub) (by exact a_subR) (by exact a_holds) (fun j => ?_)
    obtain ⟨j, hj⟩ := j
    dsimp only
    have hfl : (fromC c ((sixP x).take j)).length ≤ 6 := by
      have h1 := List.length_filter_le (fun n => decide (c ≤ n)) ((sixP x).take j)
      have h2 : (sixP x).length = 6 := rfl
      rw [List.length_take, h2] at h1
      unfold fromC; omega
    by_cases hj6 : j < 6
    · obtain ⟨y, hy⟩ : ∃ y, (sixP x)[j]? = some y := ⟨_, List.getElem?_eq_getElem (by simpa [sixP] using hj6)⟩
      have harr : (#[.int .i64 (x.a - 1), .int .i64 x.a, .int .i64 (x.a + 1), .int .i64 (x.b - 1), .int .i64 x.b, .int .i64 (x.b + 1)] : Array Value) = ((sixP x).map (Value.int .i64)).toArray := rfl
      have hyv : (#[.int .i64 (x.a - 1), .int .i64 x.a, .int .i64 (x.a + 1), .int .i64 (x.b - 1), .int .i64 x.b, .int .i64 (x.b + 1)] : Array Value)[j]? = some (.int .i64 y) := by rw [harr]; simp [hy]
      have hft : fromC c ((sixP x).take (j + 1)) = fromC c ((sixP x).take j) ++ if c ≤ y then [y] else [] := by
        unfold fromC; rw [List.take_add_one, hy]; simp [List.filter_cons]
      have hzl2 : (zs ++ fromC c ((sixP x).take j)).length ≤ 1000000000 := by rw [List.length_append]; omega
      obtain ⟨q, hq⟩ : ∃ q, zs ++ fromC c ((sixP x).take j) = q := ⟨_, rfl⟩
      have hqn : zs ++ fromC c ((sixP x).take (j + 1)) = q ++ if c ≤ y then [y] else [] := by rw [hft, ← List.append_assoc, hq]
      rw [hq] at hzl2 ⊢
      clear harr hft hq
      by_cases hcy : c ≤ y
      · rw [if_pos hcy] at hqn
        repeat' (first | ((first | with_reducible refine nl_op rfl ?_ | refine nd_go rfl rfl rfl ?_); intro K hK; (first | ((first | refine on_E hF rfl rfl ?_ | refine od_E rfl rfl ?_ | refine od_R rfl rfl ?_); (first | refine ⟨_, yl_indexA 6 rfl rfl rfl (by kernel_rfl) hj6 hyv, ?_⟩ | refine ⟨_, a_yl, ?_⟩ | refine ⟨_, (by first | exact yl_build (T := 33) (us := [(4, _), (5, _)]) rfl rfl rfl (fun w => by go_simp; all_goals rfl) | exact yl_build (T := 81) (us := [(0, _), (1, _), (2, _), (3, _), (4, _), (5, _)]) rfl rfl rfl (fun w => by go_simp; all_goals rfl) | exact yl_fieldB (T := 33) (f := 4) (q := 4) rfl rfl (by kernel_rfl) | exact yl_fieldE (T := 33) (f := 4) (j := 4) rfl rfl a_sl a_om (by kernel_rfl) | exact yl_fieldB (T := 33) (f := 5) (q := 5) rfl rfl (by kernel_rfl) | exact yl_fieldE (T := 33) (f := 5) (j := 5) rfl rfl a_sl a_om (by kernel_rfl)), ?_⟩)) | ((first | refine on_Ec hF rfl rfl ?_ | refine od_Ec rfl rfl ?_); refine ⟨_, _, _, a_yc, ?_, ?_⟩ <;> (intro hc; try exact a_cut hc)) | ((first | (refine od_act a_nd ?_; intro K2 hK2) | refine od_last a_nd ?_ | skip); (first | (refine on_callG hF (enters_of Tryz.func18 (by kernel_rfl) rfl) rfl rfl rfl rfl ((put_ct bm q y hzl2).pre (perm1 (by exact a_pick))) (fun _ => ?_); rw [← hqn]) | (refine on_buildSlice (T := 22) (e := 33) (k := 9) (by_ := 88) hF rfl rfl rfl rfl rfl rfl (by kernel_rfl) a_cel (Nat.le_of_ble_eq_true rfl) (fun b => ?_)) | (refine on_append (T := 22) (e := 33) (k := 9) (by_ := 88) hF rfl rfl rfl rfl rfl a_pick (by kernel_rfl) a_sl a_cel a_bnd a_bnd (fun v => ?_)) | (refine on_alloc hF rfl Tryz.zeroValue33 rfl rfl (fun B => ?_)) | (refine on_box hF rfl rfl rfl rfl (fun B => ?_)) | (refine on_store hF rfl rfl rfl rfl a_turn a_vof a_sz ?_) | (refine on_storeE hF rfl rfl rfl rfl a_turn a_om a_vof a_sz ?_) | (refine on_storeEF hF rfl rfl rfl rfl a_turn a_as (by decide) a_vof rfl ?_) | (refine on_storeF hF rfl rfl rfl rfl a_turn (by decide) a_vof rfl ?_)) <;> try (refine hK2 _ _ _ a_allK ?_; clear hK2 K2))) <;> (refine hK _ _ _ ?_; clear hK K)) | with_reducible (first | refine nx_seq ?_ | refine nx_region ?_ | refine nl_nil ?_ | refine nq_then_n ?_ | refine nx_block ?_ | refine nx_skip ?_ | refine nx_exit ?_ | refine nx_ret ?_ | refine nq_then_x ?_ | refine nq_then_r ?_ | refine nq_blk_n ?_ | refine nq_blk_r ?_ | refine nq_blk_hit ?_ | refine nq_blk_miss rfl ?_ | refine nd_nil ?_) | refine nx_cond_t rfl ?_ | refine nx_cond_f rfl ?_ | refine nl_pass hF rfl rfl rfl ?_ | refine nd_pass rfl rfl rfl rfl rfl ?_ | refine nd_pass2 rfl rfl rfl a_nd a_allK rfl rfl ?_ | refine nd_pass3 rfl rfl rfl a_nd rfl rfl ?_ | (with_reducible refine hQ1 _ _ _ ?_; clear hQ1 Q1) )
        all_goals (try (exfalso; dsimp only at *; omega))
        refine nx_again ⟨j + 1, by omega⟩ (by dsimp only; omega) (by exact a_sub) (by exact a_subR) (by exact a_holds)
      · rw [if_neg hcy, List.append_nil] at hqn
        repeat' (first | ((first | with_reducible refine nl_op rfl ?_ | refine nd_go rfl rfl rfl ?_); intro K hK; (first | ((first | refine on_E hF rfl rfl ?_ | refine od_E rfl rfl ?_ | refine od_R rfl rfl ?_); (first | refine ⟨_, yl_indexA 6 rfl rfl rfl (by kernel_rfl) hj6 hyv, ?_⟩ | refine ⟨_, a_yl, ?_⟩ | refine ⟨_, (by first | exact yl_build (T := 33) (us := [(4, _), (5, _)]) rfl rfl rfl (fun w => by go_simp; all_goals rfl) | exact yl_build (T := 81) (us := [(0, _), (1, _), (2, _), (3, _), (4, _), (5, _)]) rfl rfl rfl (fun w => by go_simp; all_goals rfl) | exact yl_fieldB (T := 33) (f := 4) (q := 4) rfl rfl (by kernel_rfl) | exact yl_fieldE (T := 33) (f := 4) (j := 4) rfl rfl a_sl a_om (by kernel_rfl) | exact yl_fieldB (T := 33) (f := 5) (q := 5) rfl rfl (by kernel_rfl) | exact yl_fieldE (T := 33) (f := 5) (j := 5) rfl rfl a_sl a_om (by kernel_rfl)), ?_⟩)) | ((first | refine on_Ec hF rfl rfl ?_ | refine od_Ec rfl rfl ?_); refine ⟨_, _, _, a_yc, ?_, ?_⟩ <;> (intro hc; try exact a_cut hc)) | ((first | (refine od_act a_nd ?_; intro K2 hK2) | refine od_last a_nd ?_ | skip); (first | (refine on_buildSlice (T := 22) (e := 33) (k := 9) (by_ := 88) hF rfl rfl rfl rfl rfl rfl (by kernel_rfl) a_cel (Nat.le_of_ble_eq_true rfl) (fun b => ?_)) | (refine on_append (T := 22) (e := 33) (k := 9) (by_ := 88) hF rfl rfl rfl rfl rfl a_pick (by kernel_rfl) a_sl a_cel a_bnd a_bnd (fun v => ?_)) | (refine on_alloc hF rfl Tryz.zeroValue33 rfl rfl (fun B => ?_)) | (refine on_box hF rfl rfl rfl rfl (fun B => ?_)) | (refine on_store hF rfl rfl rfl rfl a_turn a_vof a_sz ?_) | (refine on_storeE hF rfl rfl rfl rfl a_turn a_om a_vof a_sz ?_) | (refine on_storeEF hF rfl rfl rfl rfl a_turn a_as (by decide) a_vof rfl ?_) | (refine on_storeF hF rfl rfl rfl rfl a_turn (by decide) a_vof rfl ?_)) <;> try (refine hK2 _ _ _ a_allK ?_; clear hK2 K2))) <;> (refine hK _ _ _ ?_; clear hK K)) | with_reducible (first | refine nx_seq ?_ | refine nx_region ?_ | refine nl_nil ?_ | refine nq_then_n ?_ | refine nx_block ?_ | refine nx_skip ?_ | refine nx_exit ?_ | refine nx_ret ?_ | refine nq_then_x ?_ | refine nq_then_r ?_ | refine nq_blk_n ?_ | refine nq_blk_r ?_ | refine nq_blk_hit ?_ | refine nq_blk_miss rfl ?_ | refine nd_nil ?_) | refine nx_cond_t rfl ?_ | refine nx_cond_f rfl ?_ | refine nl_pass hF rfl rfl rfl ?_ | refine nd_pass rfl rfl rfl rfl rfl ?_ | refine nd_pass2 rfl rfl rfl a_nd a_allK rfl rfl ?_ | refine nd_pass3 rfl rfl rfl a_nd rfl rfl ?_ | (with_reducible refine hQ1 _ _ _ ?_; clear hQ1 Q1) )
        all_goals (try (exfalso; dsimp only at *; omega))
        rw [← hqn]
        refine nx_again ⟨j + 1, by omega⟩ (by dsimp only; omega) (by exact a_sub) (by exact a_subR) (by exact a_holds)
    · obtain rfl : j = 6 := by omega
      rw [show (sixP x).take 6 = sixP x from rfl, ← hsn]
      repeat' (first | ((first | with_reducible refine nl_op rfl ?_ | refine nd_go rfl rfl rfl ?_); intro K hK; (first | ((first | refine on_E hF rfl rfl ?_ | refine od_E rfl rfl ?_ | refine od_R rfl rfl ?_); (first | refine ⟨_, a_yl, ?_⟩ | refine ⟨_, (by first | exact yl_build (T := 33) (us := [(4, _), (5, _)]) rfl rfl rfl (fun w => by go_simp; all_goals rfl) | exact yl_build (T := 81) (us := [(0, _), (1, _), (2, _), (3, _), (4, _), (5, _)]) rfl rfl rfl (fun w => by go_simp; all_goals rfl) | exact yl_fieldB (T := 33) (f := 4) (q := 4) rfl rfl (by kernel_rfl) | exact yl_fieldE (T := 33) (f := 4) (j := 4) rfl rfl a_sl a_om (by kernel_rfl) | exact yl_fieldB (T := 33) (f := 5) (q := 5) rfl rfl (by kernel_rfl) | exact yl_fieldE (T := 33) (f := 5) (j := 5) rfl rfl a_sl a_om (by kernel_rfl)), ?_⟩)) | ((first | refine on_Ec hF rfl rfl ?_ | refine od_Ec rfl rfl ?_); refine ⟨_, _, _, a_yc, ?_, ?_⟩ <;> (intro hc; try exact a_cut hc)) | ((first | (refine od_act a_nd ?_; intro K2 hK2) | refine od_last a_nd ?_ | skip); (first | (refine on_buildSlice (T := 22) (e := 33) (k := 9) (by_ := 88) hF rfl rfl rfl rfl rfl rfl (by kernel_rfl) a_cel (Nat.le_of_ble_eq_true rfl) (fun b => ?_)) | (refine on_append (T := 22) (e := 33) (k := 9) (by_ := 88) hF rfl rfl rfl rfl rfl a_pick (by kernel_rfl) a_sl a_cel a_bnd a_bnd (fun v => ?_)) | (refine on_alloc hF rfl Tryz.zeroValue33 rfl rfl (fun B => ?_)) | (refine on_box hF rfl rfl rfl rfl (fun B => ?_)) | (refine on_store hF rfl rfl rfl rfl a_turn a_vof a_sz ?_) | (refine on_storeE hF rfl rfl rfl rfl a_turn a_om a_vof a_sz ?_) | (refine on_storeEF hF rfl rfl rfl rfl a_turn a_as (by decide) a_vof rfl ?_) | (refine on_storeF hF rfl rfl rfl rfl a_turn (by decide) a_vof rfl ?_)) <;> try (refine hK2 _ _ _ a_allK ?_; clear hK2 K2))) <;> (refine hK _ _ _ ?_; clear hK K)) | with_reducible (first | refine nx_seq ?_ | refine nx_region ?_ | refine nl_nil ?_ | refine nq_then_n ?_ | refine nx_block ?_ | refine nx_skip ?_ | refine nx_exit ?_ | refine nx_ret ?_ | refine nq_then_x ?_ | refine nq_then_r ?_ | refine nq_blk_n ?_ | refine nq_blk_r ?_ | refine nq_blk_hit ?_ | refine nq_blk_miss rfl ?_ | refine nd_nil ?_) | refine nx_cond_t rfl ?_ | refine nx_cond_f rfl ?_ | refine nl_pass hF rfl rfl rfl ?_ | refine nd_pass rfl rfl rfl rfl rfl ?_ | refine nd_pass2 rfl rfl rfl a_nd a_allK rfl rfl ?_ | refine nd_pass3 rfl rfl rfl a_nd rfl rfl ?_ | (with_reducible refine hQ1 _ _ _ ?_; clear hQ1 Q1) )
      all_goals (try (exfalso; dsimp only at *; omega))
      refine nx_again ⟨i + 1, by omega⟩ (by dsimp only; omega) (by exact a_sub) (by exact a_subR) (by exact a_holds)
  · rw [List.take_of_length_le (by omega)]
    have hzl := plRow_len M c
    have hul := Sc.upr_len (plRow M c)
    have hult := Sc.upr_lt (plRow M c)
    obtain ⟨ks, hks⟩ : ∃ ks, Sc.upr (plRow M c) = ks := ⟨_, rfl⟩
    rw [hks] at hul ⊢
    clear hks
    repeat' (first | ((first | with_reducible refine nl_op rfl ?_ | refine nd_go rfl rfl rfl ?_); intro K hK; (first | ((first | refine on_E hF rfl rfl ?_ | refine od_E rfl rfl ?_ | refine od_R rfl rfl ?_); (first | refine ⟨_, a_yl, ?_⟩ | refine ⟨_, (by first | exact yl_build (T := 33) (us := [(4, _), (5, _)]) rfl rfl rfl (fun w => by go_simp; all_goals rfl) | exact yl_build (T := 81) (us := [(0, _), (1, _), (2, _), (3, _), (4, _), (5, _)]) rfl rfl rfl (fun w => by go_simp; all_goals rfl) | exact yl_fieldB (T := 33) (f := 4) (q := 4) rfl rfl (by kernel_rfl) | exact yl_fieldE (T := 33) (f := 4) (j := 4) rfl rfl a_sl a_om (by kernel_rfl) | exact yl_fieldB (T := 33) (f := 5) (q := 5) rfl rfl (by kernel_rfl) | exact yl_fieldE (T := 33) (f := 5) (j := 5) rfl rfl a_sl a_om (by kernel_rfl)), ?_⟩)) | ((first | refine on_Ec hF rfl rfl ?_ | refine od_Ec rfl rfl ?_); refine ⟨_, _, _, a_yc, ?_, ?_⟩ <;> (intro hc; try exact a_cut hc)) | ((first | (refine od_act a_nd ?_; intro K2 hK2) | refine od_last a_nd ?_ | skip); (first | (refine on_buildSlice (T := 22) (e := 33) (k := 9) (by_ := 88) hF rfl rfl rfl rfl rfl rfl (by kernel_rfl) a_cel (Nat.le_of_ble_eq_true rfl) (fun b => ?_)) | (refine on_append (T := 22) (e := 33) (k := 9) (by_ := 88) hF rfl rfl rfl rfl rfl a_pick (by kernel_rfl) a_sl a_cel a_bnd a_bnd (fun v => ?_)) | (refine on_alloc hF rfl Tryz.zeroValue33 rfl rfl (fun B => ?_)) | (refine on_box hF rfl rfl rfl rfl (fun B => ?_)) | (refine on_store hF rfl rfl rfl rfl a_turn a_vof a_sz ?_) | (refine on_storeE hF rfl rfl rfl rfl a_turn a_om a_vof a_sz ?_) | (refine on_storeEF hF rfl rfl rfl rfl a_turn a_as (by decide) a_vof rfl ?_) | (refine on_storeF hF rfl rfl rfl rfl a_turn (by decide) a_vof rfl ?_)) <;> try (refine hK2 _ _ _ a_allK ?_; clear hK2 K2))) <;> (refine hK _ _ _ ?_; clear hK K)) | with_reducible (first | refine nx_seq ?_ | refine nx_region ?_ | refine nl_nil ?_ | refine nq_then_n ?_ | refine nx_block ?_ | refine nx_skip ?_ | refine nx_exit ?_ | refine nx_ret ?_ | refine nq_then_x ?_ | refine nq_then_r ?_ | refine nq_blk_n ?_ | refine nq_blk_r ?_ | refine nq_blk_hit ?_ | refine nq_blk_miss rfl ?_ | refine nd_nil ?_) | refine nx_cond_t rfl ?_ | refine nx_cond_f rfl ?_ | refine nl_pass hF rfl rfl rfl ?_ | refine nd_pass rfl rfl rfl rfl rfl ?_ | refine nd_pass2 rfl rfl rfl a_nd a_allK rfl rfl ?_ | refine nd_pass3 rfl rfl rfl a_nd rfl rfl ?_ | (with_reducible refine hQ1 _ _ _ ?_; clear hQ1 Q1) )
    all_goals (try (exfalso; dsimp only at *; omega))
    refine nx_frz (OrdC bm ks) Pick.here ?_
    repeat' (first | ((first | with_reducible refine nl_op rfl ?_ | refine nd_go rfl rfl rfl ?_); intro K hK; (first | ((first | refine on_E hF rfl rfl ?_ | refine od_E rfl rfl ?_ | refine od_R rfl rfl ?_); (first | refine ⟨_, a_yl, ?_⟩ | refine ⟨_, (by first | exact yl_build (T := 33) (us := [(4, _), (5, _)]) rfl rfl rfl (fun w => by go_simp; all_goals rfl) | exact yl_build (T := 81) (us := [(0, _), (1, _), (2, _), (3, _), (4, _), (5, _)]) rfl rfl rfl (fun w => by go_simp; all_goals rfl) | exact yl_fieldB (T := 33) (f := 4) (q := 4) rfl rfl (by kernel_rfl) | exact yl_fieldE (T := 33) (f := 4) (j := 4) rfl rfl a_sl a_om (by kernel_rfl) | exact yl_fieldB (T := 33) (f := 5) (q := 5) rfl rfl (by kernel_rfl) | exact yl_fieldE (T := 33) (f := 5) (j := 5) rfl rfl a_sl a_om (by kernel_rfl)), ?_⟩)) | ((first | refine on_Ec hF rfl rfl ?_ | refine od_Ec rfl rfl ?_); refine ⟨_, _, _, a_yc, ?_, ?_⟩ <;> (intro hc; try exact a_cut hc)) | ((first | (refine od_act a_nd ?_; intro K2 hK2) | refine od_last a_nd ?_ | skip); (first | (refine on_callG hF (enters_of Tryz.func11 (by kernel_rfl) rfl) rfl rfl rfl rfl (keys_ct bm ks (by exact a_mem) (by omega)) (fun v => ?_)) | (refine on_buildSlice (T := 22) (e := 33) (k := 9) (by_ := 88) hF rfl rfl rfl rfl rfl rfl (by kernel_rfl) a_cel (Nat.le_of_ble_eq_true rfl) (fun b => ?_)) | (refine on_append (T := 22) (e := 33) (k := 9) (by_ := 88) hF rfl rfl rfl rfl rfl a_pick (by kernel_rfl) a_sl a_cel a_bnd a_bnd (fun v => ?_)) | (refine on_alloc hF rfl Tryz.zeroValue33 rfl rfl (fun B => ?_)) | (refine on_box hF rfl rfl rfl rfl (fun B => ?_)) | (refine on_store hF rfl rfl rfl rfl a_turn a_vof a_sz ?_) | (refine on_storeE hF rfl rfl rfl rfl a_turn a_om a_vof a_sz ?_) | (refine on_storeEF hF rfl rfl rfl rfl a_turn a_as (by decide) a_vof rfl ?_) | (refine on_storeF hF rfl rfl rfl rfl a_turn (by decide) a_vof rfl ?_)) <;> try (refine hK2 _ _ _ a_allK ?_; clear hK2 K2))) <;> (refine hK _ _ _ ?_; clear hK K)) | with_reducible (first | refine nx_seq ?_ | refine nx_region ?_ | refine nl_nil ?_ | refine nq_then_n ?_ | refine nx_block ?_ | refine nx_skip ?_ | refine nx_exit ?_ | refine nx_ret ?_ | refine nq_then_x ?_ | refine nq_then_r ?_ | refine nq_blk_n ?_ | refine nq_blk_r ?_ | refine nq_blk_hit ?_ | refine nq_blk_miss rfl ?_ | refine nd_nil ?_) | refine nx_cond_t rfl ?_ | refine nx_cond_f rfl ?_ | refine nl_pass hF rfl rfl rfl ?_ | refine nd_pass rfl rfl rfl rfl rfl ?_ | refine nd_pass2 rfl rfl rfl a_nd a_allK rfl rfl ?_ | refine nd_pass3 rfl rfl rfl a_nd rfl rfl ?_ | (with_reducible refine hQ1 _ _ _ ?_; clear hQ1 Q1) )
    refine nx_end [] rfl v (fun a w ha hw => res_tmp Tryz.results23 rfl ha) (by exact a_subR) (by exact a_holds2)
end Pr
end Go.Proofs.YtinofjenoapeaaaGreat
end
section
namespace Go.Proofs.YtinofjenoapeaaaGreat
open Go.RowKit Go.Shelf
set_option linter.unusedSimpArgs false
set_option linter.unusedVariables false
namespace Pr
open Pl Li
/-- Of which part a plan comes. -/
structure FindS (L : List It2) (P : List Prt) (i : Nat) (p : It2 × List Int × List Int) (j : Nat) (x : Prt) : Prop where
  at_ : P[j]? = some x
  le : i ≤ j
  has : (Chn.bestOf L x.u x.fr x.to).2 = true
  one : p.1 = (Chn.bestOf L x.u x.fr x.to).1
  ok : (planAt L P j x p.1).2.2 = true
  seg : p.2.1 = (planAt L P j x p.1).1
  lim : p.2.2 = (planAt L P j x p.1).2.1
  no : ∀ k y, i ≤ k → k < j → P[k]? = some y → (Chn.bestOf L y.u y.fr y.to).2 = false
theorem findI_spec {L : List It2} {P : List Prt} {p : It2 × List Int × List Int} : ∀ (m i : Nat), P.length - i ≤ m → findI L P i = some p → ∃ j x, FindS L P i p j x := by
  intro m
  induction m with
  | zero =>
    intro i hm h
    rw [findI_end (by omega)] at h; cases h
  | succ m ih =>
    intro i hm h
    by_cases hi : i < P.length
    · obtain ⟨x, hx⟩ : ∃ x, P[i]? = some x := ⟨_, List.getElem?_eq_getElem hi⟩
      cases hb : (Chn.bestOf L x.u x.fr x.to).2 with
      | true =>
        rw [findI_here hx hb] at h
        split at h
        · rename_i hok
          injection h with h
          subst h
          exact ⟨i, x, hx, Nat.le_refl _, hb, rfl, hok, rfl, rfl, fun k y h1 h2 => by omega⟩
        · cases h
      | false =>
        rw [findI_next hx hb] at h
        obtain ⟨j, y, hS⟩ := ih (i + 1) (by omega) h
        refine ⟨j, y, hS.at_, by have := hS.le; omega, hS.has, hS.one, hS.ok, hS.seg, hS.lim, fun k z h1 h2 h3 => ?_⟩
        rcases Nat.lt_or_ge i k with h4 | h4
        · exact hS.no k z (by omega) h2 h3
        · obtain rfl : k = i := by omega
          rw [hx] at h3; injection h3 with h3; subst h3; exact hb
    · rw [findI_end hi] at h; cases h
theorem findI_of {L : List It2} {P : List Prt} {p : It2 × List Int × List Int} {j : Nat} {x : Prt} : ∀ (m i : Nat), j - i ≤ m → FindS L P i p j x → findI L P i = some p := by
  intro m
  induction m with
  | zero =>
    intro i hm h
    obtain rfl : i = j := by have := h.le; omega
    rw [findI_here h.at_ h.has, ← h.one, if_pos h.ok, ← h.seg, ← h.lim]
  | succ m ih =>
    intro i hm h
    rcases Nat.lt_or_ge i j with h1 | h1
    · have hlt : j < P.length := (List.getElem?_eq_some_iff.1 h.at_).1
      obtain ⟨y, hy⟩ : ∃ y, P[i]? = some y := ⟨_, List.getElem?_eq_getElem (by omega)⟩
      rw [findI_next hy (h.no i y (Nat.le_refl _) h1 hy)]
      exact ih (i + 1) (by omega) ⟨h.at_, h1, h.has, h.one, h.ok, h.seg, h.lim, fun k z h2 h3 h4 => h.no k z (by omega) h3 h4⟩
    · obtain rfl : i = j := by have := h.le; omega
      rw [findI_here h.at_ h.has, ← h.one, if_pos h.ok, ← h.seg, ← h.lim]
theorem best_mem {L : List It2} {t least most : Int} (h : (Chn.bestOf L t least most).2 = true) : (Chn.bestOf L t least most).1 ∈ L ∧ Chn.backupsB L t most (Chn.bestOf L t least most).1 = true ∧ least ≤ (Chn.bestOf L t least most).1.a := by
  unfold Chn.bestOf at h ⊢
  rcases Chn.best_spec least (L.filter (Chn.backupsB L t most)) (zIt2, false) with ⟨h1, _⟩ | ⟨_, h2, h3⟩
  · rw [h1] at h; cases h
  · obtain ⟨h4, h5⟩ := List.mem_filter.1 h2
    exact ⟨h4, h5, h3⟩
theorem chain_ne {L : List It2} {id : Int} (h : (Chn.chainOf L id).isSome = true) : Chn.chainIds L id ≠ [] := by
  unfold Chn.chainIds
  cases hc : Chn.chainOf L id with
  | none => rw [hc] at h; cases h
  | some xs =>
    have : xs ≠ [] := by
      unfold Chn.chainOf at hc
      split at hc
      · rw [Chn.chainUp] at hc
        split at hc
        · injection hc with hc; subst hc; simp
        · split at hc
          · cases hu : Chn.chainUp L (Chn.atX L (Chn.atX L id).par) with
            | none => rw [hu] at hc; cases hc
            | some ys => rw [hu] at hc; simp at hc; subst hc; simp
          · cases hc
      · cases hc
    simpa using this
theorem chainUp_len (L : List It2) : ∀ (m : Nat) (x : It2) (xs : List It2), Chn.under L x.id ≤ m → Chn.chainUp L x = some xs → xs.length ≤ m + 1 := by
  intro m
  induction m with
  | zero =>
    intro x xs hm h
    by_cases hk : x.kind = 2
    · rw [Chn.chainUp_full hk] at h; injection h with h; subst h; simp
    · cases hu : Chn.upOk L x with
      | false => rw [Chn.chainUp_none hk hu] at h; cases h
      | true =>
        have := Chn.under_lt (Chn.upOk_mem hu).2.1 (Chn.upOk_mem hu).2.2 rfl
        omega
  | succ m ih =>
    intro x xs hm h
    by_cases hk : x.kind = 2
    · rw [Chn.chainUp_full hk] at h; injection h with h; subst h; simp
    · cases hu : Chn.upOk L x with
      | false => rw [Chn.chainUp_none hk hu] at h; cases h
      | true =>
        have hlt := Chn.under_lt (Chn.upOk_mem hu).2.1 (Chn.upOk_mem hu).2.2 rfl
        rw [Chn.chainUp_up hk hu] at h
        cases hy : Chn.chainUp L (Chn.atX L x.par) with
        | none => rw [hy] at h; cases h
        | some ys =>
          rw [hy] at h
          simp at h
          subst h
          have := ih _ ys (by omega) hy
          simp; omega
theorem chain_len (L : List It2) (id : Int) : (Chn.chainIds L id).length ≤ L.length + 1 := by
  unfold Chn.chainIds
  rw [List.length_map, List.length_reverse]
  cases hc : Chn.chainOf L id with
  | none => simp
  | some xs =>
    unfold Chn.chainOf at hc
    split at hc
    · have h1 := chainUp_len L _ _ xs (Nat.le_refl _) hc
      have h2 : Chn.under L (Chn.atX L id).id ≤ L.length := List.length_filter_le _ _
      simp only [Option.getD_some]; omega
    · cases hc
theorem find_spec {L : List It2} {t n : Int} {p : It2 × List Int × List Int} (h : findP L t n = some p) : 0 ≤ n ∧ knownL L t = true ∧ ∃ j x, FindS L (wayU L t n) 0 p j x := by
  unfold findP at h
  split at h
  · cases h
  · rename_i hg
    refine ⟨?_, ?_, findI_spec _ 0 (Nat.le_refl _) h⟩
    · by_cases hn : n < 0
      · exact absurd (.inl hn) hg
      · omega
    · cases hk : knownL L t with
      | true => rfl
      | false => exact absurd (.inr hk) hg
theorem find_chain {L : List It2} {t n : Int} {p : It2 × List Int × List Int} (h : findP L t n = some p) : (Chn.chainOf L p.1.id).isSome = true := by
  obtain ⟨_, _, j, x, hS⟩ := find_spec h
  rw [hS.one]
  have := (best_mem hS.has).2.1
  unfold Chn.backupsB at this
  simp at this
  exact this.2
theorem find_len {L : List It2} {t n : Int} {p : It2 × List Int × List Int} (h : findP L t n = some p) : p.2.1.length ≤ (L.length + 2) * L.length := by
  obtain ⟨_, _, j, x, hS⟩ := find_spec h
  rw [hS.seg, planAt_covF]
  have h1 := covStep_len L ([], [], true) x.u p.1.a x.to
  have h2 := (covF_len L (covStep L ([], [], true) x.u p.1.a x.to) (bkL ((wayU L t n).take j))).1
  have h3 := wayU_few L t n
  rw [bkL_len] at h2
  have h4 : ((wayU L t n).take j).length ≤ L.length + 1 := by rw [List.length_take]; omega
  have h5 : ((wayU L t n).take j).length * L.length ≤ (L.length + 1) * L.length := Nat.mul_le_mul_right _ h4
  have h6 : (L.length + 2) * L.length = (L.length + 1) * L.length + L.length := by rw [show L.length + 2 = (L.length + 1) + 1 from rfl, Nat.succ_mul]
  simp only [List.length_nil, Nat.zero_add] at h1
  omega
/-- The Ids of a plan's objects, rising. -/
def objL (L : List It2) (t n : Int) : List Int := match findP L t n with
  | none => []
  | some p => Sc.upr (Chn.chainIds L p.1.id ++ p.2.1)
def tObj (L : List It2) (ns : List Int) (t : Int) : List Int := (ns.map (objL L t)).flatten
def lineIds (M : List It2) : List Int := (M.filter fun x => decide (x.kind = 4)).map It2.id
/-- What is wanted, in the order in which it is found. -/
def wantZ (L : List It2) (c : Int) : List Int := lineIds L ++ ((allL L).map (tObj L (placesL L c))).flatten
theorem objL_len (L : List It2) (t n : Int) (hm : L.length ≤ 20) : (objL L t n).length ≤ 461 := by
  unfold objL
  split
  · simp
  · rename_i p hp
    have h1 := find_len hp
    have h2 := chain_len L p.1.id
    have h3 := Sc.upr_len (Chn.chainIds L p.1.id ++ p.2.1)
    have h4 : (L.length + 2) * L.length ≤ 22 * 20 := Nat.mul_le_mul (by omega) hm
    rw [List.length_append] at h3
    omega
theorem flat_len {α : Type} (f : α → List Int) (k : Nat) (hf : ∀ x, (f x).length ≤ k) : ∀ (xs : List α), ((xs.map f).flatten).length ≤ xs.length * k
  | [] => by simp
  | x :: xs => by
    have h1 := flat_len f k hf xs
    have h2 := hf x
    simp only [List.map_cons, List.flatten_cons, List.length_append, List.length_cons, Nat.succ_mul]
    omega
theorem placesL_len (L : List It2) (c : Int) : (placesL L c).length ≤ 6 * (L.length + 1) := by
  have h1 := plRow_len (cItem c :: L) c
  have h2 := Sc.upr_len (plRow (cItem c :: L) c)
  unfold placesL
  simp only [List.length_cons] at h1
  omega
theorem lineIds_len (M : List It2) : (lineIds M).length ≤ M.length := by
  unfold lineIds; rw [List.length_map]; exact List.length_filter_le _ _
theorem lineIds_snoc (M : List It2) (i : Nat) (x : It2) (hx : M[i]? = some x) : lineIds (M.take (i + 1)) = lineIds (M.take i) ++ if x.kind = 4 then [x.id] else [] := by
  unfold lineIds
  rw [List.take_add_one, hx]
  by_cases h : x.kind = 4 <;> simp [List.filter_cons, h]
end Pr
end Go.Proofs.YtinofjenoapeaaaGreat
end
section
namespace Go.Proofs.YtinofjenoapeaaaGreat
open Go.RowKit Go.Shelf Go.Sort Go.Lib
set_option linter.unusedSimpArgs false
set_option linter.unusedVariables false
namespace Sc
variable {W0 : World} {X : Nat → Prop} {R C : List Ch}
/-! ### rows -/
theorem cells_ints (zs : List Int) : cellsOf (zs.map (Value.int .i64)) = zs.map (Value.int .i64) := by
  induction zs with
  | nil => rfl
  | cons z zs ih => unfold cellsOf at ih ⊢; rw [List.map_cons, List.map_cons, List.flatten_cons, ih]; rfl
theorem heap_putRow {w : World} {g : Nat} {d : Array Int} {cur : Array Value} {e : TypeId} {fr : Nat × Nat} (n : Nat) (os : Array Obj) (h : w.heap[g]? = some (.cells cur e fr)) : (grow (putRow (Value.int .i64) (Sort.ahead w n) g 0 d) os).heap[g]? = some (.cells (putCells (Value.int .i64) 0 d cur) e fr) := by
  have hg : g < w.heap.size := (Array.getElem?_eq_some_iff.1 h).1
  unfold grow putRow mapBlock Sort.ahead
  dsimp only
  rw [Array.getElem?_append_left (by simpa using hg), Array.getElem?_modify, if_pos rfl, h]; rfl
theorem touch_putRow {w : World} {g : Nat} (n : Nat) (os : Array Obj) (d : Array Int) {O : Nat → Prop} (hO : O g) : Touch O w (grow (putRow (Value.int .i64) (Sort.ahead w n) g 0 d) os) := by
  refine ⟨rfl, rfl, rfl, by simp [grow, putRow, mapBlock, Sort.ahead], fun k hk hn => ?_⟩
  have hkg : g ≠ k := fun e => hn (e ▸ hO)
  unfold grow putRow mapBlock Sort.ahead
  dsimp only
  rw [Array.getElem?_append_left (by simpa using hk), Array.getElem?_modify, if_neg hkg]
theorem holds_row {w : World} {g : Nat} {zs : List Int} {cur : Array Value} {e : TypeId} (h : w.heap[g]? = some (Obj.cells cur e (0, 0))) (ht : cur.toList.take zs.length = zs.map (Value.int .i64)) : Go.Sort.Holds (Value.int .i64) w g 0 zs.toArray := by
  intro j hj
  have hj' : j < zs.length := by simpa using hj
  refine ⟨?_, frozen_of_row w g _ cur _ h⟩
  rw [cell_of_row w g _ cur _ _ h, Nat.zero_add, ← Array.getElem?_toList]
  have h1 : (zs.map (Value.int .i64))[j]? = some (.int .i64 zs.toArray[j]!) := by simp [hj']
  rw [← ht, List.getElem?_take, if_pos hj'] at h1
  exact h1
theorem putCells_take {d : List Int} {cur : Array Value} {m : Nat} (hm : m ≤ d.length) (hc : d.length ≤ cur.size) : (putCells (Value.int .i64) 0 d.toArray cur).toList.take m = (d.take m).map (Value.int .i64) := by
  apply List.ext_getElem?
  intro j
  by_cases hj : j < m
  · have h1 : j < cur.size := by omega
    have h2 : j < d.length := by omega
    rw [List.getElem?_take, if_pos hj, Array.getElem?_toList]
    unfold putCells
    rw [Array.getElem?_mapIdx, Array.getElem?_eq_getElem h1, Option.map_some, if_pos ⟨Nat.zero_le _, by simpa using h2⟩]
    rw [List.getElem?_map, List.getElem?_take, if_pos hj, List.getElem?_eq_getElem h2]
    simp [h2]
  · rw [List.getElem?_eq_none (by simp; omega), List.getElem?_eq_none (by simp; omega)]
/-- An owned row of numbers, behind a storing of numbers. -/
theorem row_put {w : World} {g n c e : Nat} {zs ys : List Int} {O : Nat → Prop} (h : (RowC e 1 (.slice (some ⟨g, 0, none⟩) n c) (zs.map (.int .i64))).p O w) (hl : ys.length = zs.length) (m : Nat) (hm : m ≤ zs.length) (q : Nat) (os : Array Obj) :
    (RowC e 1 (.slice (some ⟨g, 0, none⟩) m c) ((ys.take m).map (.int .i64))).p O (grow (putRow (Value.int .i64) (Sort.ahead w q) g 0 ys.toArray) os) := by
  obtain ⟨⟨h1, h2⟩, h3, h4, h5⟩ := h
  rcases h2 with ⟨h2, _⟩ | ⟨g', cap, cur, e1, h6, h7, h8, h9, h10, h11⟩
  · cases h2
  obtain ⟨e2, e3, e4⟩ := Value.slice.inj e1
  obtain ⟨rfl, _, _⟩ := Addr.mk.inj (Option.some.inj e2)
  subst e4
  rw [List.length_map] at e3 h8
  have hcs : zs.length ≤ cur.size := by rw [h10]; omega
  have hml : ((ys.take m).map (Value.int .i64)).length = m := by simp; omega
  refine ⟨⟨by rw [cells_ints, hml]; omega, .inr ⟨g, c, _, by rw [hml], h6, heap_putRow q os h7, by rw [hml]; omega, h9, ?_, ?_⟩⟩, (fun h => by cases h), fun x hx => ?_, fun j => h5 j⟩
  · rw [← h10]; unfold putCells; simp
  · rw [hml, Nat.mul_one, putCells_take (by omega) (by omega), cells_ints]
  · obtain ⟨z, _, rfl⟩ := List.mem_map.1 hx; rfl
theorem sort_ct (v : Value) (zs : List Int) (h0 : zs ≠ []) (hb : zs.length ≤ 4611686018427387903) :
    Ct Tryz.prog 41 [v] W0 X R (RowC 3 1 v (zs.map (.int .i64)) :: C) Unit (fun _ => .tuple #[]) (fun _ => R) (fun _ => RowC 3 1 v ((zs.mergeSort fun x y => decide (x ≤ y)).map (.int .i64)) :: C) := by
  intro w hw
  have hz : 0 < zs.length := List.length_pos_iff.2 h0
  obtain ⟨O, hrow⟩ := hw.hasC (c := RowC 3 1 v (zs.map (.int .i64))) (by simp)
  obtain ⟨g, c, rfl, hO⟩ := RowC.len0 hrow (by simpa using hz)
  rw [List.length_map] at hrow ⊢
  rw [List.length_map] at hw
  have hrow2 := hrow
  obtain ⟨⟨h1, h2⟩, h3, h4, h5⟩ := hrow2
  rcases h2 with ⟨h2, _⟩ | ⟨g', cap, cur, e1, h6, h7, h8, h9, h10, h11⟩
  · cases h2
  obtain ⟨e2, e3, e4⟩ := Value.slice.inj e1
  obtain ⟨rfl, _, _⟩ := Addr.mk.inj (Option.some.inj e2)
  rw [cells_ints, List.length_map, Nat.mul_one] at h11
  refine (Tryz.slices_Sort_int g 0 c zs w (holds_row h7 h11) ((RowC 3 1 _ _).lt hrow g hO) (by omega)).mono ?_
  rintro e w' ⟨rfl, q, os, rfl⟩
  refine ⟨(), rfl, hw.upd (fun O' hO' => ⟨O', touch_putRow q os _ ((hO'.2.2.2 g).2 rfl), ?_, fun k hk => .inl hk⟩)⟩
  have := row_put hO' (ys := zs.mergeSort fun x y => decide (x ≤ y)) (by simp) zs.length (Nat.le_refl _) q os
  rw [List.take_of_length_le (by simp)] at this
  exact this
theorem compact_ct (v : Value) (zs : List Int) (h0 : zs ≠ []) (hb : zs.length ≤ 4611686018427387903) :
    Ct Tryz.prog 43 [v] W0 X R (RowC 3 1 v (zs.map (.int .i64)) :: C) SV (fun u => u.1) (fun _ => R) (fun u => RowC 3 1 u.1 ((compact zs).map (.int .i64)) :: C) := by
  intro w hw
  have hz : 0 < zs.length := List.length_pos_iff.2 h0
  obtain ⟨O, hrow⟩ := hw.hasC (c := RowC 3 1 v (zs.map (.int .i64))) (by simp)
  obtain ⟨g, c, rfl, hO⟩ := RowC.len0 hrow (by simpa using hz)
  rw [List.length_map] at hrow ⊢
  rw [List.length_map] at hw
  have hrow2 := hrow
  obtain ⟨⟨h1, h2⟩, h3, h4, h5⟩ := hrow2
  rcases h2 with ⟨h2, _⟩ | ⟨g', cap, cur, e1, h6, h7, h8, h9, h10, h11⟩
  · cases h2
  obtain ⟨e2, e3, e4⟩ := Value.slice.inj e1
  obtain ⟨rfl, _, _⟩ := Addr.mk.inj (Option.some.inj e2)
  subst e4
  rw [cells_ints, List.length_map, Nat.mul_one] at h11
  rw [List.length_map] at h8
  have hcl := compact_length_le zs
  refine (Tryz.slices_Compact_int g 0 c zs w (holds_row h7 h11) (by omega) h8).mono ?_
  rintro e w' ⟨rfl, q, rfl⟩
  refine ⟨⟨.slice (some ⟨g, 0, none⟩) (compact zs).length c, _, _, _, rfl⟩, rfl, hw.upd (fun O' hO' => ⟨O', ?_, ?_, fun k hk => .inl hk⟩)⟩
  · have := touch_putRow q #[] (compact zs ++ List.replicate (zs.length - (compact zs).length) 0).toArray (w := w) ((hO'.2.2.2 g).2 rfl)
    rwa [grow_empty] at this
  · have := row_put hO' (ys := compact zs ++ List.replicate (zs.length - (compact zs).length) 0) (by simp; omega) (compact zs).length hcl q #[]
    rw [List.take_left, grow_empty] at this
    exact this
end Sc
end Go.Proofs.YtinofjenoapeaaaGreat
end
section
namespace Go.Proofs.YtinofjenoapeaaaGreat
open Go.RowKit Go.Shelf
set_option linter.unusedSimpArgs false
set_option linter.unusedVariables false
namespace NInt
variable {W0 : World} {X : Nat → Prop} {R C : List Ch}
set_option maxRecDepth 100000 in
theorem vals_ct (s : Value) : Ct Tryz.prog 42 [s] W0 X R C Nat (fun B => .func (.func 67) #[] #[ptr B]) (fun B => BoxC B 25 s :: R) (fun _ => C) := by
  intro w hw
  have hF := isWide_wide
  refine calls_nx Tryz.func42 rfl Tryz.ntmps42 rfl ?_ hw
  repeat' (first | ((first | with_reducible refine nl_op rfl ?_ | refine nd_go rfl rfl rfl ?_); intro K hK; (first | ((first | refine on_E hF rfl rfl ?_ | refine od_E rfl rfl ?_ | refine od_R rfl rfl ?_); (first | refine ⟨_, a_yl, ?_⟩)) | ((first | refine on_Ec hF rfl rfl ?_ | refine od_Ec rfl rfl ?_); refine ⟨_, _, _, a_yc, ?_, ?_⟩ <;> (intro hc; try exact a_cut hc)) | ((first | (refine od_act a_nd ?_; intro K2 hK2) | refine od_last a_nd ?_ | skip); (first  | (refine on_box hF rfl rfl rfl rfl (fun B => ?_)) | (refine on_store hF rfl rfl rfl rfl a_turn a_vof a_sz ?_) | (refine on_storeE hF rfl rfl rfl rfl a_turn a_om a_vof a_sz ?_) | (refine on_storeEF hF rfl rfl rfl rfl a_turn a_as (by decide) a_vof rfl ?_) | (refine on_storeF hF rfl rfl rfl rfl a_turn (by decide) a_vof rfl ?_)) <;> try (refine hK2 _ _ _ a_allK ?_; clear hK2 K2))) <;> (refine hK _ _ _ ?_; clear hK K)) | with_reducible (first | refine nx_seq ?_ | refine nx_region ?_ | refine nl_nil ?_ | refine nq_then_n ?_ | refine nx_block ?_ | refine nx_skip ?_ | refine nx_exit ?_ | refine nx_ret ?_ | refine nq_then_x ?_ | refine nq_then_r ?_ | refine nq_blk_n ?_ | refine nq_blk_r ?_ | refine nq_blk_hit ?_ | refine nq_blk_miss rfl ?_ | refine nd_nil ?_) | refine nx_cond_t rfl ?_ | refine nx_cond_f rfl ?_ | refine nl_pass hF rfl rfl rfl ?_ | refine nd_pass rfl rfl rfl rfl rfl ?_ | refine nd_pass2 rfl rfl rfl a_nd a_allK rfl rfl ?_ | refine nd_pass3 rfl rfl rfl a_nd rfl rfl ?_ | (with_reducible refine hQ1 _ _ _ ?_; clear hQ1 Q1) )
  refine nx_frz (BoxC _ _ _) Pick.here ?_
  refine nx_end [] rfl B (fun a w ha hw => res_tmp Tryz.results42 rfl ha) (by exact a_subR) (by exact a_holds2)
set_option maxRecDepth 100000 in
set_option maxHeartbeats 1000000 in
theorem vals_it (B : Nat) (s : Value) (xs : List Value) (hv : ∀ x ∈ xs, VOf Tryz.prog 3 x) (hs : IsSl s) (hm : xs.length ≤ maxLen) : It Tryz.prog xs (.func (.func 67) #[] #[ptr B]) [BoxC B 25 s, SlC 1 s xs] := by
  refine ⟨67, [ptr B], rfl, (enters_of Tryz.func67 (by kernel_rfl) rfl), ?_⟩
  intro y RY J JX hY hy W0 X R E hRS hRY w hw
  have hF := isWide_wide
  have hb : BoxC B 25 s ∈ R := hRS _ (by simp)
  have hsl : SlC 1 s xs ∈ R := hRS _ (by simp)
  have hvs : VOf Tryz.prog 25 s := vof_slice (by kernel_rfl) hs
  have hyv : VOf Tryz.prog 112 y := vof_func (by kernel_rfl) (by obtain ⟨f, lb, h⟩ := hy; exact ⟨f, _, lb, h⟩)
  unfold maxLen at hm
  refine calls_nx Tryz.func67 rfl Tryz.ntmps67 rfl ?_ hw
  repeat' (first | ((first | with_reducible refine nl_op rfl ?_ | refine nd_go rfl rfl rfl ?_); intro K hK; (first | ((first | refine on_E hF rfl rfl ?_ | refine od_E rfl rfl ?_ | refine od_R rfl rfl ?_); (first | refine ⟨_, a_yl, ?_⟩)) | ((first | refine on_Ec hF rfl rfl ?_ | refine od_Ec rfl rfl ?_); refine ⟨_, _, _, a_yc, ?_, ?_⟩ <;> (intro hc; try exact a_cut hc)) | ((first | (refine od_act a_nd ?_; intro K2 hK2) | refine od_last a_nd ?_ | skip); (first  | (refine on_box hF rfl rfl rfl rfl (fun B => ?_)) | (refine on_store hF rfl rfl rfl rfl a_turn a_vof a_sz ?_) | (refine on_storeE hF rfl rfl rfl rfl a_turn a_om a_vof a_sz ?_) | (refine on_storeEF hF rfl rfl rfl rfl a_turn a_as (by decide) a_vof rfl ?_) | (refine on_storeF hF rfl rfl rfl rfl a_turn (by decide) a_vof rfl ?_)) <;> try (refine hK2 _ _ _ a_allK ?_; clear hK2 K2))) <;> (refine hK _ _ _ ?_; clear hK K)) | with_reducible (first | refine nx_seq ?_ | refine nx_region ?_ | refine nl_nil ?_ | refine nq_then_n ?_ | refine nx_block ?_ | refine nx_skip ?_ | refine nx_exit ?_ | refine nx_ret ?_ | refine nq_then_x ?_ | refine nq_then_r ?_ | refine nq_blk_n ?_ | refine nq_blk_r ?_ | refine nq_blk_hit ?_ | refine nq_blk_miss rfl ?_ | refine nd_nil ?_) | refine nx_cond_t rfl ?_ | refine nx_cond_f rfl ?_ | refine nl_pass hF rfl rfl rfl ?_ | refine nd_pass rfl rfl rfl rfl rfl ?_ | refine nd_pass2 rfl rfl rfl a_nd a_allK rfl rfl ?_ | refine nd_pass3 rfl rfl rfl a_nd rfl rfl ?_ | (with_reducible refine hQ1 _ _ _ ?_; clear hQ1 Q1) )
  refine nx_loop (ι := { i : Nat // i ≤ xs.length }) (fun i => [(0, y), (5, s), (6, .int .i64 (xs.length : Int)), (7, .int .i64 (i.1 : Int))]) (fun _ => R) (fun i => J (xs.take i.1) :: E) (fun i => xs.length - i.1) ⟨0, Nat.zero_le _⟩ (by exact a_sub) (by exact a_subR) (by exact a_holds) (fun i => ?_)
  obtain ⟨i, hi⟩ := i
  dsimp only
  by_cases hlt : i < xs.length
  · have hx : xs[i]? = some xs[i] := by simp [hlt]
    have hvx : VOf Tryz.prog 3 xs[i] := hv _ (by simp)
    have hz : xs = xs.take i ++ xs[i] :: xs.drop (i + 1) := by rw [List.getElem_cons_drop, List.take_append_drop]
    have htk : xs.take (i + 1) = xs.take i ++ [xs[i]] := by rw [List.take_succ_eq_append_getElem hlt]
    have hsz : ((cv (xs[i])).size) = 1 := by have := hvx.size; rw [show (Tryz.prog.info? 3).map (·.size) = some 1 from by kernel_rfl] at this; exact (Option.some.inj this).symm
    repeat' (first | ((first | with_reducible refine nl_op rfl ?_ | refine nd_go rfl rfl rfl ?_); intro K hK; (first | ((first | refine on_E hF rfl rfl ?_ | refine od_E rfl rfl ?_ | refine od_R rfl rfl ?_); (first | refine ⟨_, a_yl, ?_⟩)) | ((first | refine on_Ec hF rfl rfl ?_ | refine od_Ec rfl rfl ?_); refine ⟨_, _, _, a_yc, ?_, ?_⟩ <;> (intro hc; try exact a_cut hc)) | ((first | (refine od_act a_nd ?_; intro K2 hK2) | refine od_last a_nd ?_ | skip); (first | (refine on_yield hF hY (xs.take i) xs[i] (xs.drop (i + 1)) hz rfl rfl rfl rfl rfl rfl hRY rfl (by exact a_pick) ?_ ?_) | (refine on_box hF rfl rfl rfl rfl (fun B => ?_)) | (refine on_store hF rfl rfl rfl rfl a_turn a_vof a_sz ?_) | (refine on_storeE hF rfl rfl rfl rfl a_turn a_om a_vof a_sz ?_) | (refine on_storeEF hF rfl rfl rfl rfl a_turn a_as (by decide) a_vof rfl ?_) | (refine on_storeF hF rfl rfl rfl rfl a_turn (by decide) a_vof rfl ?_)) <;> try (refine hK2 _ _ _ a_allK ?_; clear hK2 K2))) <;> (refine hK _ _ _ ?_; clear hK K)) | with_reducible (first | refine nx_seq ?_ | refine nx_region ?_ | refine nl_nil ?_ | refine nq_then_n ?_ | refine nx_block ?_ | refine nx_skip ?_ | refine nx_exit ?_ | refine nx_ret ?_ | refine nq_then_x ?_ | refine nq_then_r ?_ | refine nq_blk_n ?_ | refine nq_blk_r ?_ | refine nq_blk_hit ?_ | refine nq_blk_miss rfl ?_ | refine nd_nil ?_) | refine nx_cond_t rfl ?_ | refine nx_cond_f rfl ?_ | refine nl_pass hF rfl rfl rfl ?_ | refine nd_pass rfl rfl rfl rfl rfl ?_ | refine nd_pass2 rfl rfl rfl a_nd a_allK rfl rfl ?_ | refine nd_pass3 rfl rfl rfl a_nd rfl rfl ?_ | (with_reducible refine hQ1 _ _ _ ?_; clear hQ1 Q1) )
    · rw [← htk]
      refine nx_again ⟨i + 1, by omega⟩ (by dsimp only; omega) (by exact a_sub) (by exact a_subR) (by exact a_holds)
    · refine nx_end [] rfl (some ⟨xs.take i ++ [xs[i]], _, _, _, rfl, hz⟩) (fun a w ha hw => res_none Tryz.results67) (by exact a_subR) (by exact a_holds2)
  · repeat' (first | ((first | with_reducible refine nl_op rfl ?_ | refine nd_go rfl rfl rfl ?_); intro K hK; (first | ((first | refine on_E hF rfl rfl ?_ | refine od_E rfl rfl ?_ | refine od_R rfl rfl ?_); (first | refine ⟨_, a_yl, ?_⟩)) | ((first | refine on_Ec hF rfl rfl ?_ | refine od_Ec rfl rfl ?_); refine ⟨_, _, _, a_yc, ?_, ?_⟩ <;> (intro hc; try exact a_cut hc)) | ((first | (refine od_act a_nd ?_; intro K2 hK2) | refine od_last a_nd ?_ | skip); (first  | (refine on_box hF rfl rfl rfl rfl (fun B => ?_)) | (refine on_store hF rfl rfl rfl rfl a_turn a_vof a_sz ?_) | (refine on_storeE hF rfl rfl rfl rfl a_turn a_om a_vof a_sz ?_) | (refine on_storeEF hF rfl rfl rfl rfl a_turn a_as (by decide) a_vof rfl ?_) | (refine on_storeF hF rfl rfl rfl rfl a_turn (by decide) a_vof rfl ?_)) <;> try (refine hK2 _ _ _ a_allK ?_; clear hK2 K2))) <;> (refine hK _ _ _ ?_; clear hK K)) | with_reducible (first | refine nx_seq ?_ | refine nx_region ?_ | refine nl_nil ?_ | refine nq_then_n ?_ | refine nx_block ?_ | refine nx_skip ?_ | refine nx_exit ?_ | refine nx_ret ?_ | refine nq_then_x ?_ | refine nq_then_r ?_ | refine nq_blk_n ?_ | refine nq_blk_r ?_ | refine nq_blk_hit ?_ | refine nq_blk_miss rfl ?_ | refine nd_nil ?_) | refine nx_cond_t rfl ?_ | refine nx_cond_f rfl ?_ | refine nl_pass hF rfl rfl rfl ?_ | refine nd_pass rfl rfl rfl rfl rfl ?_ | refine nd_pass2 rfl rfl rfl a_nd a_allK rfl rfl ?_ | refine nd_pass3 rfl rfl rfl a_nd rfl rfl ?_ | (with_reducible refine hQ1 _ _ _ ?_; clear hQ1 Q1) )
    have : xs.take i = xs := List.take_of_length_le (by omega)
    rw [this]
    refine nx_end_n [] rfl none (fun a w ha hw => res_none Tryz.results67) (by exact a_subR) (by exact a_holds2)
def ofV (B : Nat) : Value := .func (.func 67) #[] #[ptr B]
end NInt
end Go.Proofs.YtinofjenoapeaaaGreat
end
section
namespace Go.Proofs.YtinofjenoapeaaaGreat
open Go.RowKit Go.Shelf
set_option linter.unusedSimpArgs false
set_option linter.unusedVariables false
namespace Li
variable {W0 : World} {X : Nat → Prop} {R C : List Ch}
set_option maxRecDepth 100000 in
set_option maxHeartbeats 1000000 in
theorem all1_ct (s : Value) (hs : IsSl s) (L : List It2) (hok : ∀ x ∈ L, x.ok) (hm : L.length * 88 ≤ 140737488355328) (x : It2) (hx : x.ok) (b : Nat) (hb : BoxC b 22 s ∈ R) (hsl : SlC 9 s (L.map It2.v) ∈ R) :
    Ct Tryz.prog 39 [x.v, ptr b] W0 X R C Unit (fun _ => .bool (isKn L x)) (fun _ => R) (fun _ => C) := by
  intro w hw
  have hF := isWide_wide
  have kc := fun (W0 : World) (X : Nat → Prop) (R C : List Ch) h => known_ct (W0 := W0) (X := X) (R := R) (C := C) s hs L hok x.tl h hm
  have hi : isKn L x = (decide (x.kind = 4) && knownL L x.tl) := rfl
  have hvs : VOf Tryz.prog 22 s := vof_slice (by kernel_rfl) hs
  obtain ⟨d1, kind, tl, d4, d5, d6, d7, d8, e⟩ := x
  obtain ⟨ea, en, ec, rfl⟩ : IsSl e := hx
  dsimp only at hi kc
  obtain ⟨k, hk⟩ : ∃ k, knownL L tl = k := ⟨_, rfl⟩
  rw [hk] at kc hi
  rw [hi]
  by_cases h1 : kind = 4
  · subst h1
    rw [decide_eq_true rfl, Bool.true_and]
    refine calls_nx Tryz.func39 rfl Tryz.ntmps39 rfl ?_ hw
    cases k with
    | true =>
      repeat' (first | ((first | with_reducible refine nl_op rfl ?_ | refine nd_go rfl rfl rfl ?_); intro K hK; (first | ((first | refine on_E hF rfl rfl ?_ | refine od_E rfl rfl ?_ | refine od_R rfl rfl ?_); (first | refine ⟨_, a_yl, ?_⟩ | refine ⟨_, (by first | exact yl_fieldB (T := 33) (f := 1) (q := 1) rfl rfl (by kernel_rfl) | exact yl_fieldE (T := 33) (f := 1) (j := 1) rfl rfl a_sl a_om (by kernel_rfl) | exact yl_fieldB (T := 33) (f := 2) (q := 2) rfl rfl (by kernel_rfl) | exact yl_fieldE (T := 33) (f := 2) (j := 2) rfl rfl a_sl a_om (by kernel_rfl)), ?_⟩)) | ((first | refine on_Ec hF rfl rfl ?_ | refine od_Ec rfl rfl ?_); refine ⟨_, _, _, a_yc, ?_, ?_⟩ <;> (intro hc; try exact a_cut hc)) | ((first | (refine od_act a_nd ?_; intro K2 hK2) | refine od_last a_nd ?_ | skip); (first | (refine on_callG hF (enters_of Tryz.func40 (by kernel_rfl) rfl) rfl rfl rfl rfl (kc _ _ _ _ (by exact a_mem)) (fun _ => ?_)) | (refine on_box hF rfl rfl rfl rfl (fun B => ?_)) | (refine on_store hF rfl rfl rfl rfl a_turn a_vof a_sz ?_) | (refine on_storeE hF rfl rfl rfl rfl a_turn a_om a_vof a_sz ?_) | (refine on_storeEF hF rfl rfl rfl rfl a_turn a_as (by decide) a_vof rfl ?_) | (refine on_storeF hF rfl rfl rfl rfl a_turn (by decide) a_vof rfl ?_)) <;> try (refine hK2 _ _ _ a_allK ?_; clear hK2 K2))) <;> (refine hK _ _ _ ?_; clear hK K)) | with_reducible (first | refine nx_seq ?_ | refine nx_region ?_ | refine nl_nil ?_ | refine nq_then_n ?_ | refine nx_block ?_ | refine nx_skip ?_ | refine nx_exit ?_ | refine nx_ret ?_ | refine nq_then_x ?_ | refine nq_then_r ?_ | refine nq_blk_n ?_ | refine nq_blk_r ?_ | refine nq_blk_hit ?_ | refine nq_blk_miss rfl ?_ | refine nd_nil ?_) | refine nx_cond_t rfl ?_ | refine nx_cond_f rfl ?_ | refine nl_pass hF rfl rfl rfl ?_ | refine nd_pass rfl rfl rfl rfl rfl ?_ | refine nd_pass2 rfl rfl rfl a_nd a_allK rfl rfl ?_ | refine nd_pass3 rfl rfl rfl a_nd rfl rfl ?_ | (with_reducible refine hQ1 _ _ _ ?_; clear hQ1 Q1) )
      all_goals (first | (exfalso; dsimp only at *; omega) | (refine nx_end [] rfl () (fun a w ha hw => res_tmp Tryz.results39 rfl ha) (by exact a_subR) (by exact a_holds2)))
    | false =>
      repeat' (first | ((first | with_reducible refine nl_op rfl ?_ | refine nd_go rfl rfl rfl ?_); intro K hK; (first | ((first | refine on_E hF rfl rfl ?_ | refine od_E rfl rfl ?_ | refine od_R rfl rfl ?_); (first | refine ⟨_, a_yl, ?_⟩ | refine ⟨_, (by first | exact yl_fieldB (T := 33) (f := 1) (q := 1) rfl rfl (by kernel_rfl) | exact yl_fieldE (T := 33) (f := 1) (j := 1) rfl rfl a_sl a_om (by kernel_rfl) | exact yl_fieldB (T := 33) (f := 2) (q := 2) rfl rfl (by kernel_rfl) | exact yl_fieldE (T := 33) (f := 2) (j := 2) rfl rfl a_sl a_om (by kernel_rfl)), ?_⟩)) | ((first | refine on_Ec hF rfl rfl ?_ | refine od_Ec rfl rfl ?_); refine ⟨_, _, _, a_yc, ?_, ?_⟩ <;> (intro hc; try exact a_cut hc)) | ((first | (refine od_act a_nd ?_; intro K2 hK2) | refine od_last a_nd ?_ | skip); (first | (refine on_callG hF (enters_of Tryz.func40 (by kernel_rfl) rfl) rfl rfl rfl rfl (kc _ _ _ _ (by exact a_mem)) (fun _ => ?_)) | (refine on_box hF rfl rfl rfl rfl (fun B => ?_)) | (refine on_store hF rfl rfl rfl rfl a_turn a_vof a_sz ?_) | (refine on_storeE hF rfl rfl rfl rfl a_turn a_om a_vof a_sz ?_) | (refine on_storeEF hF rfl rfl rfl rfl a_turn a_as (by decide) a_vof rfl ?_) | (refine on_storeF hF rfl rfl rfl rfl a_turn (by decide) a_vof rfl ?_)) <;> try (refine hK2 _ _ _ a_allK ?_; clear hK2 K2))) <;> (refine hK _ _ _ ?_; clear hK K)) | with_reducible (first | refine nx_seq ?_ | refine nx_region ?_ | refine nl_nil ?_ | refine nq_then_n ?_ | refine nx_block ?_ | refine nx_skip ?_ | refine nx_exit ?_ | refine nx_ret ?_ | refine nq_then_x ?_ | refine nq_then_r ?_ | refine nq_blk_n ?_ | refine nq_blk_r ?_ | refine nq_blk_hit ?_ | refine nq_blk_miss rfl ?_ | refine nd_nil ?_) | refine nx_cond_t rfl ?_ | refine nx_cond_f rfl ?_ | refine nl_pass hF rfl rfl rfl ?_ | refine nd_pass rfl rfl rfl rfl rfl ?_ | refine nd_pass2 rfl rfl rfl a_nd a_allK rfl rfl ?_ | refine nd_pass3 rfl rfl rfl a_nd rfl rfl ?_ | (with_reducible refine hQ1 _ _ _ ?_; clear hQ1 Q1) )
      all_goals (first | (exfalso; dsimp only at *; omega) | (refine nx_end [] rfl () (fun a w ha hw => res_tmp Tryz.results39 rfl ha) (by exact a_subR) (by exact a_holds2)))
  · rw [decide_eq_false h1, Bool.false_and]
    refine calls_nx Tryz.func39 rfl Tryz.ntmps39 rfl ?_ hw
    repeat' (first | ((first | with_reducible refine nl_op rfl ?_ | refine nd_go rfl rfl rfl ?_); intro K hK; (first | ((first | refine on_E hF rfl rfl ?_ | refine od_E rfl rfl ?_ | refine od_R rfl rfl ?_); (first | refine ⟨_, a_yl, ?_⟩ | refine ⟨_, (by first | exact yl_fieldB (T := 33) (f := 1) (q := 1) rfl rfl (by kernel_rfl) | exact yl_fieldE (T := 33) (f := 1) (j := 1) rfl rfl a_sl a_om (by kernel_rfl) | exact yl_fieldB (T := 33) (f := 2) (q := 2) rfl rfl (by kernel_rfl) | exact yl_fieldE (T := 33) (f := 2) (j := 2) rfl rfl a_sl a_om (by kernel_rfl)), ?_⟩)) | ((first | refine on_Ec hF rfl rfl ?_ | refine od_Ec rfl rfl ?_); refine ⟨_, _, _, a_yc, ?_, ?_⟩ <;> (intro hc; try exact a_cut hc)) | ((first | (refine od_act a_nd ?_; intro K2 hK2) | refine od_last a_nd ?_ | skip); (first  | (refine on_box hF rfl rfl rfl rfl (fun B => ?_)) | (refine on_store hF rfl rfl rfl rfl a_turn a_vof a_sz ?_) | (refine on_storeE hF rfl rfl rfl rfl a_turn a_om a_vof a_sz ?_) | (refine on_storeEF hF rfl rfl rfl rfl a_turn a_as (by decide) a_vof rfl ?_) | (refine on_storeF hF rfl rfl rfl rfl a_turn (by decide) a_vof rfl ?_)) <;> try (refine hK2 _ _ _ a_allK ?_; clear hK2 K2))) <;> (refine hK _ _ _ ?_; clear hK K)) | with_reducible (first | refine nx_seq ?_ | refine nx_region ?_ | refine nl_nil ?_ | refine nq_then_n ?_ | refine nx_block ?_ | refine nx_skip ?_ | refine nx_exit ?_ | refine nx_ret ?_ | refine nq_then_x ?_ | refine nq_then_r ?_ | refine nq_blk_n ?_ | refine nq_blk_r ?_ | refine nq_blk_hit ?_ | refine nq_blk_miss rfl ?_ | refine nd_nil ?_) | refine nx_cond_t rfl ?_ | refine nx_cond_f rfl ?_ | refine nl_pass hF rfl rfl rfl ?_ | refine nd_pass rfl rfl rfl rfl rfl ?_ | refine nd_pass2 rfl rfl rfl a_nd a_allK rfl rfl ?_ | refine nd_pass3 rfl rfl rfl a_nd rfl rfl ?_ | (with_reducible refine hQ1 _ _ _ ?_; clear hQ1 Q1) )
    all_goals (first | (exfalso; dsimp only at *; omega) | (refine nx_end [] rfl () (fun a w ha hw => res_tmp Tryz.results39 rfl ha) (by exact a_subR) (by exact a_holds2)))
theorem all1_pred (s : Value) (hs : IsSl s) (L : List It2) (hok : ∀ x ∈ L, x.ok) (hm : L.length * 88 ≤ 140737488355328) (b : Nat) : PredS Tryz.prog (L.map It2.v) (fun v => isKn L (toIt2 v)) (.func (.func 39) #[] #[ptr b]) [BoxC b 22 s, SlC 9 s (L.map It2.v)] := ⟨39, [ptr b], rfl, (enters_of Tryz.func39 (by kernel_rfl) rfl), fun W0 X R C hR x hx => by
  obtain ⟨y, hy, rfl⟩ := List.mem_map.1 hx
  exact all1_ct s hs L hok hm y (hok y hy) b (hR _ (by simp)) (hR _ (by simp))⟩
theorem keepAll_it (b0 b1 : Nat) (s f : Value) (L : List It2) (hok : ∀ x ∈ L, x.ok) (RS RF : List Ch) (hs : ItN Tryz.prog (L.map It2.v) s RS) (hf : PredN Tryz.prog (L.map It2.v) (fun v => isKn L (toIt2 v)) f RF) :
    It Tryz.prog ((L.filter (isKn L)).map It2.v) (.func (.func 27) #[] #[ptr b0, ptr b1]) (BoxC b1 45 f :: BoxC b0 40 s :: (RS ++ RF)) := by
  have h := NItem.keep_it b0 b1 s f (L.map It2.v) _ RS RF hs hf (vofs_it2 L hok)
  rw [filter_it2 L (isKn L)] at h
  exact h
set_option maxRecDepth 100000 in
set_option maxHeartbeats 4000000 in
theorem all_ct (s : Value) (hs : IsSl s) (L : List It2) (hok : ∀ x ∈ L, x.ok) (hsl : SlC 9 s (L.map It2.v) ∈ R) (hm : L.length * 88 ≤ 140737488355328) :
    Ct Tryz.prog 24 [s] W0 X R C (SV × Nat) (fun i => NInt.ofV i.2) (fun i => BoxC i.2 25 i.1.1 :: SlC 1 i.1.1 ((allL L).map (.int .i64)) :: R) (fun _ => C) := by
  intro w hw
  have hF := isWide_wide
  have hml : (L.map It2.v).length * 88 ≤ 140737488355328 := by simpa using hm
  have hmx : (L.map It2.v).length ≤ maxLen := by unfold maxLen; simp; omega
  have hvs : VOf Tryz.prog 22 s := vof_slice (by kernel_rfl) hs
  have hrl := raw_len L
  refine calls_nx Tryz.func24 rfl Tryz.ntmps24 rfl ?_ hw
  repeat' (first | ((first | with_reducible refine nl_op rfl ?_ | refine nd_go rfl rfl rfl ?_); intro K hK; (first | ((first | refine on_E hF rfl rfl ?_ | refine od_E rfl rfl ?_ | refine od_R rfl rfl ?_); (first | refine ⟨_, a_yl, ?_⟩ | refine ⟨_, (by first | exact yl_fieldB (T := 33) (f := 2) (q := 2) rfl rfl (by kernel_rfl) | exact yl_fieldE (T := 33) (f := 2) (j := 2) rfl rfl a_sl a_om (by kernel_rfl)), ?_⟩)) | ((first | refine on_Ec hF rfl rfl ?_ | refine od_Ec rfl rfl ?_); refine ⟨_, _, _, a_yc, ?_, ?_⟩ <;> (intro hc; try exact a_cut hc)) | ((first | (refine od_act a_nd ?_; intro K2 hK2) | refine od_last a_nd ?_ | skip); (first | (refine on_buildSlice (T := 25) (e := 3) (k := 1) (by_ := 8) hF rfl rfl rfl rfl rfl rfl (by kernel_rfl) a_cel (Nat.le_of_ble_eq_true rfl) (fun b => ?_)) | (refine on_append (T := 25) (e := 3) (k := 1) (by_ := 8) hF rfl rfl rfl rfl rfl a_pick (by kernel_rfl) a_sl a_cel a_bnd a_bnd (fun v => ?_)) | (refine on_alloc hF rfl Tryz.zeroValue25 rfl rfl (fun B => ?_)) | (refine on_alloc hF rfl Tryz.zeroValue33 rfl rfl (fun B => ?_)) | (refine on_box hF rfl rfl rfl rfl (fun B => ?_)) | (refine on_store hF rfl rfl rfl rfl a_turn a_vof a_sz ?_) | (refine on_storeE hF rfl rfl rfl rfl a_turn a_om a_vof a_sz ?_) | (refine on_storeEF hF rfl rfl rfl rfl a_turn a_as (by decide) a_vof rfl ?_) | (refine on_storeF hF rfl rfl rfl rfl a_turn (by decide) a_vof rfl ?_)) <;> try (refine hK2 _ _ _ a_allK ?_; clear hK2 K2))) <;> (refine hK _ _ _ ?_; clear hK K)) | with_reducible (first | refine nx_seq ?_ | refine nx_region ?_ | refine nl_nil ?_ | refine nq_then_n ?_ | refine nx_block ?_ | refine nx_skip ?_ | refine nx_exit ?_ | refine nx_ret ?_ | refine nq_then_x ?_ | refine nq_then_r ?_ | refine nq_blk_n ?_ | refine nq_blk_r ?_ | refine nq_blk_hit ?_ | refine nq_blk_miss rfl ?_ | refine nd_nil ?_) | refine nx_cond_t rfl ?_ | refine nx_cond_f rfl ?_ | refine nl_pass hF rfl rfl rfl ?_ | refine nd_pass rfl rfl rfl rfl rfl ?_ | refine nd_pass2 rfl rfl rfl a_nd a_allK rfl rfl ?_ | refine nd_pass3 rfl rfl rfl a_nd rfl rfl ?_ | (with_reducible refine hQ1 _ _ _ ?_; clear hQ1 Q1) )
  rename_i bs
  obtain ⟨b3, hb3⟩ : ∃ b3, b3 = B := ⟨_, rfl⟩
  subst hb3
  obtain ⟨b4, hb4⟩ : ∃ b4, b4 = b := ⟨_, rfl⟩
  subst hb4
  refine nx_frz (BoxC bs 22 s) (Pick.there (Pick.there Pick.here)) ?_
  repeat' (first | ((first | with_reducible refine nl_op rfl ?_ | refine nd_go rfl rfl rfl ?_); intro K hK; (first | ((first | refine on_E hF rfl rfl ?_ | refine od_E rfl rfl ?_ | refine od_R rfl rfl ?_); (first | refine ⟨_, a_yl, ?_⟩ | refine ⟨_, (by first | exact yl_fieldB (T := 33) (f := 2) (q := 2) rfl rfl (by kernel_rfl) | exact yl_fieldE (T := 33) (f := 2) (j := 2) rfl rfl a_sl a_om (by kernel_rfl)), ?_⟩)) | ((first | refine on_Ec hF rfl rfl ?_ | refine od_Ec rfl rfl ?_); refine ⟨_, _, _, a_yc, ?_, ?_⟩ <;> (intro hc; try exact a_cut hc)) | ((first | (refine od_act a_nd ?_; intro K2 hK2) | refine od_last a_nd ?_ | skip); (first | (refine on_callG hF (enters_of Tryz.func15 (by kernel_rfl) rfl) rfl rfl rfl rfl (NItem.of_ct s (L.map It2.v) (by exact a_mem) hs (vofs_it2 L hok) hml) (fun j => ?_)) | (refine on_callG hF (enters_of Tryz.func14 (by kernel_rfl) rfl) rfl rfl rfl rfl (NItem.keep_ct _ _ rfl rfl) (fun k => ?_)) | (refine on_buildSlice (T := 25) (e := 3) (k := 1) (by_ := 8) hF rfl rfl rfl rfl rfl rfl (by kernel_rfl) a_cel (Nat.le_of_ble_eq_true rfl) (fun b => ?_)) | (refine on_append (T := 25) (e := 3) (k := 1) (by_ := 8) hF rfl rfl rfl rfl rfl a_pick (by kernel_rfl) a_sl a_cel a_bnd a_bnd (fun v => ?_)) | (refine on_alloc hF rfl Tryz.zeroValue25 rfl rfl (fun B => ?_)) | (refine on_alloc hF rfl Tryz.zeroValue33 rfl rfl (fun B => ?_)) | (refine on_box hF rfl rfl rfl rfl (fun B => ?_)) | (refine on_store hF rfl rfl rfl rfl a_turn a_vof a_sz ?_) | (refine on_storeE hF rfl rfl rfl rfl a_turn a_om a_vof a_sz ?_) | (refine on_storeEF hF rfl rfl rfl rfl a_turn a_as (by decide) a_vof rfl ?_) | (refine on_storeF hF rfl rfl rfl rfl a_turn (by decide) a_vof rfl ?_)) <;> try (refine hK2 _ _ _ a_allK ?_; clear hK2 K2))) <;> (refine hK _ _ _ ?_; clear hK K)) | with_reducible (first | refine nx_seq ?_ | refine nx_region ?_ | refine nl_nil ?_ | refine nq_then_n ?_ | refine nx_block ?_ | refine nx_skip ?_ | refine nx_exit ?_ | refine nx_ret ?_ | refine nq_then_x ?_ | refine nq_then_r ?_ | refine nq_blk_n ?_ | refine nq_blk_r ?_ | refine nq_blk_hit ?_ | refine nq_blk_miss rfl ?_ | refine nd_nil ?_) | refine nx_cond_t rfl ?_ | refine nx_cond_f rfl ?_ | refine nl_pass hF rfl rfl rfl ?_ | refine nd_pass rfl rfl rfl rfl rfl ?_ | refine nd_pass2 rfl rfl rfl a_nd a_allK rfl rfl ?_ | refine nd_pass3 rfl rfl rfl a_nd rfl rfl ?_ | (with_reducible refine hQ1 _ _ _ ?_; clear hQ1 Q1) )
  refine nx_range hF rfl rfl (keepAll_it k.1 k.2 _ _ L hok _ _ (NItem.of_it j _ (vofs_it2 L hok) hmx).n (all1_pred s hs L hok hm bs).n) (by exact a_subR) (by rfl) (fun x vs h => by rw [h]; rfl) (fun _ (_ : SV) => True) (fun pre v => BoxC b3 25 v.1 :: RowC 3 1 v.1 ((1 :: pre.map fun v => (toIt2 v).tl).map (.int .i64)) :: C) (fun _ _ (_ : Unit) => False) (fun _ _ _ => []) (⟨.slice (some ⟨b4, 0, none⟩) 1 1, _, _, _, rfl⟩ : SV) trivial (by dsimp only [List.map_cons, List.map_nil, List.nil_append]; exact a_holds2) ?round ?done ?stop
  case round =>
    rintro lp pre x post hx vs rfl ⟨v, hv0⟩ _ W1 X1 R' hR' E1 K HK
    have hF := isWide_wide.inRound lp
    have hmem : x ∈ (L.filter (isKn L)).map It2.v := by rw [hx]; simp
    obtain ⟨y, hy, rfl⟩ := List.mem_map.1 hmem
    have hyo := hok y (List.mem_filter.1 hy).1
    have hvx := y.vof hyo
    have hvv : VOf Tryz.prog 25 v := vof_slice (by kernel_rfl) hv0
    have hsv : (cv v).size = 1 := by obtain ⟨_, _, _, rfl⟩ := hv0; rfl
    have hl : pre.length + 1 ≤ L.length := by
      have h1 := congrArg List.length hx
      have h2 := List.length_filter_le (isKn L) L
      simp at h1; omega
    obtain ⟨xs, hxs⟩ : ∃ xs, (1 :: pre.map fun v => (toIt2 v).tl).map (Value.int .i64) = xs := ⟨_, rfl⟩
    have hxl : xs.length = pre.length + 1 := by rw [← hxs]; simp
    have hxn : xs ++ [.int .i64 y.tl] = (1 :: (pre ++ [y.v]).map fun v => (toIt2 v).tl).map (Value.int .i64) := by rw [← hxs]; simp
    have hm1 : xs.length + [Value.int .i64 y.tl].length ≤ maxLen := by unfold maxLen; simp; omega
    have hm2 : (xs.length + [Value.int .i64 y.tl].length) * 8 ≤ 140737488355328 := by simp; omega
    dsimp only
    rw [hxs]
    obtain ⟨d1, kind, tl, d4, a, d6, par, d8, e⟩ := y
    obtain ⟨ea, en, ec, rfl⟩ : IsSl e := hyo
    dsimp only at hxn hm1 hm2
    (try simp only [List.cons_append, List.nil_append])
    repeat' (first | ((first | with_reducible refine nl_op rfl ?_ | refine nd_go rfl rfl rfl ?_); intro K hK; (first | ((first | refine on_E hF rfl rfl ?_ | refine od_E rfl rfl ?_ | refine od_R rfl rfl ?_); (first | refine ⟨_, a_yl, ?_⟩ | refine ⟨_, (by first | exact yl_fieldB (T := 33) (f := 2) (q := 2) rfl rfl (by kernel_rfl) | exact yl_fieldE (T := 33) (f := 2) (j := 2) rfl rfl a_sl a_om (by kernel_rfl)), ?_⟩)) | ((first | refine on_Ec hF rfl rfl ?_ | refine od_Ec rfl rfl ?_); refine ⟨_, _, _, a_yc, ?_, ?_⟩ <;> (intro hc; try exact a_cut hc)) | ((first | (refine od_act a_nd ?_; intro K2 hK2) | refine od_last a_nd ?_ | skip); (first | (refine on_buildSlice (T := 25) (e := 3) (k := 1) (by_ := 8) hF rfl rfl rfl rfl rfl rfl (by kernel_rfl) a_cel (Nat.le_of_ble_eq_true rfl) (fun b => ?_)) | (refine on_append (T := 25) (e := 3) (k := 1) (by_ := 8) hF rfl rfl rfl rfl rfl a_pick (by kernel_rfl) a_sl a_cel a_bnd a_bnd (fun v => ?_)) | (refine on_alloc hF rfl Tryz.zeroValue25 rfl rfl (fun B => ?_)) | (refine on_alloc hF rfl Tryz.zeroValue33 rfl rfl (fun B => ?_)) | (refine on_box hF rfl rfl rfl rfl (fun B => ?_)) | (refine on_store hF rfl rfl rfl rfl a_turn a_vof a_sz ?_) | (refine on_storeE hF rfl rfl rfl rfl a_turn a_om a_vof a_sz ?_) | (refine on_storeEF hF rfl rfl rfl rfl a_turn a_as (by decide) a_vof rfl ?_) | (refine on_storeF hF rfl rfl rfl rfl a_turn (by decide) a_vof rfl ?_)) <;> try (refine hK2 _ _ _ a_allK ?_; clear hK2 K2))) <;> (refine hK _ _ _ ?_; clear hK K)) | with_reducible (first | refine nx_seq ?_ | refine nx_region ?_ | refine nl_nil ?_ | refine nq_then_n ?_ | refine nx_block ?_ | refine nx_skip ?_ | refine nx_exit ?_ | refine nx_ret ?_ | refine nq_then_x ?_ | refine nq_then_r ?_ | refine nq_blk_n ?_ | refine nq_blk_r ?_ | refine nq_blk_hit ?_ | refine nq_blk_miss rfl ?_ | refine nd_nil ?_) | refine nx_cond_t rfl ?_ | refine nx_cond_f rfl ?_ | refine nl_pass hF rfl rfl rfl ?_ | refine nd_pass rfl rfl rfl rfl rfl ?_ | refine nd_pass2 rfl rfl rfl a_nd a_allK rfl rfl ?_ | refine nd_pass3 rfl rfl rfl a_nd rfl rfl ?_ | (with_reducible refine hQ1 _ _ _ ?_; clear hQ1 Q1) )
    all_goals try (refine nx_frz (BoxC _ _ (It2.v _)) Pick.here ?_)
    refine HK _ _ (BoxC b3 25 v :: RowC 3 1 v xs :: C) _ (by exact a_subR) (by exact a_holds2) (fun E2 => ?_)
    clear HK K
    (try simp only [List.cons_append, List.nil_append])
    repeat' (first | ((first | with_reducible refine nl_op rfl ?_ | refine nd_go rfl rfl rfl ?_); intro K hK; (first | ((first | refine on_E hF rfl rfl ?_ | refine od_E rfl rfl ?_ | refine od_R rfl rfl ?_); (first | refine ⟨_, a_yl, ?_⟩ | refine ⟨_, (by first | exact yl_fieldB (T := 33) (f := 2) (q := 2) rfl rfl (by kernel_rfl) | exact yl_fieldE (T := 33) (f := 2) (j := 2) rfl rfl a_sl a_om (by kernel_rfl)), ?_⟩)) | ((first | refine on_Ec hF rfl rfl ?_ | refine od_Ec rfl rfl ?_); refine ⟨_, _, _, a_yc, ?_, ?_⟩ <;> (intro hc; try exact a_cut hc)) | ((first | (refine od_act a_nd ?_; intro K2 hK2) | refine od_last a_nd ?_ | skip); (first | (refine on_append (e := 3) (k := 1) (by_ := 8) (xs := xs) (ys := [.int .i64 tl]) hF rfl rfl rfl rfl rfl (by exact a_pick) (by kernel_rfl) (by exact a_sl) a_cel hm1 hm2 (fun v2 => ?_)) | (refine on_store hF rfl rfl rfl rfl (by exact a_turn) (vof_slice (by kernel_rfl) v2.2) (by obtain ⟨_, _, _, e⟩ := v2.2; rw [e, hsv]; rfl) ?_) | (refine on_buildSlice (T := 25) (e := 3) (k := 1) (by_ := 8) hF rfl rfl rfl rfl rfl rfl (by kernel_rfl) a_cel (Nat.le_of_ble_eq_true rfl) (fun b => ?_)) | (refine on_append (T := 25) (e := 3) (k := 1) (by_ := 8) hF rfl rfl rfl rfl rfl a_pick (by kernel_rfl) a_sl a_cel a_bnd a_bnd (fun v => ?_)) | (refine on_alloc hF rfl Tryz.zeroValue25 rfl rfl (fun B => ?_)) | (refine on_alloc hF rfl Tryz.zeroValue33 rfl rfl (fun B => ?_)) | (refine on_box hF rfl rfl rfl rfl (fun B => ?_)) | (refine on_store hF rfl rfl rfl rfl a_turn a_vof a_sz ?_) | (refine on_storeE hF rfl rfl rfl rfl a_turn a_om a_vof a_sz ?_) | (refine on_storeEF hF rfl rfl rfl rfl a_turn a_as (by decide) a_vof rfl ?_) | (refine on_storeF hF rfl rfl rfl rfl a_turn (by decide) a_vof rfl ?_)) <;> try (refine hK2 _ _ _ a_allK ?_; clear hK2 K2))) <;> (refine hK _ _ _ ?_; clear hK K)) | with_reducible (first | refine nx_seq ?_ | refine nx_region ?_ | refine nl_nil ?_ | refine nq_then_n ?_ | refine nx_block ?_ | refine nx_skip ?_ | refine nx_exit ?_ | refine nx_ret ?_ | refine nq_then_x ?_ | refine nq_then_r ?_ | refine nq_blk_n ?_ | refine nq_blk_r ?_ | refine nq_blk_hit ?_ | refine nq_blk_miss rfl ?_ | refine nd_nil ?_) | refine nx_cond_t rfl ?_ | refine nx_cond_f rfl ?_ | refine nl_pass hF rfl rfl rfl ?_ | refine nd_pass rfl rfl rfl rfl rfl ?_ | refine nd_pass2 rfl rfl rfl a_nd a_allK rfl rfl ?_ | refine nd_pass3 rfl rfl rfl a_nd rfl rfl ?_ | (with_reducible refine hQ1 _ _ _ ?_; clear hQ1 Q1) )
    rw [hxn]
    exact rq_n v2 trivial (by exact a_subR) (by exact a_holds2)
  case done =>
    rintro ⟨v, hv0⟩ _ M
    have hvv : VOf Tryz.prog 25 v := vof_slice (by kernel_rfl) hv0
    have hraw : (1 :: ((L.filter (isKn L)).map It2.v).map fun v => (toIt2 v).tl) = rawL L := by unfold rawL; rw [List.map_map]; rfl
    have hne : rawL L ≠ [] := List.cons_ne_nil _ _
    have hne2 : ((rawL L).mergeSort fun x y => decide (x ≤ y)) ≠ [] := fun h => hne (by have := congrArg List.length h; simpa using this)
    have hall : Go.Lib.compact ((rawL L).mergeSort fun x y => decide (x ≤ y)) = allL L := rfl
    have hml1 : (rawL L).length ≤ 4611686018427387903 := by omega
    have hml2 : ((rawL L).mergeSort fun x y => decide (x ≤ y)).length ≤ 4611686018427387903 := by simp; omega
    dsimp only
    rw [hraw]
    (try simp only [List.cons_append, List.nil_append])
    repeat' (first | ((first | with_reducible refine nl_op rfl ?_ | refine nd_go rfl rfl rfl ?_); intro K hK; (first | ((first | refine on_E hF rfl rfl ?_ | refine od_E rfl rfl ?_ | refine od_R rfl rfl ?_); (first | refine ⟨_, a_yl, ?_⟩ | refine ⟨_, (by first | exact yl_fieldB (T := 33) (f := 2) (q := 2) rfl rfl (by kernel_rfl) | exact yl_fieldE (T := 33) (f := 2) (j := 2) rfl rfl a_sl a_om (by kernel_rfl)), ?_⟩)) | ((first | refine on_Ec hF rfl rfl ?_ | refine od_Ec rfl rfl ?_); refine ⟨_, _, _, a_yc, ?_, ?_⟩ <;> (intro hc; try exact a_cut hc)) | ((first | (refine od_act a_nd ?_; intro K2 hK2) | refine od_last a_nd ?_ | skip); (first | (refine on_callG hF (enters_of Tryz.func41 (by kernel_rfl) rfl) rfl rfl rfl rfl ((Sc.sort_ct v (rawL L) hne hml1).pre (perm1 (by exact a_pick))) (fun _ => ?_)) | (refine on_callG hF (enters_of Tryz.func43 (by kernel_rfl) rfl) rfl rfl rfl rfl ((Sc.compact_ct v _ hne2 hml2).pre (perm1 (by exact a_pick))) (fun u => ?_); rw [hall]; refine nx_frzRow Pick.here ?_) | (refine on_callG hF (enters_of Tryz.func42 (by kernel_rfl) rfl) rfl rfl rfl rfl (NInt.vals_ct _) (fun b => ?_)) | (refine on_buildSlice (T := 25) (e := 3) (k := 1) (by_ := 8) hF rfl rfl rfl rfl rfl rfl (by kernel_rfl) a_cel (Nat.le_of_ble_eq_true rfl) (fun b => ?_)) | (refine on_append (T := 25) (e := 3) (k := 1) (by_ := 8) hF rfl rfl rfl rfl rfl a_pick (by kernel_rfl) a_sl a_cel a_bnd a_bnd (fun v => ?_)) | (refine on_alloc hF rfl Tryz.zeroValue25 rfl rfl (fun B => ?_)) | (refine on_alloc hF rfl Tryz.zeroValue33 rfl rfl (fun B => ?_)) | (refine on_box hF rfl rfl rfl rfl (fun B => ?_)) | (refine on_store hF rfl rfl rfl rfl a_turn a_vof a_sz ?_) | (refine on_storeE hF rfl rfl rfl rfl a_turn a_om a_vof a_sz ?_) | (refine on_storeEF hF rfl rfl rfl rfl a_turn a_as (by decide) a_vof rfl ?_) | (refine on_storeF hF rfl rfl rfl rfl a_turn (by decide) a_vof rfl ?_)) <;> try (refine hK2 _ _ _ a_allK ?_; clear hK2 K2))) <;> (refine hK _ _ _ ?_; clear hK K)) | with_reducible (first | refine nx_seq ?_ | refine nx_region ?_ | refine nl_nil ?_ | refine nq_then_n ?_ | refine nx_block ?_ | refine nx_skip ?_ | refine nx_exit ?_ | refine nx_ret ?_ | refine nq_then_x ?_ | refine nq_then_r ?_ | refine nq_blk_n ?_ | refine nq_blk_r ?_ | refine nq_blk_hit ?_ | refine nq_blk_miss rfl ?_ | refine nd_nil ?_) | refine nx_cond_t rfl ?_ | refine nx_cond_f rfl ?_ | refine nl_pass hF rfl rfl rfl ?_ | refine nd_pass rfl rfl rfl rfl rfl ?_ | refine nd_pass2 rfl rfl rfl a_nd a_allK rfl rfl ?_ | refine nd_pass3 rfl rfl rfl a_nd rfl rfl ?_ | (with_reducible refine hQ1 _ _ _ ?_; clear hQ1 Q1) )
    refine nx_end [M] rfl (u, b) (fun a w ha hw => res_tmp Tryz.results24 rfl ha) (by exact a_subR) (by exact a_holds2)
  case stop =>
    intro pre x post hx j _ h
    exact h.elim
end Li
end Go.Proofs.YtinofjenoapeaaaGreat
end
section
namespace Go.Proofs.YtinofjenoapeaaaGreat
open Go.RowKit Go.Shelf
set_option linter.unusedSimpArgs false
set_option linter.unusedVariables false
section
variable {F : Fence} {m : Nat} {P : Program} {Q : Exit → Act → World → Prop} {K : Act → World → Prop} {n : Nat} {l : List (Nat × Value)} {d : List Deferred} {W0 : World} {X : Nat → Prop} {R C E : List Ch} {o : Oper} {t : Nat} {v : Value}
/-- append(nil, make(..)...): a new block. -/
theorem on_appendZ0 (hF : IsWide F) {x y : Operand} {T Tn e k by_ q : Nat} (ho : o.op = Op.call { callee := Callee.builtin Builtin.append, args := #[x, y], argTypes := #[T, Tn] }) (hd : o.dst = some t) (ht : Nat.blt t n = true)
    (hx : ev l x = some (.slice none 0 0)) (hy : ev l y = some (.int .i64 (q : Int))) (hT : apT P T e k by_ = true) (hTn : isIT P Tn .i64 = true) (hq : 0 < q) (b1 : q ≤ maxLen) (b2 : q * by_ ≤ 140737488355328)
    (h : ∀ (B c' : Nat) (zs : List Value), q ≤ c' → c' ≤ maxLen → zs.length = c' * k → Nx K n ((t, .slice (some ⟨B, 0, none⟩) q c') :: l) d W0 X R (RawC e B zs :: C)) : Nx (OpN F m P o K Q) n l d W0 X R C := by
  refine on_world hF (fun c => by rw [ho]; exact (fun h => by cases h)) hd ht (ι := { p : Nat × Nat × List Value // q ≤ p.2.1 ∧ p.2.1 ≤ maxLen ∧ p.2.2.length = p.2.1 * k }) (fun p => .slice (some ⟨p.1.1, 0, none⟩) q p.1.2.1) (fun _ => R) (fun p => RawC e p.1.1 p.1.2.2 :: C) (fun A w ha hw => ?_) (fun p => h p.1.1 p.1.2.1 p.1.2.2 p.2.1 p.2.2.1 p.2.2.2)
  obtain ⟨inf, z, t1, t2, t3, t4, t5, t6, t7⟩ := apT_spec hT
  obtain ⟨kk, hTn'⟩ : ∃ kk, P.underlying Tn = some (.int kk) := by
    unfold isIT at hTn
    split at hTn
    · exact ⟨_, by assumption⟩
    · cases hTn
  have hrun := Lib.run_append_nil_zeros (P := P) w T Tn o.type e inf z .i64 kk t1 hTn' t2 t3 q hq (by omega) (by unfold maxLen at b1; omega) (by rw [t5]; omega)
  have hzc : ∀ j, (Builtin.zeroCells z.cells j).size = j * k := fun j => by simp [Builtin.zeroCells, t6]
  have hge := grownCap_ge w q 0 e
  have hle := grownCap_le_maxLen w q 0 e b1
  obtain ⟨G, hG⟩ : ∃ G, grownCap w q 0 e = G := ⟨_, rfl⟩
  rw [hG] at hrun hge hle
  obtain ⟨zs, hzs⟩ : ∃ zs : Array Value, Builtin.zeroCells z.cells q ++ Builtin.zeroCells z.cells (G - q) = zs := ⟨_, rfl⟩
  have hzl : zs.size = G * k := by
    rw [← hzs]
    simp only [Array.size_append, hzc]
    rw [← Nat.add_mul]; congr 1; omega
  rw [hzs] at hrun
  refine ⟨⟨(w.heap.size, G, zs.toList), hge, hle, by simpa using hzl⟩, w.drew.alloc (.cells zs e), ?_, hw.new (((Touch.drew (fun _ => False) w).trans (Touch.alloc _ _ _)).below (Nat.le_refl _) (fun _ _ h => h)) ⟨fun j => j = w.heap.size, ⟨?_, fun j => Iff.rfl⟩, fun k hk => by omega⟩⟩
  · simp [execOp, ho, resolve, invoke, builtin, ha.eval hx, ha.eval hy, hrun, Sem.run_bind, Result.andThen]
  · have := heap_alloc_new w.drew (.cells zs e)
    simpa using this
theorem yl_slice_nilh {G : World → Prop} {T : TypeId} {x hi : Operand} (k : Nat) (ho : o.op = .slice T x none (some hi) none) (hx : ev l x = some (.slice none 0 0)) (hl : ev l hi = some (.int .i64 0)) (hT : slT P T k = true) : Yl P G n l d o (.slice none 0 0) := ⟨(fun c => by rw [ho]; exact (fun h => by cases h)), (fun A w ha hw => by
    obtain ⟨e', hu, hs⟩ := slT_info hT
    have hel : P.elem T = e' := by simp [Program.elem, hu]
    have hr := run_slice_h w T none 0 0 (by rw [hel]; exact hu) .i64 (0 : Int) (by omega) (by omega)
    have hr2 := run_sliceAt_slice w T (.slice none 0 0) none (some (.int .i64 (0 : Int))) none (by rw [hel]; exact hu)
    rw [hr, hel] at hr2
    have hsz : (sizeOf e').run P w = .ok k w := by
      cases hq : P.info? e' with
      | none => simp [hq] at hs
      | some inf => have : inf.size = k := by simpa [hq] using hs
                    simp [sizeOf, typeInfo, hq, this]
    rw [hsz] at hr2
    simp only [Result.andThen, sliced] at hr2
    simp [execOp, ho, ha.eval hx, ha.eval hl, hr2, Sem.run_bind, Result.andThen])⟩
end
namespace Pl
variable {W0 : World} {X : Nat → Prop} {R C : List Ch}
set_option maxRecDepth 100000 in
theorem grow_ct (q : Nat) (hq : q ≤ 1000000000) : Ct Tryz.prog 79 [.slice none 0 0, .int .i64 (q : Int)] W0 X R C SV (fun v => v.1) (fun _ => R) (fun v => RowC 3 1 v.1 [] :: C) := by
  intro w hw
  have hF := isWide_wide
  have hb1 : q ≤ maxLen := by unfold maxLen; omega
  have hb2 : q * 8 ≤ 140737488355328 := by omega
  have hz : (q : Int) - (((0 : Nat) : Int) - ((0 : Nat) : Int)) = (q : Int) := by omega
  refine calls_nx Tryz.func79 rfl Tryz.ntmps79 rfl ?_ hw
  by_cases h0 : q = 0
  · subst h0
    repeat' (first | ((first | with_reducible refine nl_op rfl ?_ | refine nd_go rfl rfl rfl ?_); intro K hK; (first | ((first | refine on_E hF rfl rfl ?_ | refine od_E rfl rfl ?_ | refine od_R rfl rfl ?_); (first | refine ⟨_, yl_cap_s rfl rfl (by kernel_rfl), ?_⟩ | refine ⟨_, a_yl, ?_⟩)) | ((first | refine on_Ec hF rfl rfl ?_ | refine od_Ec rfl rfl ?_); refine ⟨_, _, _, a_yc, ?_, ?_⟩ <;> (intro hc; try exact a_cut hc)) | ((first | (refine od_act a_nd ?_; intro K2 hK2) | refine od_last a_nd ?_ | skip); (first | (refine on_append (T := 25) (e := 3) (k := 1) (by_ := 8) hF rfl rfl rfl rfl rfl a_pick (by kernel_rfl) a_sl a_cel a_bnd a_bnd (fun v => ?_)) | (refine on_box hF rfl rfl rfl rfl (fun B => ?_)) | (refine on_store hF rfl rfl rfl rfl a_turn a_vof a_sz ?_) | (refine on_storeE hF rfl rfl rfl rfl a_turn a_om a_vof a_sz ?_) | (refine on_storeEF hF rfl rfl rfl rfl a_turn a_as (by decide) a_vof rfl ?_) | (refine on_storeF hF rfl rfl rfl rfl a_turn (by decide) a_vof rfl ?_)) <;> try (refine hK2 _ _ _ a_allK ?_; clear hK2 K2))) <;> (refine hK _ _ _ ?_; clear hK K)) | with_reducible (first | refine nx_seq ?_ | refine nx_region ?_ | refine nl_nil ?_ | refine nq_then_n ?_ | refine nx_block ?_ | refine nx_skip ?_ | refine nx_exit ?_ | refine nx_ret ?_ | refine nq_then_x ?_ | refine nq_then_r ?_ | refine nq_blk_n ?_ | refine nq_blk_r ?_ | refine nq_blk_hit ?_ | refine nq_blk_miss rfl ?_ | refine nd_nil ?_) | refine nx_cond_t rfl ?_ | refine nx_cond_f rfl ?_ | refine nl_pass hF rfl rfl rfl ?_ | refine nd_pass rfl rfl rfl rfl rfl ?_ | refine nd_pass2 rfl rfl rfl a_nd a_allK rfl rfl ?_ | refine nd_pass3 rfl rfl rfl a_nd rfl rfl ?_ | (with_reducible refine hQ1 _ _ _ ?_; clear hQ1 Q1) )
    all_goals (try (exfalso; dsimp only at *; omega))
    refine nx_nilRow 3 1 ?_
    refine nx_end [] rfl ((⟨.slice none 0 0, _, _, _, rfl⟩ : SV)) (fun a w ha hw => res_tmp Tryz.results79 rfl ha) (by exact a_subR) (by exact a_holds2)
  · repeat' (first | ((first | with_reducible refine nl_op rfl ?_ | refine nd_go rfl rfl rfl ?_); intro K hK; (first | ((first | refine on_E hF rfl rfl ?_ | refine od_E rfl rfl ?_ | refine od_R rfl rfl ?_); (first | refine ⟨_, yl_cap_s rfl rfl (by kernel_rfl), ?_⟩ | refine ⟨_, yl_subZ hz (by omega) rfl rfl rfl, ?_⟩ | refine ⟨_, yl_slice_nilh 1 rfl rfl rfl (by kernel_rfl), ?_⟩ | refine ⟨_, yl_slice_hk (i := 0) 1 rfl rfl rfl (by kernel_rfl) (by omega), ?_⟩ | refine ⟨_, a_yl, ?_⟩)) | ((first | refine on_Ec hF rfl rfl ?_ | refine od_Ec rfl rfl ?_); refine ⟨_, _, _, a_yc, ?_, ?_⟩ <;> (intro hc; try exact a_cut hc)) | ((first | (refine od_act a_nd ?_; intro K2 hK2) | refine od_last a_nd ?_ | skip); (first | (refine on_appendZ0 (e := 3) (k := 1) (by_ := 8) hF rfl rfl rfl rfl rfl (by kernel_rfl) (by kernel_rfl) (by omega) hb1 hb2 (fun nb nc zs hz1 hz2 hz3 => ?_)) | (refine on_append (T := 25) (e := 3) (k := 1) (by_ := 8) hF rfl rfl rfl rfl rfl a_pick (by kernel_rfl) a_sl a_cel a_bnd a_bnd (fun v => ?_)) | (refine on_box hF rfl rfl rfl rfl (fun B => ?_)) | (refine on_store hF rfl rfl rfl rfl a_turn a_vof a_sz ?_) | (refine on_storeE hF rfl rfl rfl rfl a_turn a_om a_vof a_sz ?_) | (refine on_storeEF hF rfl rfl rfl rfl a_turn a_as (by decide) a_vof rfl ?_) | (refine on_storeF hF rfl rfl rfl rfl a_turn (by decide) a_vof rfl ?_)) <;> try (refine hK2 _ _ _ a_allK ?_; clear hK2 K2))) <;> (refine hK _ _ _ ?_; clear hK K)) | with_reducible (first | refine nx_seq ?_ | refine nx_region ?_ | refine nl_nil ?_ | refine nq_then_n ?_ | refine nx_block ?_ | refine nx_skip ?_ | refine nx_exit ?_ | refine nx_ret ?_ | refine nq_then_x ?_ | refine nq_then_r ?_ | refine nq_blk_n ?_ | refine nq_blk_r ?_ | refine nq_blk_hit ?_ | refine nq_blk_miss rfl ?_ | refine nd_nil ?_) | refine nx_cond_t rfl ?_ | refine nx_cond_f rfl ?_ | refine nl_pass hF rfl rfl rfl ?_ | refine nd_pass rfl rfl rfl rfl rfl ?_ | refine nd_pass2 rfl rfl rfl a_nd a_allK rfl rfl ?_ | refine nd_pass3 rfl rfl rfl a_nd rfl rfl ?_ | (with_reducible refine hQ1 _ _ _ ?_; clear hQ1 Q1) )
    all_goals (try (exfalso; dsimp only at *; omega))
    refine nx_row (k := 1) (c := nc) (xs := []) (by exact a_pick) (Nat.zero_le _) (by omega) (by omega) (by simp [cellsOf]) (fun x hx => by cases hx) ?_
    refine nx_end [] rfl ((⟨.slice (some ⟨nb, 0, none⟩) 0 nc, _, _, _, rfl⟩ : SV)) (fun a w ha hw => res_tmp Tryz.results79 rfl ha) (by exact a_subR) (by exact a_holds2)
end Pl
end Go.Proofs.YtinofjenoapeaaaGreat
end
section
namespace Go.Proofs.YtinofjenoapeaaaGreat
open Go.RowKit Go.Shelf
set_option linter.unusedSimpArgs false
set_option linter.unusedVariables false
namespace Pl
variable {W0 : World} {X : Nat → Prop} {R C : List Ch}
/-- The first i of two lists together. -/
def upto2 (xs ys : List Int) : Nat → List Int
  | 0 => []
  | 1 => xs
  | _ => xs ++ ys
def len2 (n m : Nat) : Nat → Nat
  | 0 => 0
  | 1 => n
  | _ => n + m
set_option maxRecDepth 100000 in
set_option maxHeartbeats 1000000 in
theorem concat_ct (s : Nat) (c g : Value) (hc : IsSl c) (hg : IsSl g) (xs ys : List Int) (hs : SlC 1 (.slice (some ⟨s, 0, none⟩) 2 2) [c, g] ∈ R) (hx : SlC 1 c (xs.map (.int .i64)) ∈ R) (hy : SlC 1 g (ys.map (.int .i64)) ∈ R) (hm : xs.length ≤ 10000000) (hm2 : ys.length ≤ 10000000) :
    Ct Tryz.prog 49 [.slice (some ⟨s, 0, none⟩) 2 2] W0 X R C SV (fun v => v.1) (fun _ => R) (fun v => RowC 3 1 v.1 ((xs ++ ys).map (.int .i64)) :: C) := by
  intro w hw
  have hF := isWide_wide
  obtain ⟨ca, cn, cc, rfl⟩ := hc
  obtain ⟨ga, gn, gc, rfl⟩ := hg
  obtain rfl := slLen (hw.hasR hx)
  obtain rfl := slLen (hw.hasR hy)
  have hlx : (xs.map (Value.int .i64)).length = xs.length := by simp
  have hly : (ys.map (Value.int .i64)).length = ys.length := by simp
  have hs0 : ([.slice ca (xs.map (Value.int .i64)).length cc, .slice ga (ys.map (Value.int .i64)).length gc] : List Value)[0]? = some (.slice ca (xs.map (Value.int .i64)).length cc) := rfl
  have hs1 : ([.slice ca (xs.map (Value.int .i64)).length cc, .slice ga (ys.map (Value.int .i64)).length gc] : List Value)[1]? = some (.slice ga (ys.map (Value.int .i64)).length gc) := rfl
  have hvc : VOf Tryz.prog 25 (.slice ca (xs.map (Value.int .i64)).length cc) := vof_slice (by kernel_rfl) ⟨_, _, _, rfl⟩
  have hvg : VOf Tryz.prog 25 (.slice ga (ys.map (Value.int .i64)).length gc) := vof_slice (by kernel_rfl) ⟨_, _, _, rfl⟩
  have hcx : Cel 1 (xs.map (Value.int .i64)) := celI xs
  have hcy : Cel 1 (ys.map (Value.int .i64)) := celI ys
  refine calls_nx Tryz.func49 rfl Tryz.ntmps49 rfl ?_ hw
  repeat' (first | ((first | with_reducible refine nl_op rfl ?_ | refine nd_go rfl rfl rfl ?_); intro K hK; (first | ((first | refine on_E hF rfl rfl ?_ | refine od_E rfl rfl ?_ | refine od_R rfl rfl ?_); (first | refine ⟨_, a_yl, ?_⟩)) | ((first | refine on_Ec hF rfl rfl ?_ | refine od_Ec rfl rfl ?_); refine ⟨_, _, _, a_yc, ?_, ?_⟩ <;> (intro hc; try exact a_cut hc)) | ((first | (refine od_act a_nd ?_; intro K2 hK2) | refine od_last a_nd ?_ | skip); (first | (refine on_append (T := 25) (e := 3) (k := 1) (by_ := 8) hF rfl rfl rfl rfl rfl a_pick (by kernel_rfl) a_sl a_cel a_bnd a_bnd (fun v => ?_)) | (refine on_box hF rfl rfl rfl rfl (fun B => ?_)) | (refine on_store hF rfl rfl rfl rfl a_turn a_vof a_sz ?_) | (refine on_storeE hF rfl rfl rfl rfl a_turn a_om a_vof a_sz ?_) | (refine on_storeEF hF rfl rfl rfl rfl a_turn a_as (by decide) a_vof rfl ?_) | (refine on_storeF hF rfl rfl rfl rfl a_turn (by decide) a_vof rfl ?_)) <;> try (refine hK2 _ _ _ a_allK ?_; clear hK2 K2))) <;> (refine hK _ _ _ ?_; clear hK K)) | with_reducible (first | refine nx_seq ?_ | refine nx_region ?_ | refine nl_nil ?_ | refine nq_then_n ?_ | refine nx_block ?_ | refine nx_skip ?_ | refine nx_exit ?_ | refine nx_ret ?_ | refine nq_then_x ?_ | refine nq_then_r ?_ | refine nq_blk_n ?_ | refine nq_blk_r ?_ | refine nq_blk_hit ?_ | refine nq_blk_miss rfl ?_ | refine nd_nil ?_) | refine nx_cond_t rfl ?_ | refine nx_cond_f rfl ?_ | refine nl_pass hF rfl rfl rfl ?_ | refine nd_pass rfl rfl rfl rfl rfl ?_ | refine nd_pass2 rfl rfl rfl a_nd a_allK rfl rfl ?_ | refine nd_pass3 rfl rfl rfl a_nd rfl rfl ?_ | (with_reducible refine hQ1 _ _ _ ?_; clear hQ1 Q1) )
  obtain ⟨n, hn⟩ : ∃ n, (xs.map (Value.int .i64)).length = n := ⟨_, rfl⟩
  obtain ⟨m, hmm⟩ : ∃ m, (ys.map (Value.int .i64)).length = m := ⟨_, rfl⟩
  have hzp : ∀ a b : Nat, (a : Int) + (b : Int) = ((a + b : Nat) : Int) := fun a b => by omega
  have hz0 : ((0 : Nat) : Int) + (n : Int) = (n : Int) := by omega
  have hz1 := hzp n m
  have hb0 : -9223372036854775808 ≤ (n : Int) ∧ (n : Int) ≤ 9223372036854775807 := by omega
  have hb1 : -9223372036854775808 ≤ ((n + m : Nat) : Int) ∧ ((n + m : Nat) : Int) ≤ 9223372036854775807 := by omega
  rw [hn, hmm] at hs0 hs1 hs
  rw [hn] at hvc hx hlx
  rw [hmm] at hvg hy hly
  refine nx_loop (ι := { i : Nat // i ≤ 2 }) (fun i => [(0, .slice (some ⟨s, 0, none⟩) 2 2), (3, .int .i64 ((len2 n m i.1 : Nat) : Int)), (9, .slice (some ⟨s, 0, none⟩) 2 2), (10, .int .i64 ((2 : Nat) : Int)), (11, .int .i64 (i.1 : Int))]) (fun _ => R) (fun _ => C) (fun i => 2 - i.1) ⟨0, Nat.zero_le _⟩ (by exact a_sub) (by exact a_subR) (by exact a_holds) (fun i => ?_)
  obtain ⟨i, hi⟩ := i
  match i, hi with
  | 0, _ =>
    rw [show len2 n m 0 = 0 from rfl]
    repeat' (first | ((first | with_reducible refine nl_op rfl ?_ | refine nd_go rfl rfl rfl ?_); intro K hK; (first | ((first | refine on_E hF rfl rfl ?_ | refine od_E rfl rfl ?_ | refine od_R rfl rfl ?_); (first | refine ⟨_, yl_addZ hz0 hb0 rfl rfl rfl, ?_⟩ | refine ⟨_, a_yl, ?_⟩)) | ((first | refine on_Ec hF rfl rfl ?_ | refine od_Ec rfl rfl ?_); refine ⟨_, _, _, a_yc, ?_, ?_⟩ <;> (intro hc; try exact a_cut hc)) | ((first | (refine od_act a_nd ?_; intro K2 hK2) | refine od_last a_nd ?_ | skip); (first | (refine on_append (T := 25) (e := 3) (k := 1) (by_ := 8) hF rfl rfl rfl rfl rfl a_pick (by kernel_rfl) a_sl a_cel a_bnd a_bnd (fun v => ?_)) | (refine on_box hF rfl rfl rfl rfl (fun B => ?_)) | (refine on_store hF rfl rfl rfl rfl a_turn a_vof a_sz ?_) | (refine on_storeE hF rfl rfl rfl rfl a_turn a_om a_vof a_sz ?_) | (refine on_storeEF hF rfl rfl rfl rfl a_turn a_as (by decide) a_vof rfl ?_) | (refine on_storeF hF rfl rfl rfl rfl a_turn (by decide) a_vof rfl ?_)) <;> try (refine hK2 _ _ _ a_allK ?_; clear hK2 K2))) <;> (refine hK _ _ _ ?_; clear hK K)) | with_reducible (first | refine nx_seq ?_ | refine nx_region ?_ | refine nl_nil ?_ | refine nq_then_n ?_ | refine nx_block ?_ | refine nx_skip ?_ | refine nx_exit ?_ | refine nx_ret ?_ | refine nq_then_x ?_ | refine nq_then_r ?_ | refine nq_blk_n ?_ | refine nq_blk_r ?_ | refine nq_blk_hit ?_ | refine nq_blk_miss rfl ?_ | refine nd_nil ?_) | refine nx_cond_t rfl ?_ | refine nx_cond_f rfl ?_ | refine nl_pass hF rfl rfl rfl ?_ | refine nd_pass rfl rfl rfl rfl rfl ?_ | refine nd_pass2 rfl rfl rfl a_nd a_allK rfl rfl ?_ | refine nd_pass3 rfl rfl rfl a_nd rfl rfl ?_ | (with_reducible refine hQ1 _ _ _ ?_; clear hQ1 Q1) )
    all_goals (try (exfalso; dsimp only at *; omega))
    refine nx_again ⟨1, by omega⟩ (by dsimp only; omega) (by exact a_sub) (by exact a_subR) (by exact a_holds)
  | 1, _ =>
    rw [show len2 n m 1 = n from rfl]
    repeat' (first | ((first | with_reducible refine nl_op rfl ?_ | refine nd_go rfl rfl rfl ?_); intro K hK; (first | ((first | refine on_E hF rfl rfl ?_ | refine od_E rfl rfl ?_ | refine od_R rfl rfl ?_); (first | refine ⟨_, yl_addZ hz1 hb1 rfl rfl rfl, ?_⟩ | refine ⟨_, a_yl, ?_⟩)) | ((first | refine on_Ec hF rfl rfl ?_ | refine od_Ec rfl rfl ?_); refine ⟨_, _, _, a_yc, ?_, ?_⟩ <;> (intro hc; try exact a_cut hc)) | ((first | (refine od_act a_nd ?_; intro K2 hK2) | refine od_last a_nd ?_ | skip); (first | (refine on_append (T := 25) (e := 3) (k := 1) (by_ := 8) hF rfl rfl rfl rfl rfl a_pick (by kernel_rfl) a_sl a_cel a_bnd a_bnd (fun v => ?_)) | (refine on_box hF rfl rfl rfl rfl (fun B => ?_)) | (refine on_store hF rfl rfl rfl rfl a_turn a_vof a_sz ?_) | (refine on_storeE hF rfl rfl rfl rfl a_turn a_om a_vof a_sz ?_) | (refine on_storeEF hF rfl rfl rfl rfl a_turn a_as (by decide) a_vof rfl ?_) | (refine on_storeF hF rfl rfl rfl rfl a_turn (by decide) a_vof rfl ?_)) <;> try (refine hK2 _ _ _ a_allK ?_; clear hK2 K2))) <;> (refine hK _ _ _ ?_; clear hK K)) | with_reducible (first | refine nx_seq ?_ | refine nx_region ?_ | refine nl_nil ?_ | refine nq_then_n ?_ | refine nx_block ?_ | refine nx_skip ?_ | refine nx_exit ?_ | refine nx_ret ?_ | refine nq_then_x ?_ | refine nq_then_r ?_ | refine nq_blk_n ?_ | refine nq_blk_r ?_ | refine nq_blk_hit ?_ | refine nq_blk_miss rfl ?_ | refine nd_nil ?_) | refine nx_cond_t rfl ?_ | refine nx_cond_f rfl ?_ | refine nl_pass hF rfl rfl rfl ?_ | refine nd_pass rfl rfl rfl rfl rfl ?_ | refine nd_pass2 rfl rfl rfl a_nd a_allK rfl rfl ?_ | refine nd_pass3 rfl rfl rfl a_nd rfl rfl ?_ | (with_reducible refine hQ1 _ _ _ ?_; clear hQ1 Q1) )
    all_goals (try (exfalso; dsimp only at *; omega))
    refine nx_again ⟨2, by omega⟩ (by dsimp only; omega) (by exact a_sub) (by exact a_subR) (by exact a_holds)
  | 2, _ =>
    rw [show len2 n m 2 = n + m from rfl]
    repeat' (first | ((first | with_reducible refine nl_op rfl ?_ | refine nd_go rfl rfl rfl ?_); intro K hK; (first | ((first | refine on_E hF rfl rfl ?_ | refine od_E rfl rfl ?_ | refine od_R rfl rfl ?_); (first | refine ⟨_, a_yl, ?_⟩)) | ((first | refine on_Ec hF rfl rfl ?_ | refine od_Ec rfl rfl ?_); refine ⟨_, _, _, a_yc, ?_, ?_⟩ <;> (intro hc; try exact a_cut hc)) | ((first | (refine od_act a_nd ?_; intro K2 hK2) | refine od_last a_nd ?_ | skip); (first | (refine on_callG hF (enters_of Tryz.func79 (by kernel_rfl) rfl) rfl rfl rfl rfl (grow_ct (n + m) (by omega)) (fun u => ?_)) | (refine on_append (T := 25) (e := 3) (k := 1) (by_ := 8) hF rfl rfl rfl rfl rfl a_pick (by kernel_rfl) a_sl a_cel a_bnd a_bnd (fun v => ?_)) | (refine on_box hF rfl rfl rfl rfl (fun B => ?_)) | (refine on_store hF rfl rfl rfl rfl a_turn a_vof a_sz ?_) | (refine on_storeE hF rfl rfl rfl rfl a_turn a_om a_vof a_sz ?_) | (refine on_storeEF hF rfl rfl rfl rfl a_turn a_as (by decide) a_vof rfl ?_) | (refine on_storeF hF rfl rfl rfl rfl a_turn (by decide) a_vof rfl ?_)) <;> try (refine hK2 _ _ _ a_allK ?_; clear hK2 K2))) <;> (refine hK _ _ _ ?_; clear hK K)) | with_reducible (first | refine nx_seq ?_ | refine nx_region ?_ | refine nl_nil ?_ | refine nq_then_n ?_ | refine nx_block ?_ | refine nx_skip ?_ | refine nx_exit ?_ | refine nx_ret ?_ | refine nq_then_x ?_ | refine nq_then_r ?_ | refine nq_blk_n ?_ | refine nq_blk_r ?_ | refine nq_blk_hit ?_ | refine nq_blk_miss rfl ?_ | refine nd_nil ?_) | refine nx_cond_t rfl ?_ | refine nx_cond_f rfl ?_ | refine nl_pass hF rfl rfl rfl ?_ | refine nd_pass rfl rfl rfl rfl rfl ?_ | refine nd_pass2 rfl rfl rfl a_nd a_allK rfl rfl ?_ | refine nd_pass3 rfl rfl rfl a_nd rfl rfl ?_ | (with_reducible refine hQ1 _ _ _ ?_; clear hQ1 Q1) )
    all_goals (try (exfalso; dsimp only at *; omega))
    refine nx_loop (ι := { i : Nat // i ≤ 2 } × SV) (fun p => [(6, p.2.1), (25, .slice (some ⟨s, 0, none⟩) 2 2), (26, .int .i64 ((2 : Nat) : Int)), (27, .int .i64 (p.1.1 : Int))]) (fun _ => R) (fun p => RowC 3 1 p.2.1 ((upto2 xs ys p.1.1).map (.int .i64)) :: C) (fun p => 2 - p.1.1) (⟨0, Nat.zero_le _⟩, u) (by exact a_sub) (by exact a_subR) (by exact a_holds) (fun p => ?_)
    obtain ⟨⟨j, hj⟩, v⟩ := p
    have hl0 : (([] : List Int).map (Value.int .i64)).length = 0 := rfl
    have hxy : xs.map (Value.int .i64) ++ ys.map (Value.int .i64) = (xs ++ ys).map (.int .i64) := by simp
    have hl1 : (([] : List Int).map (Value.int .i64)).length + (xs.map (Value.int .i64)).length ≤ maxLen := by unfold maxLen; omega
    have hl2 : ((([] : List Int).map (Value.int .i64)).length + (xs.map (Value.int .i64)).length) * 8 ≤ 140737488355328 := by omega
    have hl3 : (xs.map (Value.int .i64)).length + (ys.map (Value.int .i64)).length ≤ maxLen := by unfold maxLen; omega
    have hl4 : ((xs.map (Value.int .i64)).length + (ys.map (Value.int .i64)).length) * 8 ≤ 140737488355328 := by omega
    match j, hj with
    | 0, _ =>
      rw [show upto2 xs ys 0 = [] from rfl]
      dsimp only
      repeat' (first | ((first | with_reducible refine nl_op rfl ?_ | refine nd_go rfl rfl rfl ?_); intro K hK; (first | ((first | refine on_E hF rfl rfl ?_ | refine od_E rfl rfl ?_ | refine od_R rfl rfl ?_); (first | refine ⟨_, a_yl, ?_⟩)) | ((first | refine on_Ec hF rfl rfl ?_ | refine od_Ec rfl rfl ?_); refine ⟨_, _, _, a_yc, ?_, ?_⟩ <;> (intro hc; try exact a_cut hc)) | ((first | (refine od_act a_nd ?_; intro K2 hK2) | refine od_last a_nd ?_ | skip); (first | (refine on_append (e := 3) (k := 1) (by_ := 8) (xs := ([] : List Int).map (.int .i64)) (ys := xs.map (.int .i64)) hF rfl rfl rfl rfl rfl a_pick (by kernel_rfl) a_sl hcx hl1 hl2 (fun u => ?_)) | (refine on_append (T := 25) (e := 3) (k := 1) (by_ := 8) hF rfl rfl rfl rfl rfl a_pick (by kernel_rfl) a_sl a_cel a_bnd a_bnd (fun v => ?_)) | (refine on_box hF rfl rfl rfl rfl (fun B => ?_)) | (refine on_store hF rfl rfl rfl rfl a_turn a_vof a_sz ?_) | (refine on_storeE hF rfl rfl rfl rfl a_turn a_om a_vof a_sz ?_) | (refine on_storeEF hF rfl rfl rfl rfl a_turn a_as (by decide) a_vof rfl ?_) | (refine on_storeF hF rfl rfl rfl rfl a_turn (by decide) a_vof rfl ?_)) <;> try (refine hK2 _ _ _ a_allK ?_; clear hK2 K2))) <;> (refine hK _ _ _ ?_; clear hK K)) | with_reducible (first | refine nx_seq ?_ | refine nx_region ?_ | refine nl_nil ?_ | refine nq_then_n ?_ | refine nx_block ?_ | refine nx_skip ?_ | refine nx_exit ?_ | refine nx_ret ?_ | refine nq_then_x ?_ | refine nq_then_r ?_ | refine nq_blk_n ?_ | refine nq_blk_r ?_ | refine nq_blk_hit ?_ | refine nq_blk_miss rfl ?_ | refine nd_nil ?_) | refine nx_cond_t rfl ?_ | refine nx_cond_f rfl ?_ | refine nl_pass hF rfl rfl rfl ?_ | refine nd_pass rfl rfl rfl rfl rfl ?_ | refine nd_pass2 rfl rfl rfl a_nd a_allK rfl rfl ?_ | refine nd_pass3 rfl rfl rfl a_nd rfl rfl ?_ | (with_reducible refine hQ1 _ _ _ ?_; clear hQ1 Q1) )
      all_goals (try (exfalso; dsimp only at *; omega))
      refine nx_again (⟨1, by omega⟩, u) (by dsimp only; omega) (by exact a_sub) (by exact a_subR) (by exact a_holds)
    | 1, _ =>
      rw [show upto2 xs ys 1 = xs from rfl]
      dsimp only
      repeat' (first | ((first | with_reducible refine nl_op rfl ?_ | refine nd_go rfl rfl rfl ?_); intro K hK; (first | ((first | refine on_E hF rfl rfl ?_ | refine od_E rfl rfl ?_ | refine od_R rfl rfl ?_); (first | refine ⟨_, a_yl, ?_⟩)) | ((first | refine on_Ec hF rfl rfl ?_ | refine od_Ec rfl rfl ?_); refine ⟨_, _, _, a_yc, ?_, ?_⟩ <;> (intro hc; try exact a_cut hc)) | ((first | (refine od_act a_nd ?_; intro K2 hK2) | refine od_last a_nd ?_ | skip); (first | (refine on_append (e := 3) (k := 1) (by_ := 8) (xs := xs.map (.int .i64)) (ys := ys.map (.int .i64)) hF rfl rfl rfl rfl rfl a_pick (by kernel_rfl) a_sl hcy hl3 hl4 (fun u => ?_); rw [hxy]) | (refine on_append (T := 25) (e := 3) (k := 1) (by_ := 8) hF rfl rfl rfl rfl rfl a_pick (by kernel_rfl) a_sl a_cel a_bnd a_bnd (fun v => ?_)) | (refine on_box hF rfl rfl rfl rfl (fun B => ?_)) | (refine on_store hF rfl rfl rfl rfl a_turn a_vof a_sz ?_) | (refine on_storeE hF rfl rfl rfl rfl a_turn a_om a_vof a_sz ?_) | (refine on_storeEF hF rfl rfl rfl rfl a_turn a_as (by decide) a_vof rfl ?_) | (refine on_storeF hF rfl rfl rfl rfl a_turn (by decide) a_vof rfl ?_)) <;> try (refine hK2 _ _ _ a_allK ?_; clear hK2 K2))) <;> (refine hK _ _ _ ?_; clear hK K)) | with_reducible (first | refine nx_seq ?_ | refine nx_region ?_ | refine nl_nil ?_ | refine nq_then_n ?_ | refine nx_block ?_ | refine nx_skip ?_ | refine nx_exit ?_ | refine nx_ret ?_ | refine nq_then_x ?_ | refine nq_then_r ?_ | refine nq_blk_n ?_ | refine nq_blk_r ?_ | refine nq_blk_hit ?_ | refine nq_blk_miss rfl ?_ | refine nd_nil ?_) | refine nx_cond_t rfl ?_ | refine nx_cond_f rfl ?_ | refine nl_pass hF rfl rfl rfl ?_ | refine nd_pass rfl rfl rfl rfl rfl ?_ | refine nd_pass2 rfl rfl rfl a_nd a_allK rfl rfl ?_ | refine nd_pass3 rfl rfl rfl a_nd rfl rfl ?_ | (with_reducible refine hQ1 _ _ _ ?_; clear hQ1 Q1) )
      all_goals (try (exfalso; dsimp only at *; omega))
      refine nx_again (⟨2, by omega⟩, u) (by dsimp only; omega) (by exact a_sub) (by exact a_subR) (by exact a_holds)
    | 2, _ =>
      rw [show upto2 xs ys 2 = xs ++ ys from rfl]
      dsimp only
      repeat' (first | ((first | with_reducible refine nl_op rfl ?_ | refine nd_go rfl rfl rfl ?_); intro K hK; (first | ((first | refine on_E hF rfl rfl ?_ | refine od_E rfl rfl ?_ | refine od_R rfl rfl ?_); (first | refine ⟨_, a_yl, ?_⟩)) | ((first | refine on_Ec hF rfl rfl ?_ | refine od_Ec rfl rfl ?_); refine ⟨_, _, _, a_yc, ?_, ?_⟩ <;> (intro hc; try exact a_cut hc)) | ((first | (refine od_act a_nd ?_; intro K2 hK2) | refine od_last a_nd ?_ | skip); (first | (refine on_append (T := 25) (e := 3) (k := 1) (by_ := 8) hF rfl rfl rfl rfl rfl a_pick (by kernel_rfl) a_sl a_cel a_bnd a_bnd (fun v => ?_)) | (refine on_box hF rfl rfl rfl rfl (fun B => ?_)) | (refine on_store hF rfl rfl rfl rfl a_turn a_vof a_sz ?_) | (refine on_storeE hF rfl rfl rfl rfl a_turn a_om a_vof a_sz ?_) | (refine on_storeEF hF rfl rfl rfl rfl a_turn a_as (by decide) a_vof rfl ?_) | (refine on_storeF hF rfl rfl rfl rfl a_turn (by decide) a_vof rfl ?_)) <;> try (refine hK2 _ _ _ a_allK ?_; clear hK2 K2))) <;> (refine hK _ _ _ ?_; clear hK K)) | with_reducible (first | refine nx_seq ?_ | refine nx_region ?_ | refine nl_nil ?_ | refine nq_then_n ?_ | refine nx_block ?_ | refine nx_skip ?_ | refine nx_exit ?_ | refine nx_ret ?_ | refine nq_then_x ?_ | refine nq_then_r ?_ | refine nq_blk_n ?_ | refine nq_blk_r ?_ | refine nq_blk_hit ?_ | refine nq_blk_miss rfl ?_ | refine nd_nil ?_) | refine nx_cond_t rfl ?_ | refine nx_cond_f rfl ?_ | refine nl_pass hF rfl rfl rfl ?_ | refine nd_pass rfl rfl rfl rfl rfl ?_ | refine nd_pass2 rfl rfl rfl a_nd a_allK rfl rfl ?_ | refine nd_pass3 rfl rfl rfl a_nd rfl rfl ?_ | (with_reducible refine hQ1 _ _ _ ?_; clear hQ1 Q1) )
      all_goals (try (exfalso; dsimp only at *; omega))
      refine nx_end [] rfl v (fun a w ha hw => res_tmp Tryz.results49 rfl ha) (by exact a_subR) (by exact a_holds2)
set_option maxRecDepth 100000 in
set_option maxHeartbeats 1000000 in
theorem objects_ct (c g lm : Value) (hc : IsSl c) (hg : IsSl g) (hlm : IsSl lm) (fr to : Int) (xs ys : List Int) (h0 : xs ≠ []) (hx : SlC 1 c (xs.map (.int .i64)) ∈ R) (hy : SlC 1 g (ys.map (.int .i64)) ∈ R) (hm : xs.length ≤ 10000000) (hm2 : ys.length ≤ 10000000) :
    Ct Tryz.prog 26 [planV c g lm fr to] W0 X R C SV (fun v => v.1) (fun _ => R) (fun v => RowC 3 1 v.1 ((Sc.upr (xs ++ ys)).map (.int .i64)) :: C) := by
  intro w hw
  have hF := isWide_wide
  have hvp := vofPlan hc hg hlm fr to
  have hn0 : xs ++ ys ≠ [] := fun h => h0 (List.append_eq_nil_iff.1 h).1
  have hl1 : (xs ++ ys).length ≤ 4611686018427387903 := by rw [List.length_append]; omega
  have hn1 : (xs ++ ys).mergeSort (fun x y => decide (x ≤ y)) ≠ [] := fun e => by have := congrArg List.length e; simp only [List.length_mergeSort, List.length_nil] at this; exact hn0 (List.eq_nil_of_length_eq_zero this)
  have hl2 : ((xs ++ ys).mergeSort (fun x y => decide (x ≤ y))).length ≤ 4611686018427387903 := by rw [List.length_mergeSort]; exact hl1
  have cc := fun (W0 : World) (X : Nat → Prop) (R C : List Ch) s h1 h2 h3 => concat_ct (W0 := W0) (X := X) (R := R) (C := C) s c g hc hg xs ys h1 h2 h3 hm hm2
  obtain ⟨ca, cn, cc', rfl⟩ := hc
  obtain ⟨ga, gn, gc, rfl⟩ := hg
  obtain ⟨la, ln, lc, rfl⟩ := hlm
  have hcl : Cel 1 [Value.slice ca cn cc', .slice ga gn gc] := Cel.one1 rfl (Cel.one1 rfl Cel.nil)
  refine calls_nx Tryz.func26 rfl Tryz.ntmps26 rfl ?_ hw
  repeat' (first | ((first | with_reducible refine nl_op rfl ?_ | refine nd_go rfl rfl rfl ?_); intro K hK; (first | ((first | refine on_E hF rfl rfl ?_ | refine od_E rfl rfl ?_ | refine od_R rfl rfl ?_); (first | refine ⟨_, a_yl, ?_⟩ | refine ⟨_, (by first | exact yl_fieldB (T := 49) (f := 0) (q := 0) rfl rfl (by kernel_rfl) | exact yl_fieldE (T := 49) (f := 0) (j := 0) rfl rfl a_sl a_om (by kernel_rfl) | exact yl_fieldB (T := 49) (f := 1) (q := 1) rfl rfl (by kernel_rfl) | exact yl_fieldE (T := 49) (f := 1) (j := 1) rfl rfl a_sl a_om (by kernel_rfl)), ?_⟩)) | ((first | refine on_Ec hF rfl rfl ?_ | refine od_Ec rfl rfl ?_); refine ⟨_, _, _, a_yc, ?_, ?_⟩ <;> (intro hc; try exact a_cut hc)) | ((first | (refine od_act a_nd ?_; intro K2 hK2) | refine od_last a_nd ?_ | skip); (first | (refine on_buildSlice (e := 25) (k := 1) (by_ := 24) (vs := [_, _]) hF rfl rfl rfl rfl rfl rfl (by kernel_rfl) hcl (Nat.le_of_ble_eq_true rfl) (fun bq => ?_); refine nx_frzRow Pick.here ?_) | (refine on_callG hF (enters_of Tryz.func49 (by kernel_rfl) rfl) rfl rfl rfl rfl (cc _ _ _ _ _ (by exact a_mem) (by exact a_mem) (by exact a_mem)) (fun u => ?_)) | (refine on_callG hF (enters_of Tryz.func41 (by kernel_rfl) rfl) rfl rfl rfl rfl ((Sc.sort_ct u.1 (xs ++ ys) hn0 hl1).pre (perm1 (by exact a_pick))) (fun _ => ?_)) | (refine on_callG hF (enters_of Tryz.func43 (by kernel_rfl) rfl) rfl rfl rfl rfl ((Sc.compact_ct u.1 _ hn1 hl2).pre (perm1 (by exact a_pick))) (fun v => ?_)) | (refine on_buildSlice (T := 119) (e := 25) (k := 1) (by_ := 24) hF rfl rfl rfl rfl rfl rfl (by kernel_rfl) a_cel (Nat.le_of_ble_eq_true rfl) (fun b => ?_)) | (refine on_box hF rfl rfl rfl rfl (fun B => ?_)) | (refine on_store hF rfl rfl rfl rfl a_turn a_vof a_sz ?_) | (refine on_storeE hF rfl rfl rfl rfl a_turn a_om a_vof a_sz ?_) | (refine on_storeEF hF rfl rfl rfl rfl a_turn a_as (by decide) a_vof rfl ?_) | (refine on_storeF hF rfl rfl rfl rfl a_turn (by decide) a_vof rfl ?_)) <;> try (refine hK2 _ _ _ a_allK ?_; clear hK2 K2))) <;> (refine hK _ _ _ ?_; clear hK K)) | with_reducible (first | refine nx_seq ?_ | refine nx_region ?_ | refine nl_nil ?_ | refine nq_then_n ?_ | refine nx_block ?_ | refine nx_skip ?_ | refine nx_exit ?_ | refine nx_ret ?_ | refine nq_then_x ?_ | refine nq_then_r ?_ | refine nq_blk_n ?_ | refine nq_blk_r ?_ | refine nq_blk_hit ?_ | refine nq_blk_miss rfl ?_ | refine nd_nil ?_) | refine nx_cond_t rfl ?_ | refine nx_cond_f rfl ?_ | refine nl_pass hF rfl rfl rfl ?_ | refine nd_pass rfl rfl rfl rfl rfl ?_ | refine nd_pass2 rfl rfl rfl a_nd a_allK rfl rfl ?_ | refine nd_pass3 rfl rfl rfl a_nd rfl rfl ?_ | (with_reducible refine hQ1 _ _ _ ?_; clear hQ1 Q1) )
  refine nx_end [] rfl v (fun a w ha hw => res_tmp Tryz.results26 rfl ha) (by exact a_subR) (by exact a_holds2)
end Pl
end Go.Proofs.YtinofjenoapeaaaGreat
end
section
namespace Go.Proofs.YtinofjenoapeaaaGreat
open Go.RowKit Go.Shelf
set_option linter.unusedSimpArgs false
set_option linter.unusedVariables false
namespace Pr
open Go.Proofs.YtinofjenoapeaaaGreat.Ord Pl Li
variable {W0 : World} {X : Nat → Prop} {R C : List Ch}
def vI (v : Value) : Int := match v with
  | .int _ n => n
  | _ => 0
theorem tObj_snoc (L : List It2) (ns : List Int) (t : Int) (j : Nat) (n : Int) (hn : ns[j]? = some n) : tObj L (ns.take (j + 1)) t = tObj L (ns.take j) t ++ objL L t n := by
  unfold tObj; rw [List.take_add_one, hn]; simp
theorem tObj_len (L : List It2) (ns : List Int) (t : Int) (hm : L.length ≤ 20) : (tObj L ns t).length ≤ ns.length * 461 := flat_len (objL L t) 461 (fun n => objL_len L t n hm) ns
set_option maxRecDepth 100000 in
set_option maxHeartbeats 8000000 in
theorem wanted_ct (s : Value) (hs : IsSl s) (L : List It2) (hok : ∀ x ∈ L, x.ok) (c : Int) (hc : -1099511627776 ≤ c ∧ c ≤ 1099511627776) (hr : ∀ x ∈ L, 0 ≤ x.a ∧ x.a ≤ 1099511627776 ∧ 0 ≤ x.b ∧ x.b ≤ 1099511627776) (htl : ∀ x ∈ L, x.tl ≤ 1099511627776) (hsl : SlC 9 s (L.map It2.v) ∈ R) (hm : L.length ≤ 20) :
    Ct Tryz.prog 12 [s, .int .i64 c] W0 X R C Nat (fun bm => ptr bm) (fun _ => R) (fun bm => OrdC bm (Sc.upr (wantZ L c)) :: C) := by
  intro w hw
  have hF := isWide_wide
  have hm88 : L.length * 88 ≤ 140737488355328 := by omega
  have hs0 := hs
  obtain ⟨sa, sn, sc, rfl⟩ := hs
  obtain rfl := slLen (hw.hasR hsl)
  have hlv : (L.map It2.v).length = L.length := by simp
  have hvs : VOf Tryz.prog 22 (.slice sa (L.map It2.v).length sc) := vof_slice (by kernel_rfl) hs0
  have hal : ∀ t ∈ allL L, t ≤ 1099511627776 := fun t ht => by
    rcases mem_all.1 ht with rfl | ⟨x, hx, _, rfl⟩
    · omega
    · exact htl x hx
  have pc := fun (W0 : World) (X : Nat → Prop) (R C : List Ch) h => places_ct (W0 := W0) (X := X) (R := R) (C := C) _ hs0 L hok c hc hr h (by omega)
  have ac := fun (W0 : World) (X : Nat → Prop) (R C : List Ch) h => all_ct (W0 := W0) (X := X) (R := R) (C := C) _ hs0 L hok h hm88
  have fc := fun (W0 : World) (X : Nat → Prop) (R C : List Ch) t n ht h => find_ct (W0 := W0) (X := X) (R := R) (C := C) _ hs0 L hok t n ht h (by omega)
  have hpl := placesL_len L c
  have hall := all_len L
  have hwz : wantZ L c = lineIds L ++ ((allL L).map (tObj L (placesL L c))).flatten := rfl
  obtain ⟨ns, hns⟩ : ∃ ns, placesL L c = ns := ⟨_, rfl⟩
  rw [hns] at pc hpl hwz
  rw [hwz]
  clear hns hr htl hwz
  refine calls_nx Tryz.func12 rfl Tryz.ntmps12 rfl ?_ hw
  repeat' (first | ((first | with_reducible refine nl_op rfl ?_ | refine nd_go rfl rfl rfl ?_); intro K hK; (first | ((first | refine on_E hF rfl rfl ?_ | refine od_E rfl rfl ?_ | refine od_R rfl rfl ?_); (first | refine ⟨_, a_yl, ?_⟩ | refine ⟨_, (by first | exact yl_fieldB (T := 33) (f := 0) (q := 0) rfl rfl (by kernel_rfl) | exact yl_fieldE (T := 33) (f := 0) (j := 0) rfl rfl a_sl a_om (by kernel_rfl) | exact yl_fieldB (T := 33) (f := 1) (q := 1) rfl rfl (by kernel_rfl) | exact yl_fieldE (T := 33) (f := 1) (j := 1) rfl rfl a_sl a_om (by kernel_rfl)), ?_⟩)) | ((first | refine on_Ec hF rfl rfl ?_ | refine od_Ec rfl rfl ?_); refine ⟨_, _, _, a_yc, ?_, ?_⟩ <;> (intro hc; try exact a_cut hc)) | ((first | (refine od_act a_nd ?_; intro K2 hK2) | refine od_last a_nd ?_ | skip); (first | (refine on_callG hF (enters_of Tryz.func13 (by kernel_rfl) rfl) rfl rfl rfl rfl new_ct (fun bm => ?_)) | (refine on_alloc hF rfl Tryz.zeroValue25 rfl rfl (fun B => ?_)) | (refine on_alloc hF rfl Tryz.zeroValue33 rfl rfl (fun B => ?_)) | (refine on_alloc hF rfl Tryz.zeroValue36 rfl rfl (fun B => ?_)) | (refine on_alloc hF rfl Tryz.zeroValue49 rfl rfl (fun B => ?_)) | (refine on_box hF rfl rfl rfl rfl (fun B => ?_)) | (refine on_store hF rfl rfl rfl rfl a_turn a_vof a_sz ?_) | (refine on_storeE hF rfl rfl rfl rfl a_turn a_om a_vof a_sz ?_) | (refine on_storeEF hF rfl rfl rfl rfl a_turn a_as (by decide) a_vof rfl ?_) | (refine on_storeF hF rfl rfl rfl rfl a_turn (by decide) a_vof rfl ?_)) <;> try (refine hK2 _ _ _ a_allK ?_; clear hK2 K2))) <;> (refine hK _ _ _ ?_; clear hK K)) | with_reducible (first | refine nx_seq ?_ | refine nx_region ?_ | refine nl_nil ?_ | refine nq_then_n ?_ | refine nx_block ?_ | refine nx_skip ?_ | refine nx_exit ?_ | refine nx_ret ?_ | refine nq_then_x ?_ | refine nq_then_r ?_ | refine nq_blk_n ?_ | refine nq_blk_r ?_ | refine nq_blk_hit ?_ | refine nq_blk_miss rfl ?_ | refine nd_nil ?_) | refine nx_cond_t rfl ?_ | refine nx_cond_f rfl ?_ | refine nl_pass hF rfl rfl rfl ?_ | refine nd_pass rfl rfl rfl rfl rfl ?_ | refine nd_pass2 rfl rfl rfl a_nd a_allK rfl rfl ?_ | refine nd_pass3 rfl rfl rfl a_nd rfl rfl ?_ | (with_reducible refine hQ1 _ _ _ ?_; clear hQ1 Q1) )
  rename_i b2
  obtain ⟨b5, hb5⟩ : ∃ b5, b5 = B := ⟨_, rfl⟩
  subst hb5
  refine nx_frz (BoxC b2 22 (.slice sa (L.map It2.v).length sc)) (by exact a_pick) ?_
  refine nx_frz (BoxC b5 36 (ptr bm)) (by exact a_pick) ?_
  rw [show ([] : List Int) = Sc.upr (lineIds (L.take 0)) from (upr_nil).symm]
  refine nx_loop (ι := { i : Nat // i ≤ L.length }) (fun i => [(1, .int .i64 c), (2, ptr b2), (5, ptr b5), (17, .slice sa (L.map It2.v).length sc), (18, .int .i64 ((L.map It2.v).length : Int)), (19, .int .i64 (i.1 : Int))]) (fun _ => BoxC b5 36 (ptr bm) :: BoxC b2 22 (.slice sa (L.map It2.v).length sc) :: R) (fun i => OrdC bm (Sc.upr (lineIds (L.take i.1))) :: C) (fun i => L.length - i.1) ⟨0, Nat.zero_le _⟩ (by exact a_sub) (by exact a_subR) (by exact a_holds) (fun i => ?_)
  obtain ⟨i, hi⟩ := i
  dsimp only
  by_cases hlt : i < L.length
  · obtain ⟨x, hx⟩ : ∃ x, L[i]? = some x := ⟨_, List.getElem?_eq_getElem hlt⟩
    have hxm : x ∈ L := List.mem_of_getElem? hx
    have hxv : (L.map It2.v)[i]? = some x.v := by rw [List.getElem?_map, hx]; rfl
    have hvx := x.vof (hok x hxm)
    have hsn := lineIds_snoc L i x hx
    have hzl := lineIds_len (L.take i)
    rw [List.length_take, Nat.min_eq_left (by omega)] at hzl
    obtain ⟨zs, hzs⟩ : ∃ zs, lineIds (L.take i) = zs := ⟨_, rfl⟩
    rw [hzs] at hsn hzl ⊢
    clear pc ac fc hal hok hzs
    by_cases hk : x.kind = 4
    · rw [if_pos hk] at hsn
      repeat' (first | ((first | with_reducible refine nl_op rfl ?_ | refine nd_go rfl rfl rfl ?_); intro K hK; (first | ((first | refine on_E hF rfl rfl ?_ | refine od_E rfl rfl ?_ | refine od_R rfl rfl ?_); (first | refine ⟨_, a_yl, ?_⟩ | refine ⟨_, (by first | exact yl_fieldB (T := 33) (f := 0) (q := 0) rfl rfl (by kernel_rfl) | exact yl_fieldE (T := 33) (f := 0) (j := 0) rfl rfl a_sl a_om (by kernel_rfl) | exact yl_fieldB (T := 33) (f := 1) (q := 1) rfl rfl (by kernel_rfl) | exact yl_fieldE (T := 33) (f := 1) (j := 1) rfl rfl a_sl a_om (by kernel_rfl)), ?_⟩)) | ((first | refine on_Ec hF rfl rfl ?_ | refine od_Ec rfl rfl ?_); refine ⟨_, _, _, a_yc, ?_, ?_⟩ <;> (intro hc; try exact a_cut hc)) | ((first | (refine od_act a_nd ?_; intro K2 hK2) | refine od_last a_nd ?_ | skip); (first | (refine on_callG hF (enters_of Tryz.func18 (by kernel_rfl) rfl) rfl rfl rfl rfl ((put_ct bm zs x.id (by omega)).pre (perm1 (by exact a_pick))) (fun _ => ?_); rw [← hsn]) | (refine on_alloc hF rfl Tryz.zeroValue25 rfl rfl (fun B => ?_)) | (refine on_alloc hF rfl Tryz.zeroValue33 rfl rfl (fun B => ?_)) | (refine on_alloc hF rfl Tryz.zeroValue36 rfl rfl (fun B => ?_)) | (refine on_alloc hF rfl Tryz.zeroValue49 rfl rfl (fun B => ?_)) | (refine on_box hF rfl rfl rfl rfl (fun B => ?_)) | (refine on_store hF rfl rfl rfl rfl a_turn a_vof a_sz ?_) | (refine on_storeE hF rfl rfl rfl rfl a_turn a_om a_vof a_sz ?_) | (refine on_storeEF hF rfl rfl rfl rfl a_turn a_as (by decide) a_vof rfl ?_) | (refine on_storeF hF rfl rfl rfl rfl a_turn (by decide) a_vof rfl ?_)) <;> try (refine hK2 _ _ _ a_allK ?_; clear hK2 K2))) <;> (refine hK _ _ _ ?_; clear hK K)) | with_reducible (first | refine nx_seq ?_ | refine nx_region ?_ | refine nl_nil ?_ | refine nq_then_n ?_ | refine nx_block ?_ | refine nx_skip ?_ | refine nx_exit ?_ | refine nx_ret ?_ | refine nq_then_x ?_ | refine nq_then_r ?_ | refine nq_blk_n ?_ | refine nq_blk_r ?_ | refine nq_blk_hit ?_ | refine nq_blk_miss rfl ?_ | refine nd_nil ?_) | refine nx_cond_t rfl ?_ | refine nx_cond_f rfl ?_ | refine nl_pass hF rfl rfl rfl ?_ | refine nd_pass rfl rfl rfl rfl rfl ?_ | refine nd_pass2 rfl rfl rfl a_nd a_allK rfl rfl ?_ | refine nd_pass3 rfl rfl rfl a_nd rfl rfl ?_ | (with_reducible refine hQ1 _ _ _ ?_; clear hQ1 Q1) )
      all_goals (try (exfalso; dsimp only at *; omega))
      refine nx_again ⟨i + 1, by omega⟩ (by dsimp only; omega) (by exact a_sub) (by exact a_subR) (by exact a_holds)
    · rw [if_neg hk, List.append_nil] at hsn
      repeat' (first | ((first | with_reducible refine nl_op rfl ?_ | refine nd_go rfl rfl rfl ?_); intro K hK; (first | ((first | refine on_E hF rfl rfl ?_ | refine od_E rfl rfl ?_ | refine od_R rfl rfl ?_); (first | refine ⟨_, a_yl, ?_⟩ | refine ⟨_, (by first | exact yl_fieldB (T := 33) (f := 0) (q := 0) rfl rfl (by kernel_rfl) | exact yl_fieldE (T := 33) (f := 0) (j := 0) rfl rfl a_sl a_om (by kernel_rfl) | exact yl_fieldB (T := 33) (f := 1) (q := 1) rfl rfl (by kernel_rfl) | exact yl_fieldE (T := 33) (f := 1) (j := 1) rfl rfl a_sl a_om (by kernel_rfl)), ?_⟩)) | ((first | refine on_Ec hF rfl rfl ?_ | refine od_Ec rfl rfl ?_); refine ⟨_, _, _, a_yc, ?_, ?_⟩ <;> (intro hc; try exact a_cut hc)) | ((first | (refine od_act a_nd ?_; intro K2 hK2) | refine od_last a_nd ?_ | skip); (first | (refine on_alloc hF rfl Tryz.zeroValue25 rfl rfl (fun B => ?_)) | (refine on_alloc hF rfl Tryz.zeroValue33 rfl rfl (fun B => ?_)) | (refine on_alloc hF rfl Tryz.zeroValue36 rfl rfl (fun B => ?_)) | (refine on_alloc hF rfl Tryz.zeroValue49 rfl rfl (fun B => ?_)) | (refine on_box hF rfl rfl rfl rfl (fun B => ?_)) | (refine on_store hF rfl rfl rfl rfl a_turn a_vof a_sz ?_) | (refine on_storeE hF rfl rfl rfl rfl a_turn a_om a_vof a_sz ?_) | (refine on_storeEF hF rfl rfl rfl rfl a_turn a_as (by decide) a_vof rfl ?_) | (refine on_storeF hF rfl rfl rfl rfl a_turn (by decide) a_vof rfl ?_)) <;> try (refine hK2 _ _ _ a_allK ?_; clear hK2 K2))) <;> (refine hK _ _ _ ?_; clear hK K)) | with_reducible (first | refine nx_seq ?_ | refine nx_region ?_ | refine nl_nil ?_ | refine nq_then_n ?_ | refine nx_block ?_ | refine nx_skip ?_ | refine nx_exit ?_ | refine nx_ret ?_ | refine nq_then_x ?_ | refine nq_then_r ?_ | refine nq_blk_n ?_ | refine nq_blk_r ?_ | refine nq_blk_hit ?_ | refine nq_blk_miss rfl ?_ | refine nd_nil ?_) | refine nx_cond_t rfl ?_ | refine nx_cond_f rfl ?_ | refine nl_pass hF rfl rfl rfl ?_ | refine nd_pass rfl rfl rfl rfl rfl ?_ | refine nd_pass2 rfl rfl rfl a_nd a_allK rfl rfl ?_ | refine nd_pass3 rfl rfl rfl a_nd rfl rfl ?_ | (with_reducible refine hQ1 _ _ _ ?_; clear hQ1 Q1) )
      all_goals (try (exfalso; dsimp only at *; omega))
      rw [← hsn]
      refine nx_again ⟨i + 1, by omega⟩ (by dsimp only; omega) (by exact a_sub) (by exact a_subR) (by exact a_holds)
  · rw [List.take_of_length_le (by omega)]
    have hzl := lineIds_len L
    obtain ⟨zs, hzs⟩ : ∃ zs, lineIds L = zs := ⟨_, rfl⟩
    rw [hzs] at hzl ⊢
    clear hzs hi
    repeat' (first | ((first | with_reducible refine nl_op rfl ?_ | refine nd_go rfl rfl rfl ?_); intro K hK; (first | ((first | refine on_E hF rfl rfl ?_ | refine od_E rfl rfl ?_ | refine od_R rfl rfl ?_); (first | refine ⟨_, a_yl, ?_⟩ | refine ⟨_, (by first | exact yl_fieldB (T := 33) (f := 0) (q := 0) rfl rfl (by kernel_rfl) | exact yl_fieldE (T := 33) (f := 0) (j := 0) rfl rfl a_sl a_om (by kernel_rfl) | exact yl_fieldB (T := 33) (f := 1) (q := 1) rfl rfl (by kernel_rfl) | exact yl_fieldE (T := 33) (f := 1) (j := 1) rfl rfl a_sl a_om (by kernel_rfl)), ?_⟩)) | ((first | refine on_Ec hF rfl rfl ?_ | refine od_Ec rfl rfl ?_); refine ⟨_, _, _, a_yc, ?_, ?_⟩ <;> (intro hc; try exact a_cut hc)) | ((first | (refine od_act a_nd ?_; intro K2 hK2) | refine od_last a_nd ?_ | skip); (first | (refine on_callG hF (enters_of Tryz.func23 (by kernel_rfl) rfl) rfl rfl rfl rfl (pc _ _ _ _ (by exact a_mem)) (fun v => ?_); obtain ⟨v, va, vn, vc, rfl⟩ := v; dsimp only; refine nx_len (e := 3) (k := 1) (xs := ns.map (.int .i64)) (i := vn) (by exact a_mem) (fun hlen => ?_); subst hlen; refine nx_frzRow Pick.here ?_) | (refine on_callG hF (enters_of Tryz.func24 (by kernel_rfl) rfl) rfl rfl rfl rfl (ac _ _ _ _ (by exact a_mem)) (fun q => ?_)) | (refine on_alloc hF rfl Tryz.zeroValue25 rfl rfl (fun B => ?_)) | (refine on_alloc hF rfl Tryz.zeroValue33 rfl rfl (fun B => ?_)) | (refine on_alloc hF rfl Tryz.zeroValue36 rfl rfl (fun B => ?_)) | (refine on_alloc hF rfl Tryz.zeroValue49 rfl rfl (fun B => ?_)) | (refine on_box hF rfl rfl rfl rfl (fun B => ?_)) | (refine on_store hF rfl rfl rfl rfl a_turn a_vof a_sz ?_) | (refine on_storeE hF rfl rfl rfl rfl a_turn a_om a_vof a_sz ?_) | (refine on_storeEF hF rfl rfl rfl rfl a_turn a_as (by decide) a_vof rfl ?_) | (refine on_storeF hF rfl rfl rfl rfl a_turn (by decide) a_vof rfl ?_)) <;> try (refine hK2 _ _ _ a_allK ?_; clear hK2 K2))) <;> (refine hK _ _ _ ?_; clear hK K)) | with_reducible (first | refine nx_seq ?_ | refine nx_region ?_ | refine nl_nil ?_ | refine nq_then_n ?_ | refine nx_block ?_ | refine nx_skip ?_ | refine nx_exit ?_ | refine nx_ret ?_ | refine nq_then_x ?_ | refine nq_then_r ?_ | refine nq_blk_n ?_ | refine nq_blk_r ?_ | refine nq_blk_hit ?_ | refine nq_blk_miss rfl ?_ | refine nd_nil ?_) | refine nx_cond_t rfl ?_ | refine nx_cond_f rfl ?_ | refine nl_pass hF rfl rfl rfl ?_ | refine nd_pass rfl rfl rfl rfl rfl ?_ | refine nd_pass2 rfl rfl rfl a_nd a_allK rfl rfl ?_ | refine nd_pass3 rfl rfl rfl a_nd rfl rfl ?_ | (with_reducible refine hQ1 _ _ _ ?_; clear hQ1 Q1) )
    all_goals (try (exfalso; dsimp only at *; omega))
    obtain ⟨b8, hb8⟩ : ∃ b8, b8 = B := ⟨_, rfl⟩
    subst hb8
    refine nx_frz (BoxC b8 25 (.slice va (ns.map (Value.int .i64)).length vc)) (by exact a_pick) ?_
    have hvi : ∀ x ∈ (allL L).map (Value.int .i64), VOf Tryz.prog 3 x := fun x hx => by obtain ⟨i, _, rfl⟩ := List.mem_map.1 hx; exact vof1 (by kernel_rfl) rfl rfl
    refine nx_lk (l' := [(2, ptr b2), (5, ptr b5), (8, ptr b8), (35, NInt.ofV q.2)]) (by exact a_sub) ?_
    refine nx_range hF rfl rfl (NInt.vals_it q.2 q.1.1 ((allL L).map (.int .i64)) hvi q.1.2 (by unfold maxLen; rw [List.length_map]; omega)) (by exact a_subR) (by rfl) (fun x vs h => by rw [h]; rfl) (fun _ (_ : Unit) => True) (fun pre _ => OrdC bm (Sc.upr (zs ++ (pre.map fun v => tObj L ns (vI v)).flatten)) :: C) (fun _ _ (_ : Unit) => False) (fun _ _ _ => []) () trivial (by simp only [List.map_nil, List.flatten_nil, List.append_nil]; exact a_holds2) ?round ?done ?stop
    case round =>
      rintro lp pre x post hx vs rfl _ _ W1 X1 R' hR' E1 K HK
      have hF := isWide_wide.inRound lp
      have hmem : x ∈ (allL L).map (Value.int .i64) := by rw [hx]; simp
      obtain ⟨t, htm, rfl⟩ := List.mem_map.1 hmem
      have htt := hal t htm
      have hpl2 : pre.length + 1 ≤ (allL L).length := by have := congrArg List.length hx; simp at this; omega
      have hsR : SlC 9 (.slice sa (L.map It2.v).length sc) (L.map It2.v) ∈ R' := hR' _ (by exact a_mem)
      have hb2 : BoxC b2 22 (.slice sa (L.map It2.v).length sc) ∈ R' := hR' _ (by exact a_mem)
      have hb5 : BoxC b5 36 (ptr bm) ∈ R' := hR' _ (by exact a_mem)
      have hb8 : BoxC b8 25 (.slice va (ns.map (Value.int .i64)).length vc) ∈ R' := hR' _ (by exact a_mem)
      have hnsR : SlC 1 (.slice va (ns.map (Value.int .i64)).length vc) (ns.map (.int .i64)) ∈ R' := hR' _ (by exact a_mem)
      have hvv : VOf Tryz.prog 25 (.slice va (ns.map (Value.int .i64)).length vc) := vof_slice (by kernel_rfl) ⟨_, _, _, rfl⟩
      have hql : (zs ++ (pre.map fun v => tObj L ns (vI v)).flatten).length ≤ 1400000 := by
        have h1 := flat_len (fun v => tObj L ns (vI v)) (126 * 461) (fun v => by
          have h2 := tObj_len L ns (vI v) hm
          have h3 : ns.length * 461 ≤ 126 * 461 := Nat.mul_le_mul_right _ (by omega)
          omega) pre
        have h4 : pre.length * (126 * 461) ≤ 21 * (126 * 461) := Nat.mul_le_mul_right _ (by omega)
        rw [List.length_append]; omega
      have hsn : zs ++ ((pre ++ [Value.int .i64 t]).map fun v => tObj L ns (vI v)).flatten = (zs ++ (pre.map fun v => tObj L ns (vI v)).flatten) ++ tObj L ns t := by simp [vI]
      obtain ⟨z1, hz1⟩ : ∃ z1, zs ++ (pre.map fun v => tObj L ns (vI v)).flatten = z1 := ⟨_, rfl⟩
      rw [hz1] at hsn hql ⊢
      clear hR' hx hz1 pc ac hal
      (try simp only [List.cons_append, List.nil_append])
      repeat' (first | ((first | with_reducible refine nl_op rfl ?_ | refine nd_go rfl rfl rfl ?_); intro K hK; (first | ((first | refine on_E hF rfl rfl ?_ | refine od_E rfl rfl ?_ | refine od_R rfl rfl ?_); (first | refine ⟨_, a_yl, ?_⟩ | refine ⟨_, (by first | exact yl_fieldB (T := 33) (f := 0) (q := 0) rfl rfl (by kernel_rfl) | exact yl_fieldE (T := 33) (f := 0) (j := 0) rfl rfl a_sl a_om (by kernel_rfl) | exact yl_fieldB (T := 33) (f := 1) (q := 1) rfl rfl (by kernel_rfl) | exact yl_fieldE (T := 33) (f := 1) (j := 1) rfl rfl a_sl a_om (by kernel_rfl)), ?_⟩)) | ((first | refine on_Ec hF rfl rfl ?_ | refine od_Ec rfl rfl ?_); refine ⟨_, _, _, a_yc, ?_, ?_⟩ <;> (intro hc; try exact a_cut hc)) | ((first | (refine od_act a_nd ?_; intro K2 hK2) | refine od_last a_nd ?_ | skip); (first | (refine on_alloc hF rfl Tryz.zeroValue25 rfl rfl (fun B => ?_)) | (refine on_alloc hF rfl Tryz.zeroValue33 rfl rfl (fun B => ?_)) | (refine on_alloc hF rfl Tryz.zeroValue36 rfl rfl (fun B => ?_)) | (refine on_alloc hF rfl Tryz.zeroValue49 rfl rfl (fun B => ?_)) | (refine on_box hF rfl rfl rfl rfl (fun B => ?_)) | (refine on_store hF rfl rfl rfl rfl a_turn a_vof a_sz ?_) | (refine on_storeE hF rfl rfl rfl rfl a_turn a_om a_vof a_sz ?_) | (refine on_storeEF hF rfl rfl rfl rfl a_turn a_as (by decide) a_vof rfl ?_) | (refine on_storeF hF rfl rfl rfl rfl a_turn (by decide) a_vof rfl ?_)) <;> try (refine hK2 _ _ _ a_allK ?_; clear hK2 K2))) <;> (refine hK _ _ _ ?_; clear hK K)) | with_reducible (first | refine nx_seq ?_ | refine nx_region ?_ | refine nl_nil ?_ | refine nq_then_n ?_ | refine nx_block ?_ | refine nx_skip ?_ | refine nx_exit ?_ | refine nx_ret ?_ | refine nq_then_x ?_ | refine nq_then_r ?_ | refine nq_blk_n ?_ | refine nq_blk_r ?_ | refine nq_blk_hit ?_ | refine nq_blk_miss rfl ?_ | refine nd_nil ?_) | refine nx_cond_t rfl ?_ | refine nx_cond_f rfl ?_ | refine nl_pass hF rfl rfl rfl ?_ | refine nd_pass rfl rfl rfl rfl rfl ?_ | refine nd_pass2 rfl rfl rfl a_nd a_allK rfl rfl ?_ | refine nd_pass3 rfl rfl rfl a_nd rfl rfl ?_ | (with_reducible refine hQ1 _ _ _ ?_; clear hQ1 Q1) )
      refine HK _ _ (OrdC bm (Sc.upr z1) :: C) _ (by exact a_subR) (by exact a_holds2) (fun E2 => ?_)
      clear HK K
      (try simp only [List.cons_append, List.nil_append])
      repeat' (first | ((first | with_reducible refine nl_op rfl ?_ | refine nd_go rfl rfl rfl ?_); intro K hK; (first | ((first | refine on_E hF rfl rfl ?_ | refine od_E rfl rfl ?_ | refine od_R rfl rfl ?_); (first | refine ⟨_, a_yl, ?_⟩ | refine ⟨_, (by first | exact yl_fieldB (T := 33) (f := 0) (q := 0) rfl rfl (by kernel_rfl) | exact yl_fieldE (T := 33) (f := 0) (j := 0) rfl rfl a_sl a_om (by kernel_rfl) | exact yl_fieldB (T := 33) (f := 1) (q := 1) rfl rfl (by kernel_rfl) | exact yl_fieldE (T := 33) (f := 1) (j := 1) rfl rfl a_sl a_om (by kernel_rfl)), ?_⟩)) | ((first | refine on_Ec hF rfl rfl ?_ | refine od_Ec rfl rfl ?_); refine ⟨_, _, _, a_yc, ?_, ?_⟩ <;> (intro hc; try exact a_cut hc)) | ((first | (refine od_act a_nd ?_; intro K2 hK2) | refine od_last a_nd ?_ | skip); (first | (refine on_alloc hF rfl Tryz.zeroValue25 rfl rfl (fun B => ?_)) | (refine on_alloc hF rfl Tryz.zeroValue33 rfl rfl (fun B => ?_)) | (refine on_alloc hF rfl Tryz.zeroValue36 rfl rfl (fun B => ?_)) | (refine on_alloc hF rfl Tryz.zeroValue49 rfl rfl (fun B => ?_)) | (refine on_box hF rfl rfl rfl rfl (fun B => ?_)) | (refine on_store hF rfl rfl rfl rfl a_turn a_vof a_sz ?_) | (refine on_storeE hF rfl rfl rfl rfl a_turn a_om a_vof a_sz ?_) | (refine on_storeEF hF rfl rfl rfl rfl a_turn a_as (by decide) a_vof rfl ?_) | (refine on_storeF hF rfl rfl rfl rfl a_turn (by decide) a_vof rfl ?_)) <;> try (refine hK2 _ _ _ a_allK ?_; clear hK2 K2))) <;> (refine hK _ _ _ ?_; clear hK K)) | with_reducible (first | refine nx_seq ?_ | refine nx_region ?_ | refine nl_nil ?_ | refine nq_then_n ?_ | refine nx_block ?_ | refine nx_skip ?_ | refine nx_exit ?_ | refine nx_ret ?_ | refine nq_then_x ?_ | refine nq_then_r ?_ | refine nq_blk_n ?_ | refine nq_blk_r ?_ | refine nq_blk_hit ?_ | refine nq_blk_miss rfl ?_ | refine nd_nil ?_) | refine nx_cond_t rfl ?_ | refine nx_cond_f rfl ?_ | refine nl_pass hF rfl rfl rfl ?_ | refine nd_pass rfl rfl rfl rfl rfl ?_ | refine nd_pass2 rfl rfl rfl a_nd a_allK rfl rfl ?_ | refine nd_pass3 rfl rfl rfl a_nd rfl rfl ?_ | (with_reducible refine hQ1 _ _ _ ?_; clear hQ1 Q1) )
      rw [show Sc.upr z1 = Sc.upr (z1 ++ tObj L (ns.take 0) t) from by simp [tObj]]
      refine nx_loop (ι := { j : Nat // j ≤ ns.length }) (fun j => [(2, ptr b2), (5, ptr b5), (9, .int .i64 t), (37, .slice va (ns.map (Value.int .i64)).length vc), (38, .int .i64 ((ns.map (Value.int .i64)).length : Int)), (39, .int .i64 (j.1 : Int))]) (fun _ => R') (fun j => OrdC bm (Sc.upr (z1 ++ tObj L (ns.take j.1) t)) :: (C ++ E2)) (fun j => ns.length - j.1) ⟨0, Nat.zero_le _⟩ (by exact a_sub) (by exact a_subR) (by exact a_holds) (fun j => ?_)
      obtain ⟨j, hj⟩ := j
      dsimp only
      have hln : (ns.map (Value.int .i64)).length = ns.length := by simp
      by_cases hjn : j < ns.length
      · obtain ⟨n, hn⟩ : ∃ n, ns[j]? = some n := ⟨_, List.getElem?_eq_getElem hjn⟩
        have hnv : (ns.map (Value.int .i64))[j]? = some (.int .i64 n) := by rw [List.getElem?_map, hn]; rfl
        have hts := tObj_snoc L ns t j n hn
        have htl := tObj_len L (ns.take j) t hm
        have hol := objL_len L t n hm
        have hz2l : (z1 ++ tObj L (ns.take j) t).length ≤ 1500000 := by
          have h3 : (ns.take j).length * 461 ≤ 126 * 461 := Nat.mul_le_mul_right _ (by rw [List.length_take]; omega)
          rw [List.length_append]; omega
        have hzs2 : z1 ++ tObj L (ns.take (j + 1)) t = (z1 ++ tObj L (ns.take j) t) ++ objL L t n := by rw [hts, List.append_assoc]
        obtain ⟨z2, hz2⟩ : ∃ z2, z1 ++ tObj L (ns.take j) t = z2 := ⟨_, rfl⟩
        rw [hz2] at hzs2 hz2l ⊢
        have fx := fun (W0 : World) (X : Nat → Prop) (R C : List Ch) h => fc W0 X R C t n htt h
        clear fc hts htl hz2 hsn
        cases hf : findP L t n with
        | none =>
          have ho : objL L t n = [] := by unfold objL; rw [hf]
          rw [hf] at fx
          unfold findRet findC at fx
          dsimp only at fx
          rw [ho, List.append_nil] at hzs2
          have hvz : ∀ i : SV × SV × SV, VOf Tryz.prog 49 (planV nilV nilV nilV 0 0) := fun i => vofPlan ⟨_, _, _, rfl⟩ ⟨_, _, _, rfl⟩ ⟨_, _, _, rfl⟩ 0 0
          repeat' (first | ((first | with_reducible refine nl_op rfl ?_ | refine nd_go rfl rfl rfl ?_); intro K hK; (first | ((first | refine on_E hF rfl rfl ?_ | refine od_E rfl rfl ?_ | refine od_R rfl rfl ?_); (first | refine ⟨_, a_yl, ?_⟩ | refine ⟨_, (by first | exact yl_fieldB (T := 33) (f := 0) (q := 0) rfl rfl (by kernel_rfl) | exact yl_fieldE (T := 33) (f := 0) (j := 0) rfl rfl a_sl a_om (by kernel_rfl) | exact yl_fieldB (T := 33) (f := 1) (q := 1) rfl rfl (by kernel_rfl) | exact yl_fieldE (T := 33) (f := 1) (j := 1) rfl rfl a_sl a_om (by kernel_rfl)), ?_⟩)) | ((first | refine on_Ec hF rfl rfl ?_ | refine od_Ec rfl rfl ?_); refine ⟨_, _, _, a_yc, ?_, ?_⟩ <;> (intro hc; try exact a_cut hc)) | ((first | (refine od_act a_nd ?_; intro K2 hK2) | refine od_last a_nd ?_ | skip); (first | (refine on_callG hF (enters_of Tryz.func25 (by kernel_rfl) rfl) rfl rfl rfl rfl (fx _ _ _ _ (by exact a_mem)) (fun i => ?_); have hvi := hvz i) | (refine on_alloc hF rfl Tryz.zeroValue25 rfl rfl (fun B => ?_)) | (refine on_alloc hF rfl Tryz.zeroValue33 rfl rfl (fun B => ?_)) | (refine on_alloc hF rfl Tryz.zeroValue36 rfl rfl (fun B => ?_)) | (refine on_alloc hF rfl Tryz.zeroValue49 rfl rfl (fun B => ?_)) | (refine on_box hF rfl rfl rfl rfl (fun B => ?_)) | (refine on_store hF rfl rfl rfl rfl a_turn a_vof a_sz ?_) | (refine on_storeE hF rfl rfl rfl rfl a_turn a_om a_vof a_sz ?_) | (refine on_storeEF hF rfl rfl rfl rfl a_turn a_as (by decide) a_vof rfl ?_) | (refine on_storeF hF rfl rfl rfl rfl a_turn (by decide) a_vof rfl ?_)) <;> try (refine hK2 _ _ _ a_allK ?_; clear hK2 K2))) <;> (refine hK _ _ _ ?_; clear hK K)) | with_reducible (first | refine nx_seq ?_ | refine nx_region ?_ | refine nl_nil ?_ | refine nq_then_n ?_ | refine nx_block ?_ | refine nx_skip ?_ | refine nx_exit ?_ | refine nx_ret ?_ | refine nq_then_x ?_ | refine nq_then_r ?_ | refine nq_blk_n ?_ | refine nq_blk_r ?_ | refine nq_blk_hit ?_ | refine nq_blk_miss rfl ?_ | refine nd_nil ?_) | refine nx_cond_t rfl ?_ | refine nx_cond_f rfl ?_ | refine nl_pass hF rfl rfl rfl ?_ | refine nd_pass rfl rfl rfl rfl rfl ?_ | refine nd_pass2 rfl rfl rfl a_nd a_allK rfl rfl ?_ | refine nd_pass3 rfl rfl rfl a_nd rfl rfl ?_ | (with_reducible refine hQ1 _ _ _ ?_; clear hQ1 Q1) )
          all_goals (try (exfalso; dsimp only at *; omega))
          rw [← hzs2]
          refine nx_again ⟨j + 1, by omega⟩ (by dsimp only; omega) (by exact a_sub) (by exact a_subR) (by exact a_holds)
        | some p =>
          have ho : objL L t n = Sc.upr (Chn.chainIds L p.1.id ++ p.2.1) := by unfold objL; rw [hf]
          have hcn := chain_ne (find_chain hf)
          have hcl := chain_len L p.1.id
          have hsl2 := find_len hf
          have hsl3 : (L.length + 2) * L.length ≤ 22 * 20 := Nat.mul_le_mul (by omega) hm
          rw [hf] at fx
          unfold findRet findC at fx
          dsimp only at fx
          have oc := fun (W0 : World) (X : Nat → Prop) (R C : List Ch) (i : SV × SV × SV) h1 h2 => objects_ct (W0 := W0) (X := X) (R := R) (C := C) i.1.1 i.2.1.1 i.2.2.1 i.1.2 i.2.1.2 i.2.2.2 p.1.a n (Chn.chainIds L p.1.id) p.2.1 hcn h1 h2 (by omega) (by omega)
          rw [← ho] at oc
          obtain ⟨ids, hids⟩ : ∃ ids, objL L t n = ids := ⟨_, rfl⟩
          rw [hids] at oc hol hzs2
          clear ho hids hcn hcl hsl2 hsl3 hf
          have hvz : ∀ i : SV × SV × SV, VOf Tryz.prog 49 (planV i.1.1 i.2.1.1 i.2.2.1 p.1.a n) := fun i => vofPlan i.1.2 i.2.1.2 i.2.2.2 _ _
          repeat' (first | ((first | with_reducible refine nl_op rfl ?_ | refine nd_go rfl rfl rfl ?_); intro K hK; (first | ((first | refine on_E hF rfl rfl ?_ | refine od_E rfl rfl ?_ | refine od_R rfl rfl ?_); (first | refine ⟨_, a_yl, ?_⟩ | refine ⟨_, (by first | exact yl_fieldB (T := 33) (f := 0) (q := 0) rfl rfl (by kernel_rfl) | exact yl_fieldE (T := 33) (f := 0) (j := 0) rfl rfl a_sl a_om (by kernel_rfl) | exact yl_fieldB (T := 33) (f := 1) (q := 1) rfl rfl (by kernel_rfl) | exact yl_fieldE (T := 33) (f := 1) (j := 1) rfl rfl a_sl a_om (by kernel_rfl)), ?_⟩)) | ((first | refine on_Ec hF rfl rfl ?_ | refine od_Ec rfl rfl ?_); refine ⟨_, _, _, a_yc, ?_, ?_⟩ <;> (intro hc; try exact a_cut hc)) | ((first | (refine od_act a_nd ?_; intro K2 hK2) | refine od_last a_nd ?_ | skip); (first | (refine on_callG hF (enters_of Tryz.func25 (by kernel_rfl) rfl) rfl rfl rfl rfl (fx _ _ _ _ (by exact a_mem)) (fun i => ?_); have hvi := hvz i; refine nx_frzRow Pick.here (nx_frzRow Pick.here (nx_frzRow Pick.here ?_))) | (refine on_callG hF (enters_of Tryz.func26 (by kernel_rfl) rfl) rfl rfl rfl rfl (oc _ _ _ _ i (by exact a_mem) (by exact a_mem)) (fun u => ?_); obtain ⟨u, ua, un, uc, rfl⟩ := u; dsimp only; refine nx_len (e := 3) (k := 1) (xs := ids.map (.int .i64)) (i := un) (by exact a_mem) (fun hlen => ?_); subst hlen; refine nx_frzRow Pick.here ?_) | (refine on_alloc hF rfl Tryz.zeroValue25 rfl rfl (fun B => ?_)) | (refine on_alloc hF rfl Tryz.zeroValue33 rfl rfl (fun B => ?_)) | (refine on_alloc hF rfl Tryz.zeroValue36 rfl rfl (fun B => ?_)) | (refine on_alloc hF rfl Tryz.zeroValue49 rfl rfl (fun B => ?_)) | (refine on_box hF rfl rfl rfl rfl (fun B => ?_)) | (refine on_store hF rfl rfl rfl rfl a_turn a_vof a_sz ?_) | (refine on_storeE hF rfl rfl rfl rfl a_turn a_om a_vof a_sz ?_) | (refine on_storeEF hF rfl rfl rfl rfl a_turn a_as (by decide) a_vof rfl ?_) | (refine on_storeF hF rfl rfl rfl rfl a_turn (by decide) a_vof rfl ?_)) <;> try (refine hK2 _ _ _ a_allK ?_; clear hK2 K2))) <;> (refine hK _ _ _ ?_; clear hK K)) | with_reducible (first | refine nx_seq ?_ | refine nx_region ?_ | refine nl_nil ?_ | refine nq_then_n ?_ | refine nx_block ?_ | refine nx_skip ?_ | refine nx_exit ?_ | refine nx_ret ?_ | refine nq_then_x ?_ | refine nq_then_r ?_ | refine nq_blk_n ?_ | refine nq_blk_r ?_ | refine nq_blk_hit ?_ | refine nq_blk_miss rfl ?_ | refine nd_nil ?_) | refine nx_cond_t rfl ?_ | refine nx_cond_f rfl ?_ | refine nl_pass hF rfl rfl rfl ?_ | refine nd_pass rfl rfl rfl rfl rfl ?_ | refine nd_pass2 rfl rfl rfl a_nd a_allK rfl rfl ?_ | refine nd_pass3 rfl rfl rfl a_nd rfl rfl ?_ | (with_reducible refine hQ1 _ _ _ ?_; clear hQ1 Q1) )
          all_goals (try (exfalso; dsimp only at *; omega))
          rw [show Sc.upr z2 = Sc.upr (z2 ++ ids.take 0) from by simp]
          clear fx oc hvz
          refine nx_loop (ι := { k : Nat // k ≤ ids.length }) (fun k => [(2, ptr b2), (5, ptr b5), (9, .int .i64 t), (37, .slice va (ns.map (Value.int .i64)).length vc), (38, .int .i64 ((ns.map (Value.int .i64)).length : Int)), (39, .int .i64 (j : Int)), (53, .slice ua (ids.map (Value.int .i64)).length uc), (54, .int .i64 ((ids.map (Value.int .i64)).length : Int)), (55, .int .i64 (k.1 : Int))]) (fun _ => SlC 1 (.slice ua (ids.map (Value.int .i64)).length uc) (ids.map (.int .i64)) :: R') (fun k => OrdC bm (Sc.upr (z2 ++ ids.take k.1)) :: (C ++ E2)) (fun k => ids.length - k.1) ⟨0, Nat.zero_le _⟩ (by exact a_sub) (by exact a_subR) (by exact a_holds) (fun k => ?_)
          obtain ⟨k, hk⟩ := k
          dsimp only
          have hli : (ids.map (Value.int .i64)).length = ids.length := by simp
          by_cases hkn : k < ids.length
          · obtain ⟨y, hy⟩ : ∃ y, ids[k]? = some y := ⟨_, List.getElem?_eq_getElem hkn⟩
            have hyv : (ids.map (Value.int .i64))[k]? = some (.int .i64 y) := by rw [List.getElem?_map, hy]; rfl
            have hks : z2 ++ ids.take (k + 1) = (z2 ++ ids.take k) ++ [y] := by rw [(list_at hy).2, List.append_assoc]
            have hz3l : (z2 ++ ids.take k).length ≤ 1000000000 := by rw [List.length_append, List.length_take]; omega
            obtain ⟨z3, hz3⟩ : ∃ z3, z2 ++ ids.take k = z3 := ⟨_, rfl⟩
            rw [hz3] at hks hz3l ⊢
            clear hz3
            repeat' (first | ((first | with_reducible refine nl_op rfl ?_ | refine nd_go rfl rfl rfl ?_); intro K hK; (first | ((first | refine on_E hF rfl rfl ?_ | refine od_E rfl rfl ?_ | refine od_R rfl rfl ?_); (first | refine ⟨_, a_yl, ?_⟩ | refine ⟨_, (by first | exact yl_fieldB (T := 33) (f := 0) (q := 0) rfl rfl (by kernel_rfl) | exact yl_fieldE (T := 33) (f := 0) (j := 0) rfl rfl a_sl a_om (by kernel_rfl) | exact yl_fieldB (T := 33) (f := 1) (q := 1) rfl rfl (by kernel_rfl) | exact yl_fieldE (T := 33) (f := 1) (j := 1) rfl rfl a_sl a_om (by kernel_rfl)), ?_⟩)) | ((first | refine on_Ec hF rfl rfl ?_ | refine od_Ec rfl rfl ?_); refine ⟨_, _, _, a_yc, ?_, ?_⟩ <;> (intro hc; try exact a_cut hc)) | ((first | (refine od_act a_nd ?_; intro K2 hK2) | refine od_last a_nd ?_ | skip); (first | (refine on_callG hF (enters_of Tryz.func18 (by kernel_rfl) rfl) rfl rfl rfl rfl ((put_ct bm z3 y hz3l).pre (perm1 (by exact a_pick))) (fun _ => ?_); rw [← hks]) | (refine on_alloc hF rfl Tryz.zeroValue25 rfl rfl (fun B => ?_)) | (refine on_alloc hF rfl Tryz.zeroValue33 rfl rfl (fun B => ?_)) | (refine on_alloc hF rfl Tryz.zeroValue36 rfl rfl (fun B => ?_)) | (refine on_alloc hF rfl Tryz.zeroValue49 rfl rfl (fun B => ?_)) | (refine on_box hF rfl rfl rfl rfl (fun B => ?_)) | (refine on_store hF rfl rfl rfl rfl a_turn a_vof a_sz ?_) | (refine on_storeE hF rfl rfl rfl rfl a_turn a_om a_vof a_sz ?_) | (refine on_storeEF hF rfl rfl rfl rfl a_turn a_as (by decide) a_vof rfl ?_) | (refine on_storeF hF rfl rfl rfl rfl a_turn (by decide) a_vof rfl ?_)) <;> try (refine hK2 _ _ _ a_allK ?_; clear hK2 K2))) <;> (refine hK _ _ _ ?_; clear hK K)) | with_reducible (first | refine nx_seq ?_ | refine nx_region ?_ | refine nl_nil ?_ | refine nq_then_n ?_ | refine nx_block ?_ | refine nx_skip ?_ | refine nx_exit ?_ | refine nx_ret ?_ | refine nq_then_x ?_ | refine nq_then_r ?_ | refine nq_blk_n ?_ | refine nq_blk_r ?_ | refine nq_blk_hit ?_ | refine nq_blk_miss rfl ?_ | refine nd_nil ?_) | refine nx_cond_t rfl ?_ | refine nx_cond_f rfl ?_ | refine nl_pass hF rfl rfl rfl ?_ | refine nd_pass rfl rfl rfl rfl rfl ?_ | refine nd_pass2 rfl rfl rfl a_nd a_allK rfl rfl ?_ | refine nd_pass3 rfl rfl rfl a_nd rfl rfl ?_ | (with_reducible refine hQ1 _ _ _ ?_; clear hQ1 Q1) )
            all_goals (try (exfalso; dsimp only at *; omega))
            refine nx_again ⟨k + 1, by omega⟩ (by dsimp only; omega) (by exact a_sub) (by exact a_subR) (by exact a_holds)
          · rw [List.take_of_length_le (by omega), ← hzs2]
            repeat' (first | ((first | with_reducible refine nl_op rfl ?_ | refine nd_go rfl rfl rfl ?_); intro K hK; (first | ((first | refine on_E hF rfl rfl ?_ | refine od_E rfl rfl ?_ | refine od_R rfl rfl ?_); (first | refine ⟨_, a_yl, ?_⟩ | refine ⟨_, (by first | exact yl_fieldB (T := 33) (f := 0) (q := 0) rfl rfl (by kernel_rfl) | exact yl_fieldE (T := 33) (f := 0) (j := 0) rfl rfl a_sl a_om (by kernel_rfl) | exact yl_fieldB (T := 33) (f := 1) (q := 1) rfl rfl (by kernel_rfl) | exact yl_fieldE (T := 33) (f := 1) (j := 1) rfl rfl a_sl a_om (by kernel_rfl)), ?_⟩)) | ((first | refine on_Ec hF rfl rfl ?_ | refine od_Ec rfl rfl ?_); refine ⟨_, _, _, a_yc, ?_, ?_⟩ <;> (intro hc; try exact a_cut hc)) | ((first | (refine od_act a_nd ?_; intro K2 hK2) | refine od_last a_nd ?_ | skip); (first | (refine on_alloc hF rfl Tryz.zeroValue25 rfl rfl (fun B => ?_)) | (refine on_alloc hF rfl Tryz.zeroValue33 rfl rfl (fun B => ?_)) | (refine on_alloc hF rfl Tryz.zeroValue36 rfl rfl (fun B => ?_)) | (refine on_alloc hF rfl Tryz.zeroValue49 rfl rfl (fun B => ?_)) | (refine on_box hF rfl rfl rfl rfl (fun B => ?_)) | (refine on_store hF rfl rfl rfl rfl a_turn a_vof a_sz ?_) | (refine on_storeE hF rfl rfl rfl rfl a_turn a_om a_vof a_sz ?_) | (refine on_storeEF hF rfl rfl rfl rfl a_turn a_as (by decide) a_vof rfl ?_) | (refine on_storeF hF rfl rfl rfl rfl a_turn (by decide) a_vof rfl ?_)) <;> try (refine hK2 _ _ _ a_allK ?_; clear hK2 K2))) <;> (refine hK _ _ _ ?_; clear hK K)) | with_reducible (first | refine nx_seq ?_ | refine nx_region ?_ | refine nl_nil ?_ | refine nq_then_n ?_ | refine nx_block ?_ | refine nx_skip ?_ | refine nx_exit ?_ | refine nx_ret ?_ | refine nq_then_x ?_ | refine nq_then_r ?_ | refine nq_blk_n ?_ | refine nq_blk_r ?_ | refine nq_blk_hit ?_ | refine nq_blk_miss rfl ?_ | refine nd_nil ?_) | refine nx_cond_t rfl ?_ | refine nx_cond_f rfl ?_ | refine nl_pass hF rfl rfl rfl ?_ | refine nd_pass rfl rfl rfl rfl rfl ?_ | refine nd_pass2 rfl rfl rfl a_nd a_allK rfl rfl ?_ | refine nd_pass3 rfl rfl rfl a_nd rfl rfl ?_ | (with_reducible refine hQ1 _ _ _ ?_; clear hQ1 Q1) )
            all_goals (try (exfalso; dsimp only at *; omega))
            refine nx_again ⟨j + 1, by omega⟩ (by dsimp only; omega) (by exact a_sub) (by exact a_subR) (by exact a_holds)
      · rw [List.take_of_length_le (by omega), ← hsn]
        repeat' (first | ((first | with_reducible refine nl_op rfl ?_ | refine nd_go rfl rfl rfl ?_); intro K hK; (first | ((first | refine on_E hF rfl rfl ?_ | refine od_E rfl rfl ?_ | refine od_R rfl rfl ?_); (first | refine ⟨_, a_yl, ?_⟩ | refine ⟨_, (by first | exact yl_fieldB (T := 33) (f := 0) (q := 0) rfl rfl (by kernel_rfl) | exact yl_fieldE (T := 33) (f := 0) (j := 0) rfl rfl a_sl a_om (by kernel_rfl) | exact yl_fieldB (T := 33) (f := 1) (q := 1) rfl rfl (by kernel_rfl) | exact yl_fieldE (T := 33) (f := 1) (j := 1) rfl rfl a_sl a_om (by kernel_rfl)), ?_⟩)) | ((first | refine on_Ec hF rfl rfl ?_ | refine od_Ec rfl rfl ?_); refine ⟨_, _, _, a_yc, ?_, ?_⟩ <;> (intro hc; try exact a_cut hc)) | ((first | (refine od_act a_nd ?_; intro K2 hK2) | refine od_last a_nd ?_ | skip); (first | (refine on_alloc hF rfl Tryz.zeroValue25 rfl rfl (fun B => ?_)) | (refine on_alloc hF rfl Tryz.zeroValue33 rfl rfl (fun B => ?_)) | (refine on_alloc hF rfl Tryz.zeroValue36 rfl rfl (fun B => ?_)) | (refine on_alloc hF rfl Tryz.zeroValue49 rfl rfl (fun B => ?_)) | (refine on_box hF rfl rfl rfl rfl (fun B => ?_)) | (refine on_store hF rfl rfl rfl rfl a_turn a_vof a_sz ?_) | (refine on_storeE hF rfl rfl rfl rfl a_turn a_om a_vof a_sz ?_) | (refine on_storeEF hF rfl rfl rfl rfl a_turn a_as (by decide) a_vof rfl ?_) | (refine on_storeF hF rfl rfl rfl rfl a_turn (by decide) a_vof rfl ?_)) <;> try (refine hK2 _ _ _ a_allK ?_; clear hK2 K2))) <;> (refine hK _ _ _ ?_; clear hK K)) | with_reducible (first | refine nx_seq ?_ | refine nx_region ?_ | refine nl_nil ?_ | refine nq_then_n ?_ | refine nx_block ?_ | refine nx_skip ?_ | refine nx_exit ?_ | refine nx_ret ?_ | refine nq_then_x ?_ | refine nq_then_r ?_ | refine nq_blk_n ?_ | refine nq_blk_r ?_ | refine nq_blk_hit ?_ | refine nq_blk_miss rfl ?_ | refine nd_nil ?_) | refine nx_cond_t rfl ?_ | refine nx_cond_f rfl ?_ | refine nl_pass hF rfl rfl rfl ?_ | refine nd_pass rfl rfl rfl rfl rfl ?_ | refine nd_pass2 rfl rfl rfl a_nd a_allK rfl rfl ?_ | refine nd_pass3 rfl rfl rfl a_nd rfl rfl ?_ | (with_reducible refine hQ1 _ _ _ ?_; clear hQ1 Q1) )
        all_goals (try (exfalso; dsimp only at *; omega))
        exact rq_n () trivial (by exact a_subR) (by exact a_holds2)
    case done =>
      intro _ _ M
      rw [show ((allL L).map (Value.int .i64)).map (fun v => tObj L ns (vI v)) = (allL L).map (tObj L ns) by rw [List.map_map]; rfl]
      (try simp only [List.cons_append, List.nil_append])
      repeat' (first | ((first | with_reducible refine nl_op rfl ?_ | refine nd_go rfl rfl rfl ?_); intro K hK; (first | ((first | refine on_E hF rfl rfl ?_ | refine od_E rfl rfl ?_ | refine od_R rfl rfl ?_); (first | refine ⟨_, a_yl, ?_⟩ | refine ⟨_, (by first | exact yl_fieldB (T := 33) (f := 0) (q := 0) rfl rfl (by kernel_rfl) | exact yl_fieldE (T := 33) (f := 0) (j := 0) rfl rfl a_sl a_om (by kernel_rfl) | exact yl_fieldB (T := 33) (f := 1) (q := 1) rfl rfl (by kernel_rfl) | exact yl_fieldE (T := 33) (f := 1) (j := 1) rfl rfl a_sl a_om (by kernel_rfl)), ?_⟩)) | ((first | refine on_Ec hF rfl rfl ?_ | refine od_Ec rfl rfl ?_); refine ⟨_, _, _, a_yc, ?_, ?_⟩ <;> (intro hc; try exact a_cut hc)) | ((first | (refine od_act a_nd ?_; intro K2 hK2) | refine od_last a_nd ?_ | skip); (first | (refine on_alloc hF rfl Tryz.zeroValue25 rfl rfl (fun B => ?_)) | (refine on_alloc hF rfl Tryz.zeroValue33 rfl rfl (fun B => ?_)) | (refine on_alloc hF rfl Tryz.zeroValue36 rfl rfl (fun B => ?_)) | (refine on_alloc hF rfl Tryz.zeroValue49 rfl rfl (fun B => ?_)) | (refine on_box hF rfl rfl rfl rfl (fun B => ?_)) | (refine on_store hF rfl rfl rfl rfl a_turn a_vof a_sz ?_) | (refine on_storeE hF rfl rfl rfl rfl a_turn a_om a_vof a_sz ?_) | (refine on_storeEF hF rfl rfl rfl rfl a_turn a_as (by decide) a_vof rfl ?_) | (refine on_storeF hF rfl rfl rfl rfl a_turn (by decide) a_vof rfl ?_)) <;> try (refine hK2 _ _ _ a_allK ?_; clear hK2 K2))) <;> (refine hK _ _ _ ?_; clear hK K)) | with_reducible (first | refine nx_seq ?_ | refine nx_region ?_ | refine nl_nil ?_ | refine nq_then_n ?_ | refine nx_block ?_ | refine nx_skip ?_ | refine nx_exit ?_ | refine nx_ret ?_ | refine nq_then_x ?_ | refine nq_then_r ?_ | refine nq_blk_n ?_ | refine nq_blk_r ?_ | refine nq_blk_hit ?_ | refine nq_blk_miss rfl ?_ | refine nd_nil ?_) | refine nx_cond_t rfl ?_ | refine nx_cond_f rfl ?_ | refine nl_pass hF rfl rfl rfl ?_ | refine nd_pass rfl rfl rfl rfl rfl ?_ | refine nd_pass2 rfl rfl rfl a_nd a_allK rfl rfl ?_ | refine nd_pass3 rfl rfl rfl a_nd rfl rfl ?_ | (with_reducible refine hQ1 _ _ _ ?_; clear hQ1 Q1) )
      refine nx_end [M] rfl bm (fun a w ha hw => res_tmp Tryz.results12 rfl ha) (by exact a_subR) (by exact a_holds2)
    case stop =>
      intro pre x post hx j _ h
      exact h.elim
end Pr
end Go.Proofs.YtinofjenoapeaaaGreat
end
section
namespace Go.Proofs.YtinofjenoapeaaaGreat
open Go.RowKit Go.Shelf
set_option linter.unusedSimpArgs false
set_option linter.unusedVariables false
namespace Pr
open Go.Proofs.YtinofjenoapeaaaGreat.Ord Pl Li
variable {W0 : World} {X : Nat → Prop} {R C : List Ch}
/-- The Ids that are wanted, rising. -/
def wantL (L : List It2) (c : Int) : List Int := Sc.upr (wantZ L c)
def notIn (ks : List Int) (x : It2) : Bool := !decide (x.id ∈ ks)
def restL (L : List It2) (c : Int) : List Int := Sc.upr ((L.filter (notIn (wantL L c))).map It2.id)
set_option maxRecDepth 100000 in
theorem wantZ_len (L : List It2) (c : Int) (hm : L.length ≤ 20) : (wantZ L c).length ≤ 1400000 := by
  have h1 := flat_len (tObj L (placesL L c)) (126 * 461) (fun t => by
    have h2 := tObj_len L (placesL L c) t hm
    have h4 := placesL_len L c
    have h3 : (placesL L c).length * 461 ≤ 126 * 461 := Nat.mul_le_mul_right _ (by omega)
    omega) (allL L)
  have h5 := all_len L
  have h4 : (allL L).length * (126 * 461) ≤ 21 * (126 * 461) := Nat.mul_le_mul_right _ (by omega)
  have h6 := lineIds_len L
  unfold wantZ
  rw [List.length_append]
  omega
theorem wantL_len (L : List It2) (c : Int) (hm : L.length ≤ 20) : (wantL L c).length ≤ 1400000 := Nat.le_trans (Sc.upr_len _) (wantZ_len L c hm)
theorem rest1_ct (b5 bm : Nat) (ks : List Int) (hks : ks.Pairwise (· < ·)) (hm : ks.length ≤ 4000000000) (x : It2) (hx : x.ok) (hb : BoxC b5 36 (ptr bm) ∈ R) (ho : OrdC bm ks ∈ R) : Ct Tryz.prog 16 [x.v, ptr b5] W0 X R C Unit (fun _ => .bool (notIn ks x)) (fun _ => R) (fun _ => C) := by
  intro w hw
  have hF := isWide_wide
  have hvx := x.vof hx
  have gc := fun (W0 : World) (X : Nat → Prop) (R C : List Ch) h => get_ct (W0 := W0) (X := X) (R := R) (C := C) bm ks hks x.id h hm
  unfold notIn
  obtain ⟨b, hbb⟩ : ∃ b, decide (x.id ∈ ks) = b := ⟨_, rfl⟩
  rw [hbb] at gc ⊢
  clear hbb
  cases b with
  | true =>
    refine calls_nx Tryz.func16 rfl Tryz.ntmps16 rfl ?_ hw
    repeat' (first | ((first | with_reducible refine nl_op rfl ?_ | refine nd_go rfl rfl rfl ?_); intro K hK; (first | ((first | refine on_E hF rfl rfl ?_ | refine od_E rfl rfl ?_ | refine od_R rfl rfl ?_); (first | refine ⟨_, a_yl, ?_⟩ | refine ⟨_, (by first | exact yl_fieldB (T := 33) (f := 0) (q := 0) rfl rfl (by kernel_rfl) | exact yl_fieldE (T := 33) (f := 0) (j := 0) rfl rfl a_sl a_om (by kernel_rfl)), ?_⟩)) | ((first | refine on_Ec hF rfl rfl ?_ | refine od_Ec rfl rfl ?_); refine ⟨_, _, _, a_yc, ?_, ?_⟩ <;> (intro hc; try exact a_cut hc)) | ((first | (refine od_act a_nd ?_; intro K2 hK2) | refine od_last a_nd ?_ | skip); (first | (refine on_callG hF (enters_of Tryz.func17 (by kernel_rfl) rfl) rfl rfl rfl rfl (gc _ _ _ _ (by exact a_mem)) (fun _ => ?_)) | (refine on_box hF rfl rfl rfl rfl (fun B => ?_)) | (refine on_store hF rfl rfl rfl rfl a_turn a_vof a_sz ?_) | (refine on_storeE hF rfl rfl rfl rfl a_turn a_om a_vof a_sz ?_) | (refine on_storeEF hF rfl rfl rfl rfl a_turn a_as (by decide) a_vof rfl ?_) | (refine on_storeF hF rfl rfl rfl rfl a_turn (by decide) a_vof rfl ?_)) <;> try (refine hK2 _ _ _ a_allK ?_; clear hK2 K2))) <;> (refine hK _ _ _ ?_; clear hK K)) | with_reducible (first | refine nx_seq ?_ | refine nx_region ?_ | refine nl_nil ?_ | refine nq_then_n ?_ | refine nx_block ?_ | refine nx_skip ?_ | refine nx_exit ?_ | refine nx_ret ?_ | refine nq_then_x ?_ | refine nq_then_r ?_ | refine nq_blk_n ?_ | refine nq_blk_r ?_ | refine nq_blk_hit ?_ | refine nq_blk_miss rfl ?_ | refine nd_nil ?_) | refine nx_cond_t rfl ?_ | refine nx_cond_f rfl ?_ | refine nl_pass hF rfl rfl rfl ?_ | refine nd_pass rfl rfl rfl rfl rfl ?_ | refine nd_pass2 rfl rfl rfl a_nd a_allK rfl rfl ?_ | refine nd_pass3 rfl rfl rfl a_nd rfl rfl ?_ | (with_reducible refine hQ1 _ _ _ ?_; clear hQ1 Q1) )
    refine nx_end [] rfl () (fun a w ha hw => res_tmp Tryz.results16 rfl ha) (by exact a_subR) (by exact a_holds2)
  | false =>
    refine calls_nx Tryz.func16 rfl Tryz.ntmps16 rfl ?_ hw
    repeat' (first | ((first | with_reducible refine nl_op rfl ?_ | refine nd_go rfl rfl rfl ?_); intro K hK; (first | ((first | refine on_E hF rfl rfl ?_ | refine od_E rfl rfl ?_ | refine od_R rfl rfl ?_); (first | refine ⟨_, a_yl, ?_⟩ | refine ⟨_, (by first | exact yl_fieldB (T := 33) (f := 0) (q := 0) rfl rfl (by kernel_rfl) | exact yl_fieldE (T := 33) (f := 0) (j := 0) rfl rfl a_sl a_om (by kernel_rfl)), ?_⟩)) | ((first | refine on_Ec hF rfl rfl ?_ | refine od_Ec rfl rfl ?_); refine ⟨_, _, _, a_yc, ?_, ?_⟩ <;> (intro hc; try exact a_cut hc)) | ((first | (refine od_act a_nd ?_; intro K2 hK2) | refine od_last a_nd ?_ | skip); (first | (refine on_callG hF (enters_of Tryz.func17 (by kernel_rfl) rfl) rfl rfl rfl rfl (gc _ _ _ _ (by exact a_mem)) (fun _ => ?_)) | (refine on_box hF rfl rfl rfl rfl (fun B => ?_)) | (refine on_store hF rfl rfl rfl rfl a_turn a_vof a_sz ?_) | (refine on_storeE hF rfl rfl rfl rfl a_turn a_om a_vof a_sz ?_) | (refine on_storeEF hF rfl rfl rfl rfl a_turn a_as (by decide) a_vof rfl ?_) | (refine on_storeF hF rfl rfl rfl rfl a_turn (by decide) a_vof rfl ?_)) <;> try (refine hK2 _ _ _ a_allK ?_; clear hK2 K2))) <;> (refine hK _ _ _ ?_; clear hK K)) | with_reducible (first | refine nx_seq ?_ | refine nx_region ?_ | refine nl_nil ?_ | refine nq_then_n ?_ | refine nx_block ?_ | refine nx_skip ?_ | refine nx_exit ?_ | refine nx_ret ?_ | refine nq_then_x ?_ | refine nq_then_r ?_ | refine nq_blk_n ?_ | refine nq_blk_r ?_ | refine nq_blk_hit ?_ | refine nq_blk_miss rfl ?_ | refine nd_nil ?_) | refine nx_cond_t rfl ?_ | refine nx_cond_f rfl ?_ | refine nl_pass hF rfl rfl rfl ?_ | refine nd_pass rfl rfl rfl rfl rfl ?_ | refine nd_pass2 rfl rfl rfl a_nd a_allK rfl rfl ?_ | refine nd_pass3 rfl rfl rfl a_nd rfl rfl ?_ | (with_reducible refine hQ1 _ _ _ ?_; clear hQ1 Q1) )
    refine nx_end [] rfl () (fun a w ha hw => res_tmp Tryz.results16 rfl ha) (by exact a_subR) (by exact a_holds2)
theorem rest1_pred (L : List It2) (hok : ∀ x ∈ L, x.ok) (b5 bm : Nat) (ks : List Int) (hks : ks.Pairwise (· < ·)) (hm : ks.length ≤ 4000000000) : PredS Tryz.prog (L.map It2.v) (fun v => notIn ks (toIt2 v)) (.func (.func 16) #[] #[ptr b5]) [BoxC b5 36 (ptr bm), OrdC bm ks] := ⟨16, [ptr b5], rfl, (enters_of Tryz.func16 (by kernel_rfl) rfl), fun W0 X R C hR x hx => by
  obtain ⟨y, hy, rfl⟩ := List.mem_map.1 hx
  exact rest1_ct b5 bm ks hks hm y (hok y hy) (hR _ (by simp)) (hR _ (by simp))⟩
theorem keepRest_it (b0 b1 : Nat) (s f : Value) (ks : List Int) (L : List It2) (hok : ∀ x ∈ L, x.ok) (RS RF : List Ch) (hs : ItN Tryz.prog (L.map It2.v) s RS) (hf : PredN Tryz.prog (L.map It2.v) (fun v => notIn ks (toIt2 v)) f RF) :
    It Tryz.prog ((L.filter (notIn ks)).map It2.v) (.func (.func 27) #[] #[ptr b0, ptr b1]) (BoxC b1 45 f :: BoxC b0 40 s :: (RS ++ RF)) := by
  have h := NItem.keep_it b0 b1 s f (L.map It2.v) _ RS RF hs hf (vofs_it2 L hok)
  rw [filter_it2 L (notIn ks)] at h
  exact h
theorem want_ct (s : Value) (hs : IsSl s) (L : List It2) (hok : ∀ x ∈ L, x.ok) (c : Int) (hc : -1099511627776 ≤ c ∧ c ≤ 1099511627776) (hr : ∀ x ∈ L, 0 ≤ x.a ∧ x.a ≤ 1099511627776 ∧ 0 ≤ x.b ∧ x.b ≤ 1099511627776) (htl : ∀ x ∈ L, x.tl ≤ 1099511627776) (hsl : SlC 9 s (L.map It2.v) ∈ R) (hm : L.length ≤ 20) :
    Ct Tryz.prog 8 [s, .int .i64 c] W0 X R C SV (fun v => v.1) (fun _ => R) (fun v => RowC 3 1 v.1 ((wantL L c).map (.int .i64)) :: C) := by
  intro w hw
  have hF := isWide_wide
  have wc := fun (W0 : World) (X : Nat → Prop) (R C : List Ch) h => wanted_ct (W0 := W0) (X := X) (R := R) (C := C) s hs L hok c hc hr htl h hm
  have hwl := wantL_len L c hm
  rw [show Sc.upr (wantZ L c) = wantL L c from rfl] at wc
  obtain ⟨ks, hks⟩ : ∃ ks, wantL L c = ks := ⟨_, rfl⟩
  rw [hks] at wc hwl ⊢
  refine calls_nx Tryz.func8 rfl Tryz.ntmps8 rfl ?_ hw
  repeat' (first | ((first | with_reducible refine nl_op rfl ?_ | refine nd_go rfl rfl rfl ?_); intro K hK; (first | ((first | refine on_E hF rfl rfl ?_ | refine od_E rfl rfl ?_ | refine od_R rfl rfl ?_); (first | refine ⟨_, a_yl, ?_⟩)) | ((first | refine on_Ec hF rfl rfl ?_ | refine od_Ec rfl rfl ?_); refine ⟨_, _, _, a_yc, ?_, ?_⟩ <;> (intro hc; try exact a_cut hc)) | ((first | (refine od_act a_nd ?_; intro K2 hK2) | refine od_last a_nd ?_ | skip); (first | (refine on_callG hF (enters_of Tryz.func12 (by kernel_rfl) rfl) rfl rfl rfl rfl (wc _ _ _ _ (by exact a_mem)) (fun bm => ?_); refine nx_frz (OrdC bm ks) Pick.here ?_) | (refine on_callG (vs := [ptr bm]) hF (enters_of Tryz.func11 (by kernel_rfl) rfl) rfl rfl rfl rfl (keys_ct bm ks (by exact a_mem) (by omega)) (fun v => ?_)) | (refine on_box hF rfl rfl rfl rfl (fun B => ?_)) | (refine on_store hF rfl rfl rfl rfl a_turn a_vof a_sz ?_) | (refine on_storeE hF rfl rfl rfl rfl a_turn a_om a_vof a_sz ?_) | (refine on_storeEF hF rfl rfl rfl rfl a_turn a_as (by decide) a_vof rfl ?_) | (refine on_storeF hF rfl rfl rfl rfl a_turn (by decide) a_vof rfl ?_)) <;> try (refine hK2 _ _ _ a_allK ?_; clear hK2 K2))) <;> (refine hK _ _ _ ?_; clear hK K)) | with_reducible (first | refine nx_seq ?_ | refine nx_region ?_ | refine nl_nil ?_ | refine nq_then_n ?_ | refine nx_block ?_ | refine nx_skip ?_ | refine nx_exit ?_ | refine nx_ret ?_ | refine nq_then_x ?_ | refine nq_then_r ?_ | refine nq_blk_n ?_ | refine nq_blk_r ?_ | refine nq_blk_hit ?_ | refine nq_blk_miss rfl ?_ | refine nd_nil ?_) | refine nx_cond_t rfl ?_ | refine nx_cond_f rfl ?_ | refine nl_pass hF rfl rfl rfl ?_ | refine nd_pass rfl rfl rfl rfl rfl ?_ | refine nd_pass2 rfl rfl rfl a_nd a_allK rfl rfl ?_ | refine nd_pass3 rfl rfl rfl a_nd rfl rfl ?_ | (with_reducible refine hQ1 _ _ _ ?_; clear hQ1 Q1) )
  refine nx_end [] rfl v (fun a w ha hw => res_tmp Tryz.results8 rfl ha) (by exact a_subR) (by exact a_holds2)
set_option maxRecDepth 100000 in
set_option maxHeartbeats 4000000 in
theorem rest_ct (s : Value) (hs : IsSl s) (L : List It2) (hok : ∀ x ∈ L, x.ok) (c : Int) (hc : -1099511627776 ≤ c ∧ c ≤ 1099511627776) (hr : ∀ x ∈ L, 0 ≤ x.a ∧ x.a ≤ 1099511627776 ∧ 0 ≤ x.b ∧ x.b ≤ 1099511627776) (htl : ∀ x ∈ L, x.tl ≤ 1099511627776) (hsl : SlC 9 s (L.map It2.v) ∈ R) (hm : L.length ≤ 20) :
    Ct Tryz.prog 9 [s, .int .i64 c] W0 X R C SV (fun v => v.1) (fun _ => R) (fun v => RowC 3 1 v.1 ((restL L c).map (.int .i64)) :: C) := by
  intro w hw
  have hF := isWide_wide
  have hml : (L.map It2.v).length * 88 ≤ 140737488355328 := by simp; omega
  have hmx : (L.map It2.v).length ≤ maxLen := by unfold maxLen; simp; omega
  have wc := fun (W0 : World) (X : Nat → Prop) (R C : List Ch) h => wanted_ct (W0 := W0) (X := X) (R := R) (C := C) s hs L hok c hc hr htl h hm
  have hwl := wantL_len L c hm
  have hks2 : (wantL L c).Pairwise (· < ·) := Sc.upr_lt _
  rw [show Sc.upr (wantZ L c) = wantL L c from rfl] at wc
  unfold restL
  obtain ⟨ks, hks⟩ : ∃ ks, wantL L c = ks := ⟨_, rfl⟩
  rw [hks] at wc hwl hks2 ⊢
  clear hks
  have hfl := List.length_filter_le (notIn ks) L
  refine calls_nx Tryz.func9 rfl Tryz.ntmps9 rfl ?_ hw
  repeat' (first | ((first | with_reducible refine nl_op rfl ?_ | refine nd_go rfl rfl rfl ?_); intro K hK; (first | ((first | refine on_E hF rfl rfl ?_ | refine od_E rfl rfl ?_ | refine od_R rfl rfl ?_); (first | refine ⟨_, a_yl, ?_⟩ | refine ⟨_, (by first | exact yl_fieldB (T := 33) (f := 0) (q := 0) rfl rfl (by kernel_rfl) | exact yl_fieldE (T := 33) (f := 0) (j := 0) rfl rfl a_sl a_om (by kernel_rfl)), ?_⟩)) | ((first | refine on_Ec hF rfl rfl ?_ | refine od_Ec rfl rfl ?_); refine ⟨_, _, _, a_yc, ?_, ?_⟩ <;> (intro hc; try exact a_cut hc)) | ((first | (refine od_act a_nd ?_; intro K2 hK2) | refine od_last a_nd ?_ | skip); (first | (refine on_callG hF (enters_of Tryz.func12 (by kernel_rfl) rfl) rfl rfl rfl rfl (wc _ _ _ _ (by exact a_mem)) (fun bm => ?_); refine nx_frz (OrdC bm ks) Pick.here ?_) | (refine on_callG hF (enters_of Tryz.func13 (by kernel_rfl) rfl) rfl rfl rfl rfl new_ct (fun bn => ?_)) | (refine on_alloc hF rfl Tryz.zeroValue33 rfl rfl (fun B => ?_)) | (refine on_alloc hF rfl Tryz.zeroValue36 rfl rfl (fun B => ?_)) | (refine on_box hF rfl rfl rfl rfl (fun B => ?_)) | (refine on_store hF rfl rfl rfl rfl a_turn a_vof a_sz ?_) | (refine on_storeE hF rfl rfl rfl rfl a_turn a_om a_vof a_sz ?_) | (refine on_storeEF hF rfl rfl rfl rfl a_turn a_as (by decide) a_vof rfl ?_) | (refine on_storeF hF rfl rfl rfl rfl a_turn (by decide) a_vof rfl ?_)) <;> try (refine hK2 _ _ _ a_allK ?_; clear hK2 K2))) <;> (refine hK _ _ _ ?_; clear hK K)) | with_reducible (first | refine nx_seq ?_ | refine nx_region ?_ | refine nl_nil ?_ | refine nq_then_n ?_ | refine nx_block ?_ | refine nx_skip ?_ | refine nx_exit ?_ | refine nx_ret ?_ | refine nq_then_x ?_ | refine nq_then_r ?_ | refine nq_blk_n ?_ | refine nq_blk_r ?_ | refine nq_blk_hit ?_ | refine nq_blk_miss rfl ?_ | refine nd_nil ?_) | refine nx_cond_t rfl ?_ | refine nx_cond_f rfl ?_ | refine nl_pass hF rfl rfl rfl ?_ | refine nd_pass rfl rfl rfl rfl rfl ?_ | refine nd_pass2 rfl rfl rfl a_nd a_allK rfl rfl ?_ | refine nd_pass3 rfl rfl rfl a_nd rfl rfl ?_ | (with_reducible refine hQ1 _ _ _ ?_; clear hQ1 Q1) )
  rename_i b5
  obtain ⟨b6, hb6⟩ : ∃ b6, b6 = B := ⟨_, rfl⟩
  subst hb6
  refine nx_frz (BoxC b5 36 (ptr bm)) (by exact a_pick) ?_
  refine nx_frz (BoxC b6 36 (ptr bn)) (by exact a_pick) ?_
  repeat' (first | ((first | with_reducible refine nl_op rfl ?_ | refine nd_go rfl rfl rfl ?_); intro K hK; (first | ((first | refine on_E hF rfl rfl ?_ | refine od_E rfl rfl ?_ | refine od_R rfl rfl ?_); (first | refine ⟨_, a_yl, ?_⟩ | refine ⟨_, (by first | exact yl_fieldB (T := 33) (f := 0) (q := 0) rfl rfl (by kernel_rfl) | exact yl_fieldE (T := 33) (f := 0) (j := 0) rfl rfl a_sl a_om (by kernel_rfl)), ?_⟩)) | ((first | refine on_Ec hF rfl rfl ?_ | refine od_Ec rfl rfl ?_); refine ⟨_, _, _, a_yc, ?_, ?_⟩ <;> (intro hc; try exact a_cut hc)) | ((first | (refine od_act a_nd ?_; intro K2 hK2) | refine od_last a_nd ?_ | skip); (first | (refine on_callG hF (enters_of Tryz.func15 (by kernel_rfl) rfl) rfl rfl rfl rfl (NItem.of_ct s (L.map It2.v) (by exact a_mem) hs (vofs_it2 L hok) hml) (fun j => ?_)) | (refine on_callG hF (enters_of Tryz.func14 (by kernel_rfl) rfl) rfl rfl rfl rfl (NItem.keep_ct _ _ rfl rfl) (fun k => ?_)) | (refine on_alloc hF rfl Tryz.zeroValue33 rfl rfl (fun B => ?_)) | (refine on_alloc hF rfl Tryz.zeroValue36 rfl rfl (fun B => ?_)) | (refine on_box hF rfl rfl rfl rfl (fun B => ?_)) | (refine on_store hF rfl rfl rfl rfl a_turn a_vof a_sz ?_) | (refine on_storeE hF rfl rfl rfl rfl a_turn a_om a_vof a_sz ?_) | (refine on_storeEF hF rfl rfl rfl rfl a_turn a_as (by decide) a_vof rfl ?_) | (refine on_storeF hF rfl rfl rfl rfl a_turn (by decide) a_vof rfl ?_)) <;> try (refine hK2 _ _ _ a_allK ?_; clear hK2 K2))) <;> (refine hK _ _ _ ?_; clear hK K)) | with_reducible (first | refine nx_seq ?_ | refine nx_region ?_ | refine nl_nil ?_ | refine nq_then_n ?_ | refine nx_block ?_ | refine nx_skip ?_ | refine nx_exit ?_ | refine nx_ret ?_ | refine nq_then_x ?_ | refine nq_then_r ?_ | refine nq_blk_n ?_ | refine nq_blk_r ?_ | refine nq_blk_hit ?_ | refine nq_blk_miss rfl ?_ | refine nd_nil ?_) | refine nx_cond_t rfl ?_ | refine nx_cond_f rfl ?_ | refine nl_pass hF rfl rfl rfl ?_ | refine nd_pass rfl rfl rfl rfl rfl ?_ | refine nd_pass2 rfl rfl rfl a_nd a_allK rfl rfl ?_ | refine nd_pass3 rfl rfl rfl a_nd rfl rfl ?_ | (with_reducible refine hQ1 _ _ _ ?_; clear hQ1 Q1) )
  refine nx_lk (l' := [(6, ptr b6), (15, .func (.func 27) #[] #[ptr k.1, ptr k.2])]) (by exact a_sub) ?_
  rw [show ([] : List Int) = Sc.upr [] from (upr_nil).symm]
  refine nx_range hF rfl rfl (keepRest_it k.1 k.2 _ _ ks L hok _ _ (NItem.of_it j _ (vofs_it2 L hok) hmx).n (rest1_pred L hok b5 bm ks hks2 (by omega)).n) (by exact a_subR) (by rfl) (fun x vs h => by rw [h]; rfl) (fun _ (_ : Unit) => True) (fun pre _ => OrdC bn (Sc.upr (pre.map fun v => (toIt2 v).id)) :: C) (fun _ _ (_ : Unit) => False) (fun _ _ _ => []) () trivial (by simp only [List.map_nil]; exact a_holds2) ?round ?done ?stop
  case round =>
    rintro lp pre x post hx vs rfl _ _ W1 X1 R' hR' E1 K HK
    have hF := isWide_wide.inRound lp
    have hmem : x ∈ (L.filter (notIn ks)).map It2.v := by rw [hx]; simp
    obtain ⟨y, hy, rfl⟩ := List.mem_map.1 hmem
    have hyo := hok y (List.mem_filter.1 hy).1
    have hvx := y.vof hyo
    have hl : pre.length + 1 ≤ L.length := by
      have h1 := congrArg List.length hx
      simp at h1; omega
    have hb6 : BoxC b6 36 (ptr bn) ∈ R' := hR' _ (by exact a_mem)
    obtain ⟨zs, hzs⟩ : ∃ zs, (pre.map fun v => (toIt2 v).id) = zs := ⟨_, rfl⟩
    have hzl : zs.length ≤ 1000 := by rw [← hzs]; simp; omega
    have hsn : ((pre ++ [y.v]).map fun v => (toIt2 v).id) = zs ++ [y.id] := by rw [← hzs]; simp
    rw [hzs]
    clear hR' hx wc
    (try simp only [List.cons_append, List.nil_append])
    repeat' (first | ((first | with_reducible refine nl_op rfl ?_ | refine nd_go rfl rfl rfl ?_); intro K hK; (first | ((first | refine on_E hF rfl rfl ?_ | refine od_E rfl rfl ?_ | refine od_R rfl rfl ?_); (first | refine ⟨_, a_yl, ?_⟩ | refine ⟨_, (by first | exact yl_fieldB (T := 33) (f := 0) (q := 0) rfl rfl (by kernel_rfl) | exact yl_fieldE (T := 33) (f := 0) (j := 0) rfl rfl a_sl a_om (by kernel_rfl)), ?_⟩)) | ((first | refine on_Ec hF rfl rfl ?_ | refine od_Ec rfl rfl ?_); refine ⟨_, _, _, a_yc, ?_, ?_⟩ <;> (intro hc; try exact a_cut hc)) | ((first | (refine od_act a_nd ?_; intro K2 hK2) | refine od_last a_nd ?_ | skip); (first | (refine on_alloc hF rfl Tryz.zeroValue33 rfl rfl (fun B => ?_)) | (refine on_alloc hF rfl Tryz.zeroValue36 rfl rfl (fun B => ?_)) | (refine on_box hF rfl rfl rfl rfl (fun B => ?_)) | (refine on_store hF rfl rfl rfl rfl a_turn a_vof a_sz ?_) | (refine on_storeE hF rfl rfl rfl rfl a_turn a_om a_vof a_sz ?_) | (refine on_storeEF hF rfl rfl rfl rfl a_turn a_as (by decide) a_vof rfl ?_) | (refine on_storeF hF rfl rfl rfl rfl a_turn (by decide) a_vof rfl ?_)) <;> try (refine hK2 _ _ _ a_allK ?_; clear hK2 K2))) <;> (refine hK _ _ _ ?_; clear hK K)) | with_reducible (first | refine nx_seq ?_ | refine nx_region ?_ | refine nl_nil ?_ | refine nq_then_n ?_ | refine nx_block ?_ | refine nx_skip ?_ | refine nx_exit ?_ | refine nx_ret ?_ | refine nq_then_x ?_ | refine nq_then_r ?_ | refine nq_blk_n ?_ | refine nq_blk_r ?_ | refine nq_blk_hit ?_ | refine nq_blk_miss rfl ?_ | refine nd_nil ?_) | refine nx_cond_t rfl ?_ | refine nx_cond_f rfl ?_ | refine nl_pass hF rfl rfl rfl ?_ | refine nd_pass rfl rfl rfl rfl rfl ?_ | refine nd_pass2 rfl rfl rfl a_nd a_allK rfl rfl ?_ | refine nd_pass3 rfl rfl rfl a_nd rfl rfl ?_ | (with_reducible refine hQ1 _ _ _ ?_; clear hQ1 Q1) )
    refine nx_frz (BoxC _ _ y.v) Pick.here ?_
    refine HK _ _ (OrdC bn (Sc.upr zs) :: C) _ (by exact a_subR) (by exact a_holds2) (fun E2 => ?_)
    clear HK K
    (try simp only [List.cons_append, List.nil_append])
    repeat' (first | ((first | with_reducible refine nl_op rfl ?_ | refine nd_go rfl rfl rfl ?_); intro K hK; (first | ((first | refine on_E hF rfl rfl ?_ | refine od_E rfl rfl ?_ | refine od_R rfl rfl ?_); (first | refine ⟨_, a_yl, ?_⟩ | refine ⟨_, (by first | exact yl_fieldB (T := 33) (f := 0) (q := 0) rfl rfl (by kernel_rfl) | exact yl_fieldE (T := 33) (f := 0) (j := 0) rfl rfl a_sl a_om (by kernel_rfl)), ?_⟩)) | ((first | refine on_Ec hF rfl rfl ?_ | refine od_Ec rfl rfl ?_); refine ⟨_, _, _, a_yc, ?_, ?_⟩ <;> (intro hc; try exact a_cut hc)) | ((first | (refine od_act a_nd ?_; intro K2 hK2) | refine od_last a_nd ?_ | skip); (first | (refine on_callG hF (enters_of Tryz.func18 (by kernel_rfl) rfl) rfl rfl rfl rfl ((put_ct bn zs y.id (by omega)).pre (perm1 (by exact a_pick))) (fun _ => ?_)) | (refine on_alloc hF rfl Tryz.zeroValue33 rfl rfl (fun B => ?_)) | (refine on_alloc hF rfl Tryz.zeroValue36 rfl rfl (fun B => ?_)) | (refine on_box hF rfl rfl rfl rfl (fun B => ?_)) | (refine on_store hF rfl rfl rfl rfl a_turn a_vof a_sz ?_) | (refine on_storeE hF rfl rfl rfl rfl a_turn a_om a_vof a_sz ?_) | (refine on_storeEF hF rfl rfl rfl rfl a_turn a_as (by decide) a_vof rfl ?_) | (refine on_storeF hF rfl rfl rfl rfl a_turn (by decide) a_vof rfl ?_)) <;> try (refine hK2 _ _ _ a_allK ?_; clear hK2 K2))) <;> (refine hK _ _ _ ?_; clear hK K)) | with_reducible (first | refine nx_seq ?_ | refine nx_region ?_ | refine nl_nil ?_ | refine nq_then_n ?_ | refine nx_block ?_ | refine nx_skip ?_ | refine nx_exit ?_ | refine nx_ret ?_ | refine nq_then_x ?_ | refine nq_then_r ?_ | refine nq_blk_n ?_ | refine nq_blk_r ?_ | refine nq_blk_hit ?_ | refine nq_blk_miss rfl ?_ | refine nd_nil ?_) | refine nx_cond_t rfl ?_ | refine nx_cond_f rfl ?_ | refine nl_pass hF rfl rfl rfl ?_ | refine nd_pass rfl rfl rfl rfl rfl ?_ | refine nd_pass2 rfl rfl rfl a_nd a_allK rfl rfl ?_ | refine nd_pass3 rfl rfl rfl a_nd rfl rfl ?_ | (with_reducible refine hQ1 _ _ _ ?_; clear hQ1 Q1) )
    exact rq_n () trivial (by exact a_subR) (by rw [hsn]; exact a_holds2)
  case done =>
    intro _ _ M
    have hz : ((L.filter (notIn ks)).map It2.v).map (fun v => (toIt2 v).id) = (L.filter (notIn ks)).map It2.id := by rw [List.map_map]; rfl
    rw [hz]
    have hul := Sc.upr_len ((L.filter (notIn ks)).map It2.id)
    rw [List.length_map] at hul
    obtain ⟨rs, hrs⟩ : ∃ rs, Sc.upr ((L.filter (notIn ks)).map It2.id) = rs := ⟨_, rfl⟩
    rw [hrs] at hul ⊢
    (try simp only [List.cons_append, List.nil_append])
    refine nx_frz (OrdC bn rs) (by exact a_pick) ?_
    repeat' (first | ((first | with_reducible refine nl_op rfl ?_ | refine nd_go rfl rfl rfl ?_); intro K hK; (first | ((first | refine on_E hF rfl rfl ?_ | refine od_E rfl rfl ?_ | refine od_R rfl rfl ?_); (first | refine ⟨_, a_yl, ?_⟩ | refine ⟨_, (by first | exact yl_fieldB (T := 33) (f := 0) (q := 0) rfl rfl (by kernel_rfl) | exact yl_fieldE (T := 33) (f := 0) (j := 0) rfl rfl a_sl a_om (by kernel_rfl)), ?_⟩)) | ((first | refine on_Ec hF rfl rfl ?_ | refine od_Ec rfl rfl ?_); refine ⟨_, _, _, a_yc, ?_, ?_⟩ <;> (intro hc; try exact a_cut hc)) | ((first | (refine od_act a_nd ?_; intro K2 hK2) | refine od_last a_nd ?_ | skip); (first | (refine on_callG (vs := [ptr bn]) hF (enters_of Tryz.func11 (by kernel_rfl) rfl) rfl rfl rfl rfl (keys_ct bn rs (by exact a_mem) (by omega)) (fun v => ?_)) | (refine on_alloc hF rfl Tryz.zeroValue33 rfl rfl (fun B => ?_)) | (refine on_alloc hF rfl Tryz.zeroValue36 rfl rfl (fun B => ?_)) | (refine on_box hF rfl rfl rfl rfl (fun B => ?_)) | (refine on_store hF rfl rfl rfl rfl a_turn a_vof a_sz ?_) | (refine on_storeE hF rfl rfl rfl rfl a_turn a_om a_vof a_sz ?_) | (refine on_storeEF hF rfl rfl rfl rfl a_turn a_as (by decide) a_vof rfl ?_) | (refine on_storeF hF rfl rfl rfl rfl a_turn (by decide) a_vof rfl ?_)) <;> try (refine hK2 _ _ _ a_allK ?_; clear hK2 K2))) <;> (refine hK _ _ _ ?_; clear hK K)) | with_reducible (first | refine nx_seq ?_ | refine nx_region ?_ | refine nl_nil ?_ | refine nq_then_n ?_ | refine nx_block ?_ | refine nx_skip ?_ | refine nx_exit ?_ | refine nx_ret ?_ | refine nq_then_x ?_ | refine nq_then_r ?_ | refine nq_blk_n ?_ | refine nq_blk_r ?_ | refine nq_blk_hit ?_ | refine nq_blk_miss rfl ?_ | refine nd_nil ?_) | refine nx_cond_t rfl ?_ | refine nx_cond_f rfl ?_ | refine nl_pass hF rfl rfl rfl ?_ | refine nd_pass rfl rfl rfl rfl rfl ?_ | refine nd_pass2 rfl rfl rfl a_nd a_allK rfl rfl ?_ | refine nd_pass3 rfl rfl rfl a_nd rfl rfl ?_ | (with_reducible refine hQ1 _ _ _ ?_; clear hQ1 Q1) )
    refine nx_end [M] rfl v (fun a w ha hw => res_tmp Tryz.results9 rfl ha) (by exact a_subR) (by exact a_holds2)
  case stop =>
    intro pre x post hx j _ h
    exact h.elim
end Pr
end Go.Proofs.YtinofjenoapeaaaGreat
end
section
namespace Go.Proofs.YtinofjenoapeaaaGreat
open Go.RowKit Go.Shelf
set_option linter.unusedSimpArgs false
set_option linter.unusedVariables false
namespace Pr
open Pl Li
/-! ### what is kept -/
def keptI (L : List It2) (W : List Int) : List It2 := L.filter fun x => decide (x.id ∈ W)
theorem find_filter {α : Type} {p q : α → Bool} : ∀ {L : List α}, (∀ x ∈ L, p x = true → q x = true) → (L.filter q).find? p = L.find? p
  | [], _ => rfl
  | x :: L, h => by
    have ih := find_filter (L := L) (fun y hy => h y (List.mem_cons_of_mem _ hy))
    cases hp : p x with
    | true => rw [List.filter_cons_of_pos (h x (by simp) hp), List.find?_cons_of_pos hp, List.find?_cons_of_pos hp]
    | false =>
      rw [List.find?_cons_of_neg (l := L) (by rw [hp]; simp)]
      cases hq : q x with
      | true => rw [List.filter_cons_of_pos hq, List.find?_cons_of_neg (by rw [hp]; simp), ih]
      | false => rw [List.filter_cons_of_neg (by rw [hq]; simp), ih]
theorem find_filter_some {α : Type} {p q : α → Bool} {y : α} : ∀ {L : List α}, L.find? p = some y → q y = true → (L.filter q).find? p = some y
  | [], h, _ => by simp at h
  | x :: L, h, hy => by
    cases hp : p x with
    | true =>
      rw [List.find?_cons_of_pos hp] at h
      injection h with h; subst h
      rw [List.filter_cons_of_pos hy, List.find?_cons_of_pos hp]
    | false =>
      rw [List.find?_cons_of_neg (by rw [hp]; simp)] at h
      have ih := find_filter_some (L := L) h hy
      cases hq : q x with
      | true => rw [List.filter_cons_of_pos hq, List.find?_cons_of_neg (by rw [hp]; simp), ih]
      | false => rw [List.filter_cons_of_neg (by rw [hq]; simp), ih]
theorem way_lt {L : List It2} {t n : Int} (h : ¬ 1 ≤ t) : wayU L t n = [] := by rw [wayU, dif_neg h]
theorem way_ge {L : List It2} {t n : Int} (h : 1 ≤ t) : wayU L t n = ⟨t, min (parentP L t).2.1 n, n⟩ :: wayU L (parentP L t).1 (min (parentP L t).2.1 n) := by rw [wayU, dif_pos h]
section kept
variable {L : List It2} {W : List Int} (hl : ∀ x ∈ L, x.kind = 4 → x.id ∈ W)
include hl
theorem lineK (t : Int) : lineP (keptI L W) t = lineP L t := by
  unfold lineP keptI
  exact find_filter (fun x hx hp => by simp [isLine] at hp; simpa using hl x hx hp.1)
theorem knownK : ∀ (m : Nat) (t : Int), t.toNat ≤ m → knownL (keptI L W) t = knownL L t := by
  intro m
  induction m with
  | zero => intro t ht; rw [knownL_le (by omega), knownL_le (by omega)]
  | succ m ih =>
    intro t ht
    by_cases h1 : 1 < t
    · have hk := lineK hl t
      cases hp : lineP L t with
      | none => rw [hp] at hk; rw [knownL_none h1 hk, knownL_none h1 hp]
      | some x =>
        rw [hp] at hk
        rw [knownL_some h1 hk, knownL_some h1 hp]
        by_cases h2 : x.par < t
        · rw [if_pos h2, if_pos h2, ih x.par (by omega)]
        · rw [if_neg h2, if_neg h2]
    · rw [knownL_le h1, knownL_le h1]
theorem parentK (t : Int) : parentP (keptI L W) t = parentP L t := by
  unfold parentP; rw [knownK hl _ t (Nat.le_refl _), lineK hl]
theorem wayK : ∀ (m : Nat) (t n : Int), t.toNat ≤ m → wayU (keptI L W) t n = wayU L t n := by
  intro m
  induction m with
  | zero => intro t n ht; rw [way_lt (by omega), way_lt (by omega)]
  | succ m ih =>
    intro t n ht
    by_cases h1 : 1 ≤ t
    · have := parent_lt L t h1
      rw [way_ge (L := keptI L W) h1, way_ge (L := L) h1, parentK hl, ih _ _ (by omega)]
    · rw [way_lt h1, way_lt h1]
end kept
section keep
variable {L : List It2} {W : List Int}
theorem byIdK {id : Int} (h : id ∈ W) : Chn.byId (keptI L W) id = Chn.byId L id := by
  unfold Chn.byId keptI
  exact find_filter (fun x hx hp => by simp at hp; simpa [hp] using h)
theorem byIdK_in {id : Int} {x : It2} (h : Chn.byId (keptI L W) id = some x) : id ∈ W := by
  have h1 := Chn.byId_spec h
  have h2 := (List.mem_filter.1 h1.1).2
  rw [h1.2] at h2
  simpa using h2
theorem atK {id : Int} (h : id ∈ W) : Chn.atX (keptI L W) id = Chn.atX L id ∧ Chn.atOk (keptI L W) id = Chn.atOk L id := by
  unfold Chn.atOk Chn.atX; rw [byIdK h]; exact ⟨rfl, rfl⟩
theorem upK {x : It2} (h : x.par ∈ W) : Chn.upOk (keptI L W) x = Chn.upOk L x := by
  unfold Chn.upOk; rw [(atK h).1, (atK h).2]
theorem chainUpK : ∀ (m : Nat) (x : It2) (xs : List It2), Chn.under L x.id ≤ m → Chn.chainUp L x = some xs → (∀ y ∈ xs, y.id ∈ W) → Chn.chainUp (keptI L W) x = some xs := by
  intro m
  induction m with
  | zero =>
    intro x xs hm h hW
    by_cases hk : x.kind = 2
    · rw [Chn.chainUp_full hk] at h ⊢; exact h
    · cases hu : Chn.upOk L x with
      | false => rw [Chn.chainUp_none hk hu] at h; cases h
      | true => have := Chn.under_lt (Chn.upOk_mem hu).2.1 (Chn.upOk_mem hu).2.2 rfl; omega
  | succ m ih =>
    intro x xs hm h hW
    by_cases hk : x.kind = 2
    · rw [Chn.chainUp_full hk] at h ⊢; exact h
    · cases hu : Chn.upOk L x with
      | false => rw [Chn.chainUp_none hk hu] at h; cases h
      | true =>
        obtain ⟨hb, hmem, hlt⟩ := Chn.upOk_mem hu
        have hlt2 := Chn.under_lt hmem hlt rfl
        rw [Chn.chainUp_up hk hu] at h
        cases hy : Chn.chainUp L (Chn.atX L x.par) with
        | none => rw [hy] at h; cases h
        | some ys =>
          rw [hy] at h
          simp at h
          subst h
          have hpar : x.par ∈ W := by
            have h2 : (Chn.atX L x.par) ∈ ys := by
              rw [Chn.chainUp] at hy
              split at hy
              · injection hy with hy; rw [← hy]; simp
              · split at hy
                · cases hz : Chn.chainUp L (Chn.atX L (Chn.atX L x.par).par) with
                  | none => rw [hz] at hy; cases hy
                  | some zs => rw [hz] at hy; simp at hy; rw [← hy]; simp
                · cases hy
            have h3 := hW _ (List.mem_cons_of_mem _ h2)
            rwa [(Chn.byId_spec hb).2] at h3
          have hu2 : Chn.upOk (keptI L W) x = true := by rw [upK hpar]; exact hu
          rw [Chn.chainUp_up hk hu2, (atK hpar).1, ih _ ys (by omega) hy (fun y h => hW y (List.mem_cons_of_mem _ h))]; rfl
theorem chainOfK {id : Int} (h : (Chn.chainOf L id).isSome = true) (hW : ∀ z ∈ Chn.chainIds L id, z ∈ W) : Chn.chainOf (keptI L W) id = Chn.chainOf L id := by
  cases hc : Chn.chainOf L id with
  | none => rw [hc] at h; cases h
  | some xs =>
    have hW2 : ∀ y ∈ xs, y.id ∈ W := fun y hy => hW _ (by unfold Chn.chainIds; rw [hc]; simp; exact ⟨y, hy, rfl⟩)
    unfold Chn.chainOf at hc ⊢
    split at hc
    · rename_i hat
      have hb : Chn.byId L id = some (Chn.atX L id) := by
        unfold Chn.atOk at hat
        unfold Chn.atX
        cases hq : Chn.byId L id with
        | none => rw [hq] at hat; simp at hat
        | some y => rfl
      have hmem : (Chn.atX L id) ∈ xs := by
        rw [Chn.chainUp] at hc
        split at hc
        · injection hc with hc; rw [← hc]; simp
        · split at hc
          · cases hz : Chn.chainUp L (Chn.atX L (Chn.atX L id).par) with
            | none => rw [hz] at hc; cases hc
            | some zs => rw [hz] at hc; simp at hc; rw [← hc]; simp
          · cases hc
      have hid : id ∈ W := by have := hW2 _ hmem; rwa [(Chn.byId_spec hb).2] at this
      rw [(atK hid).1, (atK hid).2, if_pos hat]
      exact chainUpK _ _ xs (Nat.le_refl _) hc hW2
    · cases hc
theorem chainUpB : ∀ (m : Nat) (x : It2) (xs : List It2), Chn.under (keptI L W) x.id ≤ m → Chn.chainUp (keptI L W) x = some xs → Chn.chainUp L x = some xs := by
  intro m
  induction m with
  | zero =>
    intro x xs hm h
    by_cases hk : x.kind = 2
    · rw [Chn.chainUp_full hk] at h ⊢; exact h
    · cases hu : Chn.upOk (keptI L W) x with
      | false => rw [Chn.chainUp_none hk hu] at h; cases h
      | true => have := Chn.under_lt (Chn.upOk_mem hu).2.1 (Chn.upOk_mem hu).2.2 rfl; omega
  | succ m ih =>
    intro x xs hm h
    by_cases hk : x.kind = 2
    · rw [Chn.chainUp_full hk] at h ⊢; exact h
    · cases hu : Chn.upOk (keptI L W) x with
      | false => rw [Chn.chainUp_none hk hu] at h; cases h
      | true =>
        obtain ⟨hb, hmem, hlt⟩ := Chn.upOk_mem hu
        have hlt2 := Chn.under_lt hmem hlt rfl
        have hpar := byIdK_in hb
        rw [Chn.chainUp_up hk hu] at h
        cases hy : Chn.chainUp (keptI L W) (Chn.atX (keptI L W) x.par) with
        | none => rw [hy] at h; cases h
        | some ys =>
          rw [hy] at h
          simp at h
          subst h
          have h2 := ih _ ys (by omega) hy
          rw [(atK hpar).1] at h2
          rw [Chn.chainUp_up hk (by rw [← upK hpar]; exact hu), h2]; rfl
theorem chainOfB {id : Int} (h : (Chn.chainOf (keptI L W) id).isSome = true) : (Chn.chainOf L id).isSome = true := by
  cases hc : Chn.chainOf (keptI L W) id with
  | none => rw [hc] at h; cases h
  | some xs =>
    unfold Chn.chainOf at hc ⊢
    split at hc
    · rename_i hat
      have hid : id ∈ W := by
        unfold Chn.atOk at hat
        cases hq : Chn.byId (keptI L W) id with
        | none => rw [hq] at hat; simp at hat
        | some y => exact byIdK_in hq
      rw [← (atK hid).2, if_pos hat, ← (atK (L := L) hid).1, chainUpB _ _ xs (Nat.le_refl _) hc]; rfl
    · cases hc
theorem backupsBK {t most : Int} {x : It2} (h : Chn.backupsB (keptI L W) t most x = true) : Chn.backupsB L t most x = true := by
  unfold Chn.backupsB at h ⊢
  simp only [Bool.and_eq_true] at h ⊢
  exact ⟨h.1, chainOfB h.2⟩
/-- No candidate is better than the best one. -/
theorem best_max (least : Int) : ∀ (M : List It2) (s : It2 × Bool), (∀ x ∈ M, least ≤ x.a → Chn.betterB x (M.foldl (Chn.bestStep least) s).1 = false) ∧ (s.2 = true → Chn.betterB s.1 (M.foldl (Chn.bestStep least) s).1 = false)
  | [], s => ⟨fun x hx => (by cases hx), fun _ => by simp [Chn.betterB]⟩
  | y :: M, s => by
    rw [List.foldl_cons]
    obtain ⟨h1, h2⟩ := best_max least M (Chn.bestStep least s y)
    by_cases h : (decide (least ≤ y.a) && (!s.2 || Chn.betterB y s.1)) = true
    · have hs : Chn.bestStep least s y = (y, true) := by unfold Chn.bestStep; rw [if_pos h]
      rw [hs] at h1 h2 ⊢
      have h3 := h2 rfl
      refine ⟨fun x hx hl => ?_, fun ht => ?_⟩
      · rcases List.mem_cons.1 hx with rfl | hx
        · exact h3
        · exact h1 x hx hl
      · have h4 : Chn.betterB y s.1 = true := by simp [ht] at h; exact h.2
        simp [Chn.betterB] at h3 h4 ⊢
        omega
    · have hs : Chn.bestStep least s y = s := by unfold Chn.bestStep; rw [if_neg h]
      rw [hs] at h1 h2 ⊢
      refine ⟨fun x hx hl => ?_, h2⟩
      rcases List.mem_cons.1 hx with rfl | hx
      · have h5 : s.2 = true ∧ Chn.betterB x s.1 = false := by
          cases hs2 : s.2 <;> simp [hl, hs2] at h ⊢
          exact h
        have h3 := h2 h5.1
        have h4 := h5.2
        simp [Chn.betterB] at h3 h4 ⊢
        omega
      · exact h1 x hx hl
theorem id_inj : ∀ {L : List It2}, (L.map It2.id).Pairwise (· < ·) → ∀ x ∈ L, ∀ y ∈ L, x.id = y.id → x = y
  | [], _, x, hx, _, _, _ => by cases hx
  | z :: L, h, x, hx, y, hy, e => by
    rw [List.map_cons, List.pairwise_cons] at h
    rcases List.mem_cons.1 hx with h1 | h1 <;> rcases List.mem_cons.1 hy with h2 | h2
    · rw [h1, h2]
    · have := h.1 y.id (List.mem_map.2 ⟨y, h2, rfl⟩); rw [h1] at e; omega
    · have := h.1 x.id (List.mem_map.2 ⟨x, h1, rfl⟩); rw [h2] at e; omega
    · exact id_inj h.2 x h1 y h2 e
theorem bestK_no {u fr to : Int} (h : (Chn.bestOf L u fr to).2 = false) : (Chn.bestOf (keptI L W) u fr to).2 = false := by
  cases hb : (Chn.bestOf (keptI L W) u fr to).2 with
  | false => rfl
  | true =>
    obtain ⟨h1, h2, h3⟩ := best_mem hb
    have := (best_found (L := L) (List.mem_filter.1 h1).1 (backupsBK h2) h3).1
    rw [h] at this; cases this
theorem bestK (hu : (L.map It2.id).Pairwise (· < ·)) {u fr to : Int} (h : (Chn.bestOf L u fr to).2 = true) (hW : ∀ z ∈ Chn.chainIds L (Chn.bestOf L u fr to).1.id, z ∈ W) (hid : (Chn.bestOf L u fr to).1.id ∈ W) : Chn.bestOf (keptI L W) u fr to = ((Chn.bestOf L u fr to).1, true) := by
  obtain ⟨h1, h2, h3⟩ := best_mem h
  obtain ⟨b, hb⟩ : ∃ b, (Chn.bestOf L u fr to).1 = b := ⟨_, rfl⟩
  have hmax := fun x (hx : x ∈ L) (hbb : Chn.backupsB L u to x = true) => (best_max fr (L.filter (Chn.backupsB L u to)) (zIt2, false)).1 x (List.mem_filter.2 ⟨hx, hbb⟩)
  rw [show (L.filter (Chn.backupsB L u to)).foldl (Chn.bestStep fr) (zIt2, false) = Chn.bestOf L u fr to from rfl] at hmax
  rw [hb] at h1 h2 h3 hW hid hmax ⊢
  have hbk : b ∈ keptI L W := List.mem_filter.2 ⟨h1, by simpa using hid⟩
  have h2k : Chn.backupsB (keptI L W) u to b = true := by
    unfold Chn.backupsB at h2 ⊢
    simp only [Bool.and_eq_true] at h2 ⊢
    exact ⟨h2.1, by rw [chainOfK h2.2 hW]; exact h2.2⟩
  obtain ⟨g1, g2, g3, g4⟩ := best_found (L := keptI L W) hbk h2k h3
  have hmaxk := (best_max fr ((keptI L W).filter (Chn.backupsB (keptI L W) u to)) (zIt2, false)).1 b (List.mem_filter.2 ⟨hbk, h2k⟩) h3
  rw [show ((keptI L W).filter (Chn.backupsB (keptI L W) u to)).foldl (Chn.bestStep fr) (zIt2, false) = Chn.bestOf (keptI L W) u fr to from rfl] at hmaxk
  obtain ⟨⟨b', s⟩, hb'⟩ : ∃ p, Chn.bestOf (keptI L W) u fr to = p := ⟨_, rfl⟩
  rw [hb'] at g1 g2 g3 g4 hmaxk ⊢
  dsimp only at g1 g2 g3 g4 hmaxk
  have hL := (List.mem_filter.1 g2).1
  have h4 := hmax b' hL (backupsBK g3) (by omega)
  have h5 : b' = b := by
    refine id_inj hu b' hL b h1 ?_
    simp [Chn.betterB] at h4 hmaxk
    omega
  rw [h5, g1]
theorem nextK {u n : Int} {x : It2} (h : Re.nextSeg L u n = some x) (hx : x.id ∈ W) : Re.nextSeg (keptI L W) u n = some x := by
  unfold Re.nextSeg at h ⊢
  unfold keptI
  rw [List.filter_filter, show (fun a => Re.segB u a && decide (a.id ∈ W)) = (fun a => decide (a.id ∈ W) && Re.segB u a) from funext fun a => Bool.and_comm _ _, ← List.filter_filter]
  exact find_filter_some h (by simpa using hx)
theorem coverK (u to : Int) : ∀ (m : Nat) (fr : Int) (zs : List Int), Re.above L fr ≤ m → Re.cover L u fr to = some zs → (∀ z ∈ zs, z ∈ W) → Re.cover (keptI L W) u fr to = some zs := by
  intro m
  induction m with
  | zero =>
    intro fr zs hm h hW
    by_cases hlt : fr < to
    · rcases Re.nextSeg_cases L u fr with hn | ⟨x, hn, hx, hb, ha⟩
      · rw [Re.cover_none hlt hn] at h; cases h
      · omega
    · rw [Re.cover_done hlt] at h ⊢; exact h
  | succ m ih =>
    intro fr zs hm h hW
    by_cases hlt : fr < to
    · rcases Re.nextSeg_cases L u fr with hn | ⟨x, hn, hx, hb, ha⟩
      · rw [Re.cover_none hlt hn] at h; cases h
      · rw [Re.cover_some hlt hn] at h
        cases hc : Re.cover L u x.b to with
        | none => rw [hc] at h; cases h
        | some ys =>
          rw [hc] at h
          simp at h
          subst h
          rw [Re.cover_some hlt (nextK hn (hW _ (by simp))), ih x.b ys (by omega) hc (fun z hz => hW z (List.mem_cons_of_mem _ hz))]; rfl
    · rw [Re.cover_done hlt] at h ⊢; exact h
theorem covStepK {s : List Int × List Int × Bool} {u fr to : Int} (h : (covStep L s u fr to).2.2 = true) (hW : ∀ z ∈ (covStep L s u fr to).1, z ∈ W) : covStep (keptI L W) s u fr to = covStep L s u fr to := by
  unfold covStep at h hW ⊢
  split
  · rename_i hs
    rw [if_pos hs] at h hW
    dsimp only at h hW
    cases hc : Re.cover L u fr to with
    | none => rw [hc] at h; cases h
    | some zs =>
      rw [hc] at hW
      simp only [Option.getD_some] at hW
      rw [coverK u to _ fr zs (Nat.le_refl _) hc (fun z hz => hW z (List.mem_append.2 (.inr hz)))]
  · rfl
theorem covStep_ok {s : List Int × List Int × Bool} {u fr to : Int} (h : (covStep L s u fr to).2.2 = true) : s.2.2 = true ∧ ∀ z ∈ s.1, z ∈ (covStep L s u fr to).1 := by
  unfold covStep at h ⊢
  split
  · rename_i hs
    exact ⟨hs, fun z hz => List.mem_append.2 (.inl hz)⟩
  · rename_i hs
    rw [if_neg hs] at h
    exact absurd h hs
theorem covF_ok : ∀ (xs : List (Nat × Prt)) (s : List Int × List Int × Bool), (covF L s xs).2.2 = true → s.2.2 = true ∧ ∀ z ∈ s.1, z ∈ (covF L s xs).1
  | [], s, h => ⟨h, fun z hz => hz⟩
  | x :: xs, s, h => by
    have h1 := covF_ok xs (covStep L s x.2.u x.2.fr x.2.to) h
    have h2 := covStep_ok h1.1
    exact ⟨h2.1, fun z hz => h1.2 z (h2.2 z hz)⟩
theorem covFK : ∀ (xs : List (Nat × Prt)) (s : List Int × List Int × Bool), (covF L s xs).2.2 = true → (∀ z ∈ (covF L s xs).1, z ∈ W) → covF (keptI L W) s xs = covF L s xs
  | [], s, _, _ => rfl
  | x :: xs, s, h, hW => by
    have h1 := covF_ok xs (covStep L s x.2.u x.2.fr x.2.to) h
    have h2 := covStepK (W := W) h1.1 (fun z hz => hW z (h1.2 z hz))
    have h3 := covFK xs (covStep L s x.2.u x.2.fr x.2.to) h hW
    show covF (keptI L W) (covStep (keptI L W) s x.2.u x.2.fr x.2.to) xs = _
    rw [h2, h3]; rfl
/-- A plan all whose objects are kept is found again. -/
theorem findK (hu : (L.map It2.id).Pairwise (· < ·)) (hl : ∀ x ∈ L, x.kind = 4 → x.id ∈ W) {t n : Int} {p : It2 × List Int × List Int} (h : findP L t n = some p) (hc : ∀ z ∈ Chn.chainIds L p.1.id, z ∈ W) (hid : p.1.id ∈ W) (hs : ∀ z ∈ p.2.1, z ∈ W) : findP (keptI L W) t n = some p ∧ Chn.chainIds (keptI L W) p.1.id = Chn.chainIds L p.1.id := by
  have hch := find_chain h
  refine ⟨?_, by unfold Chn.chainIds; rw [chainOfK hch hc]⟩
  obtain ⟨hn, hk, j, x, hS⟩ := find_spec h
  unfold findP
  rw [knownK hl _ t (Nat.le_refl _), wayK hl _ t n (Nat.le_refl _), if_neg (by rw [hk]; simp; omega)]
  have hone := hS.one
  have hb : Chn.bestOf (keptI L W) x.u x.fr x.to = (p.1, true) := by
    rw [hone]
    exact bestK hu hS.has (by rw [← hone]; exact hc) (by rw [← hone]; exact hid)
  have hok := hS.ok
  have hseg := hS.seg
  rw [planAt_covF] at hok hseg
  have h0 := covF_ok _ _ hok
  have hpl : planAt (keptI L W) (wayU L t n) j x p.1 = planAt L (wayU L t n) j x p.1 := by
    rw [planAt_covF, planAt_covF, covStepK h0.1 (fun z hz => hs z (by rw [hseg]; exact h0.2 z hz))]
    exact covFK _ _ hok (fun z hz => hs z (by rw [hseg]; exact hz))
  refine findI_of (j := j) (x := x) _ 0 (Nat.le_refl _) ⟨hS.at_, Nat.zero_le _, by rw [hb], by rw [hb], by rw [hpl]; exact hS.ok, by rw [hpl]; exact hS.seg, by rw [hpl]; exact hS.lim, fun k y h1 h2 h3 => bestK_no (hS.no k y h1 h2 h3)⟩
end keep
end Pr
end Go.Proofs.YtinofjenoapeaaaGreat
end
section
namespace Go.Proofs.YtinofjenoapeaaaGreat
open Go.RowKit Go.Shelf
set_option linter.unusedSimpArgs false
set_option linter.unusedVariables false
namespace Rf22
open Pl Li Pr
/-- What a part more makes of a plan. -/
def more (L : List It2) (p : Option (It2 × List Int × List Int)) (u fr to : Int) : Option (It2 × List Int × List Int) := match p with
  | none => none
  | some p => match Re.cover L u fr to with
    | none => none
    | some ids => some (p.1, p.2.1 ++ ids, p.2.2 ++ List.replicate ids.length to)
theorem plan_shift (L : List It2) (P : List Prt) (x y : Prt) (i : Nat) (b : It2) : planAt L (x :: P) (i + 1) y b = covStep L (planAt L P i y b) x.u x.fr x.to := by
  unfold planAt
  rw [List.take_succ_cons, List.reverse_cons, List.foldl_append]; rfl
theorem find_shift (L : List It2) (P : List Prt) (x : Prt) : ∀ (m i : Nat), P.length - i ≤ m → findI L (x :: P) (i + 1) = more L (findI L P i) x.u x.fr x.to := by
  intro m
  induction m with
  | zero =>
    intro i hm
    rw [findI_end (by simp; omega), findI_end (by omega)]; rfl
  | succ m ih =>
    intro i hm
    by_cases hi : i < P.length
    · obtain ⟨y, hy⟩ : ∃ y, P[i]? = some y := ⟨_, List.getElem?_eq_getElem hi⟩
      have hy2 : (x :: P)[i + 1]? = some y := by simpa using hy
      cases hb : (Chn.bestOf L y.u y.fr y.to).2 with
      | false => rw [findI_next hy hb, findI_next hy2 hb, ih (i + 1) (by omega)]
      | true =>
        rw [findI_here hy hb, findI_here hy2 hb, plan_shift]
        obtain ⟨b, hbb⟩ : ∃ b, (Chn.bestOf L y.u y.fr y.to).1 = b := ⟨_, rfl⟩
        rw [hbb]
        obtain ⟨s, hs⟩ : ∃ s, planAt L P i y b = s := ⟨_, rfl⟩
        rw [hs]
        unfold more covStep
        cases h2 : s.2.2 with
        | false => simp [h2]
        | true =>
          simp only [if_true]
          cases hc : Re.cover L x.u x.fr x.to with
          | none => simp
          | some ids => simp
    · rw [findI_end (by simp; omega), findI_end hi]; rfl
/-- The document's plan, by its recursion. -/
def refF (L : List It2) (t to n : Int) : Option (It2 × List Int × List Int) :=
  if n < 0 ∨ knownL L t = false then none
  else if (Chn.bestOf L t (min (parentP L t).2.1 to) to).2 then more L (some ((Chn.bestOf L t (min (parentP L t).2.1 to) to).1, [], [])) t (Chn.bestOf L t (min (parentP L t).2.1 to) to).1.a to
  else if h : 1 < t then more L (refF L (parentP L t).1 (min (parentP L t).2.1 to) n) t (min (parentP L t).2.1 to) to
  else none
termination_by t.toNat
decreasing_by have := parent_lt L t (by omega); omega
theorem parent_known {L : List It2} {t : Int} (h : 1 < t) (hk : knownL L t = true) : knownL L (parentP L t).1 = true := by
  unfold parentP
  rw [if_neg (by rw [hk]; simp; omega)]
  cases hl : lineP L t with
  | none => rw [knownL_none h hl] at hk; cases hk
  | some x =>
    rw [knownL_some h hl] at hk
    simp only [Option.getD_some]
    by_cases h2 : x.par < t
    · rw [if_pos h2] at hk; exact hk
    · rw [if_neg h2] at hk; cases hk
theorem refF_eq (L : List It2) (n : Int) (hn : 0 ≤ n) : ∀ (m : Nat) (t to : Int), t.toNat ≤ m → knownL L t = true → refF L t to n = findI L (wayU L t to) 0 := by
  intro m
  induction m with
  | zero => intro t to hm hk; have := Pl.known_pos hk; omega
  | succ m ih =>
    intro t to hm hk
    have h1 := Pl.known_pos hk
    rw [way_ge h1]
    unfold refF
    rw [if_neg (by rw [hk]; simp; omega)]
    obtain ⟨fr, hfr⟩ : ∃ fr, min (parentP L t).2.1 to = fr := ⟨_, rfl⟩
    rw [hfr]
    obtain ⟨P, hP⟩ : ∃ P, wayU L (parentP L t).1 fr = P := ⟨_, rfl⟩
    rw [hP]
    cases hb : (Chn.bestOf L t fr to).2 with
    | true =>
      rw [if_pos rfl, findI_here (x := ⟨t, fr, to⟩) (by simp) hb]
      obtain ⟨b, hbb⟩ : ∃ b, (Chn.bestOf L t fr to).1 = b := ⟨_, rfl⟩
      dsimp only
      rw [hbb]
      unfold more planAt covStep
      cases hc : Re.cover L t b.a to with
      | none => simp [hc]
      | some ids => simp [hc]
    | false =>
      rw [if_neg (by simp), findI_next (x := ⟨t, fr, to⟩) (by simp) hb, find_shift L P ⟨t, fr, to⟩ _ 0 (Nat.le_refl _)]
      by_cases h2 : 1 < t
      · have hlt := parent_lt L t h1
        rw [dif_pos h2, ih (parentP L t).1 fr (by omega) (parent_known h2 hk), hP]
      · have : (parentP L t).1 = 0 := by unfold parentP; rw [if_pos (.inl (by omega))]
        rw [dif_neg h2]
        rw [this, way_lt (by omega)] at hP
        subst hP
        rw [findI_end (by simp)]; rfl
theorem refFind_eq (L : List It2) (t n : Int) : refF L t n n = findP L t n := by
  unfold findP
  by_cases h : n < 0 ∨ knownL L t = false
  · rw [if_pos h]; unfold refF; rw [if_pos h]
  · rw [if_neg h]
    have hk : knownL L t = true := by cases hk : knownL L t; exact absurd (.inr hk) h; rfl
    exact refF_eq L n (by by_cases hn : n < 0; exact absurd (.inl hn) h; omega) _ t n (Nat.le_refl _) hk
end Rf22
end Go.Proofs.YtinofjenoapeaaaGreat
end
