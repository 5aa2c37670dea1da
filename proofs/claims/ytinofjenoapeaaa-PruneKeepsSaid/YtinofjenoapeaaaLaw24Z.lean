/- The statement PruneKeepsSaid: it returns true at every input, and leaves the input as it was. No condition. -/
import Derived.Test.YtinofjenoapeaaaIt2
import Derived.Test.YtinofjenoapeaaaOmY
import Derived.Test.YtinofjenoapeaaaPlB
import Derived.Test.YtinofjenoapeaaaPl4
import Derived.Test.YtinofjenoapeaaaPl2
import Derived.Test.YtinofjenoapeaaaMapV
import Derived.Test.YtinofjenoapeaaaT5
import Derived.Test.YtinofjenoapeaaaRows
import Derived.Test.YtinofjenoapeaaaRowArr
import Derived.WalkKit
import Derived.ProofKit
import Derived.OpenShut
import Derived.ShutString
import Derived.ChangeOld
import Derived.Below
import Derived.SizedLaws
import Derived.Test.YtinofjenoapeaaaRowIt
section
namespace Go.Proofs.Ytinofjenoapeaaa
open Go.RowKit Go.Shelf
set_option linter.unusedSimpArgs false
set_option linter.unusedVariables false
def arT (P : Program) (T N : Nat) : Bool := match P.underlying T with | some (.array n e) => n == N && oneT P e | _ => false
/-- A cell of an array of one-celled elements. -/
theorem yl_indexA {P : Program} {G : World → Prop} {n : Nat} {l : List (Nat × Value)} {d : List Deferred} {o : Oper} {T : TypeId} {x y : Operand} {cs : Array Value} {i : Nat} {u : Value} (N : Nat) (ho : o.op = .index T x y) (hx : ev l x = some (.agg cs)) (hy : ev l y = some (.int .i64 (i : Int))) (hT : arT P T N = true) (hi : i < N) (hc : cs[i]? = some u) : Yl P G n l d o u := ⟨(fun c => by rw [ho]; exact (fun h => by cases h)), (fun a w ha hw => by
    unfold arT at hT
    split at hT
    · rename_i n' e h1
      simp only [Bool.and_eq_true, beq_iff_eq] at hT
      obtain ⟨rfl, h2⟩ := hT
      unfold oneT at h2
      split at h2
      · rename_i dd inf e1 e2
        simp only [Bool.and_eq_true, Bool.not_eq_true', beq_iff_eq] at h2
        have hagg : (isAgg e).run P w = .ok false w := by
          have h3 := h2.1
          simp only [isAgg, Sem.run_bind, run_underlying e1, Result.andThen]
          cases dd <;> first | rfl | (simp [TypeDesc.isRow] at h3)
        have hsz : (sizeOf e).run P w = .ok 1 w := by simp [sizeOf, typeInfo, e2, h2.2]
        have hle : (0 : Int) ≤ (i : Int) ∧ (i : Int) < (n' : Int) := by omega
        simp [execOp, ho, ha.eval hx, ha.eval hy, Instr.index, asIntOf, run_underlying h1, part, hagg, hsz, hc, Sem.run_bind, Result.andThen, hle, hi]
      · cases h2
    · cases hT)⟩
namespace Pr
open Go.Proofs.Ytinofjenoapeaaa.Ord
variable {W0 : World} {X : Nat → Prop} {R C : List Ch}
theorem upr_nil : Sc.upr [] = [] := List.eq_nil_of_length_eq_zero (Nat.le_zero.1 (Sc.upr_len []))
def sixP (x : It2) : List Int := [x.a - 1, x.a, x.a + 1, x.b - 1, x.b, x.b + 1]
def cItem (c : Int) : It2 := ⟨0, 0, 0, 0, c, c, 0, 0, .slice none 0 0⟩
def fromC (c : Int) (zs : List Int) : List Int := zs.filter fun n => decide (c ≤ n)
def plRow (M : List It2) (c : Int) : List Int := (M.map fun x => fromC c (sixP x)).flatten
/-- The commits from c on at which plans may change. -/
def placesL (L : List It2) (c : Int) : List Int := Sc.upr (plRow (cItem c :: L) c)
theorem plRow_snoc (M : List It2) (c : Int) (i : Nat) (x : It2) (hx : M[i]? = some x) : plRow (M.take (i + 1)) c = plRow (M.take i) c ++ fromC c (sixP x) := by
  unfold plRow; rw [List.take_add_one, hx]; simp
theorem plRow_len (M : List It2) (c : Int) : (plRow M c).length ≤ 6 * M.length := by
  unfold plRow
  induction M with
  | nil => simp
  | cons x M ih =>
    have := List.length_filter_le (fun n => decide (c ≤ n)) (sixP x)
    simp [sixP, fromC] at this ih ⊢
    omega
theorem celIt (L : List It2) (hok : ∀ x ∈ L, x.ok) : Cel 9 (L.map It2.v) := Cel.of (P := Try.prog) (T := 27) (vofs_it2 L hok) (by kernel_rfl)
set_option maxRecDepth 100000 in
set_option maxHeartbeats 4000000 in
theorem places_ct (s : Value) (hs : IsSl s) (L : List It2) (hok : ∀ x ∈ L, x.ok) (c : Int) (hc : -1099511627776 ≤ c ∧ c ≤ 1099511627776) (hr : ∀ x ∈ L, 0 ≤ x.a ∧ x.a ≤ 1099511627776 ∧ 0 ≤ x.b ∧ x.b ≤ 1099511627776) (hsl : SlC 9 s (L.map It2.v) ∈ R) (hm : L.length ≤ 1000) :
    Ct Try.prog 51 [s, .int .i64 c] W0 X R C SV (fun v => v.1) (fun _ => R) (fun v => RowC 3 1 v.1 ((placesL L c).map (.int .i64)) :: C) := by
  intro w hw
  have hF := isWide_wide
  obtain ⟨M, hM⟩ : ∃ M, cItem c :: L = M := ⟨_, rfl⟩
  have hMok : ∀ x ∈ M, x.ok := fun x hx => by
    rw [← hM] at hx
    rcases List.mem_cons.1 hx with rfl | hx
    · exact ⟨_, _, _, rfl⟩
    · exact hok x hx
  have hMr : ∀ x ∈ M, -1099511627776 ≤ x.a ∧ x.a ≤ 1099511627776 ∧ -1099511627776 ≤ x.b ∧ x.b ≤ 1099511627776 := fun x hx => by
    rw [← hM] at hx
    rcases List.mem_cons.1 hx with rfl | hx
    · exact ⟨hc.1, hc.2, hc.1, hc.2⟩
    · have := hr x hx; omega
  have hMl : M.length = L.length + 1 := by rw [← hM]; rfl
  have hMv : [(cItem c).v] ++ L.map It2.v = M.map It2.v := by rw [← hM]; rfl
  have hcl : Cel 9 [(cItem c).v] := celIt [cItem c] (fun x hx => by rw [List.mem_singleton.1 hx]; exact ⟨_, _, _, rfl⟩)
  have hcL := celIt L hok
  have hl1 : [(cItem c).v].length + (L.map It2.v).length ≤ maxLen := by unfold maxLen; simp; omega
  have hl2 : ([(cItem c).v].length + (L.map It2.v).length) * 88 ≤ 140737488355328 := by simp; omega
  have hres : placesL L c = Sc.upr (plRow M c) := by unfold placesL; rw [hM]
  have hlM : (M.map It2.v).length = M.length := by simp
  rw [hres]
  clear hres hr hok hM
  refine calls_nx Try.func51 rfl Try.ntmps51 rfl ?_ hw
  repeat' (first
    | ((first | with_reducible refine nl_op rfl ?_ | refine nd_go rfl rfl rfl ?_); intro K hK; (first
      | ((first | refine on_E hF rfl rfl ?_ | refine od_E rfl rfl ?_ | refine od_R rfl rfl ?_); (first | refine ⟨_, a_yl, ?_⟩ | refine ⟨_, yl_build (T := 27) (us := [(4, _), (5, _)]) rfl rfl rfl (fun w => by go_simp; all_goals rfl), ?_⟩ | refine ⟨_, yl_build (T := 106) (us := [(0, _), (1, _), (2, _), (3, _), (4, _), (5, _)]) rfl rfl rfl (fun w => by go_simp; all_goals rfl), ?_⟩ | refine ⟨_, yl_fieldB (T := 27) (f := 4) (q := 4) rfl rfl (by kernel_rfl), ?_⟩ | refine ⟨_, yl_fieldE (T := 27) (f := 4) (j := 4) rfl rfl a_sl (by (first | omega | (simp only [List.length_append, List.length_cons, List.length_nil, List.length_map] at *; omega))) (by kernel_rfl), ?_⟩ | refine ⟨_, yl_fieldB (T := 27) (f := 5) (q := 5) rfl rfl (by kernel_rfl), ?_⟩ | refine ⟨_, yl_fieldE (T := 27) (f := 5) (j := 5) rfl rfl a_sl (by (first | omega | (simp only [List.length_append, List.length_cons, List.length_nil, List.length_map] at *; omega))) (by kernel_rfl), ?_⟩))
      | ((first | refine on_Ec hF rfl rfl ?_ | refine od_Ec rfl rfl ?_); refine ⟨_, _, _, a_yc, ?_, ?_⟩ <;> (intro hc; try (exfalso; first | (omega; done) | exact absurd (by with_reducible rfl) hc | (simp at hc; done))))
      | ((first | (refine od_act (fun c => by exact (fun h => by cases h)) ?_; intro K2 hK2) | refine od_last (fun c => by exact (fun h => by cases h)) ?_ | skip); (first
      | (refine on_callG hF (enters_of Try.func30 (by kernel_rfl) rfl) rfl rfl rfl rfl new_ct (fun bm => ?_))
      | (refine on_buildSlice (e := 27) (k := 9) (by_ := 88) (vs := [(cItem c).v]) hF rfl rfl rfl rfl rfl rfl (by kernel_rfl) hcl (Nat.le_of_ble_eq_true rfl) (fun bq => ?_))
      | (refine on_append (e := 27) (k := 9) (by_ := 88) (xs := [(cItem c).v]) (ys := L.map It2.v) hF rfl rfl rfl rfl rfl a_pick (by kernel_rfl) a_sl hcL hl1 hl2 (fun u => ?_); rw [hMv]; obtain ⟨u, ua, un, uc, rfl⟩ := u; dsimp only; refine nx_len (e := 27) (k := 9) (xs := M.map It2.v) (i := un) (by exact a_mem) (fun hlen => ?_); subst hlen; refine nx_frzRow Pick.here ?_)
      | (refine on_buildSlice (T := 22) (e := 27) (k := 9) (by_ := 88) hF rfl rfl rfl rfl rfl rfl (by kernel_rfl) a_cel (Nat.le_of_ble_eq_true rfl) (fun b => ?_))
      | (refine on_append (T := 22) (e := 27) (k := 9) (by_ := 88) hF rfl rfl rfl rfl rfl a_pick (by kernel_rfl) a_sl a_cel (by first | omega | (unfold maxLen; simp only [List.length_map, List.length_append, List.length_cons, List.length_nil, List.length_replicate]; omega) | (simp only [List.length_map, List.length_append, List.length_cons, List.length_nil, List.length_replicate]; omega)) (by first | omega | (unfold maxLen; simp only [List.length_map, List.length_append, List.length_cons, List.length_nil, List.length_replicate]; omega) | (simp only [List.length_map, List.length_append, List.length_cons, List.length_nil, List.length_replicate]; omega)) (fun v => ?_))
      | (refine on_alloc hF rfl Try.zeroValue27 rfl rfl (fun B => ?_))
      | (refine on_box hF rfl rfl rfl rfl (fun B => ?_))
      | (refine on_store hF rfl rfl rfl rfl a_turn a_vof (by first | rfl | exact hsz.symm | exact hsz) ?_)
      | (refine on_storeE hF rfl rfl rfl rfl a_turn (by (first | omega | (simp only [List.length_append, List.length_cons, List.length_nil, List.length_map] at *; omega))) a_vof (by first | rfl | exact hsz) ?_)
      | (refine on_storeEF hF rfl rfl rfl rfl a_turn (by first | with_reducible assumption | rfl) (by decide) a_vof rfl ?_)
      | (refine on_storeF hF rfl rfl rfl rfl a_turn (by decide) a_vof rfl ?_)) <;> try (refine hK2 _ _ _ a_allK ?_; clear hK2 K2))) <;> (refine hK _ _ _ ?_; clear hK K))
    | with_reducible refine nx_seq ?_
        | with_reducible refine nx_region ?_
        | with_reducible refine nl_nil ?_
        | with_reducible refine nq_then_n ?_
        | with_reducible refine nx_block ?_
        | with_reducible refine nx_skip ?_
        | with_reducible refine nx_exit ?_
        | with_reducible refine nx_ret ?_
        | with_reducible refine nq_then_x ?_
        | with_reducible refine nq_then_r ?_
        | with_reducible refine nq_blk_n ?_
        | with_reducible refine nq_blk_r ?_
        | with_reducible refine nq_blk_hit ?_
        | with_reducible refine nq_blk_miss rfl ?_
        | with_reducible refine nd_nil ?_
    | refine nx_cond_t rfl ?_ | refine nx_cond_f rfl ?_
    | refine nl_pass hF rfl rfl rfl ?_
    | refine nd_pass rfl rfl rfl rfl rfl ?_
    | refine nd_pass2 rfl rfl rfl (fun c => by exact (fun h => by cases h)) a_allK rfl rfl ?_
    | refine nd_pass3 rfl rfl rfl (fun c => by exact (fun h => by cases h)) rfl rfl ?_
    | (with_reducible refine hQ1 _ _ _ ?_; clear hQ1 Q1)
    )
  rw [show ([] : List Int) = Sc.upr (plRow (M.take 0) c) from (upr_nil).symm]
  refine nx_loop (ι := { i : Nat // i ≤ M.length }) (fun i => [(1, .int .i64 c), (5, ptr bm), (16, .slice ua (M.map It2.v).length uc), (17, .int .i64 ((M.map It2.v).length : Int)), (18, .int .i64 (i.1 : Int))]) (fun _ => SlC 9 (.slice ua (M.map It2.v).length uc) (M.map It2.v) :: R) (fun i => OrdC bm (Sc.upr (plRow (M.take i.1) c)) :: C) (fun i => M.length - i.1) ⟨0, Nat.zero_le _⟩ (by exact a_sub) (by exact a_subR) (by exact a_holds) (fun i => ?_)
  obtain ⟨i, hi⟩ := i
  dsimp only
  by_cases hlt : i < M.length
  · obtain ⟨x, hx⟩ : ∃ x, M[i]? = some x := ⟨_, List.getElem?_eq_getElem hlt⟩
    have hxm : x ∈ M := List.mem_of_getElem? hx
    have hxv : (M.map It2.v)[i]? = some x.v := by rw [List.getElem?_map, hx]; rfl
    have hvx := x.vof (hMok x hxm)
    have hrx := hMr x hxm
    have hsn := plRow_snoc M c i x hx
    have hzl := plRow_len (M.take i) c
    rw [List.length_take, Nat.min_eq_left (by omega)] at hzl
    clear hMr hMok
    obtain ⟨zs, hzs⟩ : ∃ zs, plRow (M.take i) c = zs := ⟨_, rfl⟩
    rw [hzs] at hsn hzl ⊢
    repeat' (first
    | ((first | with_reducible refine nl_op rfl ?_ | refine nd_go rfl rfl rfl ?_); intro K hK; (first
      | ((first | refine on_E hF rfl rfl ?_ | refine od_E rfl rfl ?_ | refine od_R rfl rfl ?_); (first | refine ⟨_, a_yl, ?_⟩ | refine ⟨_, yl_build (T := 27) (us := [(4, _), (5, _)]) rfl rfl rfl (fun w => by go_simp; all_goals rfl), ?_⟩ | refine ⟨_, yl_build (T := 106) (us := [(0, _), (1, _), (2, _), (3, _), (4, _), (5, _)]) rfl rfl rfl (fun w => by go_simp; all_goals rfl), ?_⟩ | refine ⟨_, yl_fieldB (T := 27) (f := 4) (q := 4) rfl rfl (by kernel_rfl), ?_⟩ | refine ⟨_, yl_fieldE (T := 27) (f := 4) (j := 4) rfl rfl a_sl (by (first | omega | (simp only [List.length_append, List.length_cons, List.length_nil, List.length_map] at *; omega))) (by kernel_rfl), ?_⟩ | refine ⟨_, yl_fieldB (T := 27) (f := 5) (q := 5) rfl rfl (by kernel_rfl), ?_⟩ | refine ⟨_, yl_fieldE (T := 27) (f := 5) (j := 5) rfl rfl a_sl (by (first | omega | (simp only [List.length_append, List.length_cons, List.length_nil, List.length_map] at *; omega))) (by kernel_rfl), ?_⟩))
      | ((first | refine on_Ec hF rfl rfl ?_ | refine od_Ec rfl rfl ?_); refine ⟨_, _, _, a_yc, ?_, ?_⟩ <;> (intro hc; try (exfalso; first | (omega; done) | exact absurd (by with_reducible rfl) hc | (simp at hc; done))))
      | ((first | (refine od_act (fun c => by exact (fun h => by cases h)) ?_; intro K2 hK2) | refine od_last (fun c => by exact (fun h => by cases h)) ?_ | skip); (first
      
      | (refine on_buildSlice (T := 22) (e := 27) (k := 9) (by_ := 88) hF rfl rfl rfl rfl rfl rfl (by kernel_rfl) a_cel (Nat.le_of_ble_eq_true rfl) (fun b => ?_))
      | (refine on_append (T := 22) (e := 27) (k := 9) (by_ := 88) hF rfl rfl rfl rfl rfl a_pick (by kernel_rfl) a_sl a_cel (by first | omega | (unfold maxLen; simp only [List.length_map, List.length_append, List.length_cons, List.length_nil, List.length_replicate]; omega) | (simp only [List.length_map, List.length_append, List.length_cons, List.length_nil, List.length_replicate]; omega)) (by first | omega | (unfold maxLen; simp only [List.length_map, List.length_append, List.length_cons, List.length_nil, List.length_replicate]; omega) | (simp only [List.length_map, List.length_append, List.length_cons, List.length_nil, List.length_replicate]; omega)) (fun v => ?_))
      | (refine on_alloc hF rfl Try.zeroValue27 rfl rfl (fun B => ?_))
      | (refine on_box hF rfl rfl rfl rfl (fun B => ?_))
      | (refine on_store hF rfl rfl rfl rfl a_turn a_vof (by first | rfl | exact hsz.symm | exact hsz) ?_)
      | (refine on_storeE hF rfl rfl rfl rfl a_turn (by (first | omega | (simp only [List.length_append, List.length_cons, List.length_nil, List.length_map] at *; omega))) a_vof (by first | rfl | exact hsz) ?_)
      | (refine on_storeEF hF rfl rfl rfl rfl a_turn (by first | with_reducible assumption | rfl) (by decide) a_vof rfl ?_)
      | (refine on_storeF hF rfl rfl rfl rfl a_turn (by decide) a_vof rfl ?_)) <;> try (refine hK2 _ _ _ a_allK ?_; clear hK2 K2))) <;> (refine hK _ _ _ ?_; clear hK K))
    | with_reducible refine nx_seq ?_
        | with_reducible refine nx_region ?_
        | with_reducible refine nl_nil ?_
        | with_reducible refine nq_then_n ?_
        | with_reducible refine nx_block ?_
        | with_reducible refine nx_skip ?_
        | with_reducible refine nx_exit ?_
        | with_reducible refine nx_ret ?_
        | with_reducible refine nq_then_x ?_
        | with_reducible refine nq_then_r ?_
        | with_reducible refine nq_blk_n ?_
        | with_reducible refine nq_blk_r ?_
        | with_reducible refine nq_blk_hit ?_
        | with_reducible refine nq_blk_miss rfl ?_
        | with_reducible refine nd_nil ?_
    | refine nx_cond_t rfl ?_ | refine nx_cond_f rfl ?_
    | refine nl_pass hF rfl rfl rfl ?_
    | refine nd_pass rfl rfl rfl rfl rfl ?_
    | refine nd_pass2 rfl rfl rfl (fun c => by exact (fun h => by cases h)) a_allK rfl rfl ?_
    | refine nd_pass3 rfl rfl rfl (fun c => by exact (fun h => by cases h)) rfl rfl ?_
    | (with_reducible refine hQ1 _ _ _ ?_; clear hQ1 Q1)
    )
    all_goals (try (exfalso; dsimp only at *; omega))
    rw [show Sc.upr zs = Sc.upr (zs ++ fromC c ((sixP x).take 0)) from by simp [fromC]]
    clear hxv hvx
    refine nx_loop (ι := { j : Nat // j ≤ 6 }) (fun j => [(1, .int .i64 c), (5, ptr bm), (16, .slice ua (M.map It2.v).length uc), (17, .int .i64 ((M.map It2.v).length : Int)), (18, .int .i64 (i : Int)), (38, .agg #[.int .i64 (x.a - 1), .int .i64 x.a, .int .i64 (x.a + 1), .int .i64 (x.b - 1), .int .i64 x.b, .int .i64 (x.b + 1)]), (39, .int .i64 (j.1 : Int))]) (fun _ => SlC 9 (.slice ua (M.map It2.v).length uc) (M.map It2.v) :: R) (fun j => OrdC bm (Sc.upr (zs ++ fromC c ((sixP x).take j.1))) :: C) (fun j => 6 - j.1) ⟨0, Nat.zero_le _⟩ (by exact a_sub) (by exact a_subR) (by exact a_holds) (fun j => ?_)
    obtain ⟨j, hj⟩ := j
    dsimp only
    have hfl : (fromC c ((sixP x).take j)).length ≤ 6 := by
      have h1 := List.length_filter_le (fun n => decide (c ≤ n)) ((sixP x).take j)
      have h2 : (sixP x).length = 6 := rfl
      rw [List.length_take, h2] at h1
      unfold fromC; omega
    by_cases hj6 : j < 6
    · obtain ⟨y, hy⟩ : ∃ y, (sixP x)[j]? = some y := ⟨_, List.getElem?_eq_getElem (by simpa [sixP] using hj6)⟩
      have harr : (#[.int .i64 (x.a - 1), .int .i64 x.a, .int .i64 (x.a + 1), .int .i64 (x.b - 1), .int .i64 x.b, .int .i64 (x.b + 1)] : Array Value) = ((sixP x).map (Value.int .i64)).toArray := rfl
      have hyv : (#[.int .i64 (x.a - 1), .int .i64 x.a, .int .i64 (x.a + 1), .int .i64 (x.b - 1), .int .i64 x.b, .int .i64 (x.b + 1)] : Array Value)[j]? = some (.int .i64 y) := by rw [harr]; simp [hy]
      have hft : fromC c ((sixP x).take (j + 1)) = fromC c ((sixP x).take j) ++ if c ≤ y then [y] else [] := by
        unfold fromC; rw [List.take_add_one, hy]; simp [List.filter_cons]
      have hzl2 : (zs ++ fromC c ((sixP x).take j)).length ≤ 1000000000 := by rw [List.length_append]; omega
      obtain ⟨q, hq⟩ : ∃ q, zs ++ fromC c ((sixP x).take j) = q := ⟨_, rfl⟩
      have hqn : zs ++ fromC c ((sixP x).take (j + 1)) = q ++ if c ≤ y then [y] else [] := by rw [hft, ← List.append_assoc, hq]
      rw [hq] at hzl2 ⊢
      clear harr hft hq
      by_cases hcy : c ≤ y
      · rw [if_pos hcy] at hqn
        repeat' (first
    | ((first | with_reducible refine nl_op rfl ?_ | refine nd_go rfl rfl rfl ?_); intro K hK; (first
      | ((first | refine on_E hF rfl rfl ?_ | refine od_E rfl rfl ?_ | refine od_R rfl rfl ?_); (first | refine ⟨_, yl_indexA 6 rfl rfl rfl (by kernel_rfl) hj6 hyv, ?_⟩ | refine ⟨_, a_yl, ?_⟩ | refine ⟨_, yl_build (T := 27) (us := [(4, _), (5, _)]) rfl rfl rfl (fun w => by go_simp; all_goals rfl), ?_⟩ | refine ⟨_, yl_build (T := 106) (us := [(0, _), (1, _), (2, _), (3, _), (4, _), (5, _)]) rfl rfl rfl (fun w => by go_simp; all_goals rfl), ?_⟩ | refine ⟨_, yl_fieldB (T := 27) (f := 4) (q := 4) rfl rfl (by kernel_rfl), ?_⟩ | refine ⟨_, yl_fieldE (T := 27) (f := 4) (j := 4) rfl rfl a_sl (by (first | omega | (simp only [List.length_append, List.length_cons, List.length_nil, List.length_map] at *; omega))) (by kernel_rfl), ?_⟩ | refine ⟨_, yl_fieldB (T := 27) (f := 5) (q := 5) rfl rfl (by kernel_rfl), ?_⟩ | refine ⟨_, yl_fieldE (T := 27) (f := 5) (j := 5) rfl rfl a_sl (by (first | omega | (simp only [List.length_append, List.length_cons, List.length_nil, List.length_map] at *; omega))) (by kernel_rfl), ?_⟩))
      | ((first | refine on_Ec hF rfl rfl ?_ | refine od_Ec rfl rfl ?_); refine ⟨_, _, _, a_yc, ?_, ?_⟩ <;> (intro hc; try (exfalso; first | (omega; done) | exact absurd (by with_reducible rfl) hc | (simp at hc; done))))
      | ((first | (refine od_act (fun c => by exact (fun h => by cases h)) ?_; intro K2 hK2) | refine od_last (fun c => by exact (fun h => by cases h)) ?_ | skip); (first
      | (refine on_callG hF (enters_of Try.func34 (by kernel_rfl) rfl) rfl rfl rfl rfl ((put_ct bm q y hzl2).pre (perm1 (by exact a_pick))) (fun _ => ?_); rw [← hqn])
      | (refine on_buildSlice (T := 22) (e := 27) (k := 9) (by_ := 88) hF rfl rfl rfl rfl rfl rfl (by kernel_rfl) a_cel (Nat.le_of_ble_eq_true rfl) (fun b => ?_))
      | (refine on_append (T := 22) (e := 27) (k := 9) (by_ := 88) hF rfl rfl rfl rfl rfl a_pick (by kernel_rfl) a_sl a_cel (by first | omega | (unfold maxLen; simp only [List.length_map, List.length_append, List.length_cons, List.length_nil, List.length_replicate]; omega) | (simp only [List.length_map, List.length_append, List.length_cons, List.length_nil, List.length_replicate]; omega)) (by first | omega | (unfold maxLen; simp only [List.length_map, List.length_append, List.length_cons, List.length_nil, List.length_replicate]; omega) | (simp only [List.length_map, List.length_append, List.length_cons, List.length_nil, List.length_replicate]; omega)) (fun v => ?_))
      | (refine on_alloc hF rfl Try.zeroValue27 rfl rfl (fun B => ?_))
      | (refine on_box hF rfl rfl rfl rfl (fun B => ?_))
      | (refine on_store hF rfl rfl rfl rfl a_turn a_vof (by first | rfl | exact hsz.symm | exact hsz) ?_)
      | (refine on_storeE hF rfl rfl rfl rfl a_turn (by (first | omega | (simp only [List.length_append, List.length_cons, List.length_nil, List.length_map] at *; omega))) a_vof (by first | rfl | exact hsz) ?_)
      | (refine on_storeEF hF rfl rfl rfl rfl a_turn (by first | with_reducible assumption | rfl) (by decide) a_vof rfl ?_)
      | (refine on_storeF hF rfl rfl rfl rfl a_turn (by decide) a_vof rfl ?_)) <;> try (refine hK2 _ _ _ a_allK ?_; clear hK2 K2))) <;> (refine hK _ _ _ ?_; clear hK K))
    | with_reducible refine nx_seq ?_
        | with_reducible refine nx_region ?_
        | with_reducible refine nl_nil ?_
        | with_reducible refine nq_then_n ?_
        | with_reducible refine nx_block ?_
        | with_reducible refine nx_skip ?_
        | with_reducible refine nx_exit ?_
        | with_reducible refine nx_ret ?_
        | with_reducible refine nq_then_x ?_
        | with_reducible refine nq_then_r ?_
        | with_reducible refine nq_blk_n ?_
        | with_reducible refine nq_blk_r ?_
        | with_reducible refine nq_blk_hit ?_
        | with_reducible refine nq_blk_miss rfl ?_
        | with_reducible refine nd_nil ?_
    | refine nx_cond_t rfl ?_ | refine nx_cond_f rfl ?_
    | refine nl_pass hF rfl rfl rfl ?_
    | refine nd_pass rfl rfl rfl rfl rfl ?_
    | refine nd_pass2 rfl rfl rfl (fun c => by exact (fun h => by cases h)) a_allK rfl rfl ?_
    | refine nd_pass3 rfl rfl rfl (fun c => by exact (fun h => by cases h)) rfl rfl ?_
    | (with_reducible refine hQ1 _ _ _ ?_; clear hQ1 Q1)
    )
        all_goals (try (exfalso; dsimp only at *; omega))
        refine nx_again ⟨j + 1, by omega⟩ (by dsimp only; omega) (by exact a_sub) (by exact a_subR) (by exact a_holds)
      · rw [if_neg hcy, List.append_nil] at hqn
        repeat' (first
    | ((first | with_reducible refine nl_op rfl ?_ | refine nd_go rfl rfl rfl ?_); intro K hK; (first
      | ((first | refine on_E hF rfl rfl ?_ | refine od_E rfl rfl ?_ | refine od_R rfl rfl ?_); (first | refine ⟨_, yl_indexA 6 rfl rfl rfl (by kernel_rfl) hj6 hyv, ?_⟩ | refine ⟨_, a_yl, ?_⟩ | refine ⟨_, yl_build (T := 27) (us := [(4, _), (5, _)]) rfl rfl rfl (fun w => by go_simp; all_goals rfl), ?_⟩ | refine ⟨_, yl_build (T := 106) (us := [(0, _), (1, _), (2, _), (3, _), (4, _), (5, _)]) rfl rfl rfl (fun w => by go_simp; all_goals rfl), ?_⟩ | refine ⟨_, yl_fieldB (T := 27) (f := 4) (q := 4) rfl rfl (by kernel_rfl), ?_⟩ | refine ⟨_, yl_fieldE (T := 27) (f := 4) (j := 4) rfl rfl a_sl (by (first | omega | (simp only [List.length_append, List.length_cons, List.length_nil, List.length_map] at *; omega))) (by kernel_rfl), ?_⟩ | refine ⟨_, yl_fieldB (T := 27) (f := 5) (q := 5) rfl rfl (by kernel_rfl), ?_⟩ | refine ⟨_, yl_fieldE (T := 27) (f := 5) (j := 5) rfl rfl a_sl (by (first | omega | (simp only [List.length_append, List.length_cons, List.length_nil, List.length_map] at *; omega))) (by kernel_rfl), ?_⟩))
      | ((first | refine on_Ec hF rfl rfl ?_ | refine od_Ec rfl rfl ?_); refine ⟨_, _, _, a_yc, ?_, ?_⟩ <;> (intro hc; try (exfalso; first | (omega; done) | exact absurd (by with_reducible rfl) hc | (simp at hc; done))))
      | ((first | (refine od_act (fun c => by exact (fun h => by cases h)) ?_; intro K2 hK2) | refine od_last (fun c => by exact (fun h => by cases h)) ?_ | skip); (first
      
      | (refine on_buildSlice (T := 22) (e := 27) (k := 9) (by_ := 88) hF rfl rfl rfl rfl rfl rfl (by kernel_rfl) a_cel (Nat.le_of_ble_eq_true rfl) (fun b => ?_))
      | (refine on_append (T := 22) (e := 27) (k := 9) (by_ := 88) hF rfl rfl rfl rfl rfl a_pick (by kernel_rfl) a_sl a_cel (by first | omega | (unfold maxLen; simp only [List.length_map, List.length_append, List.length_cons, List.length_nil, List.length_replicate]; omega) | (simp only [List.length_map, List.length_append, List.length_cons, List.length_nil, List.length_replicate]; omega)) (by first | omega | (unfold maxLen; simp only [List.length_map, List.length_append, List.length_cons, List.length_nil, List.length_replicate]; omega) | (simp only [List.length_map, List.length_append, List.length_cons, List.length_nil, List.length_replicate]; omega)) (fun v => ?_))
      | (refine on_alloc hF rfl Try.zeroValue27 rfl rfl (fun B => ?_))
      | (refine on_box hF rfl rfl rfl rfl (fun B => ?_))
      | (refine on_store hF rfl rfl rfl rfl a_turn a_vof (by first | rfl | exact hsz.symm | exact hsz) ?_)
      | (refine on_storeE hF rfl rfl rfl rfl a_turn (by (first | omega | (simp only [List.length_append, List.length_cons, List.length_nil, List.length_map] at *; omega))) a_vof (by first | rfl | exact hsz) ?_)
      | (refine on_storeEF hF rfl rfl rfl rfl a_turn (by first | with_reducible assumption | rfl) (by decide) a_vof rfl ?_)
      | (refine on_storeF hF rfl rfl rfl rfl a_turn (by decide) a_vof rfl ?_)) <;> try (refine hK2 _ _ _ a_allK ?_; clear hK2 K2))) <;> (refine hK _ _ _ ?_; clear hK K))
    | with_reducible refine nx_seq ?_
        | with_reducible refine nx_region ?_
        | with_reducible refine nl_nil ?_
        | with_reducible refine nq_then_n ?_
        | with_reducible refine nx_block ?_
        | with_reducible refine nx_skip ?_
        | with_reducible refine nx_exit ?_
        | with_reducible refine nx_ret ?_
        | with_reducible refine nq_then_x ?_
        | with_reducible refine nq_then_r ?_
        | with_reducible refine nq_blk_n ?_
        | with_reducible refine nq_blk_r ?_
        | with_reducible refine nq_blk_hit ?_
        | with_reducible refine nq_blk_miss rfl ?_
        | with_reducible refine nd_nil ?_
    | refine nx_cond_t rfl ?_ | refine nx_cond_f rfl ?_
    | refine nl_pass hF rfl rfl rfl ?_
    | refine nd_pass rfl rfl rfl rfl rfl ?_
    | refine nd_pass2 rfl rfl rfl (fun c => by exact (fun h => by cases h)) a_allK rfl rfl ?_
    | refine nd_pass3 rfl rfl rfl (fun c => by exact (fun h => by cases h)) rfl rfl ?_
    | (with_reducible refine hQ1 _ _ _ ?_; clear hQ1 Q1)
    )
        all_goals (try (exfalso; dsimp only at *; omega))
        rw [← hqn]
        refine nx_again ⟨j + 1, by omega⟩ (by dsimp only; omega) (by exact a_sub) (by exact a_subR) (by exact a_holds)
    · obtain rfl : j = 6 := by omega
      rw [show (sixP x).take 6 = sixP x from rfl, ← hsn]
      repeat' (first
    | ((first | with_reducible refine nl_op rfl ?_ | refine nd_go rfl rfl rfl ?_); intro K hK; (first
      | ((first | refine on_E hF rfl rfl ?_ | refine od_E rfl rfl ?_ | refine od_R rfl rfl ?_); (first | refine ⟨_, a_yl, ?_⟩ | refine ⟨_, yl_build (T := 27) (us := [(4, _), (5, _)]) rfl rfl rfl (fun w => by go_simp; all_goals rfl), ?_⟩ | refine ⟨_, yl_build (T := 106) (us := [(0, _), (1, _), (2, _), (3, _), (4, _), (5, _)]) rfl rfl rfl (fun w => by go_simp; all_goals rfl), ?_⟩ | refine ⟨_, yl_fieldB (T := 27) (f := 4) (q := 4) rfl rfl (by kernel_rfl), ?_⟩ | refine ⟨_, yl_fieldE (T := 27) (f := 4) (j := 4) rfl rfl a_sl (by (first | omega | (simp only [List.length_append, List.length_cons, List.length_nil, List.length_map] at *; omega))) (by kernel_rfl), ?_⟩ | refine ⟨_, yl_fieldB (T := 27) (f := 5) (q := 5) rfl rfl (by kernel_rfl), ?_⟩ | refine ⟨_, yl_fieldE (T := 27) (f := 5) (j := 5) rfl rfl a_sl (by (first | omega | (simp only [List.length_append, List.length_cons, List.length_nil, List.length_map] at *; omega))) (by kernel_rfl), ?_⟩))
      | ((first | refine on_Ec hF rfl rfl ?_ | refine od_Ec rfl rfl ?_); refine ⟨_, _, _, a_yc, ?_, ?_⟩ <;> (intro hc; try (exfalso; first | (omega; done) | exact absurd (by with_reducible rfl) hc | (simp at hc; done))))
      | ((first | (refine od_act (fun c => by exact (fun h => by cases h)) ?_; intro K2 hK2) | refine od_last (fun c => by exact (fun h => by cases h)) ?_ | skip); (first
      
      | (refine on_buildSlice (T := 22) (e := 27) (k := 9) (by_ := 88) hF rfl rfl rfl rfl rfl rfl (by kernel_rfl) a_cel (Nat.le_of_ble_eq_true rfl) (fun b => ?_))
      | (refine on_append (T := 22) (e := 27) (k := 9) (by_ := 88) hF rfl rfl rfl rfl rfl a_pick (by kernel_rfl) a_sl a_cel (by first | omega | (unfold maxLen; simp only [List.length_map, List.length_append, List.length_cons, List.length_nil, List.length_replicate]; omega) | (simp only [List.length_map, List.length_append, List.length_cons, List.length_nil, List.length_replicate]; omega)) (by first | omega | (unfold maxLen; simp only [List.length_map, List.length_append, List.length_cons, List.length_nil, List.length_replicate]; omega) | (simp only [List.length_map, List.length_append, List.length_cons, List.length_nil, List.length_replicate]; omega)) (fun v => ?_))
      | (refine on_alloc hF rfl Try.zeroValue27 rfl rfl (fun B => ?_))
      | (refine on_box hF rfl rfl rfl rfl (fun B => ?_))
      | (refine on_store hF rfl rfl rfl rfl a_turn a_vof (by first | rfl | exact hsz.symm | exact hsz) ?_)
      | (refine on_storeE hF rfl rfl rfl rfl a_turn (by (first | omega | (simp only [List.length_append, List.length_cons, List.length_nil, List.length_map] at *; omega))) a_vof (by first | rfl | exact hsz) ?_)
      | (refine on_storeEF hF rfl rfl rfl rfl a_turn (by first | with_reducible assumption | rfl) (by decide) a_vof rfl ?_)
      | (refine on_storeF hF rfl rfl rfl rfl a_turn (by decide) a_vof rfl ?_)) <;> try (refine hK2 _ _ _ a_allK ?_; clear hK2 K2))) <;> (refine hK _ _ _ ?_; clear hK K))
    | with_reducible refine nx_seq ?_
        | with_reducible refine nx_region ?_
        | with_reducible refine nl_nil ?_
        | with_reducible refine nq_then_n ?_
        | with_reducible refine nx_block ?_
        | with_reducible refine nx_skip ?_
        | with_reducible refine nx_exit ?_
        | with_reducible refine nx_ret ?_
        | with_reducible refine nq_then_x ?_
        | with_reducible refine nq_then_r ?_
        | with_reducible refine nq_blk_n ?_
        | with_reducible refine nq_blk_r ?_
        | with_reducible refine nq_blk_hit ?_
        | with_reducible refine nq_blk_miss rfl ?_
        | with_reducible refine nd_nil ?_
    | refine nx_cond_t rfl ?_ | refine nx_cond_f rfl ?_
    | refine nl_pass hF rfl rfl rfl ?_
    | refine nd_pass rfl rfl rfl rfl rfl ?_
    | refine nd_pass2 rfl rfl rfl (fun c => by exact (fun h => by cases h)) a_allK rfl rfl ?_
    | refine nd_pass3 rfl rfl rfl (fun c => by exact (fun h => by cases h)) rfl rfl ?_
    | (with_reducible refine hQ1 _ _ _ ?_; clear hQ1 Q1)
    )
      all_goals (try (exfalso; dsimp only at *; omega))
      refine nx_again ⟨i + 1, by omega⟩ (by dsimp only; omega) (by exact a_sub) (by exact a_subR) (by exact a_holds)
  · rw [List.take_of_length_le (by omega)]
    have hzl := plRow_len M c
    have hul := Sc.upr_len (plRow M c)
    have hult := Sc.upr_lt (plRow M c)
    obtain ⟨ks, hks⟩ : ∃ ks, Sc.upr (plRow M c) = ks := ⟨_, rfl⟩
    rw [hks] at hul ⊢
    clear hks
    repeat' (first
    | ((first | with_reducible refine nl_op rfl ?_ | refine nd_go rfl rfl rfl ?_); intro K hK; (first
      | ((first | refine on_E hF rfl rfl ?_ | refine od_E rfl rfl ?_ | refine od_R rfl rfl ?_); (first | refine ⟨_, a_yl, ?_⟩ | refine ⟨_, yl_build (T := 27) (us := [(4, _), (5, _)]) rfl rfl rfl (fun w => by go_simp; all_goals rfl), ?_⟩ | refine ⟨_, yl_build (T := 106) (us := [(0, _), (1, _), (2, _), (3, _), (4, _), (5, _)]) rfl rfl rfl (fun w => by go_simp; all_goals rfl), ?_⟩ | refine ⟨_, yl_fieldB (T := 27) (f := 4) (q := 4) rfl rfl (by kernel_rfl), ?_⟩ | refine ⟨_, yl_fieldE (T := 27) (f := 4) (j := 4) rfl rfl a_sl (by (first | omega | (simp only [List.length_append, List.length_cons, List.length_nil, List.length_map] at *; omega))) (by kernel_rfl), ?_⟩ | refine ⟨_, yl_fieldB (T := 27) (f := 5) (q := 5) rfl rfl (by kernel_rfl), ?_⟩ | refine ⟨_, yl_fieldE (T := 27) (f := 5) (j := 5) rfl rfl a_sl (by (first | omega | (simp only [List.length_append, List.length_cons, List.length_nil, List.length_map] at *; omega))) (by kernel_rfl), ?_⟩))
      | ((first | refine on_Ec hF rfl rfl ?_ | refine od_Ec rfl rfl ?_); refine ⟨_, _, _, a_yc, ?_, ?_⟩ <;> (intro hc; try (exfalso; first | (omega; done) | exact absurd (by with_reducible rfl) hc | (simp at hc; done))))
      | ((first | (refine od_act (fun c => by exact (fun h => by cases h)) ?_; intro K2 hK2) | refine od_last (fun c => by exact (fun h => by cases h)) ?_ | skip); (first
      
      | (refine on_buildSlice (T := 22) (e := 27) (k := 9) (by_ := 88) hF rfl rfl rfl rfl rfl rfl (by kernel_rfl) a_cel (Nat.le_of_ble_eq_true rfl) (fun b => ?_))
      | (refine on_append (T := 22) (e := 27) (k := 9) (by_ := 88) hF rfl rfl rfl rfl rfl a_pick (by kernel_rfl) a_sl a_cel (by first | omega | (unfold maxLen; simp only [List.length_map, List.length_append, List.length_cons, List.length_nil, List.length_replicate]; omega) | (simp only [List.length_map, List.length_append, List.length_cons, List.length_nil, List.length_replicate]; omega)) (by first | omega | (unfold maxLen; simp only [List.length_map, List.length_append, List.length_cons, List.length_nil, List.length_replicate]; omega) | (simp only [List.length_map, List.length_append, List.length_cons, List.length_nil, List.length_replicate]; omega)) (fun v => ?_))
      | (refine on_alloc hF rfl Try.zeroValue27 rfl rfl (fun B => ?_))
      | (refine on_box hF rfl rfl rfl rfl (fun B => ?_))
      | (refine on_store hF rfl rfl rfl rfl a_turn a_vof (by first | rfl | exact hsz.symm | exact hsz) ?_)
      | (refine on_storeE hF rfl rfl rfl rfl a_turn (by (first | omega | (simp only [List.length_append, List.length_cons, List.length_nil, List.length_map] at *; omega))) a_vof (by first | rfl | exact hsz) ?_)
      | (refine on_storeEF hF rfl rfl rfl rfl a_turn (by first | with_reducible assumption | rfl) (by decide) a_vof rfl ?_)
      | (refine on_storeF hF rfl rfl rfl rfl a_turn (by decide) a_vof rfl ?_)) <;> try (refine hK2 _ _ _ a_allK ?_; clear hK2 K2))) <;> (refine hK _ _ _ ?_; clear hK K))
    | with_reducible refine nx_seq ?_
        | with_reducible refine nx_region ?_
        | with_reducible refine nl_nil ?_
        | with_reducible refine nq_then_n ?_
        | with_reducible refine nx_block ?_
        | with_reducible refine nx_skip ?_
        | with_reducible refine nx_exit ?_
        | with_reducible refine nx_ret ?_
        | with_reducible refine nq_then_x ?_
        | with_reducible refine nq_then_r ?_
        | with_reducible refine nq_blk_n ?_
        | with_reducible refine nq_blk_r ?_
        | with_reducible refine nq_blk_hit ?_
        | with_reducible refine nq_blk_miss rfl ?_
        | with_reducible refine nd_nil ?_
    | refine nx_cond_t rfl ?_ | refine nx_cond_f rfl ?_
    | refine nl_pass hF rfl rfl rfl ?_
    | refine nd_pass rfl rfl rfl rfl rfl ?_
    | refine nd_pass2 rfl rfl rfl (fun c => by exact (fun h => by cases h)) a_allK rfl rfl ?_
    | refine nd_pass3 rfl rfl rfl (fun c => by exact (fun h => by cases h)) rfl rfl ?_
    | (with_reducible refine hQ1 _ _ _ ?_; clear hQ1 Q1)
    )
    all_goals (try (exfalso; dsimp only at *; omega))
    refine nx_frz (OrdC bm ks) Pick.here ?_
    repeat' (first
    | ((first | with_reducible refine nl_op rfl ?_ | refine nd_go rfl rfl rfl ?_); intro K hK; (first
      | ((first | refine on_E hF rfl rfl ?_ | refine od_E rfl rfl ?_ | refine od_R rfl rfl ?_); (first | refine ⟨_, a_yl, ?_⟩ | refine ⟨_, yl_build (T := 27) (us := [(4, _), (5, _)]) rfl rfl rfl (fun w => by go_simp; all_goals rfl), ?_⟩ | refine ⟨_, yl_build (T := 106) (us := [(0, _), (1, _), (2, _), (3, _), (4, _), (5, _)]) rfl rfl rfl (fun w => by go_simp; all_goals rfl), ?_⟩ | refine ⟨_, yl_fieldB (T := 27) (f := 4) (q := 4) rfl rfl (by kernel_rfl), ?_⟩ | refine ⟨_, yl_fieldE (T := 27) (f := 4) (j := 4) rfl rfl a_sl (by (first | omega | (simp only [List.length_append, List.length_cons, List.length_nil, List.length_map] at *; omega))) (by kernel_rfl), ?_⟩ | refine ⟨_, yl_fieldB (T := 27) (f := 5) (q := 5) rfl rfl (by kernel_rfl), ?_⟩ | refine ⟨_, yl_fieldE (T := 27) (f := 5) (j := 5) rfl rfl a_sl (by (first | omega | (simp only [List.length_append, List.length_cons, List.length_nil, List.length_map] at *; omega))) (by kernel_rfl), ?_⟩))
      | ((first | refine on_Ec hF rfl rfl ?_ | refine od_Ec rfl rfl ?_); refine ⟨_, _, _, a_yc, ?_, ?_⟩ <;> (intro hc; try (exfalso; first | (omega; done) | exact absurd (by with_reducible rfl) hc | (simp at hc; done))))
      | ((first | (refine od_act (fun c => by exact (fun h => by cases h)) ?_; intro K2 hK2) | refine od_last (fun c => by exact (fun h => by cases h)) ?_ | skip); (first
      | (refine on_callG hF (enters_of Try.func35 (by kernel_rfl) rfl) rfl rfl rfl rfl (keys_ct bm ks (by exact a_mem) (by omega)) (fun v => ?_))
      | (refine on_buildSlice (T := 22) (e := 27) (k := 9) (by_ := 88) hF rfl rfl rfl rfl rfl rfl (by kernel_rfl) a_cel (Nat.le_of_ble_eq_true rfl) (fun b => ?_))
      | (refine on_append (T := 22) (e := 27) (k := 9) (by_ := 88) hF rfl rfl rfl rfl rfl a_pick (by kernel_rfl) a_sl a_cel (by first | omega | (unfold maxLen; simp only [List.length_map, List.length_append, List.length_cons, List.length_nil, List.length_replicate]; omega) | (simp only [List.length_map, List.length_append, List.length_cons, List.length_nil, List.length_replicate]; omega)) (by first | omega | (unfold maxLen; simp only [List.length_map, List.length_append, List.length_cons, List.length_nil, List.length_replicate]; omega) | (simp only [List.length_map, List.length_append, List.length_cons, List.length_nil, List.length_replicate]; omega)) (fun v => ?_))
      | (refine on_alloc hF rfl Try.zeroValue27 rfl rfl (fun B => ?_))
      | (refine on_box hF rfl rfl rfl rfl (fun B => ?_))
      | (refine on_store hF rfl rfl rfl rfl a_turn a_vof (by first | rfl | exact hsz.symm | exact hsz) ?_)
      | (refine on_storeE hF rfl rfl rfl rfl a_turn (by (first | omega | (simp only [List.length_append, List.length_cons, List.length_nil, List.length_map] at *; omega))) a_vof (by first | rfl | exact hsz) ?_)
      | (refine on_storeEF hF rfl rfl rfl rfl a_turn (by first | with_reducible assumption | rfl) (by decide) a_vof rfl ?_)
      | (refine on_storeF hF rfl rfl rfl rfl a_turn (by decide) a_vof rfl ?_)) <;> try (refine hK2 _ _ _ a_allK ?_; clear hK2 K2))) <;> (refine hK _ _ _ ?_; clear hK K))
    | with_reducible refine nx_seq ?_
        | with_reducible refine nx_region ?_
        | with_reducible refine nl_nil ?_
        | with_reducible refine nq_then_n ?_
        | with_reducible refine nx_block ?_
        | with_reducible refine nx_skip ?_
        | with_reducible refine nx_exit ?_
        | with_reducible refine nx_ret ?_
        | with_reducible refine nq_then_x ?_
        | with_reducible refine nq_then_r ?_
        | with_reducible refine nq_blk_n ?_
        | with_reducible refine nq_blk_r ?_
        | with_reducible refine nq_blk_hit ?_
        | with_reducible refine nq_blk_miss rfl ?_
        | with_reducible refine nd_nil ?_
    | refine nx_cond_t rfl ?_ | refine nx_cond_f rfl ?_
    | refine nl_pass hF rfl rfl rfl ?_
    | refine nd_pass rfl rfl rfl rfl rfl ?_
    | refine nd_pass2 rfl rfl rfl (fun c => by exact (fun h => by cases h)) a_allK rfl rfl ?_
    | refine nd_pass3 rfl rfl rfl (fun c => by exact (fun h => by cases h)) rfl rfl ?_
    | (with_reducible refine hQ1 _ _ _ ?_; clear hQ1 Q1)
    )
    refine nx_end [] rfl v (fun a w ha hw => res_tmp Try.results51 rfl ha) (by exact a_subR) (by exact a_holds2)
end Pr
end Go.Proofs.Ytinofjenoapeaaa
end

section
namespace Go.Proofs.Ytinofjenoapeaaa
open Go.RowKit Go.Shelf
set_option linter.unusedSimpArgs false
set_option linter.unusedVariables false
namespace Pr
open Pl Li
/-- Of which part a plan comes. -/
structure FindS (L : List It2) (P : List Prt) (i : Nat) (p : It2 × List Int × List Int) (j : Nat) (x : Prt) : Prop where
  at_ : P[j]? = some x
  le : i ≤ j
  has : (Chn.bestOf L x.u x.fr x.to).2 = true
  one : p.1 = (Chn.bestOf L x.u x.fr x.to).1
  ok : (planAt L P j x p.1).2.2 = true
  seg : p.2.1 = (planAt L P j x p.1).1
  lim : p.2.2 = (planAt L P j x p.1).2.1
  no : ∀ k y, i ≤ k → k < j → P[k]? = some y → (Chn.bestOf L y.u y.fr y.to).2 = false
theorem findI_spec {L : List It2} {P : List Prt} {p : It2 × List Int × List Int} : ∀ (m i : Nat), P.length - i ≤ m → findI L P i = some p → ∃ j x, FindS L P i p j x := by
  intro m
  induction m with
  | zero =>
    intro i hm h
    rw [findI_end (by omega)] at h; cases h
  | succ m ih =>
    intro i hm h
    by_cases hi : i < P.length
    · obtain ⟨x, hx⟩ : ∃ x, P[i]? = some x := ⟨_, List.getElem?_eq_getElem hi⟩
      cases hb : (Chn.bestOf L x.u x.fr x.to).2 with
      | true =>
        rw [findI_here hx hb] at h
        split at h
        · rename_i hok
          injection h with h
          subst h
          exact ⟨i, x, hx, Nat.le_refl _, hb, rfl, hok, rfl, rfl, fun k y h1 h2 => by omega⟩
        · cases h
      | false =>
        rw [findI_next hx hb] at h
        obtain ⟨j, y, hS⟩ := ih (i + 1) (by omega) h
        refine ⟨j, y, hS.at_, by have := hS.le; omega, hS.has, hS.one, hS.ok, hS.seg, hS.lim, fun k z h1 h2 h3 => ?_⟩
        rcases Nat.lt_or_ge i k with h4 | h4
        · exact hS.no k z (by omega) h2 h3
        · obtain rfl : k = i := by omega
          rw [hx] at h3; injection h3 with h3; subst h3; exact hb
    · rw [findI_end hi] at h; cases h
theorem findI_of {L : List It2} {P : List Prt} {p : It2 × List Int × List Int} {j : Nat} {x : Prt} : ∀ (m i : Nat), j - i ≤ m → FindS L P i p j x → findI L P i = some p := by
  intro m
  induction m with
  | zero =>
    intro i hm h
    obtain rfl : i = j := by have := h.le; omega
    rw [findI_here h.at_ h.has, ← h.one, if_pos h.ok, ← h.seg, ← h.lim]
  | succ m ih =>
    intro i hm h
    rcases Nat.lt_or_ge i j with h1 | h1
    · have hlt : j < P.length := (List.getElem?_eq_some_iff.1 h.at_).1
      obtain ⟨y, hy⟩ : ∃ y, P[i]? = some y := ⟨_, List.getElem?_eq_getElem (by omega)⟩
      rw [findI_next hy (h.no i y (Nat.le_refl _) h1 hy)]
      exact ih (i + 1) (by omega) ⟨h.at_, h1, h.has, h.one, h.ok, h.seg, h.lim, fun k z h2 h3 h4 => h.no k z (by omega) h3 h4⟩
    · obtain rfl : i = j := by have := h.le; omega
      rw [findI_here h.at_ h.has, ← h.one, if_pos h.ok, ← h.seg, ← h.lim]
theorem best_mem {L : List It2} {t least most : Int} (h : (Chn.bestOf L t least most).2 = true) : (Chn.bestOf L t least most).1 ∈ L ∧ Chn.backupsB L t most (Chn.bestOf L t least most).1 = true ∧ least ≤ (Chn.bestOf L t least most).1.a := by
  unfold Chn.bestOf at h ⊢
  rcases Chn.best_spec least (L.filter (Chn.backupsB L t most)) (zIt2, false) with ⟨h1, _⟩ | ⟨_, h2, h3⟩
  · rw [h1] at h; cases h
  · obtain ⟨h4, h5⟩ := List.mem_filter.1 h2
    exact ⟨h4, h5, h3⟩
theorem chain_ne {L : List It2} {id : Int} (h : (Chn.chainOf L id).isSome = true) : Chn.chainIds L id ≠ [] := by
  unfold Chn.chainIds
  cases hc : Chn.chainOf L id with
  | none => rw [hc] at h; cases h
  | some xs =>
    have : xs ≠ [] := by
      unfold Chn.chainOf at hc
      split at hc
      · rw [Chn.chainUp] at hc
        split at hc
        · injection hc with hc; subst hc; simp
        · split at hc
          · cases hu : Chn.chainUp L (Chn.atX L (Chn.atX L id).par) with
            | none => rw [hu] at hc; cases hc
            | some ys => rw [hu] at hc; simp at hc; subst hc; simp
          · cases hc
      · cases hc
    simpa using this
theorem chainUp_len (L : List It2) : ∀ (m : Nat) (x : It2) (xs : List It2), Chn.under L x.id ≤ m → Chn.chainUp L x = some xs → xs.length ≤ m + 1 := by
  intro m
  induction m with
  | zero =>
    intro x xs hm h
    by_cases hk : x.kind = 2
    · rw [Chn.chainUp_full hk] at h; injection h with h; subst h; simp
    · cases hu : Chn.upOk L x with
      | false => rw [Chn.chainUp_none hk hu] at h; cases h
      | true =>
        have := Chn.under_lt (Chn.upOk_mem hu).2.1 (Chn.upOk_mem hu).2.2 rfl
        omega
  | succ m ih =>
    intro x xs hm h
    by_cases hk : x.kind = 2
    · rw [Chn.chainUp_full hk] at h; injection h with h; subst h; simp
    · cases hu : Chn.upOk L x with
      | false => rw [Chn.chainUp_none hk hu] at h; cases h
      | true =>
        have hlt := Chn.under_lt (Chn.upOk_mem hu).2.1 (Chn.upOk_mem hu).2.2 rfl
        rw [Chn.chainUp_up hk hu] at h
        cases hy : Chn.chainUp L (Chn.atX L x.par) with
        | none => rw [hy] at h; cases h
        | some ys =>
          rw [hy] at h
          simp at h
          subst h
          have := ih _ ys (by omega) hy
          simp; omega
theorem chain_len (L : List It2) (id : Int) : (Chn.chainIds L id).length ≤ L.length + 1 := by
  unfold Chn.chainIds
  rw [List.length_map, List.length_reverse]
  cases hc : Chn.chainOf L id with
  | none => simp
  | some xs =>
    unfold Chn.chainOf at hc
    split at hc
    · have h1 := chainUp_len L _ _ xs (Nat.le_refl _) hc
      have h2 : Chn.under L (Chn.atX L id).id ≤ L.length := List.length_filter_le _ _
      simp only [Option.getD_some]; omega
    · cases hc
theorem find_spec {L : List It2} {t n : Int} {p : It2 × List Int × List Int} (h : findP L t n = some p) : 0 ≤ n ∧ knownL L t = true ∧ ∃ j x, FindS L (wayU L t n) 0 p j x := by
  unfold findP at h
  split at h
  · cases h
  · rename_i hg
    refine ⟨?_, ?_, findI_spec _ 0 (Nat.le_refl _) h⟩
    · by_cases hn : n < 0
      · exact absurd (.inl hn) hg
      · omega
    · cases hk : knownL L t with
      | true => rfl
      | false => exact absurd (.inr hk) hg
theorem find_chain {L : List It2} {t n : Int} {p : It2 × List Int × List Int} (h : findP L t n = some p) : (Chn.chainOf L p.1.id).isSome = true := by
  obtain ⟨_, _, j, x, hS⟩ := find_spec h
  rw [hS.one]
  have := (best_mem hS.has).2.1
  unfold Chn.backupsB at this
  simp at this
  exact this.2
theorem find_len {L : List It2} {t n : Int} {p : It2 × List Int × List Int} (h : findP L t n = some p) : p.2.1.length ≤ (L.length + 2) * L.length := by
  obtain ⟨_, _, j, x, hS⟩ := find_spec h
  rw [hS.seg, planAt_covF]
  have h1 := covStep_len L ([], [], true) x.u p.1.a x.to
  have h2 := (covF_len L (covStep L ([], [], true) x.u p.1.a x.to) (bkL ((wayU L t n).take j))).1
  have h3 := wayU_few L t n
  rw [bkL_len] at h2
  have h4 : ((wayU L t n).take j).length ≤ L.length + 1 := by rw [List.length_take]; omega
  have h5 : ((wayU L t n).take j).length * L.length ≤ (L.length + 1) * L.length := Nat.mul_le_mul_right _ h4
  have h6 : (L.length + 2) * L.length = (L.length + 1) * L.length + L.length := by rw [show L.length + 2 = (L.length + 1) + 1 from rfl, Nat.succ_mul]
  simp only [List.length_nil, Nat.zero_add] at h1
  omega
/-- The Ids of a plan's objects, rising. -/
def objL (L : List It2) (t n : Int) : List Int := match findP L t n with
  | none => []
  | some p => Sc.upr (Chn.chainIds L p.1.id ++ p.2.1)
def tObj (L : List It2) (ns : List Int) (t : Int) : List Int := (ns.map (objL L t)).flatten
def lineIds (M : List It2) : List Int := (M.filter fun x => decide (x.kind = 4)).map It2.id
/-- What is wanted, in the order in which it is found. -/
def wantZ (L : List It2) (c : Int) : List Int := lineIds L ++ ((allL L).map (tObj L (placesL L c))).flatten
theorem objL_len (L : List It2) (t n : Int) (hm : L.length ≤ 20) : (objL L t n).length ≤ 461 := by
  unfold objL
  split
  · simp
  · rename_i p hp
    have h1 := find_len hp
    have h2 := chain_len L p.1.id
    have h3 := Sc.upr_len (Chn.chainIds L p.1.id ++ p.2.1)
    have h4 : (L.length + 2) * L.length ≤ 22 * 20 := Nat.mul_le_mul (by omega) hm
    rw [List.length_append] at h3
    omega
theorem flat_len {α : Type} (f : α → List Int) (k : Nat) (hf : ∀ x, (f x).length ≤ k) : ∀ (xs : List α), ((xs.map f).flatten).length ≤ xs.length * k
  | [] => by simp
  | x :: xs => by
    have h1 := flat_len f k hf xs
    have h2 := hf x
    simp only [List.map_cons, List.flatten_cons, List.length_append, List.length_cons, Nat.succ_mul]
    omega
theorem placesL_len (L : List It2) (c : Int) : (placesL L c).length ≤ 6 * (L.length + 1) := by
  have h1 := plRow_len (cItem c :: L) c
  have h2 := Sc.upr_len (plRow (cItem c :: L) c)
  unfold placesL
  simp only [List.length_cons] at h1
  omega
theorem lineIds_len (M : List It2) : (lineIds M).length ≤ M.length := by
  unfold lineIds; rw [List.length_map]; exact List.length_filter_le _ _
theorem lineIds_snoc (M : List It2) (i : Nat) (x : It2) (hx : M[i]? = some x) : lineIds (M.take (i + 1)) = lineIds (M.take i) ++ if x.kind = 4 then [x.id] else [] := by
  unfold lineIds
  rw [List.take_add_one, hx]
  by_cases h : x.kind = 4 <;> simp [List.filter_cons, h]
end Pr
end Go.Proofs.Ytinofjenoapeaaa
end

section
namespace Go.Proofs.Ytinofjenoapeaaa
open Go.RowKit Go.Shelf
set_option linter.unusedSimpArgs false
set_option linter.unusedVariables false
namespace Pr
open Go.Proofs.Ytinofjenoapeaaa.Ord Pl Li
variable {W0 : World} {X : Nat → Prop} {R C : List Ch}
def vI (v : Value) : Int := match v with
  | .int _ n => n
  | _ => 0
theorem tObj_snoc (L : List It2) (ns : List Int) (t : Int) (j : Nat) (n : Int) (hn : ns[j]? = some n) : tObj L (ns.take (j + 1)) t = tObj L (ns.take j) t ++ objL L t n := by
  unfold tObj; rw [List.take_add_one, hn]; simp
theorem tObj_len (L : List It2) (ns : List Int) (t : Int) (hm : L.length ≤ 20) : (tObj L ns t).length ≤ ns.length * 461 := flat_len (objL L t) 461 (fun n => objL_len L t n hm) ns
set_option maxRecDepth 100000 in
set_option maxHeartbeats 8000000 in
theorem wanted_ct (s : Value) (hs : IsSl s) (L : List It2) (hok : ∀ x ∈ L, x.ok) (c : Int) (hc : -1099511627776 ≤ c ∧ c ≤ 1099511627776) (hr : ∀ x ∈ L, 0 ≤ x.a ∧ x.a ≤ 1099511627776 ∧ 0 ≤ x.b ∧ x.b ≤ 1099511627776) (htl : ∀ x ∈ L, x.tl ≤ 1099511627776) (hsl : SlC 9 s (L.map It2.v) ∈ R) (hm : L.length ≤ 20) :
    Ct Try.prog 29 [s, .int .i64 c] W0 X R C Nat (fun bm => ptr bm) (fun _ => R) (fun bm => OrdC bm (Sc.upr (wantZ L c)) :: C) := by
  intro w hw
  have hF := isWide_wide
  have hm88 : L.length * 88 ≤ 140737488355328 := by omega
  have hs0 := hs
  obtain ⟨sa, sn, sc, rfl⟩ := hs
  obtain rfl := slLen (hw.hasR hsl)
  have hlv : (L.map It2.v).length = L.length := by simp
  have hvs : VOf Try.prog 22 (.slice sa (L.map It2.v).length sc) := vof_slice (by kernel_rfl) hs0
  have hal : ∀ t ∈ allL L, t ≤ 1099511627776 := fun t ht => by
    rcases mem_all.1 ht with rfl | ⟨x, hx, _, rfl⟩
    · omega
    · exact htl x hx
  have pc := fun (W0 : World) (X : Nat → Prop) (R C : List Ch) h => places_ct (W0 := W0) (X := X) (R := R) (C := C) _ hs0 L hok c hc hr h (by omega)
  have ac := fun (W0 : World) (X : Nat → Prop) (R C : List Ch) h => all_ct (W0 := W0) (X := X) (R := R) (C := C) _ hs0 L hok h hm88
  have fc := fun (W0 : World) (X : Nat → Prop) (R C : List Ch) t n ht h => find_ct (W0 := W0) (X := X) (R := R) (C := C) _ hs0 L hok t n ht h (by omega)
  have hpl := placesL_len L c
  have hall := all_len L
  have hwz : wantZ L c = lineIds L ++ ((allL L).map (tObj L (placesL L c))).flatten := rfl
  obtain ⟨ns, hns⟩ : ∃ ns, placesL L c = ns := ⟨_, rfl⟩
  rw [hns] at pc hpl hwz
  rw [hwz]
  clear hns hr htl hwz
  refine calls_nx Try.func29 rfl Try.ntmps29 rfl ?_ hw
  repeat' (first
    | ((first | with_reducible refine nl_op rfl ?_ | refine nd_go rfl rfl rfl ?_); intro K hK; (first
      | ((first | refine on_E hF rfl rfl ?_ | refine od_E rfl rfl ?_ | refine od_R rfl rfl ?_); (first | refine ⟨_, a_yl, ?_⟩ | refine ⟨_, yl_fieldB (T := 27) (f := 0) (q := 0) rfl rfl (by kernel_rfl), ?_⟩ | refine ⟨_, yl_fieldE (T := 27) (f := 0) (j := 0) rfl rfl a_sl (by (first | omega | (simp only [List.length_append, List.length_cons, List.length_nil, List.length_map] at *; omega))) (by kernel_rfl), ?_⟩ | refine ⟨_, yl_fieldB (T := 27) (f := 1) (q := 1) rfl rfl (by kernel_rfl), ?_⟩ | refine ⟨_, yl_fieldE (T := 27) (f := 1) (j := 1) rfl rfl a_sl (by (first | omega | (simp only [List.length_append, List.length_cons, List.length_nil, List.length_map] at *; omega))) (by kernel_rfl), ?_⟩))
      | ((first | refine on_Ec hF rfl rfl ?_ | refine od_Ec rfl rfl ?_); refine ⟨_, _, _, a_yc, ?_, ?_⟩ <;> (intro hc; try (exfalso; first | (omega; done) | exact absurd (by with_reducible rfl) hc | (simp at hc; done))))
      | ((first | (refine od_act (fun c => by exact (fun h => by cases h)) ?_; intro K2 hK2) | refine od_last (fun c => by exact (fun h => by cases h)) ?_ | skip); (first
      | (refine on_callG hF (enters_of Try.func30 (by kernel_rfl) rfl) rfl rfl rfl rfl new_ct (fun bm => ?_))
      
      | (refine on_alloc hF rfl Try.zeroValue27 rfl rfl (fun B => ?_))
      | (refine on_alloc hF rfl Try.zeroValue28 rfl rfl (fun B => ?_))
      | (refine on_alloc hF rfl Try.zeroValue43 rfl rfl (fun B => ?_))
      | (refine on_alloc hF rfl Try.zeroValue59 rfl rfl (fun B => ?_))
      | (refine on_box hF rfl rfl rfl rfl (fun B => ?_))
      | (refine on_store hF rfl rfl rfl rfl a_turn a_vof (by first | rfl | exact hsz.symm | exact hsz) ?_)
      | (refine on_storeE hF rfl rfl rfl rfl a_turn (by (first | omega | (simp only [List.length_append, List.length_cons, List.length_nil, List.length_map] at *; omega))) a_vof (by first | rfl | exact hsz) ?_)
      | (refine on_storeEF hF rfl rfl rfl rfl a_turn (by first | with_reducible assumption | rfl) (by decide) a_vof rfl ?_)
      | (refine on_storeF hF rfl rfl rfl rfl a_turn (by decide) a_vof rfl ?_)) <;> try (refine hK2 _ _ _ a_allK ?_; clear hK2 K2))) <;> (refine hK _ _ _ ?_; clear hK K))
    | with_reducible refine nx_seq ?_
        | with_reducible refine nx_region ?_
        | with_reducible refine nl_nil ?_
        | with_reducible refine nq_then_n ?_
        | with_reducible refine nx_block ?_
        | with_reducible refine nx_skip ?_
        | with_reducible refine nx_exit ?_
        | with_reducible refine nx_ret ?_
        | with_reducible refine nq_then_x ?_
        | with_reducible refine nq_then_r ?_
        | with_reducible refine nq_blk_n ?_
        | with_reducible refine nq_blk_r ?_
        | with_reducible refine nq_blk_hit ?_
        | with_reducible refine nq_blk_miss rfl ?_
        | with_reducible refine nd_nil ?_
    | refine nx_cond_t rfl ?_ | refine nx_cond_f rfl ?_
    | refine nl_pass hF rfl rfl rfl ?_
    | refine nd_pass rfl rfl rfl rfl rfl ?_
    | refine nd_pass2 rfl rfl rfl (fun c => by exact (fun h => by cases h)) a_allK rfl rfl ?_
    | refine nd_pass3 rfl rfl rfl (fun c => by exact (fun h => by cases h)) rfl rfl ?_
    | (with_reducible refine hQ1 _ _ _ ?_; clear hQ1 Q1)
    )
  rename_i b2
  obtain ⟨b5, hb5⟩ : ∃ b5, b5 = B := ⟨_, rfl⟩
  subst hb5
  refine nx_frz (BoxC b2 22 (.slice sa (L.map It2.v).length sc)) (by exact a_pick) ?_
  refine nx_frz (BoxC b5 59 (ptr bm)) (by exact a_pick) ?_
  rw [show ([] : List Int) = Sc.upr (lineIds (L.take 0)) from (upr_nil).symm]
  refine nx_loop (ι := { i : Nat // i ≤ L.length }) (fun i => [(1, .int .i64 c), (2, ptr b2), (5, ptr b5), (17, .slice sa (L.map It2.v).length sc), (18, .int .i64 ((L.map It2.v).length : Int)), (19, .int .i64 (i.1 : Int))]) (fun _ => BoxC b5 59 (ptr bm) :: BoxC b2 22 (.slice sa (L.map It2.v).length sc) :: R) (fun i => OrdC bm (Sc.upr (lineIds (L.take i.1))) :: C) (fun i => L.length - i.1) ⟨0, Nat.zero_le _⟩ (by exact a_sub) (by exact a_subR) (by exact a_holds) (fun i => ?_)
  obtain ⟨i, hi⟩ := i
  dsimp only
  by_cases hlt : i < L.length
  · obtain ⟨x, hx⟩ : ∃ x, L[i]? = some x := ⟨_, List.getElem?_eq_getElem hlt⟩
    have hxm : x ∈ L := List.mem_of_getElem? hx
    have hxv : (L.map It2.v)[i]? = some x.v := by rw [List.getElem?_map, hx]; rfl
    have hvx := x.vof (hok x hxm)
    have hsn := lineIds_snoc L i x hx
    have hzl := lineIds_len (L.take i)
    rw [List.length_take, Nat.min_eq_left (by omega)] at hzl
    obtain ⟨zs, hzs⟩ : ∃ zs, lineIds (L.take i) = zs := ⟨_, rfl⟩
    rw [hzs] at hsn hzl ⊢
    clear pc ac fc hal hok hzs
    by_cases hk : x.kind = 4
    · rw [if_pos hk] at hsn
      repeat' (first
    | ((first | with_reducible refine nl_op rfl ?_ | refine nd_go rfl rfl rfl ?_); intro K hK; (first
      | ((first | refine on_E hF rfl rfl ?_ | refine od_E rfl rfl ?_ | refine od_R rfl rfl ?_); (first | refine ⟨_, a_yl, ?_⟩ | refine ⟨_, yl_fieldB (T := 27) (f := 0) (q := 0) rfl rfl (by kernel_rfl), ?_⟩ | refine ⟨_, yl_fieldE (T := 27) (f := 0) (j := 0) rfl rfl a_sl (by (first | omega | (simp only [List.length_append, List.length_cons, List.length_nil, List.length_map] at *; omega))) (by kernel_rfl), ?_⟩ | refine ⟨_, yl_fieldB (T := 27) (f := 1) (q := 1) rfl rfl (by kernel_rfl), ?_⟩ | refine ⟨_, yl_fieldE (T := 27) (f := 1) (j := 1) rfl rfl a_sl (by (first | omega | (simp only [List.length_append, List.length_cons, List.length_nil, List.length_map] at *; omega))) (by kernel_rfl), ?_⟩))
      | ((first | refine on_Ec hF rfl rfl ?_ | refine od_Ec rfl rfl ?_); refine ⟨_, _, _, a_yc, ?_, ?_⟩ <;> (intro hc; try (exfalso; first | (omega; done) | exact absurd (by with_reducible rfl) hc | (simp at hc; done))))
      | ((first | (refine od_act (fun c => by exact (fun h => by cases h)) ?_; intro K2 hK2) | refine od_last (fun c => by exact (fun h => by cases h)) ?_ | skip); (first
      | (refine on_callG hF (enters_of Try.func34 (by kernel_rfl) rfl) rfl rfl rfl rfl ((put_ct bm zs x.id (by omega)).pre (perm1 (by exact a_pick))) (fun _ => ?_); rw [← hsn])
      
      | (refine on_alloc hF rfl Try.zeroValue27 rfl rfl (fun B => ?_))
      | (refine on_alloc hF rfl Try.zeroValue28 rfl rfl (fun B => ?_))
      | (refine on_alloc hF rfl Try.zeroValue43 rfl rfl (fun B => ?_))
      | (refine on_alloc hF rfl Try.zeroValue59 rfl rfl (fun B => ?_))
      | (refine on_box hF rfl rfl rfl rfl (fun B => ?_))
      | (refine on_store hF rfl rfl rfl rfl a_turn a_vof (by first | rfl | exact hsz.symm | exact hsz) ?_)
      | (refine on_storeE hF rfl rfl rfl rfl a_turn (by (first | omega | (simp only [List.length_append, List.length_cons, List.length_nil, List.length_map] at *; omega))) a_vof (by first | rfl | exact hsz) ?_)
      | (refine on_storeEF hF rfl rfl rfl rfl a_turn (by first | with_reducible assumption | rfl) (by decide) a_vof rfl ?_)
      | (refine on_storeF hF rfl rfl rfl rfl a_turn (by decide) a_vof rfl ?_)) <;> try (refine hK2 _ _ _ a_allK ?_; clear hK2 K2))) <;> (refine hK _ _ _ ?_; clear hK K))
    | with_reducible refine nx_seq ?_
        | with_reducible refine nx_region ?_
        | with_reducible refine nl_nil ?_
        | with_reducible refine nq_then_n ?_
        | with_reducible refine nx_block ?_
        | with_reducible refine nx_skip ?_
        | with_reducible refine nx_exit ?_
        | with_reducible refine nx_ret ?_
        | with_reducible refine nq_then_x ?_
        | with_reducible refine nq_then_r ?_
        | with_reducible refine nq_blk_n ?_
        | with_reducible refine nq_blk_r ?_
        | with_reducible refine nq_blk_hit ?_
        | with_reducible refine nq_blk_miss rfl ?_
        | with_reducible refine nd_nil ?_
    | refine nx_cond_t rfl ?_ | refine nx_cond_f rfl ?_
    | refine nl_pass hF rfl rfl rfl ?_
    | refine nd_pass rfl rfl rfl rfl rfl ?_
    | refine nd_pass2 rfl rfl rfl (fun c => by exact (fun h => by cases h)) a_allK rfl rfl ?_
    | refine nd_pass3 rfl rfl rfl (fun c => by exact (fun h => by cases h)) rfl rfl ?_
    | (with_reducible refine hQ1 _ _ _ ?_; clear hQ1 Q1)
    )
      all_goals (try (exfalso; dsimp only at *; omega))
      refine nx_again ⟨i + 1, by omega⟩ (by dsimp only; omega) (by exact a_sub) (by exact a_subR) (by exact a_holds)
    · rw [if_neg hk, List.append_nil] at hsn
      repeat' (first
    | ((first | with_reducible refine nl_op rfl ?_ | refine nd_go rfl rfl rfl ?_); intro K hK; (first
      | ((first | refine on_E hF rfl rfl ?_ | refine od_E rfl rfl ?_ | refine od_R rfl rfl ?_); (first | refine ⟨_, a_yl, ?_⟩ | refine ⟨_, yl_fieldB (T := 27) (f := 0) (q := 0) rfl rfl (by kernel_rfl), ?_⟩ | refine ⟨_, yl_fieldE (T := 27) (f := 0) (j := 0) rfl rfl a_sl (by (first | omega | (simp only [List.length_append, List.length_cons, List.length_nil, List.length_map] at *; omega))) (by kernel_rfl), ?_⟩ | refine ⟨_, yl_fieldB (T := 27) (f := 1) (q := 1) rfl rfl (by kernel_rfl), ?_⟩ | refine ⟨_, yl_fieldE (T := 27) (f := 1) (j := 1) rfl rfl a_sl (by (first | omega | (simp only [List.length_append, List.length_cons, List.length_nil, List.length_map] at *; omega))) (by kernel_rfl), ?_⟩))
      | ((first | refine on_Ec hF rfl rfl ?_ | refine od_Ec rfl rfl ?_); refine ⟨_, _, _, a_yc, ?_, ?_⟩ <;> (intro hc; try (exfalso; first | (omega; done) | exact absurd (by with_reducible rfl) hc | (simp at hc; done))))
      | ((first | (refine od_act (fun c => by exact (fun h => by cases h)) ?_; intro K2 hK2) | refine od_last (fun c => by exact (fun h => by cases h)) ?_ | skip); (first
      
      
      | (refine on_alloc hF rfl Try.zeroValue27 rfl rfl (fun B => ?_))
      | (refine on_alloc hF rfl Try.zeroValue28 rfl rfl (fun B => ?_))
      | (refine on_alloc hF rfl Try.zeroValue43 rfl rfl (fun B => ?_))
      | (refine on_alloc hF rfl Try.zeroValue59 rfl rfl (fun B => ?_))
      | (refine on_box hF rfl rfl rfl rfl (fun B => ?_))
      | (refine on_store hF rfl rfl rfl rfl a_turn a_vof (by first | rfl | exact hsz.symm | exact hsz) ?_)
      | (refine on_storeE hF rfl rfl rfl rfl a_turn (by (first | omega | (simp only [List.length_append, List.length_cons, List.length_nil, List.length_map] at *; omega))) a_vof (by first | rfl | exact hsz) ?_)
      | (refine on_storeEF hF rfl rfl rfl rfl a_turn (by first | with_reducible assumption | rfl) (by decide) a_vof rfl ?_)
      | (refine on_storeF hF rfl rfl rfl rfl a_turn (by decide) a_vof rfl ?_)) <;> try (refine hK2 _ _ _ a_allK ?_; clear hK2 K2))) <;> (refine hK _ _ _ ?_; clear hK K))
    | with_reducible refine nx_seq ?_
        | with_reducible refine nx_region ?_
        | with_reducible refine nl_nil ?_
        | with_reducible refine nq_then_n ?_
        | with_reducible refine nx_block ?_
        | with_reducible refine nx_skip ?_
        | with_reducible refine nx_exit ?_
        | with_reducible refine nx_ret ?_
        | with_reducible refine nq_then_x ?_
        | with_reducible refine nq_then_r ?_
        | with_reducible refine nq_blk_n ?_
        | with_reducible refine nq_blk_r ?_
        | with_reducible refine nq_blk_hit ?_
        | with_reducible refine nq_blk_miss rfl ?_
        | with_reducible refine nd_nil ?_
    | refine nx_cond_t rfl ?_ | refine nx_cond_f rfl ?_
    | refine nl_pass hF rfl rfl rfl ?_
    | refine nd_pass rfl rfl rfl rfl rfl ?_
    | refine nd_pass2 rfl rfl rfl (fun c => by exact (fun h => by cases h)) a_allK rfl rfl ?_
    | refine nd_pass3 rfl rfl rfl (fun c => by exact (fun h => by cases h)) rfl rfl ?_
    | (with_reducible refine hQ1 _ _ _ ?_; clear hQ1 Q1)
    )
      all_goals (try (exfalso; dsimp only at *; omega))
      rw [← hsn]
      refine nx_again ⟨i + 1, by omega⟩ (by dsimp only; omega) (by exact a_sub) (by exact a_subR) (by exact a_holds)
  · rw [List.take_of_length_le (by omega)]
    have hzl := lineIds_len L
    obtain ⟨zs, hzs⟩ : ∃ zs, lineIds L = zs := ⟨_, rfl⟩
    rw [hzs] at hzl ⊢
    clear hzs hi
    repeat' (first
    | ((first | with_reducible refine nl_op rfl ?_ | refine nd_go rfl rfl rfl ?_); intro K hK; (first
      | ((first | refine on_E hF rfl rfl ?_ | refine od_E rfl rfl ?_ | refine od_R rfl rfl ?_); (first | refine ⟨_, a_yl, ?_⟩ | refine ⟨_, yl_fieldB (T := 27) (f := 0) (q := 0) rfl rfl (by kernel_rfl), ?_⟩ | refine ⟨_, yl_fieldE (T := 27) (f := 0) (j := 0) rfl rfl a_sl (by (first | omega | (simp only [List.length_append, List.length_cons, List.length_nil, List.length_map] at *; omega))) (by kernel_rfl), ?_⟩ | refine ⟨_, yl_fieldB (T := 27) (f := 1) (q := 1) rfl rfl (by kernel_rfl), ?_⟩ | refine ⟨_, yl_fieldE (T := 27) (f := 1) (j := 1) rfl rfl a_sl (by (first | omega | (simp only [List.length_append, List.length_cons, List.length_nil, List.length_map] at *; omega))) (by kernel_rfl), ?_⟩))
      | ((first | refine on_Ec hF rfl rfl ?_ | refine od_Ec rfl rfl ?_); refine ⟨_, _, _, a_yc, ?_, ?_⟩ <;> (intro hc; try (exfalso; first | (omega; done) | exact absurd (by with_reducible rfl) hc | (simp at hc; done))))
      | ((first | (refine od_act (fun c => by exact (fun h => by cases h)) ?_; intro K2 hK2) | refine od_last (fun c => by exact (fun h => by cases h)) ?_ | skip); (first
      | (refine on_callG hF (enters_of Try.func51 (by kernel_rfl) rfl) rfl rfl rfl rfl (pc _ _ _ _ (by exact a_mem)) (fun v => ?_); obtain ⟨v, va, vn, vc, rfl⟩ := v; dsimp only; refine nx_len (e := 3) (k := 1) (xs := ns.map (.int .i64)) (i := vn) (by exact a_mem) (fun hlen => ?_); subst hlen; refine nx_frzRow Pick.here ?_)
      | (refine on_callG hF (enters_of Try.func15 (by kernel_rfl) rfl) rfl rfl rfl rfl (ac _ _ _ _ (by exact a_mem)) (fun q => ?_))
      
      | (refine on_alloc hF rfl Try.zeroValue27 rfl rfl (fun B => ?_))
      | (refine on_alloc hF rfl Try.zeroValue28 rfl rfl (fun B => ?_))
      | (refine on_alloc hF rfl Try.zeroValue43 rfl rfl (fun B => ?_))
      | (refine on_alloc hF rfl Try.zeroValue59 rfl rfl (fun B => ?_))
      | (refine on_box hF rfl rfl rfl rfl (fun B => ?_))
      | (refine on_store hF rfl rfl rfl rfl a_turn a_vof (by first | rfl | exact hsz.symm | exact hsz) ?_)
      | (refine on_storeE hF rfl rfl rfl rfl a_turn (by (first | omega | (simp only [List.length_append, List.length_cons, List.length_nil, List.length_map] at *; omega))) a_vof (by first | rfl | exact hsz) ?_)
      | (refine on_storeEF hF rfl rfl rfl rfl a_turn (by first | with_reducible assumption | rfl) (by decide) a_vof rfl ?_)
      | (refine on_storeF hF rfl rfl rfl rfl a_turn (by decide) a_vof rfl ?_)) <;> try (refine hK2 _ _ _ a_allK ?_; clear hK2 K2))) <;> (refine hK _ _ _ ?_; clear hK K))
    | with_reducible refine nx_seq ?_
        | with_reducible refine nx_region ?_
        | with_reducible refine nl_nil ?_
        | with_reducible refine nq_then_n ?_
        | with_reducible refine nx_block ?_
        | with_reducible refine nx_skip ?_
        | with_reducible refine nx_exit ?_
        | with_reducible refine nx_ret ?_
        | with_reducible refine nq_then_x ?_
        | with_reducible refine nq_then_r ?_
        | with_reducible refine nq_blk_n ?_
        | with_reducible refine nq_blk_r ?_
        | with_reducible refine nq_blk_hit ?_
        | with_reducible refine nq_blk_miss rfl ?_
        | with_reducible refine nd_nil ?_
    | refine nx_cond_t rfl ?_ | refine nx_cond_f rfl ?_
    | refine nl_pass hF rfl rfl rfl ?_
    | refine nd_pass rfl rfl rfl rfl rfl ?_
    | refine nd_pass2 rfl rfl rfl (fun c => by exact (fun h => by cases h)) a_allK rfl rfl ?_
    | refine nd_pass3 rfl rfl rfl (fun c => by exact (fun h => by cases h)) rfl rfl ?_
    | (with_reducible refine hQ1 _ _ _ ?_; clear hQ1 Q1)
    )
    all_goals (try (exfalso; dsimp only at *; omega))
    obtain ⟨b8, hb8⟩ : ∃ b8, b8 = B := ⟨_, rfl⟩
    subst hb8
    refine nx_frz (BoxC b8 28 (.slice va (ns.map (Value.int .i64)).length vc)) (by exact a_pick) ?_
    have hvi : ∀ x ∈ (allL L).map (Value.int .i64), VOf Try.prog 3 x := fun x hx => by obtain ⟨i, _, rfl⟩ := List.mem_map.1 hx; exact vof1 (by kernel_rfl) rfl rfl
    refine nx_lk (l' := [(2, ptr b2), (5, ptr b5), (8, ptr b8), (35, NInt.ofV q.2)]) (by exact a_sub) ?_
    refine nx_range hF rfl rfl (NInt.vals_it q.2 q.1.1 ((allL L).map (.int .i64)) hvi q.1.2 (by unfold maxLen; rw [List.length_map]; omega)) (by exact a_subR) (by rfl) (fun x vs h => by rw [h]; rfl) (fun _ (_ : Unit) => True) (fun pre _ => OrdC bm (Sc.upr (zs ++ (pre.map fun v => tObj L ns (vI v)).flatten)) :: C) (fun _ _ (_ : Unit) => False) (fun _ _ _ => []) () trivial (by simp only [List.map_nil, List.flatten_nil, List.append_nil]; exact a_holds2) ?round ?done ?stop
    case round =>
      rintro lp pre x post hx vs rfl _ _ W1 X1 R' hR' E1 K HK
      have hF := isWide_wide.inRound lp
      have hmem : x ∈ (allL L).map (Value.int .i64) := by rw [hx]; simp
      obtain ⟨t, htm, rfl⟩ := List.mem_map.1 hmem
      have htt := hal t htm
      have hpl2 : pre.length + 1 ≤ (allL L).length := by have := congrArg List.length hx; simp at this; omega
      have hsR : SlC 9 (.slice sa (L.map It2.v).length sc) (L.map It2.v) ∈ R' := hR' _ (by exact a_mem)
      have hb2 : BoxC b2 22 (.slice sa (L.map It2.v).length sc) ∈ R' := hR' _ (by exact a_mem)
      have hb5 : BoxC b5 59 (ptr bm) ∈ R' := hR' _ (by exact a_mem)
      have hb8 : BoxC b8 28 (.slice va (ns.map (Value.int .i64)).length vc) ∈ R' := hR' _ (by exact a_mem)
      have hnsR : SlC 1 (.slice va (ns.map (Value.int .i64)).length vc) (ns.map (.int .i64)) ∈ R' := hR' _ (by exact a_mem)
      have hvv : VOf Try.prog 28 (.slice va (ns.map (Value.int .i64)).length vc) := vof_slice (by kernel_rfl) ⟨_, _, _, rfl⟩
      have hql : (zs ++ (pre.map fun v => tObj L ns (vI v)).flatten).length ≤ 1400000 := by
        have h1 := flat_len (fun v => tObj L ns (vI v)) (126 * 461) (fun v => by
          have h2 := tObj_len L ns (vI v) hm
          have h3 : ns.length * 461 ≤ 126 * 461 := Nat.mul_le_mul_right _ (by omega)
          omega) pre
        have h4 : pre.length * (126 * 461) ≤ 21 * (126 * 461) := Nat.mul_le_mul_right _ (by omega)
        rw [List.length_append]; omega
      have hsn : zs ++ ((pre ++ [Value.int .i64 t]).map fun v => tObj L ns (vI v)).flatten = (zs ++ (pre.map fun v => tObj L ns (vI v)).flatten) ++ tObj L ns t := by simp [vI]
      obtain ⟨z1, hz1⟩ : ∃ z1, zs ++ (pre.map fun v => tObj L ns (vI v)).flatten = z1 := ⟨_, rfl⟩
      rw [hz1] at hsn hql ⊢
      clear hR' hx hz1 pc ac hal
      (try simp only [List.cons_append, List.nil_append])
      repeat' (first
    | ((first | with_reducible refine nl_op rfl ?_ | refine nd_go rfl rfl rfl ?_); intro K hK; (first
      | ((first | refine on_E hF rfl rfl ?_ | refine od_E rfl rfl ?_ | refine od_R rfl rfl ?_); (first | refine ⟨_, a_yl, ?_⟩ | refine ⟨_, yl_fieldB (T := 27) (f := 0) (q := 0) rfl rfl (by kernel_rfl), ?_⟩ | refine ⟨_, yl_fieldE (T := 27) (f := 0) (j := 0) rfl rfl a_sl (by (first | omega | (simp only [List.length_append, List.length_cons, List.length_nil, List.length_map] at *; omega))) (by kernel_rfl), ?_⟩ | refine ⟨_, yl_fieldB (T := 27) (f := 1) (q := 1) rfl rfl (by kernel_rfl), ?_⟩ | refine ⟨_, yl_fieldE (T := 27) (f := 1) (j := 1) rfl rfl a_sl (by (first | omega | (simp only [List.length_append, List.length_cons, List.length_nil, List.length_map] at *; omega))) (by kernel_rfl), ?_⟩))
      | ((first | refine on_Ec hF rfl rfl ?_ | refine od_Ec rfl rfl ?_); refine ⟨_, _, _, a_yc, ?_, ?_⟩ <;> (intro hc; try (exfalso; first | (omega; done) | exact absurd (by with_reducible rfl) hc | (simp at hc; done))))
      | ((first | (refine od_act (fun c => by exact (fun h => by cases h)) ?_; intro K2 hK2) | refine od_last (fun c => by exact (fun h => by cases h)) ?_ | skip); (first
      
      
      | (refine on_alloc hF rfl Try.zeroValue27 rfl rfl (fun B => ?_))
      | (refine on_alloc hF rfl Try.zeroValue28 rfl rfl (fun B => ?_))
      | (refine on_alloc hF rfl Try.zeroValue43 rfl rfl (fun B => ?_))
      | (refine on_alloc hF rfl Try.zeroValue59 rfl rfl (fun B => ?_))
      | (refine on_box hF rfl rfl rfl rfl (fun B => ?_))
      | (refine on_store hF rfl rfl rfl rfl a_turn a_vof (by first | rfl | exact hsz.symm | exact hsz) ?_)
      | (refine on_storeE hF rfl rfl rfl rfl a_turn (by (first | omega | (simp only [List.length_append, List.length_cons, List.length_nil, List.length_map] at *; omega))) a_vof (by first | rfl | exact hsz) ?_)
      | (refine on_storeEF hF rfl rfl rfl rfl a_turn (by first | with_reducible assumption | rfl) (by decide) a_vof rfl ?_)
      | (refine on_storeF hF rfl rfl rfl rfl a_turn (by decide) a_vof rfl ?_)) <;> try (refine hK2 _ _ _ a_allK ?_; clear hK2 K2))) <;> (refine hK _ _ _ ?_; clear hK K))
    | with_reducible refine nx_seq ?_
        | with_reducible refine nx_region ?_
        | with_reducible refine nl_nil ?_
        | with_reducible refine nq_then_n ?_
        | with_reducible refine nx_block ?_
        | with_reducible refine nx_skip ?_
        | with_reducible refine nx_exit ?_
        | with_reducible refine nx_ret ?_
        | with_reducible refine nq_then_x ?_
        | with_reducible refine nq_then_r ?_
        | with_reducible refine nq_blk_n ?_
        | with_reducible refine nq_blk_r ?_
        | with_reducible refine nq_blk_hit ?_
        | with_reducible refine nq_blk_miss rfl ?_
        | with_reducible refine nd_nil ?_
    | refine nx_cond_t rfl ?_ | refine nx_cond_f rfl ?_
    | refine nl_pass hF rfl rfl rfl ?_
    | refine nd_pass rfl rfl rfl rfl rfl ?_
    | refine nd_pass2 rfl rfl rfl (fun c => by exact (fun h => by cases h)) a_allK rfl rfl ?_
    | refine nd_pass3 rfl rfl rfl (fun c => by exact (fun h => by cases h)) rfl rfl ?_
    | (with_reducible refine hQ1 _ _ _ ?_; clear hQ1 Q1)
    )
      refine HK _ _ (OrdC bm (Sc.upr z1) :: C) _ (by exact a_subR) (by exact a_holds2) (fun E2 => ?_)
      clear HK K
      (try simp only [List.cons_append, List.nil_append])
      repeat' (first
    | ((first | with_reducible refine nl_op rfl ?_ | refine nd_go rfl rfl rfl ?_); intro K hK; (first
      | ((first | refine on_E hF rfl rfl ?_ | refine od_E rfl rfl ?_ | refine od_R rfl rfl ?_); (first | refine ⟨_, a_yl, ?_⟩ | refine ⟨_, yl_fieldB (T := 27) (f := 0) (q := 0) rfl rfl (by kernel_rfl), ?_⟩ | refine ⟨_, yl_fieldE (T := 27) (f := 0) (j := 0) rfl rfl a_sl (by (first | omega | (simp only [List.length_append, List.length_cons, List.length_nil, List.length_map] at *; omega))) (by kernel_rfl), ?_⟩ | refine ⟨_, yl_fieldB (T := 27) (f := 1) (q := 1) rfl rfl (by kernel_rfl), ?_⟩ | refine ⟨_, yl_fieldE (T := 27) (f := 1) (j := 1) rfl rfl a_sl (by (first | omega | (simp only [List.length_append, List.length_cons, List.length_nil, List.length_map] at *; omega))) (by kernel_rfl), ?_⟩))
      | ((first | refine on_Ec hF rfl rfl ?_ | refine od_Ec rfl rfl ?_); refine ⟨_, _, _, a_yc, ?_, ?_⟩ <;> (intro hc; try (exfalso; first | (omega; done) | exact absurd (by with_reducible rfl) hc | (simp at hc; done))))
      | ((first | (refine od_act (fun c => by exact (fun h => by cases h)) ?_; intro K2 hK2) | refine od_last (fun c => by exact (fun h => by cases h)) ?_ | skip); (first
      
      
      | (refine on_alloc hF rfl Try.zeroValue27 rfl rfl (fun B => ?_))
      | (refine on_alloc hF rfl Try.zeroValue28 rfl rfl (fun B => ?_))
      | (refine on_alloc hF rfl Try.zeroValue43 rfl rfl (fun B => ?_))
      | (refine on_alloc hF rfl Try.zeroValue59 rfl rfl (fun B => ?_))
      | (refine on_box hF rfl rfl rfl rfl (fun B => ?_))
      | (refine on_store hF rfl rfl rfl rfl a_turn a_vof (by first | rfl | exact hsz.symm | exact hsz) ?_)
      | (refine on_storeE hF rfl rfl rfl rfl a_turn (by (first | omega | (simp only [List.length_append, List.length_cons, List.length_nil, List.length_map] at *; omega))) a_vof (by first | rfl | exact hsz) ?_)
      | (refine on_storeEF hF rfl rfl rfl rfl a_turn (by first | with_reducible assumption | rfl) (by decide) a_vof rfl ?_)
      | (refine on_storeF hF rfl rfl rfl rfl a_turn (by decide) a_vof rfl ?_)) <;> try (refine hK2 _ _ _ a_allK ?_; clear hK2 K2))) <;> (refine hK _ _ _ ?_; clear hK K))
    | with_reducible refine nx_seq ?_
        | with_reducible refine nx_region ?_
        | with_reducible refine nl_nil ?_
        | with_reducible refine nq_then_n ?_
        | with_reducible refine nx_block ?_
        | with_reducible refine nx_skip ?_
        | with_reducible refine nx_exit ?_
        | with_reducible refine nx_ret ?_
        | with_reducible refine nq_then_x ?_
        | with_reducible refine nq_then_r ?_
        | with_reducible refine nq_blk_n ?_
        | with_reducible refine nq_blk_r ?_
        | with_reducible refine nq_blk_hit ?_
        | with_reducible refine nq_blk_miss rfl ?_
        | with_reducible refine nd_nil ?_
    | refine nx_cond_t rfl ?_ | refine nx_cond_f rfl ?_
    | refine nl_pass hF rfl rfl rfl ?_
    | refine nd_pass rfl rfl rfl rfl rfl ?_
    | refine nd_pass2 rfl rfl rfl (fun c => by exact (fun h => by cases h)) a_allK rfl rfl ?_
    | refine nd_pass3 rfl rfl rfl (fun c => by exact (fun h => by cases h)) rfl rfl ?_
    | (with_reducible refine hQ1 _ _ _ ?_; clear hQ1 Q1)
    )
      rw [show Sc.upr z1 = Sc.upr (z1 ++ tObj L (ns.take 0) t) from by simp [tObj]]
      refine nx_loop (ι := { j : Nat // j ≤ ns.length }) (fun j => [(2, ptr b2), (5, ptr b5), (9, .int .i64 t), (37, .slice va (ns.map (Value.int .i64)).length vc), (38, .int .i64 ((ns.map (Value.int .i64)).length : Int)), (39, .int .i64 (j.1 : Int))]) (fun _ => R') (fun j => OrdC bm (Sc.upr (z1 ++ tObj L (ns.take j.1) t)) :: (C ++ E2)) (fun j => ns.length - j.1) ⟨0, Nat.zero_le _⟩ (by exact a_sub) (by exact a_subR) (by exact a_holds) (fun j => ?_)
      obtain ⟨j, hj⟩ := j
      dsimp only
      have hln : (ns.map (Value.int .i64)).length = ns.length := by simp
      by_cases hjn : j < ns.length
      · obtain ⟨n, hn⟩ : ∃ n, ns[j]? = some n := ⟨_, List.getElem?_eq_getElem hjn⟩
        have hnv : (ns.map (Value.int .i64))[j]? = some (.int .i64 n) := by rw [List.getElem?_map, hn]; rfl
        have hts := tObj_snoc L ns t j n hn
        have htl := tObj_len L (ns.take j) t hm
        have hol := objL_len L t n hm
        have hz2l : (z1 ++ tObj L (ns.take j) t).length ≤ 1500000 := by
          have h3 : (ns.take j).length * 461 ≤ 126 * 461 := Nat.mul_le_mul_right _ (by rw [List.length_take]; omega)
          rw [List.length_append]; omega
        have hzs2 : z1 ++ tObj L (ns.take (j + 1)) t = (z1 ++ tObj L (ns.take j) t) ++ objL L t n := by rw [hts, List.append_assoc]
        obtain ⟨z2, hz2⟩ : ∃ z2, z1 ++ tObj L (ns.take j) t = z2 := ⟨_, rfl⟩
        rw [hz2] at hzs2 hz2l ⊢
        have fx := fun (W0 : World) (X : Nat → Prop) (R C : List Ch) h => fc W0 X R C t n htt h
        clear fc hts htl hz2 hsn
        cases hf : findP L t n with
        | none =>
          have ho : objL L t n = [] := by unfold objL; rw [hf]
          rw [hf] at fx
          unfold findRet findC at fx
          dsimp only at fx
          rw [ho, List.append_nil] at hzs2
          have hvz : ∀ i : SV × SV × SV, VOf Try.prog 43 (planV nilV nilV nilV 0 0) := fun i => vofPlan ⟨_, _, _, rfl⟩ ⟨_, _, _, rfl⟩ ⟨_, _, _, rfl⟩ 0 0
          repeat' (first
    | ((first | with_reducible refine nl_op rfl ?_ | refine nd_go rfl rfl rfl ?_); intro K hK; (first
      | ((first | refine on_E hF rfl rfl ?_ | refine od_E rfl rfl ?_ | refine od_R rfl rfl ?_); (first | refine ⟨_, a_yl, ?_⟩ | refine ⟨_, yl_fieldB (T := 27) (f := 0) (q := 0) rfl rfl (by kernel_rfl), ?_⟩ | refine ⟨_, yl_fieldE (T := 27) (f := 0) (j := 0) rfl rfl a_sl (by (first | omega | (simp only [List.length_append, List.length_cons, List.length_nil, List.length_map] at *; omega))) (by kernel_rfl), ?_⟩ | refine ⟨_, yl_fieldB (T := 27) (f := 1) (q := 1) rfl rfl (by kernel_rfl), ?_⟩ | refine ⟨_, yl_fieldE (T := 27) (f := 1) (j := 1) rfl rfl a_sl (by (first | omega | (simp only [List.length_append, List.length_cons, List.length_nil, List.length_map] at *; omega))) (by kernel_rfl), ?_⟩))
      | ((first | refine on_Ec hF rfl rfl ?_ | refine od_Ec rfl rfl ?_); refine ⟨_, _, _, a_yc, ?_, ?_⟩ <;> (intro hc; try (exfalso; first | (omega; done) | exact absurd (by with_reducible rfl) hc | (simp at hc; done))))
      | ((first | (refine od_act (fun c => by exact (fun h => by cases h)) ?_; intro K2 hK2) | refine od_last (fun c => by exact (fun h => by cases h)) ?_ | skip); (first
      | (refine on_callG hF (enters_of Try.func17 (by kernel_rfl) rfl) rfl rfl rfl rfl (fx _ _ _ _ (by exact a_mem)) (fun i => ?_); have hvi := hvz i)
      
      | (refine on_alloc hF rfl Try.zeroValue27 rfl rfl (fun B => ?_))
      | (refine on_alloc hF rfl Try.zeroValue28 rfl rfl (fun B => ?_))
      | (refine on_alloc hF rfl Try.zeroValue43 rfl rfl (fun B => ?_))
      | (refine on_alloc hF rfl Try.zeroValue59 rfl rfl (fun B => ?_))
      | (refine on_box hF rfl rfl rfl rfl (fun B => ?_))
      | (refine on_store hF rfl rfl rfl rfl a_turn a_vof (by first | rfl | exact hsz.symm | exact hsz) ?_)
      | (refine on_storeE hF rfl rfl rfl rfl a_turn (by (first | omega | (simp only [List.length_append, List.length_cons, List.length_nil, List.length_map] at *; omega))) a_vof (by first | rfl | exact hsz) ?_)
      | (refine on_storeEF hF rfl rfl rfl rfl a_turn (by first | with_reducible assumption | rfl) (by decide) a_vof rfl ?_)
      | (refine on_storeF hF rfl rfl rfl rfl a_turn (by decide) a_vof rfl ?_)) <;> try (refine hK2 _ _ _ a_allK ?_; clear hK2 K2))) <;> (refine hK _ _ _ ?_; clear hK K))
    | with_reducible refine nx_seq ?_
        | with_reducible refine nx_region ?_
        | with_reducible refine nl_nil ?_
        | with_reducible refine nq_then_n ?_
        | with_reducible refine nx_block ?_
        | with_reducible refine nx_skip ?_
        | with_reducible refine nx_exit ?_
        | with_reducible refine nx_ret ?_
        | with_reducible refine nq_then_x ?_
        | with_reducible refine nq_then_r ?_
        | with_reducible refine nq_blk_n ?_
        | with_reducible refine nq_blk_r ?_
        | with_reducible refine nq_blk_hit ?_
        | with_reducible refine nq_blk_miss rfl ?_
        | with_reducible refine nd_nil ?_
    | refine nx_cond_t rfl ?_ | refine nx_cond_f rfl ?_
    | refine nl_pass hF rfl rfl rfl ?_
    | refine nd_pass rfl rfl rfl rfl rfl ?_
    | refine nd_pass2 rfl rfl rfl (fun c => by exact (fun h => by cases h)) a_allK rfl rfl ?_
    | refine nd_pass3 rfl rfl rfl (fun c => by exact (fun h => by cases h)) rfl rfl ?_
    | (with_reducible refine hQ1 _ _ _ ?_; clear hQ1 Q1)
    )
          all_goals (try (exfalso; dsimp only at *; omega))
          rw [← hzs2]
          refine nx_again ⟨j + 1, by omega⟩ (by dsimp only; omega) (by exact a_sub) (by exact a_subR) (by exact a_holds)
        | some p =>
          have ho : objL L t n = Sc.upr (Chn.chainIds L p.1.id ++ p.2.1) := by unfold objL; rw [hf]
          have hcn := chain_ne (find_chain hf)
          have hcl := chain_len L p.1.id
          have hsl2 := find_len hf
          have hsl3 : (L.length + 2) * L.length ≤ 22 * 20 := Nat.mul_le_mul (by omega) hm
          rw [hf] at fx
          unfold findRet findC at fx
          dsimp only at fx
          have oc := fun (W0 : World) (X : Nat → Prop) (R C : List Ch) (i : SV × SV × SV) h1 h2 => objects_ct (W0 := W0) (X := X) (R := R) (C := C) i.1.1 i.2.1.1 i.2.2.1 i.1.2 i.2.1.2 i.2.2.2 p.1.a n (Chn.chainIds L p.1.id) p.2.1 hcn h1 h2 (by omega) (by omega)
          rw [← ho] at oc
          obtain ⟨ids, hids⟩ : ∃ ids, objL L t n = ids := ⟨_, rfl⟩
          rw [hids] at oc hol hzs2
          clear ho hids hcn hcl hsl2 hsl3 hf
          have hvz : ∀ i : SV × SV × SV, VOf Try.prog 43 (planV i.1.1 i.2.1.1 i.2.2.1 p.1.a n) := fun i => vofPlan i.1.2 i.2.1.2 i.2.2.2 _ _
          repeat' (first
    | ((first | with_reducible refine nl_op rfl ?_ | refine nd_go rfl rfl rfl ?_); intro K hK; (first
      | ((first | refine on_E hF rfl rfl ?_ | refine od_E rfl rfl ?_ | refine od_R rfl rfl ?_); (first | refine ⟨_, a_yl, ?_⟩ | refine ⟨_, yl_fieldB (T := 27) (f := 0) (q := 0) rfl rfl (by kernel_rfl), ?_⟩ | refine ⟨_, yl_fieldE (T := 27) (f := 0) (j := 0) rfl rfl a_sl (by (first | omega | (simp only [List.length_append, List.length_cons, List.length_nil, List.length_map] at *; omega))) (by kernel_rfl), ?_⟩ | refine ⟨_, yl_fieldB (T := 27) (f := 1) (q := 1) rfl rfl (by kernel_rfl), ?_⟩ | refine ⟨_, yl_fieldE (T := 27) (f := 1) (j := 1) rfl rfl a_sl (by (first | omega | (simp only [List.length_append, List.length_cons, List.length_nil, List.length_map] at *; omega))) (by kernel_rfl), ?_⟩))
      | ((first | refine on_Ec hF rfl rfl ?_ | refine od_Ec rfl rfl ?_); refine ⟨_, _, _, a_yc, ?_, ?_⟩ <;> (intro hc; try (exfalso; first | (omega; done) | exact absurd (by with_reducible rfl) hc | (simp at hc; done))))
      | ((first | (refine od_act (fun c => by exact (fun h => by cases h)) ?_; intro K2 hK2) | refine od_last (fun c => by exact (fun h => by cases h)) ?_ | skip); (first
      | (refine on_callG hF (enters_of Try.func17 (by kernel_rfl) rfl) rfl rfl rfl rfl (fx _ _ _ _ (by exact a_mem)) (fun i => ?_); have hvi := hvz i; refine nx_frzRow Pick.here (nx_frzRow Pick.here (nx_frzRow Pick.here ?_)))
      | (refine on_callG hF (enters_of Try.func52 (by kernel_rfl) rfl) rfl rfl rfl rfl (oc _ _ _ _ i (by exact a_mem) (by exact a_mem)) (fun u => ?_); obtain ⟨u, ua, un, uc, rfl⟩ := u; dsimp only; refine nx_len (e := 3) (k := 1) (xs := ids.map (.int .i64)) (i := un) (by exact a_mem) (fun hlen => ?_); subst hlen; refine nx_frzRow Pick.here ?_)
      
      | (refine on_alloc hF rfl Try.zeroValue27 rfl rfl (fun B => ?_))
      | (refine on_alloc hF rfl Try.zeroValue28 rfl rfl (fun B => ?_))
      | (refine on_alloc hF rfl Try.zeroValue43 rfl rfl (fun B => ?_))
      | (refine on_alloc hF rfl Try.zeroValue59 rfl rfl (fun B => ?_))
      | (refine on_box hF rfl rfl rfl rfl (fun B => ?_))
      | (refine on_store hF rfl rfl rfl rfl a_turn a_vof (by first | rfl | exact hsz.symm | exact hsz) ?_)
      | (refine on_storeE hF rfl rfl rfl rfl a_turn (by (first | omega | (simp only [List.length_append, List.length_cons, List.length_nil, List.length_map] at *; omega))) a_vof (by first | rfl | exact hsz) ?_)
      | (refine on_storeEF hF rfl rfl rfl rfl a_turn (by first | with_reducible assumption | rfl) (by decide) a_vof rfl ?_)
      | (refine on_storeF hF rfl rfl rfl rfl a_turn (by decide) a_vof rfl ?_)) <;> try (refine hK2 _ _ _ a_allK ?_; clear hK2 K2))) <;> (refine hK _ _ _ ?_; clear hK K))
    | with_reducible refine nx_seq ?_
        | with_reducible refine nx_region ?_
        | with_reducible refine nl_nil ?_
        | with_reducible refine nq_then_n ?_
        | with_reducible refine nx_block ?_
        | with_reducible refine nx_skip ?_
        | with_reducible refine nx_exit ?_
        | with_reducible refine nx_ret ?_
        | with_reducible refine nq_then_x ?_
        | with_reducible refine nq_then_r ?_
        | with_reducible refine nq_blk_n ?_
        | with_reducible refine nq_blk_r ?_
        | with_reducible refine nq_blk_hit ?_
        | with_reducible refine nq_blk_miss rfl ?_
        | with_reducible refine nd_nil ?_
    | refine nx_cond_t rfl ?_ | refine nx_cond_f rfl ?_
    | refine nl_pass hF rfl rfl rfl ?_
    | refine nd_pass rfl rfl rfl rfl rfl ?_
    | refine nd_pass2 rfl rfl rfl (fun c => by exact (fun h => by cases h)) a_allK rfl rfl ?_
    | refine nd_pass3 rfl rfl rfl (fun c => by exact (fun h => by cases h)) rfl rfl ?_
    | (with_reducible refine hQ1 _ _ _ ?_; clear hQ1 Q1)
    )
          all_goals (try (exfalso; dsimp only at *; omega))
          rw [show Sc.upr z2 = Sc.upr (z2 ++ ids.take 0) from by simp]
          clear fx oc hvz
          refine nx_loop (ι := { k : Nat // k ≤ ids.length }) (fun k => [(2, ptr b2), (5, ptr b5), (9, .int .i64 t), (37, .slice va (ns.map (Value.int .i64)).length vc), (38, .int .i64 ((ns.map (Value.int .i64)).length : Int)), (39, .int .i64 (j : Int)), (53, .slice ua (ids.map (Value.int .i64)).length uc), (54, .int .i64 ((ids.map (Value.int .i64)).length : Int)), (55, .int .i64 (k.1 : Int))]) (fun _ => SlC 1 (.slice ua (ids.map (Value.int .i64)).length uc) (ids.map (.int .i64)) :: R') (fun k => OrdC bm (Sc.upr (z2 ++ ids.take k.1)) :: (C ++ E2)) (fun k => ids.length - k.1) ⟨0, Nat.zero_le _⟩ (by exact a_sub) (by exact a_subR) (by exact a_holds) (fun k => ?_)
          obtain ⟨k, hk⟩ := k
          dsimp only
          have hli : (ids.map (Value.int .i64)).length = ids.length := by simp
          by_cases hkn : k < ids.length
          · obtain ⟨y, hy⟩ : ∃ y, ids[k]? = some y := ⟨_, List.getElem?_eq_getElem hkn⟩
            have hyv : (ids.map (Value.int .i64))[k]? = some (.int .i64 y) := by rw [List.getElem?_map, hy]; rfl
            have hks : z2 ++ ids.take (k + 1) = (z2 ++ ids.take k) ++ [y] := by rw [(list_at hy).2, List.append_assoc]
            have hz3l : (z2 ++ ids.take k).length ≤ 1000000000 := by rw [List.length_append, List.length_take]; omega
            obtain ⟨z3, hz3⟩ : ∃ z3, z2 ++ ids.take k = z3 := ⟨_, rfl⟩
            rw [hz3] at hks hz3l ⊢
            clear hz3
            repeat' (first
    | ((first | with_reducible refine nl_op rfl ?_ | refine nd_go rfl rfl rfl ?_); intro K hK; (first
      | ((first | refine on_E hF rfl rfl ?_ | refine od_E rfl rfl ?_ | refine od_R rfl rfl ?_); (first | refine ⟨_, a_yl, ?_⟩ | refine ⟨_, yl_fieldB (T := 27) (f := 0) (q := 0) rfl rfl (by kernel_rfl), ?_⟩ | refine ⟨_, yl_fieldE (T := 27) (f := 0) (j := 0) rfl rfl a_sl (by (first | omega | (simp only [List.length_append, List.length_cons, List.length_nil, List.length_map] at *; omega))) (by kernel_rfl), ?_⟩ | refine ⟨_, yl_fieldB (T := 27) (f := 1) (q := 1) rfl rfl (by kernel_rfl), ?_⟩ | refine ⟨_, yl_fieldE (T := 27) (f := 1) (j := 1) rfl rfl a_sl (by (first | omega | (simp only [List.length_append, List.length_cons, List.length_nil, List.length_map] at *; omega))) (by kernel_rfl), ?_⟩))
      | ((first | refine on_Ec hF rfl rfl ?_ | refine od_Ec rfl rfl ?_); refine ⟨_, _, _, a_yc, ?_, ?_⟩ <;> (intro hc; try (exfalso; first | (omega; done) | exact absurd (by with_reducible rfl) hc | (simp at hc; done))))
      | ((first | (refine od_act (fun c => by exact (fun h => by cases h)) ?_; intro K2 hK2) | refine od_last (fun c => by exact (fun h => by cases h)) ?_ | skip); (first
      | (refine on_callG hF (enters_of Try.func34 (by kernel_rfl) rfl) rfl rfl rfl rfl ((put_ct bm z3 y hz3l).pre (perm1 (by exact a_pick))) (fun _ => ?_); rw [← hks])
      
      | (refine on_alloc hF rfl Try.zeroValue27 rfl rfl (fun B => ?_))
      | (refine on_alloc hF rfl Try.zeroValue28 rfl rfl (fun B => ?_))
      | (refine on_alloc hF rfl Try.zeroValue43 rfl rfl (fun B => ?_))
      | (refine on_alloc hF rfl Try.zeroValue59 rfl rfl (fun B => ?_))
      | (refine on_box hF rfl rfl rfl rfl (fun B => ?_))
      | (refine on_store hF rfl rfl rfl rfl a_turn a_vof (by first | rfl | exact hsz.symm | exact hsz) ?_)
      | (refine on_storeE hF rfl rfl rfl rfl a_turn (by (first | omega | (simp only [List.length_append, List.length_cons, List.length_nil, List.length_map] at *; omega))) a_vof (by first | rfl | exact hsz) ?_)
      | (refine on_storeEF hF rfl rfl rfl rfl a_turn (by first | with_reducible assumption | rfl) (by decide) a_vof rfl ?_)
      | (refine on_storeF hF rfl rfl rfl rfl a_turn (by decide) a_vof rfl ?_)) <;> try (refine hK2 _ _ _ a_allK ?_; clear hK2 K2))) <;> (refine hK _ _ _ ?_; clear hK K))
    | with_reducible refine nx_seq ?_
        | with_reducible refine nx_region ?_
        | with_reducible refine nl_nil ?_
        | with_reducible refine nq_then_n ?_
        | with_reducible refine nx_block ?_
        | with_reducible refine nx_skip ?_
        | with_reducible refine nx_exit ?_
        | with_reducible refine nx_ret ?_
        | with_reducible refine nq_then_x ?_
        | with_reducible refine nq_then_r ?_
        | with_reducible refine nq_blk_n ?_
        | with_reducible refine nq_blk_r ?_
        | with_reducible refine nq_blk_hit ?_
        | with_reducible refine nq_blk_miss rfl ?_
        | with_reducible refine nd_nil ?_
    | refine nx_cond_t rfl ?_ | refine nx_cond_f rfl ?_
    | refine nl_pass hF rfl rfl rfl ?_
    | refine nd_pass rfl rfl rfl rfl rfl ?_
    | refine nd_pass2 rfl rfl rfl (fun c => by exact (fun h => by cases h)) a_allK rfl rfl ?_
    | refine nd_pass3 rfl rfl rfl (fun c => by exact (fun h => by cases h)) rfl rfl ?_
    | (with_reducible refine hQ1 _ _ _ ?_; clear hQ1 Q1)
    )
            all_goals (try (exfalso; dsimp only at *; omega))
            refine nx_again ⟨k + 1, by omega⟩ (by dsimp only; omega) (by exact a_sub) (by exact a_subR) (by exact a_holds)
          · rw [List.take_of_length_le (by omega), ← hzs2]
            repeat' (first
    | ((first | with_reducible refine nl_op rfl ?_ | refine nd_go rfl rfl rfl ?_); intro K hK; (first
      | ((first | refine on_E hF rfl rfl ?_ | refine od_E rfl rfl ?_ | refine od_R rfl rfl ?_); (first | refine ⟨_, a_yl, ?_⟩ | refine ⟨_, yl_fieldB (T := 27) (f := 0) (q := 0) rfl rfl (by kernel_rfl), ?_⟩ | refine ⟨_, yl_fieldE (T := 27) (f := 0) (j := 0) rfl rfl a_sl (by (first | omega | (simp only [List.length_append, List.length_cons, List.length_nil, List.length_map] at *; omega))) (by kernel_rfl), ?_⟩ | refine ⟨_, yl_fieldB (T := 27) (f := 1) (q := 1) rfl rfl (by kernel_rfl), ?_⟩ | refine ⟨_, yl_fieldE (T := 27) (f := 1) (j := 1) rfl rfl a_sl (by (first | omega | (simp only [List.length_append, List.length_cons, List.length_nil, List.length_map] at *; omega))) (by kernel_rfl), ?_⟩))
      | ((first | refine on_Ec hF rfl rfl ?_ | refine od_Ec rfl rfl ?_); refine ⟨_, _, _, a_yc, ?_, ?_⟩ <;> (intro hc; try (exfalso; first | (omega; done) | exact absurd (by with_reducible rfl) hc | (simp at hc; done))))
      | ((first | (refine od_act (fun c => by exact (fun h => by cases h)) ?_; intro K2 hK2) | refine od_last (fun c => by exact (fun h => by cases h)) ?_ | skip); (first
      
      
      | (refine on_alloc hF rfl Try.zeroValue27 rfl rfl (fun B => ?_))
      | (refine on_alloc hF rfl Try.zeroValue28 rfl rfl (fun B => ?_))
      | (refine on_alloc hF rfl Try.zeroValue43 rfl rfl (fun B => ?_))
      | (refine on_alloc hF rfl Try.zeroValue59 rfl rfl (fun B => ?_))
      | (refine on_box hF rfl rfl rfl rfl (fun B => ?_))
      | (refine on_store hF rfl rfl rfl rfl a_turn a_vof (by first | rfl | exact hsz.symm | exact hsz) ?_)
      | (refine on_storeE hF rfl rfl rfl rfl a_turn (by (first | omega | (simp only [List.length_append, List.length_cons, List.length_nil, List.length_map] at *; omega))) a_vof (by first | rfl | exact hsz) ?_)
      | (refine on_storeEF hF rfl rfl rfl rfl a_turn (by first | with_reducible assumption | rfl) (by decide) a_vof rfl ?_)
      | (refine on_storeF hF rfl rfl rfl rfl a_turn (by decide) a_vof rfl ?_)) <;> try (refine hK2 _ _ _ a_allK ?_; clear hK2 K2))) <;> (refine hK _ _ _ ?_; clear hK K))
    | with_reducible refine nx_seq ?_
        | with_reducible refine nx_region ?_
        | with_reducible refine nl_nil ?_
        | with_reducible refine nq_then_n ?_
        | with_reducible refine nx_block ?_
        | with_reducible refine nx_skip ?_
        | with_reducible refine nx_exit ?_
        | with_reducible refine nx_ret ?_
        | with_reducible refine nq_then_x ?_
        | with_reducible refine nq_then_r ?_
        | with_reducible refine nq_blk_n ?_
        | with_reducible refine nq_blk_r ?_
        | with_reducible refine nq_blk_hit ?_
        | with_reducible refine nq_blk_miss rfl ?_
        | with_reducible refine nd_nil ?_
    | refine nx_cond_t rfl ?_ | refine nx_cond_f rfl ?_
    | refine nl_pass hF rfl rfl rfl ?_
    | refine nd_pass rfl rfl rfl rfl rfl ?_
    | refine nd_pass2 rfl rfl rfl (fun c => by exact (fun h => by cases h)) a_allK rfl rfl ?_
    | refine nd_pass3 rfl rfl rfl (fun c => by exact (fun h => by cases h)) rfl rfl ?_
    | (with_reducible refine hQ1 _ _ _ ?_; clear hQ1 Q1)
    )
            all_goals (try (exfalso; dsimp only at *; omega))
            refine nx_again ⟨j + 1, by omega⟩ (by dsimp only; omega) (by exact a_sub) (by exact a_subR) (by exact a_holds)
      · rw [List.take_of_length_le (by omega), ← hsn]
        repeat' (first
    | ((first | with_reducible refine nl_op rfl ?_ | refine nd_go rfl rfl rfl ?_); intro K hK; (first
      | ((first | refine on_E hF rfl rfl ?_ | refine od_E rfl rfl ?_ | refine od_R rfl rfl ?_); (first | refine ⟨_, a_yl, ?_⟩ | refine ⟨_, yl_fieldB (T := 27) (f := 0) (q := 0) rfl rfl (by kernel_rfl), ?_⟩ | refine ⟨_, yl_fieldE (T := 27) (f := 0) (j := 0) rfl rfl a_sl (by (first | omega | (simp only [List.length_append, List.length_cons, List.length_nil, List.length_map] at *; omega))) (by kernel_rfl), ?_⟩ | refine ⟨_, yl_fieldB (T := 27) (f := 1) (q := 1) rfl rfl (by kernel_rfl), ?_⟩ | refine ⟨_, yl_fieldE (T := 27) (f := 1) (j := 1) rfl rfl a_sl (by (first | omega | (simp only [List.length_append, List.length_cons, List.length_nil, List.length_map] at *; omega))) (by kernel_rfl), ?_⟩))
      | ((first | refine on_Ec hF rfl rfl ?_ | refine od_Ec rfl rfl ?_); refine ⟨_, _, _, a_yc, ?_, ?_⟩ <;> (intro hc; try (exfalso; first | (omega; done) | exact absurd (by with_reducible rfl) hc | (simp at hc; done))))
      | ((first | (refine od_act (fun c => by exact (fun h => by cases h)) ?_; intro K2 hK2) | refine od_last (fun c => by exact (fun h => by cases h)) ?_ | skip); (first
      
      
      | (refine on_alloc hF rfl Try.zeroValue27 rfl rfl (fun B => ?_))
      | (refine on_alloc hF rfl Try.zeroValue28 rfl rfl (fun B => ?_))
      | (refine on_alloc hF rfl Try.zeroValue43 rfl rfl (fun B => ?_))
      | (refine on_alloc hF rfl Try.zeroValue59 rfl rfl (fun B => ?_))
      | (refine on_box hF rfl rfl rfl rfl (fun B => ?_))
      | (refine on_store hF rfl rfl rfl rfl a_turn a_vof (by first | rfl | exact hsz.symm | exact hsz) ?_)
      | (refine on_storeE hF rfl rfl rfl rfl a_turn (by (first | omega | (simp only [List.length_append, List.length_cons, List.length_nil, List.length_map] at *; omega))) a_vof (by first | rfl | exact hsz) ?_)
      | (refine on_storeEF hF rfl rfl rfl rfl a_turn (by first | with_reducible assumption | rfl) (by decide) a_vof rfl ?_)
      | (refine on_storeF hF rfl rfl rfl rfl a_turn (by decide) a_vof rfl ?_)) <;> try (refine hK2 _ _ _ a_allK ?_; clear hK2 K2))) <;> (refine hK _ _ _ ?_; clear hK K))
    | with_reducible refine nx_seq ?_
        | with_reducible refine nx_region ?_
        | with_reducible refine nl_nil ?_
        | with_reducible refine nq_then_n ?_
        | with_reducible refine nx_block ?_
        | with_reducible refine nx_skip ?_
        | with_reducible refine nx_exit ?_
        | with_reducible refine nx_ret ?_
        | with_reducible refine nq_then_x ?_
        | with_reducible refine nq_then_r ?_
        | with_reducible refine nq_blk_n ?_
        | with_reducible refine nq_blk_r ?_
        | with_reducible refine nq_blk_hit ?_
        | with_reducible refine nq_blk_miss rfl ?_
        | with_reducible refine nd_nil ?_
    | refine nx_cond_t rfl ?_ | refine nx_cond_f rfl ?_
    | refine nl_pass hF rfl rfl rfl ?_
    | refine nd_pass rfl rfl rfl rfl rfl ?_
    | refine nd_pass2 rfl rfl rfl (fun c => by exact (fun h => by cases h)) a_allK rfl rfl ?_
    | refine nd_pass3 rfl rfl rfl (fun c => by exact (fun h => by cases h)) rfl rfl ?_
    | (with_reducible refine hQ1 _ _ _ ?_; clear hQ1 Q1)
    )
        all_goals (try (exfalso; dsimp only at *; omega))
        exact rq_n () trivial (by exact a_subR) (by exact a_holds2)
    case done =>
      intro _ _ M
      rw [show ((allL L).map (Value.int .i64)).map (fun v => tObj L ns (vI v)) = (allL L).map (tObj L ns) by rw [List.map_map]; rfl]
      (try simp only [List.cons_append, List.nil_append])
      repeat' (first
    | ((first | with_reducible refine nl_op rfl ?_ | refine nd_go rfl rfl rfl ?_); intro K hK; (first
      | ((first | refine on_E hF rfl rfl ?_ | refine od_E rfl rfl ?_ | refine od_R rfl rfl ?_); (first | refine ⟨_, a_yl, ?_⟩ | refine ⟨_, yl_fieldB (T := 27) (f := 0) (q := 0) rfl rfl (by kernel_rfl), ?_⟩ | refine ⟨_, yl_fieldE (T := 27) (f := 0) (j := 0) rfl rfl a_sl (by (first | omega | (simp only [List.length_append, List.length_cons, List.length_nil, List.length_map] at *; omega))) (by kernel_rfl), ?_⟩ | refine ⟨_, yl_fieldB (T := 27) (f := 1) (q := 1) rfl rfl (by kernel_rfl), ?_⟩ | refine ⟨_, yl_fieldE (T := 27) (f := 1) (j := 1) rfl rfl a_sl (by (first | omega | (simp only [List.length_append, List.length_cons, List.length_nil, List.length_map] at *; omega))) (by kernel_rfl), ?_⟩))
      | ((first | refine on_Ec hF rfl rfl ?_ | refine od_Ec rfl rfl ?_); refine ⟨_, _, _, a_yc, ?_, ?_⟩ <;> (intro hc; try (exfalso; first | (omega; done) | exact absurd (by with_reducible rfl) hc | (simp at hc; done))))
      | ((first | (refine od_act (fun c => by exact (fun h => by cases h)) ?_; intro K2 hK2) | refine od_last (fun c => by exact (fun h => by cases h)) ?_ | skip); (first
      
      
      | (refine on_alloc hF rfl Try.zeroValue27 rfl rfl (fun B => ?_))
      | (refine on_alloc hF rfl Try.zeroValue28 rfl rfl (fun B => ?_))
      | (refine on_alloc hF rfl Try.zeroValue43 rfl rfl (fun B => ?_))
      | (refine on_alloc hF rfl Try.zeroValue59 rfl rfl (fun B => ?_))
      | (refine on_box hF rfl rfl rfl rfl (fun B => ?_))
      | (refine on_store hF rfl rfl rfl rfl a_turn a_vof (by first | rfl | exact hsz.symm | exact hsz) ?_)
      | (refine on_storeE hF rfl rfl rfl rfl a_turn (by (first | omega | (simp only [List.length_append, List.length_cons, List.length_nil, List.length_map] at *; omega))) a_vof (by first | rfl | exact hsz) ?_)
      | (refine on_storeEF hF rfl rfl rfl rfl a_turn (by first | with_reducible assumption | rfl) (by decide) a_vof rfl ?_)
      | (refine on_storeF hF rfl rfl rfl rfl a_turn (by decide) a_vof rfl ?_)) <;> try (refine hK2 _ _ _ a_allK ?_; clear hK2 K2))) <;> (refine hK _ _ _ ?_; clear hK K))
    | with_reducible refine nx_seq ?_
        | with_reducible refine nx_region ?_
        | with_reducible refine nl_nil ?_
        | with_reducible refine nq_then_n ?_
        | with_reducible refine nx_block ?_
        | with_reducible refine nx_skip ?_
        | with_reducible refine nx_exit ?_
        | with_reducible refine nx_ret ?_
        | with_reducible refine nq_then_x ?_
        | with_reducible refine nq_then_r ?_
        | with_reducible refine nq_blk_n ?_
        | with_reducible refine nq_blk_r ?_
        | with_reducible refine nq_blk_hit ?_
        | with_reducible refine nq_blk_miss rfl ?_
        | with_reducible refine nd_nil ?_
    | refine nx_cond_t rfl ?_ | refine nx_cond_f rfl ?_
    | refine nl_pass hF rfl rfl rfl ?_
    | refine nd_pass rfl rfl rfl rfl rfl ?_
    | refine nd_pass2 rfl rfl rfl (fun c => by exact (fun h => by cases h)) a_allK rfl rfl ?_
    | refine nd_pass3 rfl rfl rfl (fun c => by exact (fun h => by cases h)) rfl rfl ?_
    | (with_reducible refine hQ1 _ _ _ ?_; clear hQ1 Q1)
    )
      refine nx_end [M] rfl bm (fun a w ha hw => res_tmp Try.results29 rfl ha) (by exact a_subR) (by exact a_holds2)
    case stop =>
      intro pre x post hx j _ h
      exact h.elim
end Pr
end Go.Proofs.Ytinofjenoapeaaa
end

section
namespace Go.Proofs.Ytinofjenoapeaaa
open Go.RowKit Go.Shelf
set_option linter.unusedSimpArgs false
set_option linter.unusedVariables false
namespace Pr
open Go.Proofs.Ytinofjenoapeaaa.Ord Pl Li
variable {W0 : World} {X : Nat → Prop} {R C : List Ch}
/-- The Ids that are wanted, rising. -/
def wantL (L : List It2) (c : Int) : List Int := Sc.upr (wantZ L c)
def notIn (ks : List Int) (x : It2) : Bool := !decide (x.id ∈ ks)
def restL (L : List It2) (c : Int) : List Int := Sc.upr ((L.filter (notIn (wantL L c))).map It2.id)
set_option maxRecDepth 100000 in
theorem wantZ_len (L : List It2) (c : Int) (hm : L.length ≤ 20) : (wantZ L c).length ≤ 1400000 := by
  have h1 := flat_len (tObj L (placesL L c)) (126 * 461) (fun t => by
    have h2 := tObj_len L (placesL L c) t hm
    have h4 := placesL_len L c
    have h3 : (placesL L c).length * 461 ≤ 126 * 461 := Nat.mul_le_mul_right _ (by omega)
    omega) (allL L)
  have h5 := all_len L
  have h4 : (allL L).length * (126 * 461) ≤ 21 * (126 * 461) := Nat.mul_le_mul_right _ (by omega)
  have h6 := lineIds_len L
  unfold wantZ
  rw [List.length_append]
  omega
theorem wantL_len (L : List It2) (c : Int) (hm : L.length ≤ 20) : (wantL L c).length ≤ 1400000 := Nat.le_trans (Sc.upr_len _) (wantZ_len L c hm)
theorem rest1_ct (b5 bm : Nat) (ks : List Int) (hks : ks.Pairwise (· < ·)) (hm : ks.length ≤ 4000000000) (x : It2) (hx : x.ok) (hb : BoxC b5 59 (ptr bm) ∈ R) (ho : OrdC bm ks ∈ R) : Ct Try.prog 32 [x.v, ptr b5] W0 X R C Unit (fun _ => .bool (notIn ks x)) (fun _ => R) (fun _ => C) := by
  intro w hw
  have hF := isWide_wide
  have hvx := x.vof hx
  have gc := fun (W0 : World) (X : Nat → Prop) (R C : List Ch) h => get_ct (W0 := W0) (X := X) (R := R) (C := C) bm ks hks x.id h hm
  unfold notIn
  obtain ⟨b, hbb⟩ : ∃ b, decide (x.id ∈ ks) = b := ⟨_, rfl⟩
  rw [hbb] at gc ⊢
  clear hbb
  cases b with
  | true =>
    refine calls_nx Try.func32 rfl Try.ntmps32 rfl ?_ hw
    repeat' (first
    | ((first | with_reducible refine nl_op rfl ?_ | refine nd_go rfl rfl rfl ?_); intro K hK; (first
      | ((first | refine on_E hF rfl rfl ?_ | refine od_E rfl rfl ?_ | refine od_R rfl rfl ?_); (first | refine ⟨_, a_yl, ?_⟩ | refine ⟨_, yl_fieldB (T := 27) (f := 0) (q := 0) rfl rfl (by kernel_rfl), ?_⟩ | refine ⟨_, yl_fieldE (T := 27) (f := 0) (j := 0) rfl rfl a_sl (by (first | omega | (simp only [List.length_append, List.length_cons, List.length_nil, List.length_map] at *; omega))) (by kernel_rfl), ?_⟩))
      | ((first | refine on_Ec hF rfl rfl ?_ | refine od_Ec rfl rfl ?_); refine ⟨_, _, _, a_yc, ?_, ?_⟩ <;> (intro hc; try (exfalso; first | (omega; done) | exact absurd (by with_reducible rfl) hc | (simp at hc; done))))
      | ((first | (refine od_act (fun c => by exact (fun h => by cases h)) ?_; intro K2 hK2) | refine od_last (fun c => by exact (fun h => by cases h)) ?_ | skip); (first
      | (refine on_callG hF (enters_of Try.func33 (by kernel_rfl) rfl) rfl rfl rfl rfl (gc _ _ _ _ (by exact a_mem)) (fun _ => ?_))
      
      
      | (refine on_box hF rfl rfl rfl rfl (fun B => ?_))
      | (refine on_store hF rfl rfl rfl rfl a_turn a_vof (by first | rfl | exact hsz.symm | exact hsz) ?_)
      | (refine on_storeE hF rfl rfl rfl rfl a_turn (by (first | omega | (simp only [List.length_append, List.length_cons, List.length_nil, List.length_map] at *; omega))) a_vof (by first | rfl | exact hsz) ?_)
      | (refine on_storeEF hF rfl rfl rfl rfl a_turn (by first | with_reducible assumption | rfl) (by decide) a_vof rfl ?_)
      | (refine on_storeF hF rfl rfl rfl rfl a_turn (by decide) a_vof rfl ?_)) <;> try (refine hK2 _ _ _ a_allK ?_; clear hK2 K2))) <;> (refine hK _ _ _ ?_; clear hK K))
    | with_reducible refine nx_seq ?_
        | with_reducible refine nx_region ?_
        | with_reducible refine nl_nil ?_
        | with_reducible refine nq_then_n ?_
        | with_reducible refine nx_block ?_
        | with_reducible refine nx_skip ?_
        | with_reducible refine nx_exit ?_
        | with_reducible refine nx_ret ?_
        | with_reducible refine nq_then_x ?_
        | with_reducible refine nq_then_r ?_
        | with_reducible refine nq_blk_n ?_
        | with_reducible refine nq_blk_r ?_
        | with_reducible refine nq_blk_hit ?_
        | with_reducible refine nq_blk_miss rfl ?_
        | with_reducible refine nd_nil ?_
    | refine nx_cond_t rfl ?_ | refine nx_cond_f rfl ?_
    | refine nl_pass hF rfl rfl rfl ?_
    | refine nd_pass rfl rfl rfl rfl rfl ?_
    | refine nd_pass2 rfl rfl rfl (fun c => by exact (fun h => by cases h)) a_allK rfl rfl ?_
    | refine nd_pass3 rfl rfl rfl (fun c => by exact (fun h => by cases h)) rfl rfl ?_
    | (with_reducible refine hQ1 _ _ _ ?_; clear hQ1 Q1)
    )
    refine nx_end [] rfl () (fun a w ha hw => res_tmp Try.results32 rfl ha) (by exact a_subR) (by exact a_holds2)
  | false =>
    refine calls_nx Try.func32 rfl Try.ntmps32 rfl ?_ hw
    repeat' (first
    | ((first | with_reducible refine nl_op rfl ?_ | refine nd_go rfl rfl rfl ?_); intro K hK; (first
      | ((first | refine on_E hF rfl rfl ?_ | refine od_E rfl rfl ?_ | refine od_R rfl rfl ?_); (first | refine ⟨_, a_yl, ?_⟩ | refine ⟨_, yl_fieldB (T := 27) (f := 0) (q := 0) rfl rfl (by kernel_rfl), ?_⟩ | refine ⟨_, yl_fieldE (T := 27) (f := 0) (j := 0) rfl rfl a_sl (by (first | omega | (simp only [List.length_append, List.length_cons, List.length_nil, List.length_map] at *; omega))) (by kernel_rfl), ?_⟩))
      | ((first | refine on_Ec hF rfl rfl ?_ | refine od_Ec rfl rfl ?_); refine ⟨_, _, _, a_yc, ?_, ?_⟩ <;> (intro hc; try (exfalso; first | (omega; done) | exact absurd (by with_reducible rfl) hc | (simp at hc; done))))
      | ((first | (refine od_act (fun c => by exact (fun h => by cases h)) ?_; intro K2 hK2) | refine od_last (fun c => by exact (fun h => by cases h)) ?_ | skip); (first
      | (refine on_callG hF (enters_of Try.func33 (by kernel_rfl) rfl) rfl rfl rfl rfl (gc _ _ _ _ (by exact a_mem)) (fun _ => ?_))
      
      
      | (refine on_box hF rfl rfl rfl rfl (fun B => ?_))
      | (refine on_store hF rfl rfl rfl rfl a_turn a_vof (by first | rfl | exact hsz.symm | exact hsz) ?_)
      | (refine on_storeE hF rfl rfl rfl rfl a_turn (by (first | omega | (simp only [List.length_append, List.length_cons, List.length_nil, List.length_map] at *; omega))) a_vof (by first | rfl | exact hsz) ?_)
      | (refine on_storeEF hF rfl rfl rfl rfl a_turn (by first | with_reducible assumption | rfl) (by decide) a_vof rfl ?_)
      | (refine on_storeF hF rfl rfl rfl rfl a_turn (by decide) a_vof rfl ?_)) <;> try (refine hK2 _ _ _ a_allK ?_; clear hK2 K2))) <;> (refine hK _ _ _ ?_; clear hK K))
    | with_reducible refine nx_seq ?_
        | with_reducible refine nx_region ?_
        | with_reducible refine nl_nil ?_
        | with_reducible refine nq_then_n ?_
        | with_reducible refine nx_block ?_
        | with_reducible refine nx_skip ?_
        | with_reducible refine nx_exit ?_
        | with_reducible refine nx_ret ?_
        | with_reducible refine nq_then_x ?_
        | with_reducible refine nq_then_r ?_
        | with_reducible refine nq_blk_n ?_
        | with_reducible refine nq_blk_r ?_
        | with_reducible refine nq_blk_hit ?_
        | with_reducible refine nq_blk_miss rfl ?_
        | with_reducible refine nd_nil ?_
    | refine nx_cond_t rfl ?_ | refine nx_cond_f rfl ?_
    | refine nl_pass hF rfl rfl rfl ?_
    | refine nd_pass rfl rfl rfl rfl rfl ?_
    | refine nd_pass2 rfl rfl rfl (fun c => by exact (fun h => by cases h)) a_allK rfl rfl ?_
    | refine nd_pass3 rfl rfl rfl (fun c => by exact (fun h => by cases h)) rfl rfl ?_
    | (with_reducible refine hQ1 _ _ _ ?_; clear hQ1 Q1)
    )
    refine nx_end [] rfl () (fun a w ha hw => res_tmp Try.results32 rfl ha) (by exact a_subR) (by exact a_holds2)
theorem rest1_pred (L : List It2) (hok : ∀ x ∈ L, x.ok) (b5 bm : Nat) (ks : List Int) (hks : ks.Pairwise (· < ·)) (hm : ks.length ≤ 4000000000) : PredS Try.prog (L.map It2.v) (fun v => notIn ks (toIt2 v)) (.func (.func 32) #[] #[ptr b5]) [BoxC b5 59 (ptr bm), OrdC bm ks] := ⟨32, [ptr b5], rfl, (enters_of Try.func32 (by kernel_rfl) rfl), fun W0 X R C hR x hx => by
  obtain ⟨y, hy, rfl⟩ := List.mem_map.1 hx
  exact rest1_ct b5 bm ks hks hm y (hok y hy) (hR _ (by simp)) (hR _ (by simp))⟩
theorem keepRest_it (b0 b1 : Nat) (s f : Value) (ks : List Int) (L : List It2) (hok : ∀ x ∈ L, x.ok) (RS RF : List Ch) (hs : ItN Try.prog (L.map It2.v) s RS) (hf : PredN Try.prog (L.map It2.v) (fun v => notIn ks (toIt2 v)) f RF) :
    It Try.prog ((L.filter (notIn ks)).map It2.v) (.func (.func 53) #[] #[ptr b0, ptr b1]) (BoxC b1 54 f :: BoxC b0 52 s :: (RS ++ RF)) := by
  have h := NItem.keep_it b0 b1 s f (L.map It2.v) _ RS RF hs hf (vofs_it2 L hok)
  rw [filter_it2 L (notIn ks)] at h
  exact h
theorem want_ct (s : Value) (hs : IsSl s) (L : List It2) (hok : ∀ x ∈ L, x.ok) (c : Int) (hc : -1099511627776 ≤ c ∧ c ≤ 1099511627776) (hr : ∀ x ∈ L, 0 ≤ x.a ∧ x.a ≤ 1099511627776 ∧ 0 ≤ x.b ∧ x.b ≤ 1099511627776) (htl : ∀ x ∈ L, x.tl ≤ 1099511627776) (hsl : SlC 9 s (L.map It2.v) ∈ R) (hm : L.length ≤ 20) :
    Ct Try.prog 28 [s, .int .i64 c] W0 X R C SV (fun v => v.1) (fun _ => R) (fun v => RowC 3 1 v.1 ((wantL L c).map (.int .i64)) :: C) := by
  intro w hw
  have hF := isWide_wide
  have wc := fun (W0 : World) (X : Nat → Prop) (R C : List Ch) h => wanted_ct (W0 := W0) (X := X) (R := R) (C := C) s hs L hok c hc hr htl h hm
  have hwl := wantL_len L c hm
  rw [show Sc.upr (wantZ L c) = wantL L c from rfl] at wc
  obtain ⟨ks, hks⟩ : ∃ ks, wantL L c = ks := ⟨_, rfl⟩
  rw [hks] at wc hwl ⊢
  refine calls_nx Try.func28 rfl Try.ntmps28 rfl ?_ hw
  repeat' (first
    | ((first | with_reducible refine nl_op rfl ?_ | refine nd_go rfl rfl rfl ?_); intro K hK; (first
      | ((first | refine on_E hF rfl rfl ?_ | refine od_E rfl rfl ?_ | refine od_R rfl rfl ?_); (first | refine ⟨_, a_yl, ?_⟩))
      | ((first | refine on_Ec hF rfl rfl ?_ | refine od_Ec rfl rfl ?_); refine ⟨_, _, _, a_yc, ?_, ?_⟩ <;> (intro hc; try (exfalso; first | (omega; done) | exact absurd (by with_reducible rfl) hc | (simp at hc; done))))
      | ((first | (refine od_act (fun c => by exact (fun h => by cases h)) ?_; intro K2 hK2) | refine od_last (fun c => by exact (fun h => by cases h)) ?_ | skip); (first
      | (refine on_callG hF (enters_of Try.func29 (by kernel_rfl) rfl) rfl rfl rfl rfl (wc _ _ _ _ (by exact a_mem)) (fun bm => ?_); refine nx_frz (OrdC bm ks) Pick.here ?_)
      | (refine on_callG (vs := [ptr bm]) hF (enters_of Try.func35 (by kernel_rfl) rfl) rfl rfl rfl rfl (keys_ct bm ks (by exact a_mem) (by omega)) (fun v => ?_))
      
      
      | (refine on_box hF rfl rfl rfl rfl (fun B => ?_))
      | (refine on_store hF rfl rfl rfl rfl a_turn a_vof (by first | rfl | exact hsz.symm | exact hsz) ?_)
      | (refine on_storeE hF rfl rfl rfl rfl a_turn (by (first | omega | (simp only [List.length_append, List.length_cons, List.length_nil, List.length_map] at *; omega))) a_vof (by first | rfl | exact hsz) ?_)
      | (refine on_storeEF hF rfl rfl rfl rfl a_turn (by first | with_reducible assumption | rfl) (by decide) a_vof rfl ?_)
      | (refine on_storeF hF rfl rfl rfl rfl a_turn (by decide) a_vof rfl ?_)) <;> try (refine hK2 _ _ _ a_allK ?_; clear hK2 K2))) <;> (refine hK _ _ _ ?_; clear hK K))
    | with_reducible refine nx_seq ?_
        | with_reducible refine nx_region ?_
        | with_reducible refine nl_nil ?_
        | with_reducible refine nq_then_n ?_
        | with_reducible refine nx_block ?_
        | with_reducible refine nx_skip ?_
        | with_reducible refine nx_exit ?_
        | with_reducible refine nx_ret ?_
        | with_reducible refine nq_then_x ?_
        | with_reducible refine nq_then_r ?_
        | with_reducible refine nq_blk_n ?_
        | with_reducible refine nq_blk_r ?_
        | with_reducible refine nq_blk_hit ?_
        | with_reducible refine nq_blk_miss rfl ?_
        | with_reducible refine nd_nil ?_
    | refine nx_cond_t rfl ?_ | refine nx_cond_f rfl ?_
    | refine nl_pass hF rfl rfl rfl ?_
    | refine nd_pass rfl rfl rfl rfl rfl ?_
    | refine nd_pass2 rfl rfl rfl (fun c => by exact (fun h => by cases h)) a_allK rfl rfl ?_
    | refine nd_pass3 rfl rfl rfl (fun c => by exact (fun h => by cases h)) rfl rfl ?_
    | (with_reducible refine hQ1 _ _ _ ?_; clear hQ1 Q1)
    )
  refine nx_end [] rfl v (fun a w ha hw => res_tmp Try.results28 rfl ha) (by exact a_subR) (by exact a_holds2)
set_option maxRecDepth 100000 in
set_option maxHeartbeats 4000000 in
theorem rest_ct (s : Value) (hs : IsSl s) (L : List It2) (hok : ∀ x ∈ L, x.ok) (c : Int) (hc : -1099511627776 ≤ c ∧ c ≤ 1099511627776) (hr : ∀ x ∈ L, 0 ≤ x.a ∧ x.a ≤ 1099511627776 ∧ 0 ≤ x.b ∧ x.b ≤ 1099511627776) (htl : ∀ x ∈ L, x.tl ≤ 1099511627776) (hsl : SlC 9 s (L.map It2.v) ∈ R) (hm : L.length ≤ 20) :
    Ct Try.prog 14 [s, .int .i64 c] W0 X R C SV (fun v => v.1) (fun _ => R) (fun v => RowC 3 1 v.1 ((restL L c).map (.int .i64)) :: C) := by
  intro w hw
  have hF := isWide_wide
  have hml : (L.map It2.v).length * 88 ≤ 140737488355328 := by simp; omega
  have hmx : (L.map It2.v).length ≤ maxLen := by unfold maxLen; simp; omega
  have wc := fun (W0 : World) (X : Nat → Prop) (R C : List Ch) h => wanted_ct (W0 := W0) (X := X) (R := R) (C := C) s hs L hok c hc hr htl h hm
  have hwl := wantL_len L c hm
  have hks2 : (wantL L c).Pairwise (· < ·) := Sc.upr_lt _
  rw [show Sc.upr (wantZ L c) = wantL L c from rfl] at wc
  unfold restL
  obtain ⟨ks, hks⟩ : ∃ ks, wantL L c = ks := ⟨_, rfl⟩
  rw [hks] at wc hwl hks2 ⊢
  clear hks
  have hfl := List.length_filter_le (notIn ks) L
  refine calls_nx Try.func14 rfl Try.ntmps14 rfl ?_ hw
  repeat' (first
    | ((first | with_reducible refine nl_op rfl ?_ | refine nd_go rfl rfl rfl ?_); intro K hK; (first
      | ((first | refine on_E hF rfl rfl ?_ | refine od_E rfl rfl ?_ | refine od_R rfl rfl ?_); (first | refine ⟨_, a_yl, ?_⟩ | refine ⟨_, yl_fieldB (T := 27) (f := 0) (q := 0) rfl rfl (by kernel_rfl), ?_⟩ | refine ⟨_, yl_fieldE (T := 27) (f := 0) (j := 0) rfl rfl a_sl (by (first | omega | (simp only [List.length_append, List.length_cons, List.length_nil, List.length_map] at *; omega))) (by kernel_rfl), ?_⟩))
      | ((first | refine on_Ec hF rfl rfl ?_ | refine od_Ec rfl rfl ?_); refine ⟨_, _, _, a_yc, ?_, ?_⟩ <;> (intro hc; try (exfalso; first | (omega; done) | exact absurd (by with_reducible rfl) hc | (simp at hc; done))))
      | ((first | (refine od_act (fun c => by exact (fun h => by cases h)) ?_; intro K2 hK2) | refine od_last (fun c => by exact (fun h => by cases h)) ?_ | skip); (first
      | (refine on_callG hF (enters_of Try.func29 (by kernel_rfl) rfl) rfl rfl rfl rfl (wc _ _ _ _ (by exact a_mem)) (fun bm => ?_); refine nx_frz (OrdC bm ks) Pick.here ?_)
      | (refine on_callG hF (enters_of Try.func30 (by kernel_rfl) rfl) rfl rfl rfl rfl new_ct (fun bn => ?_))
      
      | (refine on_alloc hF rfl Try.zeroValue27 rfl rfl (fun B => ?_))
      | (refine on_alloc hF rfl Try.zeroValue59 rfl rfl (fun B => ?_))
      | (refine on_box hF rfl rfl rfl rfl (fun B => ?_))
      | (refine on_store hF rfl rfl rfl rfl a_turn a_vof (by first | rfl | exact hsz.symm | exact hsz) ?_)
      | (refine on_storeE hF rfl rfl rfl rfl a_turn (by (first | omega | (simp only [List.length_append, List.length_cons, List.length_nil, List.length_map] at *; omega))) a_vof (by first | rfl | exact hsz) ?_)
      | (refine on_storeEF hF rfl rfl rfl rfl a_turn (by first | with_reducible assumption | rfl) (by decide) a_vof rfl ?_)
      | (refine on_storeF hF rfl rfl rfl rfl a_turn (by decide) a_vof rfl ?_)) <;> try (refine hK2 _ _ _ a_allK ?_; clear hK2 K2))) <;> (refine hK _ _ _ ?_; clear hK K))
    | with_reducible refine nx_seq ?_
        | with_reducible refine nx_region ?_
        | with_reducible refine nl_nil ?_
        | with_reducible refine nq_then_n ?_
        | with_reducible refine nx_block ?_
        | with_reducible refine nx_skip ?_
        | with_reducible refine nx_exit ?_
        | with_reducible refine nx_ret ?_
        | with_reducible refine nq_then_x ?_
        | with_reducible refine nq_then_r ?_
        | with_reducible refine nq_blk_n ?_
        | with_reducible refine nq_blk_r ?_
        | with_reducible refine nq_blk_hit ?_
        | with_reducible refine nq_blk_miss rfl ?_
        | with_reducible refine nd_nil ?_
    | refine nx_cond_t rfl ?_ | refine nx_cond_f rfl ?_
    | refine nl_pass hF rfl rfl rfl ?_
    | refine nd_pass rfl rfl rfl rfl rfl ?_
    | refine nd_pass2 rfl rfl rfl (fun c => by exact (fun h => by cases h)) a_allK rfl rfl ?_
    | refine nd_pass3 rfl rfl rfl (fun c => by exact (fun h => by cases h)) rfl rfl ?_
    | (with_reducible refine hQ1 _ _ _ ?_; clear hQ1 Q1)
    )
  rename_i b5
  obtain ⟨b6, hb6⟩ : ∃ b6, b6 = B := ⟨_, rfl⟩
  subst hb6
  refine nx_frz (BoxC b5 59 (ptr bm)) (by exact a_pick) ?_
  refine nx_frz (BoxC b6 59 (ptr bn)) (by exact a_pick) ?_
  repeat' (first
    | ((first | with_reducible refine nl_op rfl ?_ | refine nd_go rfl rfl rfl ?_); intro K hK; (first
      | ((first | refine on_E hF rfl rfl ?_ | refine od_E rfl rfl ?_ | refine od_R rfl rfl ?_); (first | refine ⟨_, a_yl, ?_⟩ | refine ⟨_, yl_fieldB (T := 27) (f := 0) (q := 0) rfl rfl (by kernel_rfl), ?_⟩ | refine ⟨_, yl_fieldE (T := 27) (f := 0) (j := 0) rfl rfl a_sl (by (first | omega | (simp only [List.length_append, List.length_cons, List.length_nil, List.length_map] at *; omega))) (by kernel_rfl), ?_⟩))
      | ((first | refine on_Ec hF rfl rfl ?_ | refine od_Ec rfl rfl ?_); refine ⟨_, _, _, a_yc, ?_, ?_⟩ <;> (intro hc; try (exfalso; first | (omega; done) | exact absurd (by with_reducible rfl) hc | (simp at hc; done))))
      | ((first | (refine od_act (fun c => by exact (fun h => by cases h)) ?_; intro K2 hK2) | refine od_last (fun c => by exact (fun h => by cases h)) ?_ | skip); (first
      | (refine on_callG hF (enters_of Try.func22 (by kernel_rfl) rfl) rfl rfl rfl rfl (NItem.of_ct s (L.map It2.v) (by exact a_mem) hs (vofs_it2 L hok) hml) (fun j => ?_))
      | (refine on_callG hF (enters_of Try.func31 (by kernel_rfl) rfl) rfl rfl rfl rfl (NItem.keep_ct _ _ rfl rfl) (fun k => ?_))
      
      | (refine on_alloc hF rfl Try.zeroValue27 rfl rfl (fun B => ?_))
      | (refine on_alloc hF rfl Try.zeroValue59 rfl rfl (fun B => ?_))
      | (refine on_box hF rfl rfl rfl rfl (fun B => ?_))
      | (refine on_store hF rfl rfl rfl rfl a_turn a_vof (by first | rfl | exact hsz.symm | exact hsz) ?_)
      | (refine on_storeE hF rfl rfl rfl rfl a_turn (by (first | omega | (simp only [List.length_append, List.length_cons, List.length_nil, List.length_map] at *; omega))) a_vof (by first | rfl | exact hsz) ?_)
      | (refine on_storeEF hF rfl rfl rfl rfl a_turn (by first | with_reducible assumption | rfl) (by decide) a_vof rfl ?_)
      | (refine on_storeF hF rfl rfl rfl rfl a_turn (by decide) a_vof rfl ?_)) <;> try (refine hK2 _ _ _ a_allK ?_; clear hK2 K2))) <;> (refine hK _ _ _ ?_; clear hK K))
    | with_reducible refine nx_seq ?_
        | with_reducible refine nx_region ?_
        | with_reducible refine nl_nil ?_
        | with_reducible refine nq_then_n ?_
        | with_reducible refine nx_block ?_
        | with_reducible refine nx_skip ?_
        | with_reducible refine nx_exit ?_
        | with_reducible refine nx_ret ?_
        | with_reducible refine nq_then_x ?_
        | with_reducible refine nq_then_r ?_
        | with_reducible refine nq_blk_n ?_
        | with_reducible refine nq_blk_r ?_
        | with_reducible refine nq_blk_hit ?_
        | with_reducible refine nq_blk_miss rfl ?_
        | with_reducible refine nd_nil ?_
    | refine nx_cond_t rfl ?_ | refine nx_cond_f rfl ?_
    | refine nl_pass hF rfl rfl rfl ?_
    | refine nd_pass rfl rfl rfl rfl rfl ?_
    | refine nd_pass2 rfl rfl rfl (fun c => by exact (fun h => by cases h)) a_allK rfl rfl ?_
    | refine nd_pass3 rfl rfl rfl (fun c => by exact (fun h => by cases h)) rfl rfl ?_
    | (with_reducible refine hQ1 _ _ _ ?_; clear hQ1 Q1)
    )
  refine nx_lk (l' := [(6, ptr b6), (15, .func (.func 53) #[] #[ptr k.1, ptr k.2])]) (by exact a_sub) ?_
  rw [show ([] : List Int) = Sc.upr [] from (upr_nil).symm]
  refine nx_range hF rfl rfl (keepRest_it k.1 k.2 _ _ ks L hok _ _ (NItem.of_it j _ (vofs_it2 L hok) hmx).n (rest1_pred L hok b5 bm ks hks2 (by omega)).n) (by exact a_subR) (by rfl) (fun x vs h => by rw [h]; rfl) (fun _ (_ : Unit) => True) (fun pre _ => OrdC bn (Sc.upr (pre.map fun v => (toIt2 v).id)) :: C) (fun _ _ (_ : Unit) => False) (fun _ _ _ => []) () trivial (by simp only [List.map_nil]; exact a_holds2) ?round ?done ?stop
  case round =>
    rintro lp pre x post hx vs rfl _ _ W1 X1 R' hR' E1 K HK
    have hF := isWide_wide.inRound lp
    have hmem : x ∈ (L.filter (notIn ks)).map It2.v := by rw [hx]; simp
    obtain ⟨y, hy, rfl⟩ := List.mem_map.1 hmem
    have hyo := hok y (List.mem_filter.1 hy).1
    have hvx := y.vof hyo
    have hl : pre.length + 1 ≤ L.length := by
      have h1 := congrArg List.length hx
      simp at h1; omega
    have hb6 : BoxC b6 59 (ptr bn) ∈ R' := hR' _ (by exact a_mem)
    obtain ⟨zs, hzs⟩ : ∃ zs, (pre.map fun v => (toIt2 v).id) = zs := ⟨_, rfl⟩
    have hzl : zs.length ≤ 1000 := by rw [← hzs]; simp; omega
    have hsn : ((pre ++ [y.v]).map fun v => (toIt2 v).id) = zs ++ [y.id] := by rw [← hzs]; simp
    rw [hzs]
    clear hR' hx wc
    (try simp only [List.cons_append, List.nil_append])
    repeat' (first
    | ((first | with_reducible refine nl_op rfl ?_ | refine nd_go rfl rfl rfl ?_); intro K hK; (first
      | ((first | refine on_E hF rfl rfl ?_ | refine od_E rfl rfl ?_ | refine od_R rfl rfl ?_); (first | refine ⟨_, a_yl, ?_⟩ | refine ⟨_, yl_fieldB (T := 27) (f := 0) (q := 0) rfl rfl (by kernel_rfl), ?_⟩ | refine ⟨_, yl_fieldE (T := 27) (f := 0) (j := 0) rfl rfl a_sl (by (first | omega | (simp only [List.length_append, List.length_cons, List.length_nil, List.length_map] at *; omega))) (by kernel_rfl), ?_⟩))
      | ((first | refine on_Ec hF rfl rfl ?_ | refine od_Ec rfl rfl ?_); refine ⟨_, _, _, a_yc, ?_, ?_⟩ <;> (intro hc; try (exfalso; first | (omega; done) | exact absurd (by with_reducible rfl) hc | (simp at hc; done))))
      | ((first | (refine od_act (fun c => by exact (fun h => by cases h)) ?_; intro K2 hK2) | refine od_last (fun c => by exact (fun h => by cases h)) ?_ | skip); (first
      
      
      | (refine on_alloc hF rfl Try.zeroValue27 rfl rfl (fun B => ?_))
      | (refine on_alloc hF rfl Try.zeroValue59 rfl rfl (fun B => ?_))
      | (refine on_box hF rfl rfl rfl rfl (fun B => ?_))
      | (refine on_store hF rfl rfl rfl rfl a_turn a_vof (by first | rfl | exact hsz.symm | exact hsz) ?_)
      | (refine on_storeE hF rfl rfl rfl rfl a_turn (by (first | omega | (simp only [List.length_append, List.length_cons, List.length_nil, List.length_map] at *; omega))) a_vof (by first | rfl | exact hsz) ?_)
      | (refine on_storeEF hF rfl rfl rfl rfl a_turn (by first | with_reducible assumption | rfl) (by decide) a_vof rfl ?_)
      | (refine on_storeF hF rfl rfl rfl rfl a_turn (by decide) a_vof rfl ?_)) <;> try (refine hK2 _ _ _ a_allK ?_; clear hK2 K2))) <;> (refine hK _ _ _ ?_; clear hK K))
    | with_reducible refine nx_seq ?_
        | with_reducible refine nx_region ?_
        | with_reducible refine nl_nil ?_
        | with_reducible refine nq_then_n ?_
        | with_reducible refine nx_block ?_
        | with_reducible refine nx_skip ?_
        | with_reducible refine nx_exit ?_
        | with_reducible refine nx_ret ?_
        | with_reducible refine nq_then_x ?_
        | with_reducible refine nq_then_r ?_
        | with_reducible refine nq_blk_n ?_
        | with_reducible refine nq_blk_r ?_
        | with_reducible refine nq_blk_hit ?_
        | with_reducible refine nq_blk_miss rfl ?_
        | with_reducible refine nd_nil ?_
    | refine nx_cond_t rfl ?_ | refine nx_cond_f rfl ?_
    | refine nl_pass hF rfl rfl rfl ?_
    | refine nd_pass rfl rfl rfl rfl rfl ?_
    | refine nd_pass2 rfl rfl rfl (fun c => by exact (fun h => by cases h)) a_allK rfl rfl ?_
    | refine nd_pass3 rfl rfl rfl (fun c => by exact (fun h => by cases h)) rfl rfl ?_
    | (with_reducible refine hQ1 _ _ _ ?_; clear hQ1 Q1)
    )
    refine nx_frz (BoxC _ _ y.v) Pick.here ?_
    refine HK _ _ (OrdC bn (Sc.upr zs) :: C) _ (by exact a_subR) (by exact a_holds2) (fun E2 => ?_)
    clear HK K
    (try simp only [List.cons_append, List.nil_append])
    repeat' (first
    | ((first | with_reducible refine nl_op rfl ?_ | refine nd_go rfl rfl rfl ?_); intro K hK; (first
      | ((first | refine on_E hF rfl rfl ?_ | refine od_E rfl rfl ?_ | refine od_R rfl rfl ?_); (first | refine ⟨_, a_yl, ?_⟩ | refine ⟨_, yl_fieldB (T := 27) (f := 0) (q := 0) rfl rfl (by kernel_rfl), ?_⟩ | refine ⟨_, yl_fieldE (T := 27) (f := 0) (j := 0) rfl rfl a_sl (by (first | omega | (simp only [List.length_append, List.length_cons, List.length_nil, List.length_map] at *; omega))) (by kernel_rfl), ?_⟩))
      | ((first | refine on_Ec hF rfl rfl ?_ | refine od_Ec rfl rfl ?_); refine ⟨_, _, _, a_yc, ?_, ?_⟩ <;> (intro hc; try (exfalso; first | (omega; done) | exact absurd (by with_reducible rfl) hc | (simp at hc; done))))
      | ((first | (refine od_act (fun c => by exact (fun h => by cases h)) ?_; intro K2 hK2) | refine od_last (fun c => by exact (fun h => by cases h)) ?_ | skip); (first
      | (refine on_callG hF (enters_of Try.func34 (by kernel_rfl) rfl) rfl rfl rfl rfl ((put_ct bn zs y.id (by omega)).pre (perm1 (by exact a_pick))) (fun _ => ?_))
      
      | (refine on_alloc hF rfl Try.zeroValue27 rfl rfl (fun B => ?_))
      | (refine on_alloc hF rfl Try.zeroValue59 rfl rfl (fun B => ?_))
      | (refine on_box hF rfl rfl rfl rfl (fun B => ?_))
      | (refine on_store hF rfl rfl rfl rfl a_turn a_vof (by first | rfl | exact hsz.symm | exact hsz) ?_)
      | (refine on_storeE hF rfl rfl rfl rfl a_turn (by (first | omega | (simp only [List.length_append, List.length_cons, List.length_nil, List.length_map] at *; omega))) a_vof (by first | rfl | exact hsz) ?_)
      | (refine on_storeEF hF rfl rfl rfl rfl a_turn (by first | with_reducible assumption | rfl) (by decide) a_vof rfl ?_)
      | (refine on_storeF hF rfl rfl rfl rfl a_turn (by decide) a_vof rfl ?_)) <;> try (refine hK2 _ _ _ a_allK ?_; clear hK2 K2))) <;> (refine hK _ _ _ ?_; clear hK K))
    | with_reducible refine nx_seq ?_
        | with_reducible refine nx_region ?_
        | with_reducible refine nl_nil ?_
        | with_reducible refine nq_then_n ?_
        | with_reducible refine nx_block ?_
        | with_reducible refine nx_skip ?_
        | with_reducible refine nx_exit ?_
        | with_reducible refine nx_ret ?_
        | with_reducible refine nq_then_x ?_
        | with_reducible refine nq_then_r ?_
        | with_reducible refine nq_blk_n ?_
        | with_reducible refine nq_blk_r ?_
        | with_reducible refine nq_blk_hit ?_
        | with_reducible refine nq_blk_miss rfl ?_
        | with_reducible refine nd_nil ?_
    | refine nx_cond_t rfl ?_ | refine nx_cond_f rfl ?_
    | refine nl_pass hF rfl rfl rfl ?_
    | refine nd_pass rfl rfl rfl rfl rfl ?_
    | refine nd_pass2 rfl rfl rfl (fun c => by exact (fun h => by cases h)) a_allK rfl rfl ?_
    | refine nd_pass3 rfl rfl rfl (fun c => by exact (fun h => by cases h)) rfl rfl ?_
    | (with_reducible refine hQ1 _ _ _ ?_; clear hQ1 Q1)
    )
    exact rq_n () trivial (by exact a_subR) (by rw [hsn]; exact a_holds2)
  case done =>
    intro _ _ M
    have hz : ((L.filter (notIn ks)).map It2.v).map (fun v => (toIt2 v).id) = (L.filter (notIn ks)).map It2.id := by rw [List.map_map]; rfl
    rw [hz]
    have hul := Sc.upr_len ((L.filter (notIn ks)).map It2.id)
    rw [List.length_map] at hul
    obtain ⟨rs, hrs⟩ : ∃ rs, Sc.upr ((L.filter (notIn ks)).map It2.id) = rs := ⟨_, rfl⟩
    rw [hrs] at hul ⊢
    (try simp only [List.cons_append, List.nil_append])
    refine nx_frz (OrdC bn rs) (by exact a_pick) ?_
    repeat' (first
    | ((first | with_reducible refine nl_op rfl ?_ | refine nd_go rfl rfl rfl ?_); intro K hK; (first
      | ((first | refine on_E hF rfl rfl ?_ | refine od_E rfl rfl ?_ | refine od_R rfl rfl ?_); (first | refine ⟨_, a_yl, ?_⟩ | refine ⟨_, yl_fieldB (T := 27) (f := 0) (q := 0) rfl rfl (by kernel_rfl), ?_⟩ | refine ⟨_, yl_fieldE (T := 27) (f := 0) (j := 0) rfl rfl a_sl (by (first | omega | (simp only [List.length_append, List.length_cons, List.length_nil, List.length_map] at *; omega))) (by kernel_rfl), ?_⟩))
      | ((first | refine on_Ec hF rfl rfl ?_ | refine od_Ec rfl rfl ?_); refine ⟨_, _, _, a_yc, ?_, ?_⟩ <;> (intro hc; try (exfalso; first | (omega; done) | exact absurd (by with_reducible rfl) hc | (simp at hc; done))))
      | ((first | (refine od_act (fun c => by exact (fun h => by cases h)) ?_; intro K2 hK2) | refine od_last (fun c => by exact (fun h => by cases h)) ?_ | skip); (first
      | (refine on_callG (vs := [ptr bn]) hF (enters_of Try.func35 (by kernel_rfl) rfl) rfl rfl rfl rfl (keys_ct bn rs (by exact a_mem) (by omega)) (fun v => ?_))
      
      | (refine on_alloc hF rfl Try.zeroValue27 rfl rfl (fun B => ?_))
      | (refine on_alloc hF rfl Try.zeroValue59 rfl rfl (fun B => ?_))
      | (refine on_box hF rfl rfl rfl rfl (fun B => ?_))
      | (refine on_store hF rfl rfl rfl rfl a_turn a_vof (by first | rfl | exact hsz.symm | exact hsz) ?_)
      | (refine on_storeE hF rfl rfl rfl rfl a_turn (by (first | omega | (simp only [List.length_append, List.length_cons, List.length_nil, List.length_map] at *; omega))) a_vof (by first | rfl | exact hsz) ?_)
      | (refine on_storeEF hF rfl rfl rfl rfl a_turn (by first | with_reducible assumption | rfl) (by decide) a_vof rfl ?_)
      | (refine on_storeF hF rfl rfl rfl rfl a_turn (by decide) a_vof rfl ?_)) <;> try (refine hK2 _ _ _ a_allK ?_; clear hK2 K2))) <;> (refine hK _ _ _ ?_; clear hK K))
    | with_reducible refine nx_seq ?_
        | with_reducible refine nx_region ?_
        | with_reducible refine nl_nil ?_
        | with_reducible refine nq_then_n ?_
        | with_reducible refine nx_block ?_
        | with_reducible refine nx_skip ?_
        | with_reducible refine nx_exit ?_
        | with_reducible refine nx_ret ?_
        | with_reducible refine nq_then_x ?_
        | with_reducible refine nq_then_r ?_
        | with_reducible refine nq_blk_n ?_
        | with_reducible refine nq_blk_r ?_
        | with_reducible refine nq_blk_hit ?_
        | with_reducible refine nq_blk_miss rfl ?_
        | with_reducible refine nd_nil ?_
    | refine nx_cond_t rfl ?_ | refine nx_cond_f rfl ?_
    | refine nl_pass hF rfl rfl rfl ?_
    | refine nd_pass rfl rfl rfl rfl rfl ?_
    | refine nd_pass2 rfl rfl rfl (fun c => by exact (fun h => by cases h)) a_allK rfl rfl ?_
    | refine nd_pass3 rfl rfl rfl (fun c => by exact (fun h => by cases h)) rfl rfl ?_
    | (with_reducible refine hQ1 _ _ _ ?_; clear hQ1 Q1)
    )
    refine nx_end [M] rfl v (fun a w ha hw => res_tmp Try.results14 rfl ha) (by exact a_subR) (by exact a_holds2)
  case stop =>
    intro pre x post hx j _ h
    exact h.elim
end Pr
end Go.Proofs.Ytinofjenoapeaaa
end

section
namespace Go.Proofs.Ytinofjenoapeaaa
open Go.RowKit Go.Shelf
set_option linter.unusedSimpArgs false
set_option linter.unusedVariables false
namespace Pr
open Pl Li
/-! ### what is kept -/
def keptI (L : List It2) (W : List Int) : List It2 := L.filter fun x => decide (x.id ∈ W)
theorem find_filter {α : Type} {p q : α → Bool} : ∀ {L : List α}, (∀ x ∈ L, p x = true → q x = true) → (L.filter q).find? p = L.find? p
  | [], _ => rfl
  | x :: L, h => by
    have ih := find_filter (L := L) (fun y hy => h y (List.mem_cons_of_mem _ hy))
    cases hp : p x with
    | true => rw [List.filter_cons_of_pos (h x (by simp) hp), List.find?_cons_of_pos hp, List.find?_cons_of_pos hp]
    | false =>
      rw [List.find?_cons_of_neg (l := L) (by rw [hp]; simp)]
      cases hq : q x with
      | true => rw [List.filter_cons_of_pos hq, List.find?_cons_of_neg (by rw [hp]; simp), ih]
      | false => rw [List.filter_cons_of_neg (by rw [hq]; simp), ih]
theorem find_filter_some {α : Type} {p q : α → Bool} {y : α} : ∀ {L : List α}, L.find? p = some y → q y = true → (L.filter q).find? p = some y
  | [], h, _ => by simp at h
  | x :: L, h, hy => by
    cases hp : p x with
    | true =>
      rw [List.find?_cons_of_pos hp] at h
      injection h with h; subst h
      rw [List.filter_cons_of_pos hy, List.find?_cons_of_pos hp]
    | false =>
      rw [List.find?_cons_of_neg (by rw [hp]; simp)] at h
      have ih := find_filter_some (L := L) h hy
      cases hq : q x with
      | true => rw [List.filter_cons_of_pos hq, List.find?_cons_of_neg (by rw [hp]; simp), ih]
      | false => rw [List.filter_cons_of_neg (by rw [hq]; simp), ih]
theorem way_lt {L : List It2} {t n : Int} (h : ¬ 1 ≤ t) : wayU L t n = [] := by rw [wayU, dif_neg h]
theorem way_ge {L : List It2} {t n : Int} (h : 1 ≤ t) : wayU L t n = ⟨t, min (parentP L t).2.1 n, n⟩ :: wayU L (parentP L t).1 (min (parentP L t).2.1 n) := by rw [wayU, dif_pos h]
section kept
variable {L : List It2} {W : List Int} (hl : ∀ x ∈ L, x.kind = 4 → x.id ∈ W)
include hl
theorem lineK (t : Int) : lineP (keptI L W) t = lineP L t := by
  unfold lineP keptI
  exact find_filter (fun x hx hp => by simp [isLine] at hp; simpa using hl x hx hp.1)
theorem knownK : ∀ (m : Nat) (t : Int), t.toNat ≤ m → knownL (keptI L W) t = knownL L t := by
  intro m
  induction m with
  | zero => intro t ht; rw [knownL_le (by omega), knownL_le (by omega)]
  | succ m ih =>
    intro t ht
    by_cases h1 : 1 < t
    · have hk := lineK hl t
      cases hp : lineP L t with
      | none => rw [hp] at hk; rw [knownL_none h1 hk, knownL_none h1 hp]
      | some x =>
        rw [hp] at hk
        rw [knownL_some h1 hk, knownL_some h1 hp]
        by_cases h2 : x.par < t
        · rw [if_pos h2, if_pos h2, ih x.par (by omega)]
        · rw [if_neg h2, if_neg h2]
    · rw [knownL_le h1, knownL_le h1]
theorem parentK (t : Int) : parentP (keptI L W) t = parentP L t := by
  unfold parentP; rw [knownK hl _ t (Nat.le_refl _), lineK hl]
theorem wayK : ∀ (m : Nat) (t n : Int), t.toNat ≤ m → wayU (keptI L W) t n = wayU L t n := by
  intro m
  induction m with
  | zero => intro t n ht; rw [way_lt (by omega), way_lt (by omega)]
  | succ m ih =>
    intro t n ht
    by_cases h1 : 1 ≤ t
    · have := parent_lt L t h1
      rw [way_ge (L := keptI L W) h1, way_ge (L := L) h1, parentK hl, ih _ _ (by omega)]
    · rw [way_lt h1, way_lt h1]
end kept
section keep
variable {L : List It2} {W : List Int}
theorem byIdK {id : Int} (h : id ∈ W) : Chn.byId (keptI L W) id = Chn.byId L id := by
  unfold Chn.byId keptI
  exact find_filter (fun x hx hp => by simp at hp; simpa [hp] using h)
theorem byIdK_in {id : Int} {x : It2} (h : Chn.byId (keptI L W) id = some x) : id ∈ W := by
  have h1 := Chn.byId_spec h
  have h2 := (List.mem_filter.1 h1.1).2
  rw [h1.2] at h2
  simpa using h2
theorem atK {id : Int} (h : id ∈ W) : Chn.atX (keptI L W) id = Chn.atX L id ∧ Chn.atOk (keptI L W) id = Chn.atOk L id := by
  unfold Chn.atOk Chn.atX; rw [byIdK h]; exact ⟨rfl, rfl⟩
theorem upK {x : It2} (h : x.par ∈ W) : Chn.upOk (keptI L W) x = Chn.upOk L x := by
  unfold Chn.upOk; rw [(atK h).1, (atK h).2]
theorem chainUpK : ∀ (m : Nat) (x : It2) (xs : List It2), Chn.under L x.id ≤ m → Chn.chainUp L x = some xs → (∀ y ∈ xs, y.id ∈ W) → Chn.chainUp (keptI L W) x = some xs := by
  intro m
  induction m with
  | zero =>
    intro x xs hm h hW
    by_cases hk : x.kind = 2
    · rw [Chn.chainUp_full hk] at h ⊢; exact h
    · cases hu : Chn.upOk L x with
      | false => rw [Chn.chainUp_none hk hu] at h; cases h
      | true => have := Chn.under_lt (Chn.upOk_mem hu).2.1 (Chn.upOk_mem hu).2.2 rfl; omega
  | succ m ih =>
    intro x xs hm h hW
    by_cases hk : x.kind = 2
    · rw [Chn.chainUp_full hk] at h ⊢; exact h
    · cases hu : Chn.upOk L x with
      | false => rw [Chn.chainUp_none hk hu] at h; cases h
      | true =>
        obtain ⟨hb, hmem, hlt⟩ := Chn.upOk_mem hu
        have hlt2 := Chn.under_lt hmem hlt rfl
        rw [Chn.chainUp_up hk hu] at h
        cases hy : Chn.chainUp L (Chn.atX L x.par) with
        | none => rw [hy] at h; cases h
        | some ys =>
          rw [hy] at h
          simp at h
          subst h
          have hpar : x.par ∈ W := by
            have h2 : (Chn.atX L x.par) ∈ ys := by
              rw [Chn.chainUp] at hy
              split at hy
              · injection hy with hy; rw [← hy]; simp
              · split at hy
                · cases hz : Chn.chainUp L (Chn.atX L (Chn.atX L x.par).par) with
                  | none => rw [hz] at hy; cases hy
                  | some zs => rw [hz] at hy; simp at hy; rw [← hy]; simp
                · cases hy
            have h3 := hW _ (List.mem_cons_of_mem _ h2)
            rwa [(Chn.byId_spec hb).2] at h3
          have hu2 : Chn.upOk (keptI L W) x = true := by rw [upK hpar]; exact hu
          rw [Chn.chainUp_up hk hu2, (atK hpar).1, ih _ ys (by omega) hy (fun y h => hW y (List.mem_cons_of_mem _ h))]; rfl
theorem chainOfK {id : Int} (h : (Chn.chainOf L id).isSome = true) (hW : ∀ z ∈ Chn.chainIds L id, z ∈ W) : Chn.chainOf (keptI L W) id = Chn.chainOf L id := by
  cases hc : Chn.chainOf L id with
  | none => rw [hc] at h; cases h
  | some xs =>
    have hW2 : ∀ y ∈ xs, y.id ∈ W := fun y hy => hW _ (by unfold Chn.chainIds; rw [hc]; simp; exact ⟨y, hy, rfl⟩)
    unfold Chn.chainOf at hc ⊢
    split at hc
    · rename_i hat
      have hb : Chn.byId L id = some (Chn.atX L id) := by
        unfold Chn.atOk at hat
        unfold Chn.atX
        cases hq : Chn.byId L id with
        | none => rw [hq] at hat; simp at hat
        | some y => rfl
      have hmem : (Chn.atX L id) ∈ xs := by
        rw [Chn.chainUp] at hc
        split at hc
        · injection hc with hc; rw [← hc]; simp
        · split at hc
          · cases hz : Chn.chainUp L (Chn.atX L (Chn.atX L id).par) with
            | none => rw [hz] at hc; cases hc
            | some zs => rw [hz] at hc; simp at hc; rw [← hc]; simp
          · cases hc
      have hid : id ∈ W := by have := hW2 _ hmem; rwa [(Chn.byId_spec hb).2] at this
      rw [(atK hid).1, (atK hid).2, if_pos hat]
      exact chainUpK _ _ xs (Nat.le_refl _) hc hW2
    · cases hc
theorem chainUpB : ∀ (m : Nat) (x : It2) (xs : List It2), Chn.under (keptI L W) x.id ≤ m → Chn.chainUp (keptI L W) x = some xs → Chn.chainUp L x = some xs := by
  intro m
  induction m with
  | zero =>
    intro x xs hm h
    by_cases hk : x.kind = 2
    · rw [Chn.chainUp_full hk] at h ⊢; exact h
    · cases hu : Chn.upOk (keptI L W) x with
      | false => rw [Chn.chainUp_none hk hu] at h; cases h
      | true => have := Chn.under_lt (Chn.upOk_mem hu).2.1 (Chn.upOk_mem hu).2.2 rfl; omega
  | succ m ih =>
    intro x xs hm h
    by_cases hk : x.kind = 2
    · rw [Chn.chainUp_full hk] at h ⊢; exact h
    · cases hu : Chn.upOk (keptI L W) x with
      | false => rw [Chn.chainUp_none hk hu] at h; cases h
      | true =>
        obtain ⟨hb, hmem, hlt⟩ := Chn.upOk_mem hu
        have hlt2 := Chn.under_lt hmem hlt rfl
        have hpar := byIdK_in hb
        rw [Chn.chainUp_up hk hu] at h
        cases hy : Chn.chainUp (keptI L W) (Chn.atX (keptI L W) x.par) with
        | none => rw [hy] at h; cases h
        | some ys =>
          rw [hy] at h
          simp at h
          subst h
          have h2 := ih _ ys (by omega) hy
          rw [(atK hpar).1] at h2
          rw [Chn.chainUp_up hk (by rw [← upK hpar]; exact hu), h2]; rfl
theorem chainOfB {id : Int} (h : (Chn.chainOf (keptI L W) id).isSome = true) : (Chn.chainOf L id).isSome = true := by
  cases hc : Chn.chainOf (keptI L W) id with
  | none => rw [hc] at h; cases h
  | some xs =>
    unfold Chn.chainOf at hc ⊢
    split at hc
    · rename_i hat
      have hid : id ∈ W := by
        unfold Chn.atOk at hat
        cases hq : Chn.byId (keptI L W) id with
        | none => rw [hq] at hat; simp at hat
        | some y => exact byIdK_in hq
      rw [← (atK hid).2, if_pos hat, ← (atK (L := L) hid).1, chainUpB _ _ xs (Nat.le_refl _) hc]; rfl
    · cases hc
theorem backupsBK {t most : Int} {x : It2} (h : Chn.backupsB (keptI L W) t most x = true) : Chn.backupsB L t most x = true := by
  unfold Chn.backupsB at h ⊢
  simp only [Bool.and_eq_true] at h ⊢
  exact ⟨h.1, chainOfB h.2⟩
/-- No candidate is better than the best one. -/
theorem best_max (least : Int) : ∀ (M : List It2) (s : It2 × Bool), (∀ x ∈ M, least ≤ x.a → Chn.betterB x (M.foldl (Chn.bestStep least) s).1 = false) ∧ (s.2 = true → Chn.betterB s.1 (M.foldl (Chn.bestStep least) s).1 = false)
  | [], s => ⟨fun x hx => (by cases hx), fun _ => by simp [Chn.betterB]⟩
  | y :: M, s => by
    rw [List.foldl_cons]
    obtain ⟨h1, h2⟩ := best_max least M (Chn.bestStep least s y)
    by_cases h : (decide (least ≤ y.a) && (!s.2 || Chn.betterB y s.1)) = true
    · have hs : Chn.bestStep least s y = (y, true) := by unfold Chn.bestStep; rw [if_pos h]
      rw [hs] at h1 h2 ⊢
      have h3 := h2 rfl
      refine ⟨fun x hx hl => ?_, fun ht => ?_⟩
      · rcases List.mem_cons.1 hx with rfl | hx
        · exact h3
        · exact h1 x hx hl
      · have h4 : Chn.betterB y s.1 = true := by simp [ht] at h; exact h.2
        simp [Chn.betterB] at h3 h4 ⊢
        omega
    · have hs : Chn.bestStep least s y = s := by unfold Chn.bestStep; rw [if_neg h]
      rw [hs] at h1 h2 ⊢
      refine ⟨fun x hx hl => ?_, h2⟩
      rcases List.mem_cons.1 hx with rfl | hx
      · have h5 : s.2 = true ∧ Chn.betterB x s.1 = false := by
          cases hs2 : s.2 <;> simp [hl, hs2] at h ⊢
          exact h
        have h3 := h2 h5.1
        have h4 := h5.2
        simp [Chn.betterB] at h3 h4 ⊢
        omega
      · exact h1 x hx hl
theorem id_inj : ∀ {L : List It2}, (L.map It2.id).Pairwise (· < ·) → ∀ x ∈ L, ∀ y ∈ L, x.id = y.id → x = y
  | [], _, x, hx, _, _, _ => by cases hx
  | z :: L, h, x, hx, y, hy, e => by
    rw [List.map_cons, List.pairwise_cons] at h
    rcases List.mem_cons.1 hx with h1 | h1 <;> rcases List.mem_cons.1 hy with h2 | h2
    · rw [h1, h2]
    · have := h.1 y.id (List.mem_map.2 ⟨y, h2, rfl⟩); rw [h1] at e; omega
    · have := h.1 x.id (List.mem_map.2 ⟨x, h1, rfl⟩); rw [h2] at e; omega
    · exact id_inj h.2 x h1 y h2 e
theorem bestK_no {u fr to : Int} (h : (Chn.bestOf L u fr to).2 = false) : (Chn.bestOf (keptI L W) u fr to).2 = false := by
  cases hb : (Chn.bestOf (keptI L W) u fr to).2 with
  | false => rfl
  | true =>
    obtain ⟨h1, h2, h3⟩ := best_mem hb
    have := (best_found (L := L) (List.mem_filter.1 h1).1 (backupsBK h2) h3).1
    rw [h] at this; cases this
theorem bestK (hu : (L.map It2.id).Pairwise (· < ·)) {u fr to : Int} (h : (Chn.bestOf L u fr to).2 = true) (hW : ∀ z ∈ Chn.chainIds L (Chn.bestOf L u fr to).1.id, z ∈ W) (hid : (Chn.bestOf L u fr to).1.id ∈ W) : Chn.bestOf (keptI L W) u fr to = ((Chn.bestOf L u fr to).1, true) := by
  obtain ⟨h1, h2, h3⟩ := best_mem h
  obtain ⟨b, hb⟩ : ∃ b, (Chn.bestOf L u fr to).1 = b := ⟨_, rfl⟩
  have hmax := fun x (hx : x ∈ L) (hbb : Chn.backupsB L u to x = true) => (best_max fr (L.filter (Chn.backupsB L u to)) (zIt2, false)).1 x (List.mem_filter.2 ⟨hx, hbb⟩)
  rw [show (L.filter (Chn.backupsB L u to)).foldl (Chn.bestStep fr) (zIt2, false) = Chn.bestOf L u fr to from rfl] at hmax
  rw [hb] at h1 h2 h3 hW hid hmax ⊢
  have hbk : b ∈ keptI L W := List.mem_filter.2 ⟨h1, by simpa using hid⟩
  have h2k : Chn.backupsB (keptI L W) u to b = true := by
    unfold Chn.backupsB at h2 ⊢
    simp only [Bool.and_eq_true] at h2 ⊢
    exact ⟨h2.1, by rw [chainOfK h2.2 hW]; exact h2.2⟩
  obtain ⟨g1, g2, g3, g4⟩ := best_found (L := keptI L W) hbk h2k h3
  have hmaxk := (best_max fr ((keptI L W).filter (Chn.backupsB (keptI L W) u to)) (zIt2, false)).1 b (List.mem_filter.2 ⟨hbk, h2k⟩) h3
  rw [show ((keptI L W).filter (Chn.backupsB (keptI L W) u to)).foldl (Chn.bestStep fr) (zIt2, false) = Chn.bestOf (keptI L W) u fr to from rfl] at hmaxk
  obtain ⟨⟨b', s⟩, hb'⟩ : ∃ p, Chn.bestOf (keptI L W) u fr to = p := ⟨_, rfl⟩
  rw [hb'] at g1 g2 g3 g4 hmaxk ⊢
  dsimp only at g1 g2 g3 g4 hmaxk
  have hL := (List.mem_filter.1 g2).1
  have h4 := hmax b' hL (backupsBK g3) (by omega)
  have h5 : b' = b := by
    refine id_inj hu b' hL b h1 ?_
    simp [Chn.betterB] at h4 hmaxk
    omega
  rw [h5, g1]
theorem nextK {u n : Int} {x : It2} (h : Re.nextSeg L u n = some x) (hx : x.id ∈ W) : Re.nextSeg (keptI L W) u n = some x := by
  unfold Re.nextSeg at h ⊢
  unfold keptI
  rw [List.filter_filter, show (fun a => Re.segB u a && decide (a.id ∈ W)) = (fun a => decide (a.id ∈ W) && Re.segB u a) from funext fun a => Bool.and_comm _ _, ← List.filter_filter]
  exact find_filter_some h (by simpa using hx)
theorem coverK (u to : Int) : ∀ (m : Nat) (fr : Int) (zs : List Int), Re.above L fr ≤ m → Re.cover L u fr to = some zs → (∀ z ∈ zs, z ∈ W) → Re.cover (keptI L W) u fr to = some zs := by
  intro m
  induction m with
  | zero =>
    intro fr zs hm h hW
    by_cases hlt : fr < to
    · rcases Re.nextSeg_cases L u fr with hn | ⟨x, hn, hx, hb, ha⟩
      · rw [Re.cover_none hlt hn] at h; cases h
      · omega
    · rw [Re.cover_done hlt] at h ⊢; exact h
  | succ m ih =>
    intro fr zs hm h hW
    by_cases hlt : fr < to
    · rcases Re.nextSeg_cases L u fr with hn | ⟨x, hn, hx, hb, ha⟩
      · rw [Re.cover_none hlt hn] at h; cases h
      · rw [Re.cover_some hlt hn] at h
        cases hc : Re.cover L u x.b to with
        | none => rw [hc] at h; cases h
        | some ys =>
          rw [hc] at h
          simp at h
          subst h
          rw [Re.cover_some hlt (nextK hn (hW _ (by simp))), ih x.b ys (by omega) hc (fun z hz => hW z (List.mem_cons_of_mem _ hz))]; rfl
    · rw [Re.cover_done hlt] at h ⊢; exact h
theorem covStepK {s : List Int × List Int × Bool} {u fr to : Int} (h : (covStep L s u fr to).2.2 = true) (hW : ∀ z ∈ (covStep L s u fr to).1, z ∈ W) : covStep (keptI L W) s u fr to = covStep L s u fr to := by
  unfold covStep at h hW ⊢
  split
  · rename_i hs
    rw [if_pos hs] at h hW
    dsimp only at h hW
    cases hc : Re.cover L u fr to with
    | none => rw [hc] at h; cases h
    | some zs =>
      rw [hc] at hW
      simp only [Option.getD_some] at hW
      rw [coverK u to _ fr zs (Nat.le_refl _) hc (fun z hz => hW z (List.mem_append.2 (.inr hz)))]
  · rfl
theorem covStep_ok {s : List Int × List Int × Bool} {u fr to : Int} (h : (covStep L s u fr to).2.2 = true) : s.2.2 = true ∧ ∀ z ∈ s.1, z ∈ (covStep L s u fr to).1 := by
  unfold covStep at h ⊢
  split
  · rename_i hs
    exact ⟨hs, fun z hz => List.mem_append.2 (.inl hz)⟩
  · rename_i hs
    rw [if_neg hs] at h
    exact absurd h hs
theorem covF_ok : ∀ (xs : List (Nat × Prt)) (s : List Int × List Int × Bool), (covF L s xs).2.2 = true → s.2.2 = true ∧ ∀ z ∈ s.1, z ∈ (covF L s xs).1
  | [], s, h => ⟨h, fun z hz => hz⟩
  | x :: xs, s, h => by
    have h1 := covF_ok xs (covStep L s x.2.u x.2.fr x.2.to) h
    have h2 := covStep_ok h1.1
    exact ⟨h2.1, fun z hz => h1.2 z (h2.2 z hz)⟩
theorem covFK : ∀ (xs : List (Nat × Prt)) (s : List Int × List Int × Bool), (covF L s xs).2.2 = true → (∀ z ∈ (covF L s xs).1, z ∈ W) → covF (keptI L W) s xs = covF L s xs
  | [], s, _, _ => rfl
  | x :: xs, s, h, hW => by
    have h1 := covF_ok xs (covStep L s x.2.u x.2.fr x.2.to) h
    have h2 := covStepK (W := W) h1.1 (fun z hz => hW z (h1.2 z hz))
    have h3 := covFK xs (covStep L s x.2.u x.2.fr x.2.to) h hW
    show covF (keptI L W) (covStep (keptI L W) s x.2.u x.2.fr x.2.to) xs = _
    rw [h2, h3]; rfl
/-- A plan all whose objects are kept is found again. -/
theorem findK (hu : (L.map It2.id).Pairwise (· < ·)) (hl : ∀ x ∈ L, x.kind = 4 → x.id ∈ W) {t n : Int} {p : It2 × List Int × List Int} (h : findP L t n = some p) (hc : ∀ z ∈ Chn.chainIds L p.1.id, z ∈ W) (hid : p.1.id ∈ W) (hs : ∀ z ∈ p.2.1, z ∈ W) : findP (keptI L W) t n = some p ∧ Chn.chainIds (keptI L W) p.1.id = Chn.chainIds L p.1.id := by
  have hch := find_chain h
  refine ⟨?_, by unfold Chn.chainIds; rw [chainOfK hch hc]⟩
  obtain ⟨hn, hk, j, x, hS⟩ := find_spec h
  unfold findP
  rw [knownK hl _ t (Nat.le_refl _), wayK hl _ t n (Nat.le_refl _), if_neg (by rw [hk]; simp; omega)]
  have hone := hS.one
  have hb : Chn.bestOf (keptI L W) x.u x.fr x.to = (p.1, true) := by
    rw [hone]
    exact bestK hu hS.has (by rw [← hone]; exact hc) (by rw [← hone]; exact hid)
  have hok := hS.ok
  have hseg := hS.seg
  rw [planAt_covF] at hok hseg
  have h0 := covF_ok _ _ hok
  have hpl : planAt (keptI L W) (wayU L t n) j x p.1 = planAt L (wayU L t n) j x p.1 := by
    rw [planAt_covF, planAt_covF, covStepK h0.1 (fun z hz => hs z (by rw [hseg]; exact h0.2 z hz))]
    exact covFK _ _ hok (fun z hz => hs z (by rw [hseg]; exact hz))
  refine findI_of (j := j) (x := x) _ 0 (Nat.le_refl _) ⟨hS.at_, Nat.zero_le _, by rw [hb], by rw [hb], by rw [hpl]; exact hS.ok, by rw [hpl]; exact hS.seg, by rw [hpl]; exact hS.lim, fun k y h1 h2 h3 => bestK_no (hS.no k y h1 h2 h3)⟩
end keep
end Pr
end Go.Proofs.Ytinofjenoapeaaa
end

section
namespace Go.Proofs.Ytinofjenoapeaaa
open Go.RowKit Go.Shelf
set_option linter.unusedSimpArgs false
set_option linter.unusedVariables false
namespace Pr
open Pl Li
/-- n and n' lie alike to v. -/
def Gd (n n' v : Int) : Prop := (v < n ∧ v < n') ∨ (n < v ∧ n' < v)
/-- The same value, or n here and n' there. -/
def Eq2 (n n' v v' : Int) : Prop := (v = v' ∧ Gd n n' v) ∨ (v = n ∧ v' = n')
theorem Eq2.lt {n n' x x' y y' : Int} (h1 : Eq2 n n' x x') (h2 : Eq2 n n' y y') : x < y ↔ x' < y' := by unfold Eq2 Gd at *; omega
theorem Eq2.le {n n' x x' y y' : Int} (h1 : Eq2 n n' x x') (h2 : Eq2 n n' y y') : x ≤ y ↔ x' ≤ y' := by unfold Eq2 Gd at *; omega
theorem Eq2.min {n n' x x' y y' : Int} (h1 : Eq2 n n' x x') (h2 : Eq2 n n' y y') : Eq2 n n' (min x y) (min x' y') := by unfold Eq2 Gd at *; omega
theorem Eq2.self {n n' v : Int} (h : Gd n n' v) : Eq2 n n' v v := .inl ⟨rfl, h⟩
structure Sim (L : List It2) (n n' : Int) : Prop where
  z : Gd n n' 0
  a : ∀ x ∈ L, Gd n n' x.a
  b : ∀ x ∈ L, Gd n n' x.b
section sim
variable {L : List It2} {n n' : Int} (hS : Sim L n n')
include hS
theorem parentE (t : Int) : Gd n n' (parentP L t).2.1 := by
  unfold parentP
  split
  · exact hS.z
  · dsimp only
    cases hl : lineP L t with
    | none => exact hS.z
    | some x => exact hS.a x (List.mem_of_find?_eq_some hl)
theorem backE {u to to' : Int} (ht : Eq2 n n' to to') {x : It2} (hx : x ∈ L) : Chn.backupsB L u to x = Chn.backupsB L u to' x := by
  unfold Chn.backupsB
  rw [show decide (x.b ≤ to) = decide (x.b ≤ to') from decide_eq_decide.2 (Eq2.le (Eq2.self (hS.b x hx)) ht)]
theorem stepE {fr fr' : Int} (hf : Eq2 n n' fr fr') : ∀ (M : List It2) (s : It2 × Bool), (∀ x ∈ M, x ∈ L) → M.foldl (Chn.bestStep fr) s = M.foldl (Chn.bestStep fr') s
  | [], _, _ => rfl
  | x :: M, s, h => by
    rw [List.foldl_cons, List.foldl_cons]
    have : Chn.bestStep fr s x = Chn.bestStep fr' s x := by
      unfold Chn.bestStep
      rw [show decide (fr ≤ x.a) = decide (fr' ≤ x.a) from decide_eq_decide.2 (Eq2.le hf (Eq2.self (hS.a x (h x (by simp)))))]
    rw [this]
    exact stepE hf M _ (fun y hy => h y (List.mem_cons_of_mem _ hy))
theorem bestE {u fr fr' to to' : Int} (hf : Eq2 n n' fr fr') (ht : Eq2 n n' to to') : Chn.bestOf L u fr to = Chn.bestOf L u fr' to' := by
  unfold Chn.bestOf
  rw [List.filter_congr (fun x hx => backE hS ht hx)]
  exact stepE hS hf _ _ (fun x hx => (List.mem_filter.1 hx).1)
theorem nextE {u fr fr' : Int} (hf : Eq2 n n' fr fr') : Re.nextSeg L u fr = Re.nextSeg L u fr' := by
  unfold Re.nextSeg
  have h : ∀ M : List It2, (∀ x ∈ M, x ∈ L) → M.find? (Re.nextB fr) = M.find? (Re.nextB fr') := by
    intro M
    induction M with
    | nil => intro _; rfl
    | cons x M ih =>
      intro h
      have hb : Re.nextB fr x = Re.nextB fr' x := by
        unfold Re.nextB
        rw [show decide (x.a ≤ fr) = decide (x.a ≤ fr') from decide_eq_decide.2 (Eq2.le (Eq2.self (hS.a x (h x (by simp)))) hf), show decide (fr < x.b) = decide (fr' < x.b) from decide_eq_decide.2 (Eq2.lt hf (Eq2.self (hS.b x (h x (by simp)))))]
      rw [List.find?_cons, List.find?_cons, hb, ih (fun y hy => h y (List.mem_cons_of_mem _ hy))]
  exact h _ (fun x hx => (List.mem_filter.1 hx).1)
theorem coverE {u to to' : Int} (ht : Eq2 n n' to to') : ∀ (m : Nat) (fr fr' : Int), Re.above L fr ≤ m → Eq2 n n' fr fr' → Re.cover L u fr to = Re.cover L u fr' to' := by
  intro m
  induction m with
  | zero =>
    intro fr fr' hm hf
    have hlt := Eq2.lt hf ht
    have hne := nextE hS (u := u) hf
    by_cases h1 : fr < to
    · rcases Re.nextSeg_cases L u fr with hn | ⟨x, hn, hx, hb, ha⟩
      · rw [Re.cover_none h1 hn, Re.cover_none (hlt.1 h1) (by rw [← hne]; exact hn)]
      · omega
    · rw [Re.cover_done h1, Re.cover_done (fun h => h1 (hlt.2 h))]
  | succ m ih =>
    intro fr fr' hm hf
    have hlt := Eq2.lt hf ht
    have hne := nextE hS (u := u) hf
    by_cases h1 : fr < to
    · rcases Re.nextSeg_cases L u fr with hn | ⟨x, hn, hx, hb, ha⟩
      · rw [Re.cover_none h1 hn, Re.cover_none (hlt.1 h1) (by rw [← hne]; exact hn)]
      · rw [Re.cover_some h1 hn, Re.cover_some (hlt.1 h1) (by rw [← hne]; exact hn), ih x.b x.b (by omega) (Eq2.self (hS.b x hx))]
    · rw [Re.cover_done h1, Re.cover_done (fun h => h1 (hlt.2 h))]
end sim
/-- Two ways that lie alike. -/
def PR (n n' : Int) : List Prt → List Prt → Prop
  | [], [] => True
  | x :: P, y :: Q => (x.u = y.u ∧ Eq2 n n' x.fr y.fr ∧ Eq2 n n' x.to y.to) ∧ PR n n' P Q
  | _, _ => False
theorem PR.len {n n' : Int} : ∀ {P Q : List Prt}, PR n n' P Q → P.length = Q.length
  | [], [], _ => rfl
  | x :: P, y :: Q, h => by simp [PR.len h.2]
  | [], y :: Q, h => h.elim
  | x :: P, [], h => h.elim
theorem PR.at {n n' : Int} : ∀ {P Q : List Prt}, PR n n' P Q → ∀ (i : Nat) (x : Prt), P[i]? = some x → ∃ y, Q[i]? = some y ∧ x.u = y.u ∧ Eq2 n n' x.fr y.fr ∧ Eq2 n n' x.to y.to
  | [], [], _, i, x, h => by simp at h
  | x :: P, y :: Q, h, 0, z, hz => by
    simp at hz; subst hz
    exact ⟨y, by simp, h.1⟩
  | x :: P, y :: Q, h, i + 1, z, hz => by
    obtain ⟨w, h1, h2⟩ := PR.at h.2 i z (by simpa using hz)
    exact ⟨w, by simpa using h1, h2⟩
  | [], y :: Q, h, _, _, _ => h.elim
  | x :: P, [], h, _, _, _ => h.elim
section sim2
variable {L : List It2} {n n' : Int} (hS : Sim L n n')
include hS
theorem wayE : ∀ (m : Nat) (t a a' : Int), t.toNat ≤ m → Eq2 n n' a a' → PR n n' (wayU L t a) (wayU L t a') := by
  intro m
  induction m with
  | zero => intro t a a' ht ha; rw [way_lt (by omega), way_lt (by omega)]; trivial
  | succ m ih =>
    intro t a a' ht ha
    by_cases h1 : 1 ≤ t
    · have hlt := parent_lt L t h1
      rw [way_ge h1, way_ge h1]
      have hm := Eq2.min (Eq2.self (parentE hS t)) ha
      exact ⟨⟨rfl, hm, ha⟩, ih _ _ _ (by omega) hm⟩
    · rw [way_lt h1, way_lt h1]; trivial
theorem covStepE {s s' : List Int × List Int × Bool} {u fr fr' to to' : Int} (h1 : s.1 = s'.1) (h2 : s.2.2 = s'.2.2) (hf : Eq2 n n' fr fr') (ht : Eq2 n n' to to') : (covStep L s u fr to).1 = (covStep L s' u fr' to').1 ∧ (covStep L s u fr to).2.2 = (covStep L s' u fr' to').2.2 := by
  unfold covStep
  rw [h2, coverE hS ht _ fr fr' (Nat.le_refl _) hf]
  split
  · exact ⟨by rw [h1], rfl⟩
  · exact ⟨h1, h2⟩
theorem foldE : ∀ (i : Nat) (P Q : List Prt) (s s' : List Int × List Int × Bool), PR n n' P Q → s.1 = s'.1 → s.2.2 = s'.2.2 →
    ((P.take i).foldr (fun y s => covStep L s y.u y.fr y.to) s).1 = ((Q.take i).foldr (fun y s => covStep L s y.u y.fr y.to) s').1 ∧ ((P.take i).foldr (fun y s => covStep L s y.u y.fr y.to) s).2.2 = ((Q.take i).foldr (fun y s => covStep L s y.u y.fr y.to) s').2.2
  | 0, P, Q, s, s', _, h1, h2 => by simp [h1, h2]
  | i + 1, [], [], s, s', _, h1, h2 => by simp [h1, h2]
  | i + 1, x :: P, y :: Q, s, s', h, h1, h2 => by
    obtain ⟨g1, g2⟩ := foldE i P Q s s' h.2 h1 h2
    rw [List.take_succ_cons, List.take_succ_cons, List.foldr_cons, List.foldr_cons, h.1.1]
    exact covStepE hS g1 g2 h.1.2.1 h.1.2.2
  | i + 1, [], y :: Q, _, _, h, _, _ => h.elim
  | i + 1, x :: P, [], _, _, h, _, _ => h.elim
theorem planE {P Q : List Prt} (h : PR n n' P Q) (i : Nat) (x y : Prt) (b : It2) (hb : b ∈ L) (hu : x.u = y.u) (ht : Eq2 n n' x.to y.to) : (planAt L P i x b).1 = (planAt L Q i y b).1 ∧ (planAt L P i x b).2.2 = (planAt L Q i y b).2.2 := by
  unfold planAt
  rw [List.foldl_reverse, List.foldl_reverse, hu]
  have h0 := covStepE hS (s := ([], [], true)) (s' := ([], [], true)) (u := y.u) rfl rfl (Eq2.self (hS.a b hb)) ht
  exact foldE hS i P Q _ _ h h0.1 h0.2
/-- A plan turns nowhere but at places. -/
theorem findE {t : Int} {p : It2 × List Int × List Int} (h : findP L t n = some p) (hn' : 0 ≤ n') : ∃ p', findP L t n' = some p' ∧ p'.1 = p.1 ∧ p'.2.1 = p.2.1 := by
  obtain ⟨hn, hk, j, x, hj⟩ := find_spec h
  have hP := wayE hS _ t n n' (Nat.le_refl _) (.inr ⟨rfl, rfl⟩)
  obtain ⟨y, hy, hu, hf, ht⟩ := PR.at hP j x hj.at_
  have hb := bestE hS (u := x.u) hf ht
  have hbm := (best_mem hj.has).1
  rw [← hj.one] at hbm
  obtain ⟨q1, q2⟩ := planE hS hP j x y p.1 hbm hu ht
  refine ⟨(p.1, (planAt L (wayU L t n') j y p.1).1, (planAt L (wayU L t n') j y p.1).2.1), ?_, rfl, by rw [← q1]; exact hj.seg.symm⟩
  unfold findP
  rw [if_neg (by rw [hk]; simp; omega)]
  refine findI_of (j := j) (x := y) _ 0 (Nat.le_refl _) ⟨hy, Nat.zero_le _, by rw [← hu, ← hb]; exact hj.has, by rw [← hu, ← hb]; exact hj.one, by rw [← q2]; exact hj.ok, rfl, rfl, fun k z h1 h2 h3 => ?_⟩
  have hlen := PR.len hP
  have hkl : k < (wayU L t n).length := by rw [hlen]; exact (List.getElem?_eq_some_iff.1 h3).1
  obtain ⟨z0, hz0⟩ : ∃ z0, (wayU L t n)[k]? = some z0 := ⟨_, List.getElem?_eq_getElem hkl⟩
  obtain ⟨z', hz', hu', hf', ht'⟩ := PR.at hP k z0 hz0
  rw [h3] at hz'
  injection hz' with hz'
  subst hz'
  rw [← hu', ← bestE hS (u := z0.u) hf' ht']
  exact hj.no k z0 h1 h2 hz0
end sim2
theorem mem_places {L : List It2} {c m : Int} : m ∈ placesL L c ↔ c ≤ m ∧ ∃ x ∈ cItem c :: L, m ∈ sixP x := by
  unfold placesL
  rw [Sc.mem_upr]
  unfold plRow
  rw [List.mem_flatten]
  constructor
  · rintro ⟨l, hl, hm⟩
    obtain ⟨x, hx, rfl⟩ := List.mem_map.1 hl
    obtain ⟨h1, h2⟩ := List.mem_filter.1 hm
    exact ⟨by simpa using h2, x, hx, h1⟩
  · rintro ⟨h1, x, hx, h2⟩
    exact ⟨_, List.mem_map.2 ⟨x, hx, rfl⟩, List.mem_filter.2 ⟨h2, by simpa using h1⟩⟩
theorem places_c (L : List It2) (c : Int) : c ∈ placesL L c := mem_places.2 ⟨Int.le_refl _, cItem c, by simp, by simp [sixP, cItem]⟩
/-- The greatest of some numbers below one. -/
theorem great_below : ∀ (zs : List Int) (c n : Int), c ∈ zs → c < n → ∃ m ∈ zs, m < n ∧ ∀ z ∈ zs, z < n → z ≤ m
  | [], c, n, h, _ => by cases h
  | z :: zs, c, n, h, hc => by
    by_cases hz : ∃ y ∈ zs, y < n
    · obtain ⟨y, hy, hyn⟩ := hz
      obtain ⟨m, hm, hmn, hmax⟩ := great_below zs y n hy hyn
      by_cases h1 : z < n ∧ m < z
      · refine ⟨z, by simp, h1.1, fun w hw hwn => ?_⟩
        rcases List.mem_cons.1 hw with rfl | hw
        · omega
        · have := hmax w hw hwn; omega
      · refine ⟨m, List.mem_cons_of_mem _ hm, hmn, fun w hw hwn => ?_⟩
        rcases List.mem_cons.1 hw with rfl | hw
        · omega
        · exact hmax w hw hwn
    · rcases List.mem_cons.1 h with rfl | h
      · refine ⟨c, by simp, hc, fun w hw hwn => ?_⟩
        rcases List.mem_cons.1 hw with rfl | hw
        · omega
        · exact absurd ⟨w, hw, hwn⟩ hz
      · exact absurd ⟨c, h, hc⟩ hz
/-- What a plan needs is wanted. -/
theorem obj_wanted {L : List It2} {c t n : Int} {p : It2 × List Int × List Int} (hr : ∀ x ∈ L, 0 ≤ x.a ∧ 0 ≤ x.b) (ht : t ∈ allL L) (hc : c ≤ n) (h : findP L t n = some p) : ∀ z, z ∈ Chn.chainIds L p.1.id ∨ z ∈ p.2.1 → z ∈ wantL L c := by
  have key : ∀ m p', m ∈ placesL L c → findP L t m = some p' → ∀ z, z ∈ Chn.chainIds L p'.1.id ∨ z ∈ p'.2.1 → z ∈ wantL L c := fun m p' hm hp z hz => by
    unfold wantL
    rw [Sc.mem_upr]
    unfold wantZ
    refine List.mem_append.2 (.inr (List.mem_flatten.2 ⟨_, List.mem_map.2 ⟨t, ht, rfl⟩, ?_⟩))
    unfold tObj
    refine List.mem_flatten.2 ⟨_, List.mem_map.2 ⟨m, hm, rfl⟩, ?_⟩
    unfold objL
    rw [hp]
    exact (Sc.mem_upr _ _).2 (List.mem_append.2 hz)
  by_cases hm : n ∈ placesL L c
  · exact key n p hm h
  · have hcn : c < n := by
      rcases Int.lt_or_eq_of_le hc with h1 | h1
      · exact h1
      · exact absurd (h1 ▸ places_c L c) hm
    obtain ⟨m, hmp, hmn, hmax⟩ := great_below (placesL L c) c n (places_c L c) hcn
    have hcm := hmax c (places_c L c) hcn
    have hno : ∀ x ∈ L, ∀ v ∈ sixP x, v ≠ n := fun x hx v hv e => hm (mem_places.2 ⟨hc, x, List.mem_cons_of_mem _ hx, e ▸ hv⟩)
    have hup : ∀ x ∈ L, ∀ v ∈ sixP x, c ≤ v → v < n → v ≤ m := fun x hx v hv h1 h2 => hmax v (mem_places.2 ⟨h1, x, List.mem_cons_of_mem _ hx, hv⟩) h2
    have ga : ∀ x ∈ L, Gd n m x.a := fun x hx => by
      have e1 := hno x hx (x.a - 1) (by simp [sixP])
      have e2 := hno x hx x.a (by simp [sixP])
      have e3 := hno x hx (x.a + 1) (by simp [sixP])
      have e4 := hup x hx (x.a + 1) (by simp [sixP])
      unfold Gd
      omega
    have gb : ∀ x ∈ L, Gd n m x.b := fun x hx => by
      have e1 := hno x hx (x.b - 1) (by simp [sixP])
      have e2 := hno x hx x.b (by simp [sixP])
      have e3 := hno x hx (x.b + 1) (by simp [sixP])
      have e4 := hup x hx (x.b + 1) (by simp [sixP])
      unfold Gd
      omega
    obtain ⟨hn0, _, j, x, hj⟩ := find_spec h
    have hpar : ∀ (k : Nat) (t n0 : Int) (i : Nat) (y : Prt), t.toNat ≤ k → (wayU L t n0)[i]? = some y → y.to ≤ n0 := by
      intro k
      induction k with
      | zero => intro t n0 i y hk hy; rw [way_lt (by omega)] at hy; simp at hy
      | succ k ih =>
        intro t n0 i y hk hy
        by_cases h1 : 1 ≤ t
        · have hlt := parent_lt L t h1
          rw [way_ge h1] at hy
          cases i with
          | zero => simp at hy; rw [← hy]; exact Int.le_refl _
          | succ i =>
            have := ih (parentP L t).1 (min (parentP L t).2.1 n0) i y (by omega) (by simpa using hy)
            omega
        · rw [way_lt h1] at hy; simp at hy
    have hto := hpar _ t n j x (Nat.le_refl _) hj.at_
    obtain ⟨b1, b2, _⟩ := best_mem hj.has
    rw [← hj.one] at b1 b2
    have hbn : p.1.b ≤ x.to := by unfold Chn.backupsB at b2; simp at b2; exact b2.1.2
    have hb0 := (hr p.1 b1).2
    have hgb := gb p.1 b1
    have hz : Gd n m 0 := by unfold Gd at hgb ⊢; omega
    obtain ⟨p', h1, h2, h3⟩ := findE ⟨hz, ga, gb⟩ h (by unfold Gd at hz hgb; omega)
    intro z hz2
    exact key m p' hmp h1 z (by rw [h2, h3]; exact hz2)
end Pr
end Go.Proofs.Ytinofjenoapeaaa
end

section
namespace Go.Proofs.Ytinofjenoapeaaa
open Go.RowKit Go.Shelf
set_option linter.unusedSimpArgs false
set_option linter.unusedVariables false
namespace Law24
open Pl
variable {W0 : World} {X : Nat → Prop} {R C : List Ch}
structure Few (L : List It2) : Prop where
  r : ∀ x ∈ L, 0 ≤ x.a ∧ x.a ≤ 40 ∧ 0 ≤ x.b ∧ x.b ≤ 40 ∧ x.tl ≤ 1099511627776
  inc : (L.map It2.id).Pairwise (· < ·)
  len : L.length ≤ 20
structure FewI (L : List It2) (i : Nat) : Prop where
  r : ∀ x ∈ L.take i, 0 ≤ x.a ∧ x.a ≤ 40 ∧ 0 ≤ x.b ∧ x.b ≤ 40 ∧ x.tl ≤ 1099511627776
  inc : ((L.take i).map It2.id).Pairwise (· < ·)
theorem pw_snoc {l : List Int} {a b : Int} (h : (l ++ [a]).Pairwise (· < ·)) (hab : a < b) : (l ++ [a] ++ [b]).Pairwise (· < ·) := by
  rw [List.pairwise_append]
  refine ⟨h, List.pairwise_singleton _ _, fun x hx y hy => ?_⟩
  obtain rfl := List.mem_singleton.1 hy
  rcases List.mem_append.1 hx with hx | hx
  · have := (List.pairwise_append.1 h).2.2 x hx a (by simp); omega
  · obtain rfl := List.mem_singleton.1 hx; exact hab
theorem FewI.zero (L : List It2) : FewI L 0 := ⟨fun x hx => by simp at hx, by simp⟩
theorem FewI.step {L : List It2} {i : Nat} {x : It2} (h : FewI L i) (hx : L[i]? = some x) (hr : 0 ≤ x.a ∧ x.a ≤ 40 ∧ 0 ≤ x.b ∧ x.b ≤ 40 ∧ x.tl ≤ 1099511627776) (hi : i = 0 ∨ ∃ j y, i = j + 1 ∧ L[j]? = some y ∧ y.id < x.id) : FewI L (i + 1) := by
  have ht : L.take (i + 1) = L.take i ++ [x] := by rw [List.take_add_one, hx]; rfl
  refine ⟨fun z hz => ?_, ?_⟩
  · rw [ht] at hz
    rcases List.mem_append.1 hz with hz | hz
    · exact h.r z hz
    · obtain rfl := List.mem_singleton.1 hz; exact hr
  · rw [ht, List.map_append]
    rcases hi with rfl | ⟨j, y, rfl, hy, hlt⟩
    · simp
    · have h2 := h.inc
      have ht2 : L.take (j + 1) = L.take j ++ [y] := by rw [List.take_add_one, hy]; rfl
      rw [ht2, List.map_append] at h2 ⊢
      exact pw_snoc h2 hlt
set_option maxRecDepth 100000 in
set_option maxHeartbeats 4000000 in
theorem few_ct (s : Value) (hs : IsSl s) (L : List It2) (hok : ∀ x ∈ L, x.ok) (hsl : SlC 9 s (L.map It2.v) ∈ R) (hm : L.length * 88 ≤ 140737488355328) :
    Ct Try.prog 13 [s] W0 X R C { b : Bool // b = true → Few L } (fun i => .bool i.1) (fun _ => R) (fun _ => C) := by
  intro w hw
  have hF := isWide_wide
  obtain ⟨sa, sn, sc, rfl⟩ := hs
  obtain rfl := slLen (hw.hasR hsl)
  have hlv : (L.map It2.v).length = L.length := by simp
  refine calls_nx Try.func13 rfl Try.ntmps13 rfl ?_ hw
  repeat' (first
    | ((first | with_reducible refine nl_op rfl ?_ | refine nd_go rfl rfl rfl ?_); intro K hK; (first
      | ((first | refine on_E hF rfl rfl ?_ | refine od_E rfl rfl ?_ | refine od_R rfl rfl ?_); (first | refine ⟨_, a_yl, ?_⟩ | refine ⟨_, yl_fieldB (T := 27) (f := 0) (q := 0) rfl rfl (by kernel_rfl), ?_⟩ | refine ⟨_, yl_fieldE (T := 27) (f := 0) (j := 0) rfl rfl a_sl (by (first | omega | (simp only [List.length_append, List.length_cons, List.length_nil, List.length_map] at *; omega))) (by kernel_rfl), ?_⟩ | refine ⟨_, yl_fieldB (T := 27) (f := 2) (q := 2) rfl rfl (by kernel_rfl), ?_⟩ | refine ⟨_, yl_fieldE (T := 27) (f := 2) (j := 2) rfl rfl a_sl (by (first | omega | (simp only [List.length_append, List.length_cons, List.length_nil, List.length_map] at *; omega))) (by kernel_rfl), ?_⟩ | refine ⟨_, yl_fieldB (T := 27) (f := 4) (q := 4) rfl rfl (by kernel_rfl), ?_⟩ | refine ⟨_, yl_fieldE (T := 27) (f := 4) (j := 4) rfl rfl a_sl (by (first | omega | (simp only [List.length_append, List.length_cons, List.length_nil, List.length_map] at *; omega))) (by kernel_rfl), ?_⟩ | refine ⟨_, yl_fieldB (T := 27) (f := 5) (q := 5) rfl rfl (by kernel_rfl), ?_⟩ | refine ⟨_, yl_fieldE (T := 27) (f := 5) (j := 5) rfl rfl a_sl (by (first | omega | (simp only [List.length_append, List.length_cons, List.length_nil, List.length_map] at *; omega))) (by kernel_rfl), ?_⟩))
      | ((first | refine on_Ec hF rfl rfl ?_ | refine od_Ec rfl rfl ?_); refine ⟨_, _, _, a_yc, ?_, ?_⟩ <;> (intro hc; try (exfalso; first | (omega; done) | exact absurd (by with_reducible rfl) hc | (simp at hc; done))))
      | ((first | (refine od_act (fun c => by exact (fun h => by cases h)) ?_; intro K2 hK2) | refine od_last (fun c => by exact (fun h => by cases h)) ?_ | skip); (first
      
      
      | (refine on_alloc hF rfl Try.zeroValue27 rfl rfl (fun B => ?_))
      | (refine on_box hF rfl rfl rfl rfl (fun B => ?_))
      | (refine on_store hF rfl rfl rfl rfl a_turn a_vof (by first | rfl | exact hsz.symm | exact hsz) ?_)
      | (refine on_storeE hF rfl rfl rfl rfl a_turn (by (first | omega | (simp only [List.length_append, List.length_cons, List.length_nil, List.length_map] at *; omega))) a_vof (by first | rfl | exact hsz) ?_)
      | (refine on_storeEF hF rfl rfl rfl rfl a_turn (by first | with_reducible assumption | rfl) (by decide) a_vof rfl ?_)
      | (refine on_storeF hF rfl rfl rfl rfl a_turn (by decide) a_vof rfl ?_)) <;> try (refine hK2 _ _ _ a_allK ?_; clear hK2 K2))) <;> (refine hK _ _ _ ?_; clear hK K))
    | with_reducible refine nx_seq ?_
        | with_reducible refine nx_region ?_
        | with_reducible refine nl_nil ?_
        | with_reducible refine nq_then_n ?_
        | with_reducible refine nx_block ?_
        | with_reducible refine nx_skip ?_
        | with_reducible refine nx_exit ?_
        | with_reducible refine nx_ret ?_
        | with_reducible refine nq_then_x ?_
        | with_reducible refine nq_then_r ?_
        | with_reducible refine nq_blk_n ?_
        | with_reducible refine nq_blk_r ?_
        | with_reducible refine nq_blk_hit ?_
        | with_reducible refine nq_blk_miss rfl ?_
        | with_reducible refine nd_nil ?_
    | refine nx_cond_t rfl ?_ | refine nx_cond_f rfl ?_
    | refine nl_pass hF rfl rfl rfl ?_
    | refine nd_pass rfl rfl rfl rfl rfl ?_
    | refine nd_pass2 rfl rfl rfl (fun c => by exact (fun h => by cases h)) a_allK rfl rfl ?_
    | refine nd_pass3 rfl rfl rfl (fun c => by exact (fun h => by cases h)) rfl rfl ?_
    | (with_reducible refine hQ1 _ _ _ ?_; clear hQ1 Q1)
    | (refine nd_region (id := 4) hF [0, 1, 0, 0, 0, 1, 0, 0, 0, 0, 1, 0, 0, 0, 0, 1, 0, 0, 0, 0, 1, 0, 0, 0, 0, 0, 0, 0, 0, 0, 1, 1, 1, 0, 1, 0, 0, 0] [0, 1, 2, 3, 4, 5, 6, 7, 8, 9, 10, 11, 12, 13, 14, 15, 16, 17, 18, 19, 20, 21, 22, 23, 24, 25, 26, 27, 28, 29, 30, 31, 32, 33, 34, 35, 36, 37] _ _ (by kernel_rfl) (by kernel_rfl) sub2_same ?_; intro Q1 hQ1))
  refine nx_loop (ι := { i : Nat // i ≤ L.length ∧ FewI L i }) (fun i => [(0, .slice sa (L.map It2.v).length sc), (5, .slice sa (L.map It2.v).length sc), (6, .int .i64 ((L.map It2.v).length : Int)), (7, .int .i64 (i.1 : Int))]) (fun _ => R) (fun _ => C) (fun i => L.length - i.1) ⟨0, Nat.zero_le _, FewI.zero L⟩ (by exact a_sub) (by exact a_subR) (by exact a_holds) (fun i => ?_)
  obtain ⟨i, hi, hI⟩ := i
  dsimp only
  by_cases hlt : i < L.length
  · obtain ⟨x, hx⟩ : ∃ x, L[i]? = some x := ⟨L[i], by simp [hlt]⟩
    have hxm : x ∈ L := List.mem_of_getElem? hx
    have hxv : (L.map It2.v)[i]? = some x.v := by rw [List.getElem?_map, hx]; rfl
    have hvx := x.vof (hok x hxm)
    have hst := hI.step hx
    clear hI
    match i, hst, hlt, hi, hx, hxv with
    | 0, hst, hlt, hi, hx, hxv =>
      repeat' (first
    | ((first | with_reducible refine nl_op rfl ?_ | refine nd_go rfl rfl rfl ?_); intro K hK; (first
      | ((first | refine on_E hF rfl rfl ?_ | refine od_E rfl rfl ?_ | refine od_R rfl rfl ?_); (first | refine ⟨_, a_yl, ?_⟩ | refine ⟨_, yl_fieldB (T := 27) (f := 0) (q := 0) rfl rfl (by kernel_rfl), ?_⟩ | refine ⟨_, yl_fieldE (T := 27) (f := 0) (j := 0) rfl rfl a_sl (by (first | omega | (simp only [List.length_append, List.length_cons, List.length_nil, List.length_map] at *; omega))) (by kernel_rfl), ?_⟩ | refine ⟨_, yl_fieldB (T := 27) (f := 2) (q := 2) rfl rfl (by kernel_rfl), ?_⟩ | refine ⟨_, yl_fieldE (T := 27) (f := 2) (j := 2) rfl rfl a_sl (by (first | omega | (simp only [List.length_append, List.length_cons, List.length_nil, List.length_map] at *; omega))) (by kernel_rfl), ?_⟩ | refine ⟨_, yl_fieldB (T := 27) (f := 4) (q := 4) rfl rfl (by kernel_rfl), ?_⟩ | refine ⟨_, yl_fieldE (T := 27) (f := 4) (j := 4) rfl rfl a_sl (by (first | omega | (simp only [List.length_append, List.length_cons, List.length_nil, List.length_map] at *; omega))) (by kernel_rfl), ?_⟩ | refine ⟨_, yl_fieldB (T := 27) (f := 5) (q := 5) rfl rfl (by kernel_rfl), ?_⟩ | refine ⟨_, yl_fieldE (T := 27) (f := 5) (j := 5) rfl rfl a_sl (by (first | omega | (simp only [List.length_append, List.length_cons, List.length_nil, List.length_map] at *; omega))) (by kernel_rfl), ?_⟩))
      | ((first | refine on_Ec hF rfl rfl ?_ | refine od_Ec rfl rfl ?_); refine ⟨_, _, _, a_yc, ?_, ?_⟩ <;> (intro hc; try (exfalso; first | (omega; done) | exact absurd (by with_reducible rfl) hc | (simp at hc; done))))
      | ((first | (refine od_act (fun c => by exact (fun h => by cases h)) ?_; intro K2 hK2) | refine od_last (fun c => by exact (fun h => by cases h)) ?_ | skip); (first
      
      
      | (refine on_alloc hF rfl Try.zeroValue27 rfl rfl (fun B => ?_))
      | (refine on_box hF rfl rfl rfl rfl (fun B => ?_))
      | (refine on_store hF rfl rfl rfl rfl a_turn a_vof (by first | rfl | exact hsz.symm | exact hsz) ?_)
      | (refine on_storeE hF rfl rfl rfl rfl a_turn (by (first | omega | (simp only [List.length_append, List.length_cons, List.length_nil, List.length_map] at *; omega))) a_vof (by first | rfl | exact hsz) ?_)
      | (refine on_storeEF hF rfl rfl rfl rfl a_turn (by first | with_reducible assumption | rfl) (by decide) a_vof rfl ?_)
      | (refine on_storeF hF rfl rfl rfl rfl a_turn (by decide) a_vof rfl ?_)) <;> try (refine hK2 _ _ _ a_allK ?_; clear hK2 K2))) <;> (refine hK _ _ _ ?_; clear hK K))
    | with_reducible refine nx_seq ?_
        | with_reducible refine nx_region ?_
        | with_reducible refine nl_nil ?_
        | with_reducible refine nq_then_n ?_
        | with_reducible refine nx_block ?_
        | with_reducible refine nx_skip ?_
        | with_reducible refine nx_exit ?_
        | with_reducible refine nx_ret ?_
        | with_reducible refine nq_then_x ?_
        | with_reducible refine nq_then_r ?_
        | with_reducible refine nq_blk_n ?_
        | with_reducible refine nq_blk_r ?_
        | with_reducible refine nq_blk_hit ?_
        | with_reducible refine nq_blk_miss rfl ?_
        | with_reducible refine nd_nil ?_
    | refine nx_cond_t rfl ?_ | refine nx_cond_f rfl ?_
    | refine nl_pass hF rfl rfl rfl ?_
    | refine nd_pass rfl rfl rfl rfl rfl ?_
    | refine nd_pass2 rfl rfl rfl (fun c => by exact (fun h => by cases h)) a_allK rfl rfl ?_
    | refine nd_pass3 rfl rfl rfl (fun c => by exact (fun h => by cases h)) rfl rfl ?_
    | (with_reducible refine hQ1 _ _ _ ?_; clear hQ1 Q1)
    | (refine nd_region (id := 4) hF [0, 1, 0, 0, 0, 1, 0, 0, 0, 0, 1, 0, 0, 0, 0, 1, 0, 0, 0, 0, 1, 0, 0, 0, 0, 0, 0, 0, 0, 0, 1, 1, 1, 0, 1, 0, 0, 0] [0, 1, 2, 3, 4, 5, 6, 7, 8, 9, 10, 11, 12, 13, 14, 15, 16, 17, 18, 19, 20, 21, 22, 23, 24, 25, 26, 27, 28, 29, 30, 31, 32, 33, 34, 35, 36, 37] _ _ (by kernel_rfl) (by kernel_rfl) sub2_same ?_; intro Q1 hQ1))
      all_goals (first
        | (exfalso; dsimp only at *; omega)
        | refine nx_again ⟨1, by omega, hst ⟨by omega, by omega, by omega, by omega, by omega⟩ (.inl rfl)⟩ (by dsimp only; omega) (by exact a_sub) (by exact a_subR) (by exact a_holds)
        | refine nx_end [] rfl ((⟨false, fun h => by cases h⟩ : { b : Bool // b = true → Few L })) (fun a w ha hw => res_tmp Try.results13 rfl ha) (by exact a_subR) (by exact a_holds2))
    | j + 1, hst, hlt, hi, hx, hxv =>
      obtain ⟨y, hy⟩ : ∃ y, L[j]? = some y := ⟨_, List.getElem?_eq_getElem (by omega)⟩
      have hyv : (L.map It2.v)[j]? = some y.v := by rw [List.getElem?_map, hy]; rfl
      have hvy := y.vof (hok y (List.mem_of_getElem? hy))
      have hz : ((j + 1 : Nat) : Int) - 1 = (j : Int) := by omega
      repeat' (first
    | ((first | with_reducible refine nl_op rfl ?_ | refine nd_go rfl rfl rfl ?_); intro K hK; (first
      | ((first | refine on_E hF rfl rfl ?_ | refine od_E rfl rfl ?_ | refine od_R rfl rfl ?_); (first | refine ⟨_, yl_subZ hz (by omega) rfl rfl rfl, ?_⟩ | refine ⟨_, a_yl, ?_⟩ | refine ⟨_, yl_fieldB (T := 27) (f := 0) (q := 0) rfl rfl (by kernel_rfl), ?_⟩ | refine ⟨_, yl_fieldE (T := 27) (f := 0) (j := 0) rfl rfl a_sl (by (first | omega | (simp only [List.length_append, List.length_cons, List.length_nil, List.length_map] at *; omega))) (by kernel_rfl), ?_⟩ | refine ⟨_, yl_fieldB (T := 27) (f := 2) (q := 2) rfl rfl (by kernel_rfl), ?_⟩ | refine ⟨_, yl_fieldE (T := 27) (f := 2) (j := 2) rfl rfl a_sl (by (first | omega | (simp only [List.length_append, List.length_cons, List.length_nil, List.length_map] at *; omega))) (by kernel_rfl), ?_⟩ | refine ⟨_, yl_fieldB (T := 27) (f := 4) (q := 4) rfl rfl (by kernel_rfl), ?_⟩ | refine ⟨_, yl_fieldE (T := 27) (f := 4) (j := 4) rfl rfl a_sl (by (first | omega | (simp only [List.length_append, List.length_cons, List.length_nil, List.length_map] at *; omega))) (by kernel_rfl), ?_⟩ | refine ⟨_, yl_fieldB (T := 27) (f := 5) (q := 5) rfl rfl (by kernel_rfl), ?_⟩ | refine ⟨_, yl_fieldE (T := 27) (f := 5) (j := 5) rfl rfl a_sl (by (first | omega | (simp only [List.length_append, List.length_cons, List.length_nil, List.length_map] at *; omega))) (by kernel_rfl), ?_⟩))
      | ((first | refine on_Ec hF rfl rfl ?_ | refine od_Ec rfl rfl ?_); refine ⟨_, _, _, a_yc, ?_, ?_⟩ <;> (intro hc; try (exfalso; first | (omega; done) | exact absurd (by with_reducible rfl) hc | (simp at hc; done))))
      | ((first | (refine od_act (fun c => by exact (fun h => by cases h)) ?_; intro K2 hK2) | refine od_last (fun c => by exact (fun h => by cases h)) ?_ | skip); (first
      
      
      | (refine on_alloc hF rfl Try.zeroValue27 rfl rfl (fun B => ?_))
      | (refine on_box hF rfl rfl rfl rfl (fun B => ?_))
      | (refine on_store hF rfl rfl rfl rfl a_turn a_vof (by first | rfl | exact hsz.symm | exact hsz) ?_)
      | (refine on_storeE hF rfl rfl rfl rfl a_turn (by (first | omega | (simp only [List.length_append, List.length_cons, List.length_nil, List.length_map] at *; omega))) a_vof (by first | rfl | exact hsz) ?_)
      | (refine on_storeEF hF rfl rfl rfl rfl a_turn (by first | with_reducible assumption | rfl) (by decide) a_vof rfl ?_)
      | (refine on_storeF hF rfl rfl rfl rfl a_turn (by decide) a_vof rfl ?_)) <;> try (refine hK2 _ _ _ a_allK ?_; clear hK2 K2))) <;> (refine hK _ _ _ ?_; clear hK K))
    | with_reducible refine nx_seq ?_
        | with_reducible refine nx_region ?_
        | with_reducible refine nl_nil ?_
        | with_reducible refine nq_then_n ?_
        | with_reducible refine nx_block ?_
        | with_reducible refine nx_skip ?_
        | with_reducible refine nx_exit ?_
        | with_reducible refine nx_ret ?_
        | with_reducible refine nq_then_x ?_
        | with_reducible refine nq_then_r ?_
        | with_reducible refine nq_blk_n ?_
        | with_reducible refine nq_blk_r ?_
        | with_reducible refine nq_blk_hit ?_
        | with_reducible refine nq_blk_miss rfl ?_
        | with_reducible refine nd_nil ?_
    | refine nx_cond_t rfl ?_ | refine nx_cond_f rfl ?_
    | refine nl_pass hF rfl rfl rfl ?_
    | refine nd_pass rfl rfl rfl rfl rfl ?_
    | refine nd_pass2 rfl rfl rfl (fun c => by exact (fun h => by cases h)) a_allK rfl rfl ?_
    | refine nd_pass3 rfl rfl rfl (fun c => by exact (fun h => by cases h)) rfl rfl ?_
    | (with_reducible refine hQ1 _ _ _ ?_; clear hQ1 Q1)
    | (refine nd_region (id := 4) hF [0, 1, 0, 0, 0, 1, 0, 0, 0, 0, 1, 0, 0, 0, 0, 1, 0, 0, 0, 0, 1, 0, 0, 0, 0, 0, 0, 0, 0, 0, 1, 1, 1, 0, 1, 0, 0, 0] [0, 1, 2, 3, 4, 5, 6, 7, 8, 9, 10, 11, 12, 13, 14, 15, 16, 17, 18, 19, 20, 21, 22, 23, 24, 25, 26, 27, 28, 29, 30, 31, 32, 33, 34, 35, 36, 37] _ _ (by kernel_rfl) (by kernel_rfl) sub2_same ?_; intro Q1 hQ1))
      all_goals (first
        | (exfalso; dsimp only at *; omega)
        | refine nx_again ⟨j + 2, by omega, hst ⟨by omega, by omega, by omega, by omega, by omega⟩ (.inr ⟨j, y, rfl, hy, by omega⟩)⟩ (by dsimp only; omega) (by exact a_sub) (by exact a_subR) (by exact a_holds)
        | refine nx_end [] rfl ((⟨false, fun h => by cases h⟩ : { b : Bool // b = true → Few L })) (fun a w ha hw => res_tmp Try.results13 rfl ha) (by exact a_subR) (by exact a_holds2))
  · have he : L.take i = L := List.take_of_length_le (by omega)
    have h1 := hI.r
    have h2 := hI.inc
    rw [he] at h1 h2
    clear hI
    by_cases h20 : L.length ≤ 20
    · repeat' (first
    | ((first | with_reducible refine nl_op rfl ?_ | refine nd_go rfl rfl rfl ?_); intro K hK; (first
      | ((first | refine on_E hF rfl rfl ?_ | refine od_E rfl rfl ?_ | refine od_R rfl rfl ?_); (first | refine ⟨_, a_yl, ?_⟩ | refine ⟨_, yl_fieldB (T := 27) (f := 0) (q := 0) rfl rfl (by kernel_rfl), ?_⟩ | refine ⟨_, yl_fieldE (T := 27) (f := 0) (j := 0) rfl rfl a_sl (by (first | omega | (simp only [List.length_append, List.length_cons, List.length_nil, List.length_map] at *; omega))) (by kernel_rfl), ?_⟩ | refine ⟨_, yl_fieldB (T := 27) (f := 2) (q := 2) rfl rfl (by kernel_rfl), ?_⟩ | refine ⟨_, yl_fieldE (T := 27) (f := 2) (j := 2) rfl rfl a_sl (by (first | omega | (simp only [List.length_append, List.length_cons, List.length_nil, List.length_map] at *; omega))) (by kernel_rfl), ?_⟩ | refine ⟨_, yl_fieldB (T := 27) (f := 4) (q := 4) rfl rfl (by kernel_rfl), ?_⟩ | refine ⟨_, yl_fieldE (T := 27) (f := 4) (j := 4) rfl rfl a_sl (by (first | omega | (simp only [List.length_append, List.length_cons, List.length_nil, List.length_map] at *; omega))) (by kernel_rfl), ?_⟩ | refine ⟨_, yl_fieldB (T := 27) (f := 5) (q := 5) rfl rfl (by kernel_rfl), ?_⟩ | refine ⟨_, yl_fieldE (T := 27) (f := 5) (j := 5) rfl rfl a_sl (by (first | omega | (simp only [List.length_append, List.length_cons, List.length_nil, List.length_map] at *; omega))) (by kernel_rfl), ?_⟩))
      | ((first | refine on_Ec hF rfl rfl ?_ | refine od_Ec rfl rfl ?_); refine ⟨_, _, _, a_yc, ?_, ?_⟩ <;> (intro hc; try (exfalso; first | (omega; done) | exact absurd (by with_reducible rfl) hc | (simp at hc; done))))
      | ((first | (refine od_act (fun c => by exact (fun h => by cases h)) ?_; intro K2 hK2) | refine od_last (fun c => by exact (fun h => by cases h)) ?_ | skip); (first
      
      
      | (refine on_alloc hF rfl Try.zeroValue27 rfl rfl (fun B => ?_))
      | (refine on_box hF rfl rfl rfl rfl (fun B => ?_))
      | (refine on_store hF rfl rfl rfl rfl a_turn a_vof (by first | rfl | exact hsz.symm | exact hsz) ?_)
      | (refine on_storeE hF rfl rfl rfl rfl a_turn (by (first | omega | (simp only [List.length_append, List.length_cons, List.length_nil, List.length_map] at *; omega))) a_vof (by first | rfl | exact hsz) ?_)
      | (refine on_storeEF hF rfl rfl rfl rfl a_turn (by first | with_reducible assumption | rfl) (by decide) a_vof rfl ?_)
      | (refine on_storeF hF rfl rfl rfl rfl a_turn (by decide) a_vof rfl ?_)) <;> try (refine hK2 _ _ _ a_allK ?_; clear hK2 K2))) <;> (refine hK _ _ _ ?_; clear hK K))
    | with_reducible refine nx_seq ?_
        | with_reducible refine nx_region ?_
        | with_reducible refine nl_nil ?_
        | with_reducible refine nq_then_n ?_
        | with_reducible refine nx_block ?_
        | with_reducible refine nx_skip ?_
        | with_reducible refine nx_exit ?_
        | with_reducible refine nx_ret ?_
        | with_reducible refine nq_then_x ?_
        | with_reducible refine nq_then_r ?_
        | with_reducible refine nq_blk_n ?_
        | with_reducible refine nq_blk_r ?_
        | with_reducible refine nq_blk_hit ?_
        | with_reducible refine nq_blk_miss rfl ?_
        | with_reducible refine nd_nil ?_
    | refine nx_cond_t rfl ?_ | refine nx_cond_f rfl ?_
    | refine nl_pass hF rfl rfl rfl ?_
    | refine nd_pass rfl rfl rfl rfl rfl ?_
    | refine nd_pass2 rfl rfl rfl (fun c => by exact (fun h => by cases h)) a_allK rfl rfl ?_
    | refine nd_pass3 rfl rfl rfl (fun c => by exact (fun h => by cases h)) rfl rfl ?_
    | (with_reducible refine hQ1 _ _ _ ?_; clear hQ1 Q1)
    | (refine nd_region (id := 4) hF [0, 1, 0, 0, 0, 1, 0, 0, 0, 0, 1, 0, 0, 0, 0, 1, 0, 0, 0, 0, 1, 0, 0, 0, 0, 0, 0, 0, 0, 0, 1, 1, 1, 0, 1, 0, 0, 0] [0, 1, 2, 3, 4, 5, 6, 7, 8, 9, 10, 11, 12, 13, 14, 15, 16, 17, 18, 19, 20, 21, 22, 23, 24, 25, 26, 27, 28, 29, 30, 31, 32, 33, 34, 35, 36, 37] _ _ (by kernel_rfl) (by kernel_rfl) sub2_same ?_; intro Q1 hQ1))
      all_goals (try (exfalso; dsimp only at *; omega))
      refine nx_end [] rfl ((⟨true, fun _ => ⟨h1, h2, h20⟩⟩ : { b : Bool // b = true → Few L })) (fun a w ha hw => res_tmp Try.results13 rfl ha) (by exact a_subR) (by exact a_holds2)
    · repeat' (first
    | ((first | with_reducible refine nl_op rfl ?_ | refine nd_go rfl rfl rfl ?_); intro K hK; (first
      | ((first | refine on_E hF rfl rfl ?_ | refine od_E rfl rfl ?_ | refine od_R rfl rfl ?_); (first | refine ⟨_, a_yl, ?_⟩ | refine ⟨_, yl_fieldB (T := 27) (f := 0) (q := 0) rfl rfl (by kernel_rfl), ?_⟩ | refine ⟨_, yl_fieldE (T := 27) (f := 0) (j := 0) rfl rfl a_sl (by (first | omega | (simp only [List.length_append, List.length_cons, List.length_nil, List.length_map] at *; omega))) (by kernel_rfl), ?_⟩ | refine ⟨_, yl_fieldB (T := 27) (f := 2) (q := 2) rfl rfl (by kernel_rfl), ?_⟩ | refine ⟨_, yl_fieldE (T := 27) (f := 2) (j := 2) rfl rfl a_sl (by (first | omega | (simp only [List.length_append, List.length_cons, List.length_nil, List.length_map] at *; omega))) (by kernel_rfl), ?_⟩ | refine ⟨_, yl_fieldB (T := 27) (f := 4) (q := 4) rfl rfl (by kernel_rfl), ?_⟩ | refine ⟨_, yl_fieldE (T := 27) (f := 4) (j := 4) rfl rfl a_sl (by (first | omega | (simp only [List.length_append, List.length_cons, List.length_nil, List.length_map] at *; omega))) (by kernel_rfl), ?_⟩ | refine ⟨_, yl_fieldB (T := 27) (f := 5) (q := 5) rfl rfl (by kernel_rfl), ?_⟩ | refine ⟨_, yl_fieldE (T := 27) (f := 5) (j := 5) rfl rfl a_sl (by (first | omega | (simp only [List.length_append, List.length_cons, List.length_nil, List.length_map] at *; omega))) (by kernel_rfl), ?_⟩))
      | ((first | refine on_Ec hF rfl rfl ?_ | refine od_Ec rfl rfl ?_); refine ⟨_, _, _, a_yc, ?_, ?_⟩ <;> (intro hc; try (exfalso; first | (omega; done) | exact absurd (by with_reducible rfl) hc | (simp at hc; done))))
      | ((first | (refine od_act (fun c => by exact (fun h => by cases h)) ?_; intro K2 hK2) | refine od_last (fun c => by exact (fun h => by cases h)) ?_ | skip); (first
      
      
      | (refine on_alloc hF rfl Try.zeroValue27 rfl rfl (fun B => ?_))
      | (refine on_box hF rfl rfl rfl rfl (fun B => ?_))
      | (refine on_store hF rfl rfl rfl rfl a_turn a_vof (by first | rfl | exact hsz.symm | exact hsz) ?_)
      | (refine on_storeE hF rfl rfl rfl rfl a_turn (by (first | omega | (simp only [List.length_append, List.length_cons, List.length_nil, List.length_map] at *; omega))) a_vof (by first | rfl | exact hsz) ?_)
      | (refine on_storeEF hF rfl rfl rfl rfl a_turn (by first | with_reducible assumption | rfl) (by decide) a_vof rfl ?_)
      | (refine on_storeF hF rfl rfl rfl rfl a_turn (by decide) a_vof rfl ?_)) <;> try (refine hK2 _ _ _ a_allK ?_; clear hK2 K2))) <;> (refine hK _ _ _ ?_; clear hK K))
    | with_reducible refine nx_seq ?_
        | with_reducible refine nx_region ?_
        | with_reducible refine nl_nil ?_
        | with_reducible refine nq_then_n ?_
        | with_reducible refine nx_block ?_
        | with_reducible refine nx_skip ?_
        | with_reducible refine nx_exit ?_
        | with_reducible refine nx_ret ?_
        | with_reducible refine nq_then_x ?_
        | with_reducible refine nq_then_r ?_
        | with_reducible refine nq_blk_n ?_
        | with_reducible refine nq_blk_r ?_
        | with_reducible refine nq_blk_hit ?_
        | with_reducible refine nq_blk_miss rfl ?_
        | with_reducible refine nd_nil ?_
    | refine nx_cond_t rfl ?_ | refine nx_cond_f rfl ?_
    | refine nl_pass hF rfl rfl rfl ?_
    | refine nd_pass rfl rfl rfl rfl rfl ?_
    | refine nd_pass2 rfl rfl rfl (fun c => by exact (fun h => by cases h)) a_allK rfl rfl ?_
    | refine nd_pass3 rfl rfl rfl (fun c => by exact (fun h => by cases h)) rfl rfl ?_
    | (with_reducible refine hQ1 _ _ _ ?_; clear hQ1 Q1)
    | (refine nd_region (id := 4) hF [0, 1, 0, 0, 0, 1, 0, 0, 0, 0, 1, 0, 0, 0, 0, 1, 0, 0, 0, 0, 1, 0, 0, 0, 0, 0, 0, 0, 0, 0, 1, 1, 1, 0, 1, 0, 0, 0] [0, 1, 2, 3, 4, 5, 6, 7, 8, 9, 10, 11, 12, 13, 14, 15, 16, 17, 18, 19, 20, 21, 22, 23, 24, 25, 26, 27, 28, 29, 30, 31, 32, 33, 34, 35, 36, 37] _ _ (by kernel_rfl) (by kernel_rfl) sub2_same ?_; intro Q1 hQ1))
      all_goals (try (exfalso; dsimp only at *; omega))
      refine nx_end [] rfl ((⟨false, fun h => by cases h⟩ : { b : Bool // b = true → Few L })) (fun a w ha hw => res_tmp Try.results13 rfl ha) (by exact a_subR) (by exact a_holds2)
theorem same_ct (s t : Value) (hs : IsSl s) (ht : IsSl t) (xs : List Int) (h1 : SlC 1 s (xs.map (.int .i64)) ∈ R) (h2 : SlC 1 t (xs.map (.int .i64)) ∈ R) (hm : xs.length ≤ 1000000000) : Ct Try.prog 44 [s, t] W0 X R C Unit (fun _ => .bool true) (fun _ => R) (fun _ => C) := by
  intro w hw
  have hF := isWide_wide
  obtain ⟨sa, sn, sc, rfl⟩ := hs
  obtain ⟨ta, tn, tc, rfl⟩ := ht
  obtain rfl := slLen (hw.hasR h1)
  obtain rfl := slLen (hw.hasR h2)
  have hlx : (xs.map (Value.int .i64)).length = xs.length := by simp
  refine calls_nx Try.func44 rfl Try.ntmps44 rfl ?_ hw
  repeat' (first
    | ((first | with_reducible refine nl_op rfl ?_ | refine nd_go rfl rfl rfl ?_); intro K hK; (first
      | ((first | refine on_E hF rfl rfl ?_ | refine od_E rfl rfl ?_ | refine od_R rfl rfl ?_); (first | refine ⟨_, a_yl, ?_⟩))
      | ((first | refine on_Ec hF rfl rfl ?_ | refine od_Ec rfl rfl ?_); refine ⟨_, _, _, a_yc, ?_, ?_⟩ <;> (intro hc; try (exfalso; first | (omega; done) | exact absurd (by with_reducible rfl) hc | (simp at hc; done))))
      | ((first | (refine od_act (fun c => by exact (fun h => by cases h)) ?_; intro K2 hK2) | refine od_last (fun c => by exact (fun h => by cases h)) ?_ | skip); (first
      
      
      
      | (refine on_box hF rfl rfl rfl rfl (fun B => ?_))
      | (refine on_store hF rfl rfl rfl rfl a_turn a_vof (by first | rfl | exact hsz.symm | exact hsz) ?_)
      | (refine on_storeE hF rfl rfl rfl rfl a_turn (by (first | omega | (simp only [List.length_append, List.length_cons, List.length_nil, List.length_map] at *; omega))) a_vof (by first | rfl | exact hsz) ?_)
      | (refine on_storeEF hF rfl rfl rfl rfl a_turn (by first | with_reducible assumption | rfl) (by decide) a_vof rfl ?_)
      | (refine on_storeF hF rfl rfl rfl rfl a_turn (by decide) a_vof rfl ?_)) <;> try (refine hK2 _ _ _ a_allK ?_; clear hK2 K2))) <;> (refine hK _ _ _ ?_; clear hK K))
    | with_reducible refine nx_seq ?_
        | with_reducible refine nx_region ?_
        | with_reducible refine nl_nil ?_
        | with_reducible refine nq_then_n ?_
        | with_reducible refine nx_block ?_
        | with_reducible refine nx_skip ?_
        | with_reducible refine nx_exit ?_
        | with_reducible refine nx_ret ?_
        | with_reducible refine nq_then_x ?_
        | with_reducible refine nq_then_r ?_
        | with_reducible refine nq_blk_n ?_
        | with_reducible refine nq_blk_r ?_
        | with_reducible refine nq_blk_hit ?_
        | with_reducible refine nq_blk_miss rfl ?_
        | with_reducible refine nd_nil ?_
    | refine nx_cond_t rfl ?_ | refine nx_cond_f rfl ?_
    | refine nl_pass hF rfl rfl rfl ?_
    | refine nd_pass rfl rfl rfl rfl rfl ?_
    | refine nd_pass2 rfl rfl rfl (fun c => by exact (fun h => by cases h)) a_allK rfl rfl ?_
    | refine nd_pass3 rfl rfl rfl (fun c => by exact (fun h => by cases h)) rfl rfl ?_
    | (with_reducible refine hQ1 _ _ _ ?_; clear hQ1 Q1)
    | (refine nd_region (id := 6) hF [0, 0, 1, 1, 0, 0, 1, 1, 0] [0, 1, 2, 3, 4, 5, 6, 7, 8] _ _ (by kernel_rfl) (by kernel_rfl) sub2_same ?_; intro Q1 hQ1))
  all_goals (try (exfalso; dsimp only at *; omega))
  refine nx_loop (ι := { i : Nat // i ≤ xs.length }) (fun i => [(0, .slice sa (xs.map (Value.int .i64)).length sc), (1, .slice ta (xs.map (Value.int .i64)).length tc), (12, .int .i64 ((xs.map (Value.int .i64)).length : Int)), (13, .int .i64 (i.1 : Int))]) (fun _ => R) (fun _ => C) (fun i => xs.length - i.1) ⟨0, Nat.zero_le _⟩ (by exact a_sub) (by exact a_subR) (by exact a_holds) (fun i => ?_)
  obtain ⟨i, hi⟩ := i
  dsimp only
  by_cases hlt : i < xs.length
  · obtain ⟨x, hx⟩ : ∃ x, xs[i]? = some x := ⟨_, List.getElem?_eq_getElem hlt⟩
    have hxv : (xs.map (Value.int .i64))[i]? = some (.int .i64 x) := by rw [List.getElem?_map, hx]; rfl
    repeat' (first
    | ((first | with_reducible refine nl_op rfl ?_ | refine nd_go rfl rfl rfl ?_); intro K hK; (first
      | ((first | refine on_E hF rfl rfl ?_ | refine od_E rfl rfl ?_ | refine od_R rfl rfl ?_); (first | refine ⟨_, a_yl, ?_⟩))
      | ((first | refine on_Ec hF rfl rfl ?_ | refine od_Ec rfl rfl ?_); refine ⟨_, _, _, a_yc, ?_, ?_⟩ <;> (intro hc; try (exfalso; first | (omega; done) | exact absurd (by with_reducible rfl) hc | (simp at hc; done))))
      | ((first | (refine od_act (fun c => by exact (fun h => by cases h)) ?_; intro K2 hK2) | refine od_last (fun c => by exact (fun h => by cases h)) ?_ | skip); (first
      
      
      
      | (refine on_box hF rfl rfl rfl rfl (fun B => ?_))
      | (refine on_store hF rfl rfl rfl rfl a_turn a_vof (by first | rfl | exact hsz.symm | exact hsz) ?_)
      | (refine on_storeE hF rfl rfl rfl rfl a_turn (by (first | omega | (simp only [List.length_append, List.length_cons, List.length_nil, List.length_map] at *; omega))) a_vof (by first | rfl | exact hsz) ?_)
      | (refine on_storeEF hF rfl rfl rfl rfl a_turn (by first | with_reducible assumption | rfl) (by decide) a_vof rfl ?_)
      | (refine on_storeF hF rfl rfl rfl rfl a_turn (by decide) a_vof rfl ?_)) <;> try (refine hK2 _ _ _ a_allK ?_; clear hK2 K2))) <;> (refine hK _ _ _ ?_; clear hK K))
    | with_reducible refine nx_seq ?_
        | with_reducible refine nx_region ?_
        | with_reducible refine nl_nil ?_
        | with_reducible refine nq_then_n ?_
        | with_reducible refine nx_block ?_
        | with_reducible refine nx_skip ?_
        | with_reducible refine nx_exit ?_
        | with_reducible refine nx_ret ?_
        | with_reducible refine nq_then_x ?_
        | with_reducible refine nq_then_r ?_
        | with_reducible refine nq_blk_n ?_
        | with_reducible refine nq_blk_r ?_
        | with_reducible refine nq_blk_hit ?_
        | with_reducible refine nq_blk_miss rfl ?_
        | with_reducible refine nd_nil ?_
    | refine nx_cond_t rfl ?_ | refine nx_cond_f rfl ?_
    | refine nl_pass hF rfl rfl rfl ?_
    | refine nd_pass rfl rfl rfl rfl rfl ?_
    | refine nd_pass2 rfl rfl rfl (fun c => by exact (fun h => by cases h)) a_allK rfl rfl ?_
    | refine nd_pass3 rfl rfl rfl (fun c => by exact (fun h => by cases h)) rfl rfl ?_
    | (with_reducible refine hQ1 _ _ _ ?_; clear hQ1 Q1)
    | (refine nd_region (id := 6) hF [0, 0, 1, 1, 0, 0, 1, 1, 0] [0, 1, 2, 3, 4, 5, 6, 7, 8] _ _ (by kernel_rfl) (by kernel_rfl) sub2_same ?_; intro Q1 hQ1))
    all_goals (try (exfalso; dsimp only at *; omega))
    refine nx_again ⟨i + 1, by omega⟩ (by dsimp only; omega) (by exact a_sub) (by exact a_subR) (by exact a_holds)
  · repeat' (first
    | ((first | with_reducible refine nl_op rfl ?_ | refine nd_go rfl rfl rfl ?_); intro K hK; (first
      | ((first | refine on_E hF rfl rfl ?_ | refine od_E rfl rfl ?_ | refine od_R rfl rfl ?_); (first | refine ⟨_, a_yl, ?_⟩))
      | ((first | refine on_Ec hF rfl rfl ?_ | refine od_Ec rfl rfl ?_); refine ⟨_, _, _, a_yc, ?_, ?_⟩ <;> (intro hc; try (exfalso; first | (omega; done) | exact absurd (by with_reducible rfl) hc | (simp at hc; done))))
      | ((first | (refine od_act (fun c => by exact (fun h => by cases h)) ?_; intro K2 hK2) | refine od_last (fun c => by exact (fun h => by cases h)) ?_ | skip); (first
      
      
      
      | (refine on_box hF rfl rfl rfl rfl (fun B => ?_))
      | (refine on_store hF rfl rfl rfl rfl a_turn a_vof (by first | rfl | exact hsz.symm | exact hsz) ?_)
      | (refine on_storeE hF rfl rfl rfl rfl a_turn (by (first | omega | (simp only [List.length_append, List.length_cons, List.length_nil, List.length_map] at *; omega))) a_vof (by first | rfl | exact hsz) ?_)
      | (refine on_storeEF hF rfl rfl rfl rfl a_turn (by first | with_reducible assumption | rfl) (by decide) a_vof rfl ?_)
      | (refine on_storeF hF rfl rfl rfl rfl a_turn (by decide) a_vof rfl ?_)) <;> try (refine hK2 _ _ _ a_allK ?_; clear hK2 K2))) <;> (refine hK _ _ _ ?_; clear hK K))
    | with_reducible refine nx_seq ?_
        | with_reducible refine nx_region ?_
        | with_reducible refine nl_nil ?_
        | with_reducible refine nq_then_n ?_
        | with_reducible refine nx_block ?_
        | with_reducible refine nx_skip ?_
        | with_reducible refine nx_exit ?_
        | with_reducible refine nx_ret ?_
        | with_reducible refine nq_then_x ?_
        | with_reducible refine nq_then_r ?_
        | with_reducible refine nq_blk_n ?_
        | with_reducible refine nq_blk_r ?_
        | with_reducible refine nq_blk_hit ?_
        | with_reducible refine nq_blk_miss rfl ?_
        | with_reducible refine nd_nil ?_
    | refine nx_cond_t rfl ?_ | refine nx_cond_f rfl ?_
    | refine nl_pass hF rfl rfl rfl ?_
    | refine nd_pass rfl rfl rfl rfl rfl ?_
    | refine nd_pass2 rfl rfl rfl (fun c => by exact (fun h => by cases h)) a_allK rfl rfl ?_
    | refine nd_pass3 rfl rfl rfl (fun c => by exact (fun h => by cases h)) rfl rfl ?_
    | (with_reducible refine hQ1 _ _ _ ?_; clear hQ1 Q1)
    | (refine nd_region (id := 6) hF [0, 0, 1, 1, 0, 0, 1, 1, 0] [0, 1, 2, 3, 4, 5, 6, 7, 8] _ _ (by kernel_rfl) (by kernel_rfl) sub2_same ?_; intro Q1 hQ1))
    all_goals (try (exfalso; dsimp only at *; omega))
    refine nx_end [] rfl () (fun a w ha hw => res_tmp Try.results44 rfl ha) (by exact a_subR) (by exact a_holds2)
set_option maxRecDepth 100000 in
set_option maxHeartbeats 4000000 in
theorem Same_ct (c g m c2 g2 m2 : Value) (hc : IsSl c) (hg : IsSl g) (hmm : IsSl m) (hc2 : IsSl c2) (hg2 : IsSl g2) (hm2 : IsSl m2) (fr to : Int) (xs ys zs : List Int) (h1 : SlC 1 c (xs.map (.int .i64)) ∈ R) (h2 : SlC 1 c2 (xs.map (.int .i64)) ∈ R) (h3 : SlC 1 g (ys.map (.int .i64)) ∈ R) (h4 : SlC 1 g2 (ys.map (.int .i64)) ∈ R) (h5 : SlC 1 m (zs.map (.int .i64)) ∈ R) (h6 : SlC 1 m2 (zs.map (.int .i64)) ∈ R) (hx : xs.length ≤ 1000000000) (hy : ys.length ≤ 1000000000) (hz : zs.length ≤ 1000000000) :
    Ct Try.prog 18 [planV c g m fr to, planV c2 g2 m2 fr to] W0 X R C Unit (fun _ => .bool true) (fun _ => R) (fun _ => C) := by
  intro w hw
  have hF := isWide_wide
  have hv1 := vofPlan hc hg hmm fr to
  have hv2 := vofPlan hc2 hg2 hm2 fr to
  have s1 := fun (W0 : World) (X : Nat → Prop) (R C : List Ch) h1 h2 => same_ct (W0 := W0) (X := X) (R := R) (C := C) c c2 hc hc2 xs h1 h2 hx
  have s2 := fun (W0 : World) (X : Nat → Prop) (R C : List Ch) h1 h2 => same_ct (W0 := W0) (X := X) (R := R) (C := C) g g2 hg hg2 ys h1 h2 hy
  have s3 := fun (W0 : World) (X : Nat → Prop) (R C : List Ch) h1 h2 => same_ct (W0 := W0) (X := X) (R := R) (C := C) m m2 hmm hm2 zs h1 h2 hz
  obtain ⟨ca, cn, cc, rfl⟩ := hc
  obtain ⟨ga, gn, gc, rfl⟩ := hg
  obtain ⟨ma, mn, mc, rfl⟩ := hmm
  obtain ⟨ca2, cn2, cc2, rfl⟩ := hc2
  obtain ⟨ga2, gn2, gc2, rfl⟩ := hg2
  obtain ⟨ma2, mn2, mc2, rfl⟩ := hm2
  refine calls_nx Try.func18 rfl Try.ntmps18 rfl ?_ hw
  repeat' (first
    | ((first | with_reducible refine nl_op rfl ?_ | refine nd_go rfl rfl rfl ?_); intro K hK; (first
      | ((first | refine on_E hF rfl rfl ?_ | refine od_E rfl rfl ?_ | refine od_R rfl rfl ?_); (first | refine ⟨_, a_yl, ?_⟩ | refine ⟨_, yl_fieldB (T := 43) (f := 0) (q := 0) rfl rfl (by kernel_rfl), ?_⟩ | refine ⟨_, yl_fieldE (T := 43) (f := 0) (j := 0) rfl rfl a_sl (by (first | omega | (simp only [List.length_append, List.length_cons, List.length_nil, List.length_map] at *; omega))) (by kernel_rfl), ?_⟩ | refine ⟨_, yl_fieldB (T := 43) (f := 1) (q := 1) rfl rfl (by kernel_rfl), ?_⟩ | refine ⟨_, yl_fieldE (T := 43) (f := 1) (j := 1) rfl rfl a_sl (by (first | omega | (simp only [List.length_append, List.length_cons, List.length_nil, List.length_map] at *; omega))) (by kernel_rfl), ?_⟩ | refine ⟨_, yl_fieldB (T := 43) (f := 2) (q := 2) rfl rfl (by kernel_rfl), ?_⟩ | refine ⟨_, yl_fieldE (T := 43) (f := 2) (j := 2) rfl rfl a_sl (by (first | omega | (simp only [List.length_append, List.length_cons, List.length_nil, List.length_map] at *; omega))) (by kernel_rfl), ?_⟩ | refine ⟨_, yl_fieldB (T := 43) (f := 3) (q := 3) rfl rfl (by kernel_rfl), ?_⟩ | refine ⟨_, yl_fieldE (T := 43) (f := 3) (j := 3) rfl rfl a_sl (by (first | omega | (simp only [List.length_append, List.length_cons, List.length_nil, List.length_map] at *; omega))) (by kernel_rfl), ?_⟩ | refine ⟨_, yl_fieldB (T := 43) (f := 4) (q := 4) rfl rfl (by kernel_rfl), ?_⟩ | refine ⟨_, yl_fieldE (T := 43) (f := 4) (j := 4) rfl rfl a_sl (by (first | omega | (simp only [List.length_append, List.length_cons, List.length_nil, List.length_map] at *; omega))) (by kernel_rfl), ?_⟩))
      | ((first | refine on_Ec hF rfl rfl ?_ | refine od_Ec rfl rfl ?_); refine ⟨_, _, _, a_yc, ?_, ?_⟩ <;> (intro hc; try (exfalso; first | (omega; done) | exact absurd (by with_reducible rfl) hc | (simp at hc; done))))
      | ((first | (refine od_act (fun c => by exact (fun h => by cases h)) ?_; intro K2 hK2) | refine od_last (fun c => by exact (fun h => by cases h)) ?_ | skip); (first
      | (refine on_callG (vs := [.slice ca cn cc, .slice ca2 cn2 cc2]) hF (enters_of Try.func44 (by kernel_rfl) rfl) rfl rfl rfl rfl (s1 _ _ _ _ (by exact a_mem) (by exact a_mem)) (fun _ => ?_))
      | (refine on_callG (vs := [.slice ga gn gc, .slice ga2 gn2 gc2]) hF (enters_of Try.func44 (by kernel_rfl) rfl) rfl rfl rfl rfl (s2 _ _ _ _ (by exact a_mem) (by exact a_mem)) (fun _ => ?_))
      | (refine on_callG (vs := [.slice ma mn mc, .slice ma2 mn2 mc2]) hF (enters_of Try.func44 (by kernel_rfl) rfl) rfl rfl rfl rfl (s3 _ _ _ _ (by exact a_mem) (by exact a_mem)) (fun _ => ?_))
      
      
      | (refine on_box hF rfl rfl rfl rfl (fun B => ?_))
      | (refine on_store hF rfl rfl rfl rfl a_turn a_vof (by first | rfl | exact hsz.symm | exact hsz) ?_)
      | (refine on_storeE hF rfl rfl rfl rfl a_turn (by (first | omega | (simp only [List.length_append, List.length_cons, List.length_nil, List.length_map] at *; omega))) a_vof (by first | rfl | exact hsz) ?_)
      | (refine on_storeEF hF rfl rfl rfl rfl a_turn (by first | with_reducible assumption | rfl) (by decide) a_vof rfl ?_)
      | (refine on_storeF hF rfl rfl rfl rfl a_turn (by decide) a_vof rfl ?_)) <;> try (refine hK2 _ _ _ a_allK ?_; clear hK2 K2))) <;> (refine hK _ _ _ ?_; clear hK K))
    | with_reducible refine nx_seq ?_
        | with_reducible refine nx_region ?_
        | with_reducible refine nl_nil ?_
        | with_reducible refine nq_then_n ?_
        | with_reducible refine nx_block ?_
        | with_reducible refine nx_skip ?_
        | with_reducible refine nx_exit ?_
        | with_reducible refine nx_ret ?_
        | with_reducible refine nq_then_x ?_
        | with_reducible refine nq_then_r ?_
        | with_reducible refine nq_blk_n ?_
        | with_reducible refine nq_blk_r ?_
        | with_reducible refine nq_blk_hit ?_
        | with_reducible refine nq_blk_miss rfl ?_
        | with_reducible refine nd_nil ?_
    | refine nx_cond_t rfl ?_ | refine nx_cond_f rfl ?_
    | refine nl_pass hF rfl rfl rfl ?_
    | refine nd_pass rfl rfl rfl rfl rfl ?_
    | refine nd_pass2 rfl rfl rfl (fun c => by exact (fun h => by cases h)) a_allK rfl rfl ?_
    | refine nd_pass3 rfl rfl rfl (fun c => by exact (fun h => by cases h)) rfl rfl ?_
    | (with_reducible refine hQ1 _ _ _ ?_; clear hQ1 Q1)
    )
  all_goals (try (exfalso; dsimp only at *; omega))
  refine nx_end [] rfl () (fun a w ha hw => res_tmp Try.results18 rfl ha) (by exact a_subR) (by exact a_holds2)
end Law24
end Go.Proofs.Ytinofjenoapeaaa
end

section
namespace Go.Proofs.Ytinofjenoapeaaa
open Go.RowKit Go.Shelf
set_option linter.unusedSimpArgs false
set_option linter.unusedVariables false
namespace Law24
open Pl Li Pr
variable {W0 : World} {X : Nat → Prop} {R C : List Ch}
def y1 : It2 := ⟨1, 2, 1, 0, 1, 1, 0, 0, .slice none 0 0⟩
def y2 : It2 := ⟨2, 2, 1, 0, 5, 5, 0, 0, .slice none 0 0⟩
def y3 : It2 := ⟨3, 1, 1, 0, 0, 9, 0, 0, .slice none 0 0⟩
def M3 : List It2 := [y1, y2, y3]
theorem mem_M3 {p : It2 → Prop} (h1 : p y1) (h2 : p y2) (h3 : p y3) : ∀ x ∈ M3, p x := fun x hx => by
  simp only [M3, List.mem_cons, List.not_mem_nil, or_false] at hx
  rcases hx with rfl | rfl | rfl <;> assumption
theorem M3_ok : ∀ x ∈ M3, x.ok := mem_M3 ⟨_, _, _, rfl⟩ ⟨_, _, _, rfl⟩ ⟨_, _, _, rfl⟩
theorem M3_r : ∀ x ∈ M3, 0 ≤ x.a ∧ x.a ≤ 1099511627776 ∧ 0 ≤ x.b ∧ x.b ≤ 1099511627776 := mem_M3 (by simp [y1]) (by simp [y2]) (by simp [y3])
theorem M3_tl : ∀ x ∈ M3, x.tl ≤ 1099511627776 := mem_M3 (by simp [y1]) (by simp [y2]) (by simp [y3])
theorem kn1 : knownL M3 1 = true := by rw [knownL_le (by omega)]; rfl
theorem pa1 : parentP M3 1 = (0, 0, false) := by unfold parentP; rw [if_pos (.inl (by omega))]
theorem way1 (n : Int) : wayU M3 1 n = [⟨1, min 0 n, n⟩] := by rw [way_ge (by omega), pa1]; simp only; rw [way_lt (by omega)]
theorem ch1 : Chn.chainOf M3 1 = some [y1] := by
  unfold Chn.chainOf
  rw [if_pos (by rfl), show Chn.atX M3 1 = y1 from rfl, Chn.chainUp_full (by rfl)]
theorem ch2 : Chn.chainOf M3 2 = some [y2] := by
  unfold Chn.chainOf
  rw [if_pos (by rfl), show Chn.atX M3 2 = y2 from rfl, Chn.chainUp_full (by rfl)]
theorem ids1 : Chn.chainIds M3 1 = [1] := by unfold Chn.chainIds; rw [ch1]; rfl
theorem ids2 : Chn.chainIds M3 2 = [2] := by unfold Chn.chainIds; rw [ch2]; rfl
theorem bk1 (n : Int) (h : 1 ≤ n) : Chn.backupsB M3 1 n y1 = true := by
  unfold Chn.backupsB; rw [show y1.id = 1 from rfl, ch1]; simp [Chn.backB, y1]; exact decide_eq_true h
theorem bk2 (n : Int) (h : 5 ≤ n) : Chn.backupsB M3 1 n y2 = true := by
  unfold Chn.backupsB; rw [show y2.id = 2 from rfl, ch2]; simp [Chn.backB, y2]; exact decide_eq_true h
theorem bk2n (n : Int) (h : n < 5) : Chn.backupsB M3 1 n y2 = false := by
  unfold Chn.backupsB; rw [show decide (y2.b ≤ n) = false from decide_eq_false (by simp [y2]; omega)]; simp
theorem bk3 (n : Int) : Chn.backupsB M3 1 n y3 = false := by unfold Chn.backupsB; simp [Chn.backB, y3]
theorem be2 (n l : Int) (hl : l ≤ 0) (h : 5 ≤ n) : Chn.bestOf M3 1 l n = (y2, true) := by
  unfold Chn.bestOf
  rw [show M3.filter (Chn.backupsB M3 1 n) = [y1, y2] by rw [show M3 = [y1, y2, y3] from rfl]; simp only [List.filter_cons, List.filter_nil]; rw [show [y1, y2, y3] = M3 from rfl, bk1 n (by omega), bk2 n h, bk3]; rfl]
  have s1 : Chn.bestStep l (zIt2, false) y1 = (y1, true) := by
    unfold Chn.bestStep
    rw [decide_eq_true (show l ≤ y1.a from by show l ≤ 1; omega)]; rfl
  have s2 : Chn.bestStep l (y1, true) y2 = (y2, true) := by
    unfold Chn.bestStep
    rw [decide_eq_true (show l ≤ y2.a from by show l ≤ 5; omega)]; rfl
  rw [List.foldl_cons, s1, List.foldl_cons, s2]; rfl
theorem be1 (n l : Int) (hl : l ≤ 0) (h1 : 1 ≤ n) (h : n < 5) : Chn.bestOf M3 1 l n = (y1, true) := by
  unfold Chn.bestOf
  rw [show M3.filter (Chn.backupsB M3 1 n) = [y1] by rw [show M3 = [y1, y2, y3] from rfl]; simp only [List.filter_cons, List.filter_nil]; rw [show [y1, y2, y3] = M3 from rfl, bk1 n h1, bk2n n h, bk3]; rfl]
  simp [Chn.bestStep, y1]
  omega
theorem nx (n : Int) (h0 : 0 ≤ n) (h : n < 9) : Re.nextSeg M3 1 n = some y3 := by
  unfold Re.nextSeg
  rw [show M3.filter (Re.segB 1) = [y3] from rfl, List.find?_cons_of_pos (by unfold Re.nextB; rw [decide_eq_true (show y3.a ≤ n from h0), decide_eq_true (show n < y3.b from h)]; rfl)]
theorem nx9 : Re.nextSeg M3 1 9 = none := rfl
theorem co (a n : Int) (h0 : 0 ≤ a) (h1 : a < n) (h9 : n ≤ 9) : Re.cover M3 1 a n = some [3] := by
  rw [Re.cover_some h1 (nx a h0 (by omega)), show y3.b = 9 from rfl, Re.cover_done (by omega)]; rfl
theorem con (a n : Int) (h0 : 0 ≤ a) (ha : a < 9) (h9 : 9 < n) : Re.cover M3 1 a n = none := by
  rw [Re.cover_some (by omega) (nx a h0 ha), show y3.b = 9 from rfl, Re.cover_none h9 nx9]; rfl
theorem fi (n : Int) (b : It2) (hb : Chn.bestOf M3 1 (min 0 n) n = (b, true)) (hn : 0 ≤ n) : findP M3 1 n = if (Re.cover M3 1 b.a n).isSome then some (b, (Re.cover M3 1 b.a n).getD [], List.replicate ((Re.cover M3 1 b.a n).getD []).length n) else none := by
  unfold findP
  rw [if_neg (by rw [kn1]; simp; omega), way1, findI, dif_pos (by simp)]
  simp only [List.getElem_cons_zero]
  rw [hb, if_pos rfl]
  have hp : planAt M3 [⟨1, min 0 n, n⟩] 0 ⟨1, min 0 n, n⟩ b = ((Re.cover M3 1 b.a n).getD [], List.replicate ((Re.cover M3 1 b.a n).getD []).length n, (Re.cover M3 1 b.a n).isSome) := by
    unfold planAt covStep
    simp
  rw [hp]
theorem ob_hi (n z : Int) (h : 5 ≤ n) (hz : z ∈ objL M3 1 n) : z = 2 ∨ z = 3 := by
  unfold objL at hz
  rw [fi n y2 (be2 n _ (by omega) h) (by omega), show y2.a = 5 from rfl] at hz
  by_cases h5 : 5 < n
  · by_cases h9 : n ≤ 9
    · rw [co 5 n (by omega) h5 h9] at hz
      simp only [Option.isSome_some, if_true, Sc.mem_upr, show y2.id = 2 from rfl, ids2, Option.getD_some] at hz
      simpa using hz
    · rw [con 5 n (by omega) (by omega) (by omega)] at hz
      simp at hz
  · rw [Re.cover_done h5] at hz
    simp only [Option.isSome_some, if_true, Sc.mem_upr, show y2.id = 2 from rfl, ids2, Option.getD_some] at hz
    simp at hz
    exact .inl hz
theorem ob6 (z : Int) (h : z = 2 ∨ z = 3) : z ∈ objL M3 1 6 := by
  unfold objL
  rw [fi 6 y2 (be2 6 _ (by omega) (by omega)) (by omega), show y2.a = 5 from rfl, co 5 6 (by omega) (by omega) (by omega)]
  simp only [Option.isSome_some, if_true, Sc.mem_upr, show y2.id = 2 from rfl, ids2, Option.getD_some]
  simpa using h
theorem ob2 : (1 : Int) ∈ objL M3 1 2 := by
  unfold objL
  rw [fi 2 y1 (be1 2 _ (by omega) (by omega) (by omega)) (by omega), show y1.a = 1 from rfl, co 1 2 (by omega) (by omega) (by omega)]
  simp only [Option.isSome_some, if_true, Sc.mem_upr, show y1.id = 1 from rfl, ids1, Option.getD_some]
  simp
theorem al1 : ∀ t, t ∈ allL M3 ↔ t = 1 := fun t => by
  rw [mem_all]
  refine ⟨fun h => h.elim id (fun ⟨x, hx, hk, _⟩ => ?_), .inl⟩
  exfalso
  revert hk
  revert x
  exact mem_M3 (by simp [isKn, y1]) (by simp [isKn, y2]) (by simp [isKn, y3])
theorem wantM (c z : Int) : z ∈ wantL M3 c ↔ ∃ n ∈ placesL M3 c, z ∈ objL M3 1 n := by
  unfold wantL
  rw [Sc.mem_upr]
  unfold wantZ
  rw [List.mem_append, show lineIds M3 = [] from rfl, List.mem_flatten]
  constructor
  · rintro (h | ⟨l, hl, hz⟩)
    · cases h
    · obtain ⟨t, ht, rfl⟩ := List.mem_map.1 hl
      obtain rfl := (al1 t).1 ht
      unfold tObj at hz
      obtain ⟨l, hl, hz⟩ := List.mem_flatten.1 hz
      obtain ⟨n, hn, rfl⟩ := List.mem_map.1 hl
      exact ⟨n, hn, hz⟩
  · rintro ⟨n, hn, hz⟩
    exact .inr ⟨_, List.mem_map.2 ⟨1, (al1 1).2 rfl, rfl⟩, List.mem_flatten.2 ⟨_, List.mem_map.2 ⟨n, hn, rfl⟩, hz⟩⟩
theorem want6 : wantL M3 6 = [2, 3] := by
  refine lt_same _ _ (Sc.upr_lt _) (by decide) (fun z => ?_)
  rw [wantM]
  constructor
  · rintro ⟨n, hn, hz⟩
    have := (mem_places.1 hn).1
    have := ob_hi n z (by omega) hz
    simpa using this
  · intro h
    exact ⟨6, places_c M3 6, ob6 z (by simpa using h)⟩
theorem want2 : ∀ x ∈ M3, x.id ∈ wantL M3 2 := by
  have h6 : (6 : Int) ∈ placesL M3 2 := mem_places.2 ⟨by omega, y2, by simp [M3], by simp [sixP, y2]⟩
  refine mem_M3 ?_ ?_ ?_
  · exact (wantM 2 _).2 ⟨2, places_c M3 2, ob2⟩
  · exact (wantM 2 _).2 ⟨6, h6, ob6 _ (.inl rfl)⟩
  · exact (wantM 2 _).2 ⟨6, h6, ob6 _ (.inr rfl)⟩
theorem upr_one (z : Int) : Sc.upr [z] = [z] := lt_same _ _ (Sc.upr_lt _) (List.pairwise_singleton _ _) (fun x => Sc.mem_upr _ _)
theorem rest6 : restL M3 6 = [1] := by
  unfold restL
  rw [want6, show (M3.filter (notIn [2, 3])).map It2.id = [1] from rfl, upr_one]
theorem rest2 : restL M3 2 = [] := by
  unfold restL
  rw [List.filter_eq_nil_iff.2 (fun x hx => by unfold notIn; simp [want2 x hx])]
  exact upr_nil
theorem M3v : M3.map It2.v = [.agg #[.int .i64 1, .int .i64 2, .int .i64 1, .int .i64 0, .int .i64 1, .int .i64 1, .int .i64 0, .int .i64 0, .slice none 0 0], .agg #[.int .i64 2, .int .i64 2, .int .i64 1, .int .i64 0, .int .i64 5, .int .i64 5, .int .i64 0, .int .i64 0, .slice none 0 0], .agg #[.int .i64 3, .int .i64 1, .int .i64 1, .int .i64 0, .int .i64 0, .int .i64 9, .int .i64 0, .int .i64 0, .slice none 0 0]] := rfl
set_option maxRecDepth 100000 in
set_option maxHeartbeats 4000000 in
theorem first_ct : Ct Try.prog 12 [] W0 X R C Unit (fun _ => .bool true) (fun _ => R) (fun _ => C) := by
  intro w hw
  have hF := isWide_wide
  have w6 := fun (W0 : World) (X : Nat → Prop) (R C : List Ch) (s : Value) (hs : IsSl s) (h : SlC 9 s (M3.map It2.v) ∈ R) => want_ct (W0 := W0) (X := X) (R := R) (C := C) s hs M3 M3_ok 6 (by omega) M3_r M3_tl h (by decide)
  have r6 := fun (W0 : World) (X : Nat → Prop) (R C : List Ch) (s : Value) (hs : IsSl s) (h : SlC 9 s (M3.map It2.v) ∈ R) => rest_ct (W0 := W0) (X := X) (R := R) (C := C) s hs M3 M3_ok 6 (by omega) M3_r M3_tl h (by decide)
  have r2 := fun (W0 : World) (X : Nat → Prop) (R C : List Ch) (s : Value) (hs : IsSl s) (h : SlC 9 s (M3.map It2.v) ∈ R) => rest_ct (W0 := W0) (X := X) (R := R) (C := C) s hs M3 M3_ok 2 (by omega) M3_r M3_tl h (by decide)
  rw [want6] at w6
  rw [rest6] at r6
  rw [rest2] at r2
  simp only [List.map_cons, List.map_nil] at w6 r6 r2
  rw [M3v] at w6 r6 r2
  refine calls_nx Try.func12 rfl Try.ntmps12 rfl ?_ hw
  repeat' (first
    | ((first | with_reducible refine nl_op rfl ?_ | refine nd_go rfl rfl rfl ?_); intro K hK; (first
      | ((first | refine on_E hF rfl rfl ?_ | refine od_E rfl rfl ?_ | refine od_R rfl rfl ?_); (first | refine ⟨_, a_yl, ?_⟩ | refine ⟨_, yl_build (T := 27) (us := [(0, _), (1, _), (2, _), (4, _), (5, _)]) rfl rfl rfl (fun w => by go_simp; all_goals rfl), ?_⟩ | refine ⟨_, yl_build (T := 27) (us := [(0, _), (1, _), (2, _), (5, _)]) rfl rfl rfl (fun w => by go_simp; all_goals rfl), ?_⟩))
      | ((first | refine on_Ec hF rfl rfl ?_ | refine od_Ec rfl rfl ?_); refine ⟨_, _, _, a_yc, ?_, ?_⟩ <;> (intro hc; try (exfalso; first | (omega; done) | exact absurd (by with_reducible rfl) hc | (simp at hc; done))))
      | ((first | (refine od_act (fun c => by exact (fun h => by cases h)) ?_; intro K2 hK2) | refine od_last (fun c => by exact (fun h => by cases h)) ?_ | skip); (first
      
      | (refine on_buildSlice (T := 22) (e := 27) (k := 9) (by_ := 88) hF rfl rfl rfl rfl rfl rfl (by kernel_rfl) a_cel (Nat.le_of_ble_eq_true rfl) (fun b => ?_))
      
      | (refine on_box hF rfl rfl rfl rfl (fun B => ?_))
      | (refine on_store hF rfl rfl rfl rfl a_turn a_vof (by first | rfl | exact hsz.symm | exact hsz) ?_)
      | (refine on_storeE hF rfl rfl rfl rfl a_turn (by (first | omega | (simp only [List.length_append, List.length_cons, List.length_nil, List.length_map] at *; omega))) a_vof (by first | rfl | exact hsz) ?_)
      | (refine on_storeEF hF rfl rfl rfl rfl a_turn (by first | with_reducible assumption | rfl) (by decide) a_vof rfl ?_)
      | (refine on_storeF hF rfl rfl rfl rfl a_turn (by decide) a_vof rfl ?_)) <;> try (refine hK2 _ _ _ a_allK ?_; clear hK2 K2))) <;> (refine hK _ _ _ ?_; clear hK K))
    | with_reducible refine nx_seq ?_
        | with_reducible refine nx_region ?_
        | with_reducible refine nl_nil ?_
        | with_reducible refine nq_then_n ?_
        | with_reducible refine nx_block ?_
        | with_reducible refine nx_skip ?_
        | with_reducible refine nx_exit ?_
        | with_reducible refine nx_ret ?_
        | with_reducible refine nq_then_x ?_
        | with_reducible refine nq_then_r ?_
        | with_reducible refine nq_blk_n ?_
        | with_reducible refine nq_blk_r ?_
        | with_reducible refine nq_blk_hit ?_
        | with_reducible refine nq_blk_miss rfl ?_
        | with_reducible refine nd_nil ?_
    | refine nx_cond_t rfl ?_ | refine nx_cond_f rfl ?_
    | refine nl_pass hF rfl rfl rfl ?_
    | refine nd_pass rfl rfl rfl rfl rfl ?_
    | refine nd_pass2 rfl rfl rfl (fun c => by exact (fun h => by cases h)) a_allK rfl rfl ?_
    | refine nd_pass3 rfl rfl rfl (fun c => by exact (fun h => by cases h)) rfl rfl ?_
    | (with_reducible refine hQ1 _ _ _ ?_; clear hQ1 Q1)
    )
  obtain ⟨b0, hb0⟩ : ∃ b0, b0 = b := ⟨_, rfl⟩
  subst hb0
  refine nx_frzRow Pick.here ?_
  repeat' (first
    | ((first | with_reducible refine nl_op rfl ?_ | refine nd_go rfl rfl rfl ?_); intro K hK; (first
      | ((first | refine on_E hF rfl rfl ?_ | refine od_E rfl rfl ?_ | refine od_R rfl rfl ?_); (first | refine ⟨_, a_yl, ?_⟩ | refine ⟨_, yl_build (T := 27) (us := [(0, _), (1, _), (2, _), (4, _), (5, _)]) rfl rfl rfl (fun w => by go_simp; all_goals rfl), ?_⟩ | refine ⟨_, yl_build (T := 27) (us := [(0, _), (1, _), (2, _), (5, _)]) rfl rfl rfl (fun w => by go_simp; all_goals rfl), ?_⟩))
      | ((first | refine on_Ec hF rfl rfl ?_ | refine od_Ec rfl rfl ?_); refine ⟨_, _, _, a_yc, ?_, ?_⟩ <;> (intro hc; try (exfalso; first | (omega; done) | exact absurd (by with_reducible rfl) hc | (simp at hc; done))))
      | ((first | (refine od_act (fun c => by exact (fun h => by cases h)) ?_; intro K2 hK2) | refine od_last (fun c => by exact (fun h => by cases h)) ?_ | skip); (first
      | (refine on_callG (vs := [.slice (some ⟨b0, 0, none⟩) 3 3, .int .i64 6]) hF (enters_of Try.func28 (by kernel_rfl) rfl) rfl rfl rfl rfl (w6 _ _ _ _ _ ⟨_, _, _, rfl⟩ (by exact a_mem)) (fun u => ?_); obtain ⟨u, ua, un, uc, rfl⟩ := u; dsimp only; refine nx_len (e := 3) (k := 1) (xs := [.int .i64 2, .int .i64 3]) (i := un) (by exact a_mem) (fun h1 => ?_); have h2 : un = 2 := h1; clear h1; subst h2; refine nx_frzRow Pick.here ?_)
      | (refine on_callG (vs := [.slice (some ⟨b0, 0, none⟩) 3 3, .int .i64 6]) hF (enters_of Try.func14 (by kernel_rfl) rfl) rfl rfl rfl rfl (r6 _ _ _ _ _ ⟨_, _, _, rfl⟩ (by exact a_mem)) (fun u => ?_); obtain ⟨u, va, vn, vc, rfl⟩ := u; dsimp only; refine nx_len (e := 3) (k := 1) (xs := [.int .i64 1]) (i := vn) (by exact a_mem) (fun h1 => ?_); have h2 : vn = 1 := h1; clear h1; subst h2; refine nx_frzRow Pick.here ?_)
      | (refine on_callG (vs := [.slice (some ⟨b0, 0, none⟩) 3 3, .int .i64 2]) hF (enters_of Try.func14 (by kernel_rfl) rfl) rfl rfl rfl rfl (r2 _ _ _ _ _ ⟨_, _, _, rfl⟩ (by exact a_mem)) (fun u => ?_); obtain ⟨u, ta, tn, tc, rfl⟩ := u; dsimp only; refine nx_len (e := 3) (k := 1) (xs := []) (i := tn) (by exact a_mem) (fun h1 => ?_); have h2 : tn = 0 := h1; clear h1; subst h2; refine nx_frzRow Pick.here ?_)
      | (refine on_buildSlice (T := 22) (e := 27) (k := 9) (by_ := 88) hF rfl rfl rfl rfl rfl rfl (by kernel_rfl) a_cel (Nat.le_of_ble_eq_true rfl) (fun b => ?_))
      
      | (refine on_box hF rfl rfl rfl rfl (fun B => ?_))
      | (refine on_store hF rfl rfl rfl rfl a_turn a_vof (by first | rfl | exact hsz.symm | exact hsz) ?_)
      | (refine on_storeE hF rfl rfl rfl rfl a_turn (by (first | omega | (simp only [List.length_append, List.length_cons, List.length_nil, List.length_map] at *; omega))) a_vof (by first | rfl | exact hsz) ?_)
      | (refine on_storeEF hF rfl rfl rfl rfl a_turn (by first | with_reducible assumption | rfl) (by decide) a_vof rfl ?_)
      | (refine on_storeF hF rfl rfl rfl rfl a_turn (by decide) a_vof rfl ?_)) <;> try (refine hK2 _ _ _ a_allK ?_; clear hK2 K2))) <;> (refine hK _ _ _ ?_; clear hK K))
    | with_reducible refine nx_seq ?_
        | with_reducible refine nx_region ?_
        | with_reducible refine nl_nil ?_
        | with_reducible refine nq_then_n ?_
        | with_reducible refine nx_block ?_
        | with_reducible refine nx_skip ?_
        | with_reducible refine nx_exit ?_
        | with_reducible refine nx_ret ?_
        | with_reducible refine nq_then_x ?_
        | with_reducible refine nq_then_r ?_
        | with_reducible refine nq_blk_n ?_
        | with_reducible refine nq_blk_r ?_
        | with_reducible refine nq_blk_hit ?_
        | with_reducible refine nq_blk_miss rfl ?_
        | with_reducible refine nd_nil ?_
    | refine nx_cond_t rfl ?_ | refine nx_cond_f rfl ?_
    | refine nl_pass hF rfl rfl rfl ?_
    | refine nd_pass rfl rfl rfl rfl rfl ?_
    | refine nd_pass2 rfl rfl rfl (fun c => by exact (fun h => by cases h)) a_allK rfl rfl ?_
    | refine nd_pass3 rfl rfl rfl (fun c => by exact (fun h => by cases h)) rfl rfl ?_
    | (with_reducible refine hQ1 _ _ _ ?_; clear hQ1 Q1)
    )
  refine nx_end [] rfl () (fun a w ha hw => res_tmp Try.results12 rfl ha) (by exact a_subR) (by exact a_holds2)
end Law24
end Go.Proofs.Ytinofjenoapeaaa
end

section
namespace Go.Proofs.Ytinofjenoapeaaa
open Go.RowKit Go.Shelf
set_option linter.unusedSimpArgs false
set_option linter.unusedVariables false
namespace Law24
open Pl Li Pr
variable {W0 : World} {X : Nat → Prop} {R C : List Ch}
theorem find_len2 {L : List It2} {t n : Int} {p : It2 × List Int × List Int} (h : findP L t n = some p) : p.2.2.length ≤ (L.length + 2) * L.length := by
  obtain ⟨_, _, j, x, hS⟩ := find_spec h
  rw [hS.lim, planAt_covF]
  have h1 := covStep_len L ([], [], true) x.u p.1.a x.to
  have h2 := (covF_len L (covStep L ([], [], true) x.u p.1.a x.to) (bkL ((wayU L t n).take j))).2
  have h3 := wayU_few L t n
  rw [bkL_len] at h2
  have h4 : ((wayU L t n).take j).length ≤ L.length + 1 := by rw [List.length_take]; omega
  have h5 : ((wayU L t n).take j).length * L.length ≤ (L.length + 1) * L.length := Nat.mul_le_mul_right _ h4
  have h6 : (L.length + 2) * L.length = (L.length + 1) * L.length + L.length := by rw [show L.length + 2 = (L.length + 1) + 1 from rfl, Nat.succ_mul]
  simp only [List.length_nil, Nat.zero_add] at h1
  omega
/-- What the closure needs of its lists. -/
structure Kp (L K : List It2) (c : Int) : Prop where
  okL : ∀ x ∈ L, x.ok
  okK : ∀ x ∈ K, x.ok
  lenL : L.length ≤ 20
  lenK : K.length ≤ 20
  same : ∀ t ∈ allL L, ∀ n p, 0 ≤ n → c ≤ n → findP L t n = some p → findP K t n = some p ∧ Chn.chainIds K p.1.id = Chn.chainIds L p.1.id
  tl : ∀ t ∈ allL L, t ≤ 1099511627776
set_option maxRecDepth 100000 in
set_option maxHeartbeats 8000000 in
theorem law1_ct (s k : Value) (hs : IsSl s) (hk : IsSl k) (L K : List It2) (c : Int) (hcc : -5 ≤ c ∧ c ≤ 60) (h : Kp L K c) (t : Int) (ht : t ∈ allL L) (b2 b3 b8 b11 : Nat) (hb2 : BoxC b2 22 s ∈ R) (hb3 : BoxC b3 3 (.int .i64 c) ∈ R) (hb8 : BoxC b8 22 k ∈ R) (hsl : SlC 9 s (L.map It2.v) ∈ R) (hkl : SlC 9 k (K.map It2.v) ∈ R) :
    Ct Try.prog 16 [.int .i64 t, ptr b3, ptr b2, ptr b8, ptr b11] W0 X R (BoxC b11 4 (.bool true) :: C) Unit (fun _ => .bool true) (fun _ => R) (fun _ => BoxC b11 4 (.bool true) :: C) := by
  intro w hw
  have hF := isWide_wide
  have hvs : VOf Try.prog 22 s := vof_slice (by kernel_rfl) hs
  have hvk : VOf Try.prog 22 k := vof_slice (by kernel_rfl) hk
  have htt := h.tl t ht
  have fl := fun (W0 : World) (X : Nat → Prop) (R C : List Ch) n hh => find_ct (W0 := W0) (X := X) (R := R) (C := C) s hs L h.okL t n htt hh (by have := h.lenL; omega)
  have fk := fun (W0 : World) (X : Nat → Prop) (R C : List Ch) n hh => find_ct (W0 := W0) (X := X) (R := R) (C := C) k hk K h.okK t n htt hh (by have := h.lenK; omega)
  have hsame := h.same t ht
  have hL20 := h.lenL
  obtain ⟨sa, sn, sc, rfl⟩ := hs
  obtain ⟨ka, kn, kc, rfl⟩ := hk
  clear h
  refine calls_nx Try.func16 rfl Try.ntmps16 rfl ?_ hw
  repeat' (first
    | ((first | with_reducible refine nl_op rfl ?_ | refine nd_go rfl rfl rfl ?_); intro K hK; (first
      | ((first | refine on_E hF rfl rfl ?_ | refine od_E rfl rfl ?_ | refine od_R rfl rfl ?_); (first | refine ⟨_, a_yl, ?_⟩))
      | ((first | refine on_Ec hF rfl rfl ?_ | refine od_Ec rfl rfl ?_); refine ⟨_, _, _, a_yc, ?_, ?_⟩ <;> (intro hc; try (exfalso; first | (omega; done) | exact absurd (by with_reducible rfl) hc | (simp at hc; done))))
      | ((first | (refine od_act (fun c => by exact (fun h => by cases h)) ?_; intro K2 hK2) | refine od_last (fun c => by exact (fun h => by cases h)) ?_ | skip); (first
      
      
      | (refine on_alloc hF rfl Try.zeroValue43 rfl rfl (fun B => ?_))
      | (refine on_box hF rfl rfl rfl rfl (fun B => ?_))
      | (refine on_store hF rfl rfl rfl rfl a_turn a_vof (by first | rfl | exact hsz.symm | exact hsz) ?_)
      | (refine on_storeE hF rfl rfl rfl rfl a_turn (by (first | omega | (simp only [List.length_append, List.length_cons, List.length_nil, List.length_map] at *; omega))) a_vof (by first | rfl | exact hsz) ?_)
      | (refine on_storeEF hF rfl rfl rfl rfl a_turn (by first | with_reducible assumption | rfl) (by decide) a_vof rfl ?_)
      | (refine on_storeF hF rfl rfl rfl rfl a_turn (by decide) a_vof rfl ?_)) <;> try (refine hK2 _ _ _ a_allK ?_; clear hK2 K2))) <;> (refine hK _ _ _ ?_; clear hK K))
    | with_reducible refine nx_seq ?_
        | with_reducible refine nx_region ?_
        | with_reducible refine nl_nil ?_
        | with_reducible refine nq_then_n ?_
        | with_reducible refine nx_block ?_
        | with_reducible refine nx_skip ?_
        | with_reducible refine nx_exit ?_
        | with_reducible refine nx_ret ?_
        | with_reducible refine nq_then_x ?_
        | with_reducible refine nq_then_r ?_
        | with_reducible refine nq_blk_n ?_
        | with_reducible refine nq_blk_r ?_
        | with_reducible refine nq_blk_hit ?_
        | with_reducible refine nq_blk_miss rfl ?_
        | with_reducible refine nd_nil ?_
    | refine nx_cond_t rfl ?_ | refine nx_cond_f rfl ?_
    | refine nl_pass hF rfl rfl rfl ?_
    | refine nd_pass rfl rfl rfl rfl rfl ?_
    | refine nd_pass2 rfl rfl rfl (fun c => by exact (fun h => by cases h)) a_allK rfl rfl ?_
    | refine nd_pass3 rfl rfl rfl (fun c => by exact (fun h => by cases h)) rfl rfl ?_
    | (with_reducible refine hQ1 _ _ _ ?_; clear hQ1 Q1)
    )
  refine nx_loop (ι := { n : Int // max c 0 ≤ n }) (fun n => [(0, .int .i64 t), (1, ptr b3), (2, ptr b2), (3, ptr b8), (4, ptr b11), (7, .int .i64 n.1)]) (fun _ => R) (fun _ => BoxC b11 4 (.bool true) :: C) (fun n => (46 - n.1).toNat) ⟨max c 0, Int.le_refl _⟩ (by exact a_sub) (by exact a_subR) (by exact a_holds) (fun n => ?_)
  obtain ⟨n, hn⟩ := n
  dsimp only
  by_cases h45 : n ≤ 45
  · have fx := fun (W0 : World) (X : Nat → Prop) (R C : List Ch) hh => fl W0 X R C n hh
    have fy := fun (W0 : World) (X : Nat → Prop) (R C : List Ch) hh => fk W0 X R C n hh
    have hsn := fun p => hsame n p (by omega) (by omega)
    clear fl fk hsame
    cases hf : findP L t n with
    | none =>
      rw [hf] at fx
      unfold findRet findC at fx
      dsimp only at fx
      have hvz : ∀ i : SV × SV × SV, VOf Try.prog 43 (planV nilV nilV nilV 0 0) := fun i => vofPlan ⟨_, _, _, rfl⟩ ⟨_, _, _, rfl⟩ ⟨_, _, _, rfl⟩ 0 0
      repeat' (first
    | ((first | with_reducible refine nl_op rfl ?_ | refine nd_go rfl rfl rfl ?_); intro K hK; (first
      | ((first | refine on_E hF rfl rfl ?_ | refine od_E rfl rfl ?_ | refine od_R rfl rfl ?_); (first | refine ⟨_, a_yl, ?_⟩))
      | ((first | refine on_Ec hF rfl rfl ?_ | refine od_Ec rfl rfl ?_); refine ⟨_, _, _, a_yc, ?_, ?_⟩ <;> (intro hc; try (exfalso; first | (omega; done) | exact absurd (by with_reducible rfl) hc | (simp at hc; done))))
      | ((first | (refine od_act (fun c => by exact (fun h => by cases h)) ?_; intro K2 hK2) | refine od_last (fun c => by exact (fun h => by cases h)) ?_ | skip); (first
      | (refine on_callG hF (enters_of Try.func17 (by kernel_rfl) rfl) rfl rfl rfl rfl (fx _ _ _ _ (by exact a_mem)) (fun i => ?_); have hvi := hvz i)
      
      | (refine on_alloc hF rfl Try.zeroValue43 rfl rfl (fun B => ?_))
      | (refine on_box hF rfl rfl rfl rfl (fun B => ?_))
      | (refine on_store hF rfl rfl rfl rfl a_turn a_vof (by first | rfl | exact hsz.symm | exact hsz) ?_)
      | (refine on_storeE hF rfl rfl rfl rfl a_turn (by (first | omega | (simp only [List.length_append, List.length_cons, List.length_nil, List.length_map] at *; omega))) a_vof (by first | rfl | exact hsz) ?_)
      | (refine on_storeEF hF rfl rfl rfl rfl a_turn (by first | with_reducible assumption | rfl) (by decide) a_vof rfl ?_)
      | (refine on_storeF hF rfl rfl rfl rfl a_turn (by decide) a_vof rfl ?_)) <;> try (refine hK2 _ _ _ a_allK ?_; clear hK2 K2))) <;> (refine hK _ _ _ ?_; clear hK K))
    | with_reducible refine nx_seq ?_
        | with_reducible refine nx_region ?_
        | with_reducible refine nl_nil ?_
        | with_reducible refine nq_then_n ?_
        | with_reducible refine nx_block ?_
        | with_reducible refine nx_skip ?_
        | with_reducible refine nx_exit ?_
        | with_reducible refine nx_ret ?_
        | with_reducible refine nq_then_x ?_
        | with_reducible refine nq_then_r ?_
        | with_reducible refine nq_blk_n ?_
        | with_reducible refine nq_blk_r ?_
        | with_reducible refine nq_blk_hit ?_
        | with_reducible refine nq_blk_miss rfl ?_
        | with_reducible refine nd_nil ?_
    | refine nx_cond_t rfl ?_ | refine nx_cond_f rfl ?_
    | refine nl_pass hF rfl rfl rfl ?_
    | refine nd_pass rfl rfl rfl rfl rfl ?_
    | refine nd_pass2 rfl rfl rfl (fun c => by exact (fun h => by cases h)) a_allK rfl rfl ?_
    | refine nd_pass3 rfl rfl rfl (fun c => by exact (fun h => by cases h)) rfl rfl ?_
    | (with_reducible refine hQ1 _ _ _ ?_; clear hQ1 Q1)
    )
      all_goals (try (exfalso; dsimp only at *; omega))
      refine nx_again ⟨n + 1, by omega⟩ (by dsimp only; omega) (by exact a_sub) (by exact a_subR) (by exact a_holds)
    | some p =>
      obtain ⟨hg, hch⟩ := hsn p hf
      have hcl := chain_len L p.1.id
      have hsl2 := find_len hf
      have hsl3 := find_len2 hf
      have hsl4 : (L.length + 2) * L.length ≤ 22 * 20 := Nat.mul_le_mul (by omega) hL20
      rw [hf] at fx
      rw [hg] at fy
      unfold findRet findC at fx fy
      dsimp only at fx fy
      rw [hch] at fy
      have hvz : ∀ i : SV × SV × SV, VOf Try.prog 43 (planV i.1.1 i.2.1.1 i.2.2.1 p.1.a n) := fun i => vofPlan i.1.2 i.2.1.2 i.2.2.2 _ _
      have sc2 := fun (W0 : World) (X : Nat → Prop) (R C : List Ch) (i j : SV × SV × SV) h1 h2 h3 h4 h5 h6 => Same_ct (W0 := W0) (X := X) (R := R) (C := C) i.1.1 i.2.1.1 i.2.2.1 j.1.1 j.2.1.1 j.2.2.1 i.1.2 i.2.1.2 i.2.2.2 j.1.2 j.2.1.2 j.2.2.2 p.1.a n (Chn.chainIds L p.1.id) p.2.1 p.2.2 h1 h2 h3 h4 h5 h6 (by omega) (by omega) (by omega)
      clear hsn hf hg hch hcl hsl2 hsl3 hsl4
      repeat' (first
    | ((first | with_reducible refine nl_op rfl ?_ | refine nd_go rfl rfl rfl ?_); intro K hK; (first
      | ((first | refine on_E hF rfl rfl ?_ | refine od_E rfl rfl ?_ | refine od_R rfl rfl ?_); (first | refine ⟨_, a_yl, ?_⟩))
      | ((first | refine on_Ec hF rfl rfl ?_ | refine od_Ec rfl rfl ?_); refine ⟨_, _, _, a_yc, ?_, ?_⟩ <;> (intro hc; try (exfalso; first | (omega; done) | exact absurd (by with_reducible rfl) hc | (simp at hc; done))))
      | ((first | (refine od_act (fun c => by exact (fun h => by cases h)) ?_; intro K2 hK2) | refine od_last (fun c => by exact (fun h => by cases h)) ?_ | skip); (first
      | (refine on_callG (vs := [.slice sa sn sc, .int .i64 t, .int .i64 n]) hF (enters_of Try.func17 (by kernel_rfl) rfl) rfl rfl rfl rfl (fx _ _ _ _ (by exact a_mem)) (fun i => ?_); have hvi := hvz i; refine nx_frzRow Pick.here (nx_frzRow Pick.here (nx_frzRow Pick.here ?_)); clear fx)
      | (refine on_callG (vs := [.slice ka kn kc, .int .i64 t, .int .i64 n]) hF (enters_of Try.func17 (by kernel_rfl) rfl) rfl rfl rfl rfl (fy _ _ _ _ (by exact a_mem)) (fun j => ?_); have hvj := hvz j; refine nx_frzRow Pick.here (nx_frzRow Pick.here (nx_frzRow Pick.here ?_)); clear fy)
      | (refine on_callG hF (enters_of Try.func18 (by kernel_rfl) rfl) rfl rfl rfl rfl (sc2 _ _ _ _ i j (by exact a_mem) (by exact a_mem) (by exact a_mem) (by exact a_mem) (by exact a_mem) (by exact a_mem)) (fun _ => ?_))
      
      | (refine on_alloc hF rfl Try.zeroValue43 rfl rfl (fun B => ?_))
      | (refine on_box hF rfl rfl rfl rfl (fun B => ?_))
      | (refine on_store hF rfl rfl rfl rfl a_turn a_vof (by first | rfl | exact hsz.symm | exact hsz) ?_)
      | (refine on_storeE hF rfl rfl rfl rfl a_turn (by (first | omega | (simp only [List.length_append, List.length_cons, List.length_nil, List.length_map] at *; omega))) a_vof (by first | rfl | exact hsz) ?_)
      | (refine on_storeEF hF rfl rfl rfl rfl a_turn (by first | with_reducible assumption | rfl) (by decide) a_vof rfl ?_)
      | (refine on_storeF hF rfl rfl rfl rfl a_turn (by decide) a_vof rfl ?_)) <;> try (refine hK2 _ _ _ a_allK ?_; clear hK2 K2))) <;> (refine hK _ _ _ ?_; clear hK K))
    | with_reducible refine nx_seq ?_
        | with_reducible refine nx_region ?_
        | with_reducible refine nl_nil ?_
        | with_reducible refine nq_then_n ?_
        | with_reducible refine nx_block ?_
        | with_reducible refine nx_skip ?_
        | with_reducible refine nx_exit ?_
        | with_reducible refine nx_ret ?_
        | with_reducible refine nq_then_x ?_
        | with_reducible refine nq_then_r ?_
        | with_reducible refine nq_blk_n ?_
        | with_reducible refine nq_blk_r ?_
        | with_reducible refine nq_blk_hit ?_
        | with_reducible refine nq_blk_miss rfl ?_
        | with_reducible refine nd_nil ?_
    | refine nx_cond_t rfl ?_ | refine nx_cond_f rfl ?_
    | refine nl_pass hF rfl rfl rfl ?_
    | refine nd_pass rfl rfl rfl rfl rfl ?_
    | refine nd_pass2 rfl rfl rfl (fun c => by exact (fun h => by cases h)) a_allK rfl rfl ?_
    | refine nd_pass3 rfl rfl rfl (fun c => by exact (fun h => by cases h)) rfl rfl ?_
    | (with_reducible refine hQ1 _ _ _ ?_; clear hQ1 Q1)
    )
      all_goals (try (exfalso; dsimp only at *; omega))
      refine nx_again ⟨n + 1, by omega⟩ (by dsimp only; omega) (by exact a_sub) (by exact a_subR) (by exact a_holds)
  · repeat' (first
    | ((first | with_reducible refine nl_op rfl ?_ | refine nd_go rfl rfl rfl ?_); intro K hK; (first
      | ((first | refine on_E hF rfl rfl ?_ | refine od_E rfl rfl ?_ | refine od_R rfl rfl ?_); (first | refine ⟨_, a_yl, ?_⟩))
      | ((first | refine on_Ec hF rfl rfl ?_ | refine od_Ec rfl rfl ?_); refine ⟨_, _, _, a_yc, ?_, ?_⟩ <;> (intro hc; try (exfalso; first | (omega; done) | exact absurd (by with_reducible rfl) hc | (simp at hc; done))))
      | ((first | (refine od_act (fun c => by exact (fun h => by cases h)) ?_; intro K2 hK2) | refine od_last (fun c => by exact (fun h => by cases h)) ?_ | skip); (first
      
      
      | (refine on_alloc hF rfl Try.zeroValue43 rfl rfl (fun B => ?_))
      | (refine on_box hF rfl rfl rfl rfl (fun B => ?_))
      | (refine on_store hF rfl rfl rfl rfl a_turn a_vof (by first | rfl | exact hsz.symm | exact hsz) ?_)
      | (refine on_storeE hF rfl rfl rfl rfl a_turn (by (first | omega | (simp only [List.length_append, List.length_cons, List.length_nil, List.length_map] at *; omega))) a_vof (by first | rfl | exact hsz) ?_)
      | (refine on_storeEF hF rfl rfl rfl rfl a_turn (by first | with_reducible assumption | rfl) (by decide) a_vof rfl ?_)
      | (refine on_storeF hF rfl rfl rfl rfl a_turn (by decide) a_vof rfl ?_)) <;> try (refine hK2 _ _ _ a_allK ?_; clear hK2 K2))) <;> (refine hK _ _ _ ?_; clear hK K))
    | with_reducible refine nx_seq ?_
        | with_reducible refine nx_region ?_
        | with_reducible refine nl_nil ?_
        | with_reducible refine nq_then_n ?_
        | with_reducible refine nx_block ?_
        | with_reducible refine nx_skip ?_
        | with_reducible refine nx_exit ?_
        | with_reducible refine nx_ret ?_
        | with_reducible refine nq_then_x ?_
        | with_reducible refine nq_then_r ?_
        | with_reducible refine nq_blk_n ?_
        | with_reducible refine nq_blk_r ?_
        | with_reducible refine nq_blk_hit ?_
        | with_reducible refine nq_blk_miss rfl ?_
        | with_reducible refine nd_nil ?_
    | refine nx_cond_t rfl ?_ | refine nx_cond_f rfl ?_
    | refine nl_pass hF rfl rfl rfl ?_
    | refine nd_pass rfl rfl rfl rfl rfl ?_
    | refine nd_pass2 rfl rfl rfl (fun c => by exact (fun h => by cases h)) a_allK rfl rfl ?_
    | refine nd_pass3 rfl rfl rfl (fun c => by exact (fun h => by cases h)) rfl rfl ?_
    | (with_reducible refine hQ1 _ _ _ ?_; clear hQ1 Q1)
    )
    all_goals (try (exfalso; dsimp only at *; omega))
    refine nx_end [] rfl () (fun a w ha hw => res_tmp Try.results16 rfl ha) (by exact a_subR) (by exact a_holds2)
end Law24
end Go.Proofs.Ytinofjenoapeaaa
end

section
namespace Go.Proofs.Ytinofjenoapeaaa
open Go.RowKit Go.Shelf
set_option linter.unusedSimpArgs false
set_option linter.unusedVariables false
namespace Law24
open Pl Li Pr
variable {W0 : World} {X : Nat → Prop} {R C : List Ch}
def setF (xs : List Int) : Int → Option Value := fun z => if z ∈ xs then some (.bool true) else none
theorem setF_nil : (fun _ => none) = setF [] := by funext z; simp [setF]
theorem setF_upd (xs : List Int) (z : Int) : updF (setF xs) z (.bool true) = setF (xs ++ [z]) := by
  funext y
  unfold updF setF
  by_cases h : y = z
  · simp [h]
  · simp [h]
theorem setF_get (xs : List Int) (z : Int) : (setF xs z).getD (.bool false) = .bool (decide (z ∈ xs)) := by
  unfold setF
  by_cases h : z ∈ xs <;> simp [h]
theorem wf_id {z : Int} (h : -9223372036854775808 ≤ z ∧ z ≤ 9223372036854775807) : (Lit.int .i64 z).wf = true := by
  simp [Lit.wf, IntKind.min, IntKind.max, IntKind.signed, IntKind.bits]; omega
def keepB (rs : List Int) (x : It2) : Bool := !decide (x.id ∈ rs)
theorem mem_rest {L : List It2} {c : Int} {x : It2} (hx : x ∈ L) : x.id ∈ restL L c ↔ ¬ x.id ∈ wantL L c := by
  unfold restL
  rw [Sc.mem_upr, List.mem_map]
  constructor
  · rintro ⟨y, hy, e⟩
    have := (List.mem_filter.1 hy).2
    unfold notIn at this
    rw [e] at this
    simpa using this
  · intro h
    exact ⟨x, List.mem_filter.2 ⟨hx, by unfold notIn; simpa using h⟩, rfl⟩
theorem kept_eq (L : List It2) (c : Int) : L.filter (keepB (restL L c)) = keptI L (wantL L c) := by
  unfold keptI
  refine List.filter_congr (fun x hx => ?_)
  unfold keepB
  have := mem_rest (c := c) hx
  by_cases h : x.id ∈ wantL L c
  · simp [h, this]
  · simp [h, this]
theorem chain_self {L : List It2} {id : Int} (h : (Chn.chainOf L id).isSome = true) : id ∈ Chn.chainIds L id := by
  unfold Chn.chainIds
  cases hc : Chn.chainOf L id with
  | none => rw [hc] at h; cases h
  | some xs =>
    unfold Chn.chainOf at hc
    split at hc
    · rename_i hat
      have hb : Chn.byId L id = some (Chn.atX L id) := by
        unfold Chn.atOk at hat
        unfold Chn.atX
        cases hq : Chn.byId L id with
        | none => rw [hq] at hat; simp at hat
        | some y => rfl
      have hmem : (Chn.atX L id) ∈ xs := by
        rw [Chn.chainUp] at hc
        split at hc
        · injection hc with hc; rw [← hc]; simp
        · split at hc
          · cases hz : Chn.chainUp L (Chn.atX L (Chn.atX L id).par) with
            | none => rw [hz] at hc; cases hc
            | some zs => rw [hz] at hc; simp at hc; rw [← hc]; simp
          · cases hc
      simp only [Option.getD_some, List.mem_map, List.mem_reverse]
      exact ⟨_, hmem, (Chn.byId_spec hb).2⟩
    · cases hc
theorem kp_of {L : List It2} {c : Int} (hok : ∀ x ∈ L, x.ok) (hf : Few L) : Kp L (L.filter (keepB (restL L c))) c := by
  have hlw : ∀ x ∈ L, x.kind = 4 → x.id ∈ wantL L c := fun x hx hk => by
    unfold wantL
    rw [Sc.mem_upr]
    unfold wantZ lineIds
    exact List.mem_append.2 (.inl (List.mem_map.2 ⟨x, List.mem_filter.2 ⟨hx, by simpa using hk⟩, rfl⟩))
  refine ⟨hok, fun x hx => hok x (List.mem_filter.1 hx).1, hf.len, Nat.le_trans (List.length_filter_le _ _) hf.len, fun t ht n p h0 hc hp => ?_, fun t ht => ?_⟩
  · rw [kept_eq]
    have hw := obj_wanted (c := c) (fun x hx => ⟨(hf.r x hx).1, (hf.r x hx).2.2.1⟩) ht hc hp
    exact findK hf.inc hlw hp (fun z hz => hw z (.inl hz)) (hw _ (.inl (chain_self (find_chain hp)))) (fun z hz => hw z (.inr hz))
  · rcases mem_all.1 ht with rfl | ⟨x, hx, _, rfl⟩
    · omega
    · exact (hf.r x hx).2.2.2.2
theorem law1_round (s k : Value) (hs : IsSl s) (hk : IsSl k) (L K : List It2) (c : Int) (hcc : -5 ≤ c ∧ c ≤ 60) (h : Kp L K c) (b2 b3 b8 b11 : Nat) (hb2 : BoxC b2 22 s ∈ R) (hb3 : BoxC b3 3 (.int .i64 c) ∈ R) (hb8 : BoxC b8 22 k ∈ R) (hsl : SlC 9 s (L.map It2.v) ∈ R) (hkl : SlC 9 k (K.map It2.v) ∈ R) (pre : List Value) (x : Value) (post : List Value) (hx : (allL L).map (Value.int .i64) = pre ++ x :: post) (vs : List Value) (hvs : vs = [x]) :
    Ct Try.prog 16 (vs ++ [ptr b3, ptr b2, ptr b8, ptr b11]) W0 X R ([] ++ ([BoxC b11 4 (.bool true)] ++ C)) ({ _i : Unit // True } ⊕ { _k : Unit // False }) (fun q => .bool q.isLeft) (fun _ => R) (fun q => eiC (fun _ => [BoxC b11 4 (.bool true)]) (fun _ => []) q ++ C) := by
  subst hvs
  have hmem : x ∈ (allL L).map (Value.int .i64) := by rw [hx]; simp
  obtain ⟨t, ht, rfl⟩ := List.mem_map.1 hmem
  intro w hw
  refine (law1_ct s k hs hk L K c hcc h t ht b2 b3 b8 b11 hb2 hb3 hb8 hsl hkl w hw).mono ?_
  rintro e w' ⟨_, rfl, h2⟩
  exact ⟨.inl ⟨(), trivial⟩, rfl, h2⟩
set_option maxRecDepth 100000 in
set_option maxHeartbeats 8000000 in
theorem law_ct (s : Value) (hs : IsSl s) (L : List It2) (hok : ∀ x ∈ L, x.ok) (hI : ∀ x ∈ L, -9223372036854775808 ≤ x.id ∧ x.id ≤ 9223372036854775807) (c : Int) (hsl : SlC 9 s (L.map It2.v) ∈ R) (hm : L.length * 88 ≤ 140737488355328) :
    Ct Try.prog 4 [s, .int .i64 c] W0 X R C Unit (fun _ => .bool true) (fun _ => R) (fun _ => C) := by
  intro w hw
  have hF := isWide_wide
  have hs0 := hs
  obtain ⟨sa, sn, sc, rfl⟩ := hs
  obtain rfl := slLen (hw.hasR hsl)
  have hlv : (L.map It2.v).length = L.length := by simp
  have hvs : VOf Try.prog 22 (.slice sa (L.map It2.v).length sc) := vof_slice (by kernel_rfl) hs0
  have fc := fun (W0 : World) (X : Nat → Prop) (R C : List Ch) h => few_ct (W0 := W0) (X := X) (R := R) (C := C) _ hs0 L hok h hm
  by_cases hcc : -5 ≤ c ∧ c ≤ 60
  · refine calls_nx Try.func4 rfl Try.ntmps4 rfl ?_ hw
    repeat' (first
    | ((first | with_reducible refine nl_op rfl ?_ | refine nd_go rfl rfl rfl ?_); intro K hK; (first
      | ((first | refine on_E hF rfl rfl ?_ | refine od_E rfl rfl ?_ | refine od_R rfl rfl ?_); (first | refine ⟨_, a_yl, ?_⟩ | refine ⟨_, yl_fieldB (T := 27) (f := 0) (q := 0) rfl rfl (by kernel_rfl), ?_⟩ | refine ⟨_, yl_fieldE (T := 27) (f := 0) (j := 0) rfl rfl a_sl (by (first | omega | (simp only [List.length_append, List.length_cons, List.length_nil, List.length_map] at *; omega))) (by kernel_rfl), ?_⟩))
      | ((first | refine on_Ec hF rfl rfl ?_ | refine od_Ec rfl rfl ?_); refine ⟨_, _, _, a_yc, ?_, ?_⟩ <;> (intro hc; try (exfalso; first | (omega; done) | exact absurd (by with_reducible rfl) hc | (simp at hc; done))))
      | ((first | (refine od_act (fun c => by exact (fun h => by cases h)) ?_; intro K2 hK2) | refine od_last (fun c => by exact (fun h => by cases h)) ?_ | skip); (first
      | (refine on_callG hF (enters_of Try.func12 (by kernel_rfl) rfl) rfl rfl rfl rfl first_ct (fun _ => ?_))
      | (refine on_callG hF (enters_of Try.func13 (by kernel_rfl) rfl) rfl rfl rfl rfl (fc _ _ _ _ (by exact a_mem)) (fun i => ?_); obtain ⟨bf, hbf⟩ := i; dsimp only; cases bf)
      | (refine on_buildSlice (T := 22) (e := 27) (k := 9) (by_ := 88) hF rfl rfl rfl rfl rfl rfl (by kernel_rfl) a_cel (Nat.le_of_ble_eq_true rfl) (fun b => ?_))
      | (refine on_append (T := 22) (e := 27) (k := 9) (by_ := 88) hF rfl rfl rfl rfl rfl a_pick (by kernel_rfl) a_sl a_cel (by first | omega | (unfold maxLen; simp only [List.length_map, List.length_append, List.length_cons, List.length_nil, List.length_replicate]; omega) | (simp only [List.length_map, List.length_append, List.length_cons, List.length_nil, List.length_replicate]; omega)) (by first | omega | (unfold maxLen; simp only [List.length_map, List.length_append, List.length_cons, List.length_nil, List.length_replicate]; omega) | (simp only [List.length_map, List.length_append, List.length_cons, List.length_nil, List.length_replicate]; omega)) (fun v => ?_))
      | (refine on_alloc hF rfl Try.zeroValue4 rfl rfl (fun B => ?_))
      | (refine on_alloc hF rfl Try.zeroValue22 rfl rfl (fun B => ?_))
      | (refine on_alloc hF rfl Try.zeroValue27 rfl rfl (fun B => ?_))
      | (refine on_box hF rfl rfl rfl rfl (fun B => ?_))
      | (refine on_store hF rfl rfl rfl rfl a_turn a_vof (by first | rfl | exact hsz.symm | exact hsz) ?_)
      | (refine on_storeE hF rfl rfl rfl rfl a_turn (by (first | omega | (simp only [List.length_append, List.length_cons, List.length_nil, List.length_map] at *; omega))) a_vof (by first | rfl | exact hsz) ?_)
      | (refine on_storeEF hF rfl rfl rfl rfl a_turn (by first | with_reducible assumption | rfl) (by decide) a_vof rfl ?_)
      | (refine on_storeF hF rfl rfl rfl rfl a_turn (by decide) a_vof rfl ?_)) <;> try (refine hK2 _ _ _ a_allK ?_; clear hK2 K2))) <;> (refine hK _ _ _ ?_; clear hK K))
    | with_reducible refine nx_seq ?_
        | with_reducible refine nx_region ?_
        | with_reducible refine nl_nil ?_
        | with_reducible refine nq_then_n ?_
        | with_reducible refine nx_block ?_
        | with_reducible refine nx_skip ?_
        | with_reducible refine nx_exit ?_
        | with_reducible refine nx_ret ?_
        | with_reducible refine nq_then_x ?_
        | with_reducible refine nq_then_r ?_
        | with_reducible refine nq_blk_n ?_
        | with_reducible refine nq_blk_r ?_
        | with_reducible refine nq_blk_hit ?_
        | with_reducible refine nq_blk_miss rfl ?_
        | with_reducible refine nd_nil ?_
    | refine nx_cond_t rfl ?_ | refine nx_cond_f rfl ?_
    | refine nl_pass hF rfl rfl rfl ?_
    | refine nd_pass rfl rfl rfl rfl rfl ?_
    | refine nd_pass2 rfl rfl rfl (fun c => by exact (fun h => by cases h)) a_allK rfl rfl ?_
    | refine nd_pass3 rfl rfl rfl (fun c => by exact (fun h => by cases h)) rfl rfl ?_
    | (with_reducible refine hQ1 _ _ _ ?_; clear hQ1 Q1)
    )
    all_goals (try (exfalso; dsimp only at *; omega))
    · refine nx_end [] rfl () (fun a w ha hw => res_tmp Try.results4 rfl ha) (by exact a_subR) (by exact a_holds2)
    · have hf := hbf rfl
      have hkp := kp_of (c := c) hok hf
      have rc := fun (W0 : World) (X : Nat → Prop) (R C : List Ch) h => rest_ct (W0 := W0) (X := X) (R := R) (C := C) _ hs0 L hok c (by omega) (fun x hx => by have := hf.r x hx; omega) (fun x hx => (hf.r x hx).2.2.2.2) h hf.len
      have ac := fun (W0 : World) (X : Nat → Prop) (R C : List Ch) h => all_ct (W0 := W0) (X := X) (R := R) (C := C) _ hs0 L hok h hm
      have hL20 := hf.len
      have hall := all_len L
      have hrl : (restL L c).length ≤ 20 := by
        unfold restL
        refine Nat.le_trans (Sc.upr_len _) ?_
        rw [List.length_map]
        exact Nat.le_trans (List.length_filter_le _ _) hL20
      have hri : ∀ z ∈ restL L c, -9223372036854775808 ≤ z ∧ z ≤ 9223372036854775807 := fun z hz => by
        unfold restL at hz
        rw [Sc.mem_upr] at hz
        obtain ⟨x, hx, rfl⟩ := List.mem_map.1 hz
        exact hI x (List.mem_filter.1 hx).1
      obtain ⟨rs, hrs⟩ : ∃ rs, restL L c = rs := ⟨_, rfl⟩
      rw [hrs] at rc hrl hri hkp
      clear hrs fc hf hbf
      rename_i b2 _u _hx
      obtain ⟨b3, hb3⟩ : ∃ b3, b3 = B := ⟨_, rfl⟩
      subst hb3
      refine nx_frz (BoxC b2 22 (.slice sa (L.map It2.v).length sc)) (by exact a_pick) ?_
      refine nx_frz (BoxC b3 3 (.int .i64 c)) (by exact a_pick) ?_
      repeat' (first
    | ((first | with_reducible refine nl_op rfl ?_ | refine nd_go rfl rfl rfl ?_); intro K hK; (first
      | ((first | refine on_E hF rfl rfl ?_ | refine od_E rfl rfl ?_ | refine od_R rfl rfl ?_); (first | refine ⟨_, a_yl, ?_⟩ | refine ⟨_, yl_fieldB (T := 27) (f := 0) (q := 0) rfl rfl (by kernel_rfl), ?_⟩ | refine ⟨_, yl_fieldE (T := 27) (f := 0) (j := 0) rfl rfl a_sl (by (first | omega | (simp only [List.length_append, List.length_cons, List.length_nil, List.length_map] at *; omega))) (by kernel_rfl), ?_⟩))
      | ((first | refine on_Ec hF rfl rfl ?_ | refine od_Ec rfl rfl ?_); refine ⟨_, _, _, a_yc, ?_, ?_⟩ <;> (intro hc; try (exfalso; first | (omega; done) | exact absurd (by with_reducible rfl) hc | (simp at hc; done))))
      | ((first | (refine od_act (fun c => by exact (fun h => by cases h)) ?_; intro K2 hK2) | refine od_last (fun c => by exact (fun h => by cases h)) ?_ | skip); (first
      | (refine on_makeMap hF 3 rfl rfl rfl (fun bm => ?_))
      | (refine on_callG hF (enters_of Try.func14 (by kernel_rfl) rfl) rfl rfl rfl rfl (rc _ _ _ _ (by exact a_mem)) (fun v => ?_); obtain ⟨v, va, vn, vc, rfl⟩ := v; dsimp only; refine nx_len (e := 3) (k := 1) (xs := rs.map (.int .i64)) (i := vn) (by exact a_mem) (fun hlen => ?_); subst hlen; refine nx_frzRow Pick.here ?_)
      | (refine on_buildSlice (T := 22) (e := 27) (k := 9) (by_ := 88) hF rfl rfl rfl rfl rfl rfl (by kernel_rfl) a_cel (Nat.le_of_ble_eq_true rfl) (fun b => ?_))
      | (refine on_append (T := 22) (e := 27) (k := 9) (by_ := 88) hF rfl rfl rfl rfl rfl a_pick (by kernel_rfl) a_sl a_cel (by first | omega | (unfold maxLen; simp only [List.length_map, List.length_append, List.length_cons, List.length_nil, List.length_replicate]; omega) | (simp only [List.length_map, List.length_append, List.length_cons, List.length_nil, List.length_replicate]; omega)) (by first | omega | (unfold maxLen; simp only [List.length_map, List.length_append, List.length_cons, List.length_nil, List.length_replicate]; omega) | (simp only [List.length_map, List.length_append, List.length_cons, List.length_nil, List.length_replicate]; omega)) (fun v => ?_))
      | (refine on_alloc hF rfl Try.zeroValue4 rfl rfl (fun B => ?_))
      | (refine on_alloc hF rfl Try.zeroValue22 rfl rfl (fun B => ?_))
      | (refine on_alloc hF rfl Try.zeroValue27 rfl rfl (fun B => ?_))
      | (refine on_box hF rfl rfl rfl rfl (fun B => ?_))
      | (refine on_store hF rfl rfl rfl rfl a_turn a_vof (by first | rfl | exact hsz.symm | exact hsz) ?_)
      | (refine on_storeE hF rfl rfl rfl rfl a_turn (by (first | omega | (simp only [List.length_append, List.length_cons, List.length_nil, List.length_map] at *; omega))) a_vof (by first | rfl | exact hsz) ?_)
      | (refine on_storeEF hF rfl rfl rfl rfl a_turn (by first | with_reducible assumption | rfl) (by decide) a_vof rfl ?_)
      | (refine on_storeF hF rfl rfl rfl rfl a_turn (by decide) a_vof rfl ?_)) <;> try (refine hK2 _ _ _ a_allK ?_; clear hK2 K2))) <;> (refine hK _ _ _ ?_; clear hK K))
    | with_reducible refine nx_seq ?_
        | with_reducible refine nx_region ?_
        | with_reducible refine nl_nil ?_
        | with_reducible refine nq_then_n ?_
        | with_reducible refine nx_block ?_
        | with_reducible refine nx_skip ?_
        | with_reducible refine nx_exit ?_
        | with_reducible refine nx_ret ?_
        | with_reducible refine nq_then_x ?_
        | with_reducible refine nq_then_r ?_
        | with_reducible refine nq_blk_n ?_
        | with_reducible refine nq_blk_r ?_
        | with_reducible refine nq_blk_hit ?_
        | with_reducible refine nq_blk_miss rfl ?_
        | with_reducible refine nd_nil ?_
    | refine nx_cond_t rfl ?_ | refine nx_cond_f rfl ?_
    | refine nl_pass hF rfl rfl rfl ?_
    | refine nd_pass rfl rfl rfl rfl rfl ?_
    | refine nd_pass2 rfl rfl rfl (fun c => by exact (fun h => by cases h)) a_allK rfl rfl ?_
    | refine nd_pass3 rfl rfl rfl (fun c => by exact (fun h => by cases h)) rfl rfl ?_
    | (with_reducible refine hQ1 _ _ _ ?_; clear hQ1 Q1)
    )
      clear rc
      rw [setF_nil, show setF [] = setF (rs.take 0) from rfl]
      have hlr : (rs.map (Value.int .i64)).length = rs.length := by simp
      refine nx_loop (ι := { i : Nat // i ≤ rs.length }) (fun i => [(2, ptr b2), (3, ptr b3), (5, .map (some bm)), (28, .slice va (rs.map (Value.int .i64)).length vc), (29, .int .i64 ((rs.map (Value.int .i64)).length : Int)), (30, .int .i64 (i.1 : Int))]) (fun _ => SlC 1 (.slice va (rs.map (Value.int .i64)).length vc) (rs.map (.int .i64)) :: BoxC b3 3 (.int .i64 c) :: BoxC b2 22 (.slice sa (L.map It2.v).length sc) :: R) (fun i => MapC Try.prog 3 bm i.1 (setF (rs.take i.1)) :: C) (fun i => rs.length - i.1) ⟨0, Nat.zero_le _⟩ (by exact a_sub) (by exact a_subR) (by exact a_holds) (fun i => ?_)
      obtain ⟨i, hi⟩ := i
      dsimp only
      by_cases hlt : i < rs.length
      · obtain ⟨z, hz⟩ : ∃ z, rs[i]? = some z := ⟨_, List.getElem?_eq_getElem hlt⟩
        have hzv : (rs.map (Value.int .i64))[i]? = some (.int .i64 z) := by rw [List.getElem?_map, hz]; rfl
        have hzw := wf_id (hri z (List.mem_of_getElem? hz))
        have hnx : updF (setF (rs.take i)) z (.bool true) = setF (rs.take (i + 1)) := by rw [setF_upd, (list_at hz).2]
        repeat' (first
    | ((first | with_reducible refine nl_op rfl ?_ | refine nd_go rfl rfl rfl ?_); intro K hK; (first
      | ((first | refine on_E hF rfl rfl ?_ | refine od_E rfl rfl ?_ | refine od_R rfl rfl ?_); (first | refine ⟨_, a_yl, ?_⟩ | refine ⟨_, yl_fieldB (T := 27) (f := 0) (q := 0) rfl rfl (by kernel_rfl), ?_⟩ | refine ⟨_, yl_fieldE (T := 27) (f := 0) (j := 0) rfl rfl a_sl (by (first | omega | (simp only [List.length_append, List.length_cons, List.length_nil, List.length_map] at *; omega))) (by kernel_rfl), ?_⟩))
      | ((first | refine on_Ec hF rfl rfl ?_ | refine od_Ec rfl rfl ?_); refine ⟨_, _, _, a_yc, ?_, ?_⟩ <;> (intro hc; try (exfalso; first | (omega; done) | exact absurd (by with_reducible rfl) hc | (simp at hc; done))))
      | ((first | (refine od_act (fun c => by exact (fun h => by cases h)) ?_; intro K2 hK2) | refine od_last (fun c => by exact (fun h => by cases h)) ?_ | skip); (first
      | (refine on_mapUpdate (k := 3) (e := 4) hF rfl rfl rfl rfl rfl (by kernel_rfl) (by exact a_turn) hzw (by unfold maxLen; omega) ?_; rw [hnx])
      | (refine on_buildSlice (T := 22) (e := 27) (k := 9) (by_ := 88) hF rfl rfl rfl rfl rfl rfl (by kernel_rfl) a_cel (Nat.le_of_ble_eq_true rfl) (fun b => ?_))
      | (refine on_append (T := 22) (e := 27) (k := 9) (by_ := 88) hF rfl rfl rfl rfl rfl a_pick (by kernel_rfl) a_sl a_cel (by first | omega | (unfold maxLen; simp only [List.length_map, List.length_append, List.length_cons, List.length_nil, List.length_replicate]; omega) | (simp only [List.length_map, List.length_append, List.length_cons, List.length_nil, List.length_replicate]; omega)) (by first | omega | (unfold maxLen; simp only [List.length_map, List.length_append, List.length_cons, List.length_nil, List.length_replicate]; omega) | (simp only [List.length_map, List.length_append, List.length_cons, List.length_nil, List.length_replicate]; omega)) (fun v => ?_))
      | (refine on_alloc hF rfl Try.zeroValue4 rfl rfl (fun B => ?_))
      | (refine on_alloc hF rfl Try.zeroValue22 rfl rfl (fun B => ?_))
      | (refine on_alloc hF rfl Try.zeroValue27 rfl rfl (fun B => ?_))
      | (refine on_box hF rfl rfl rfl rfl (fun B => ?_))
      | (refine on_store hF rfl rfl rfl rfl a_turn a_vof (by first | rfl | exact hsz.symm | exact hsz) ?_)
      | (refine on_storeE hF rfl rfl rfl rfl a_turn (by (first | omega | (simp only [List.length_append, List.length_cons, List.length_nil, List.length_map] at *; omega))) a_vof (by first | rfl | exact hsz) ?_)
      | (refine on_storeEF hF rfl rfl rfl rfl a_turn (by first | with_reducible assumption | rfl) (by decide) a_vof rfl ?_)
      | (refine on_storeF hF rfl rfl rfl rfl a_turn (by decide) a_vof rfl ?_)) <;> try (refine hK2 _ _ _ a_allK ?_; clear hK2 K2))) <;> (refine hK _ _ _ ?_; clear hK K))
    | with_reducible refine nx_seq ?_
        | with_reducible refine nx_region ?_
        | with_reducible refine nl_nil ?_
        | with_reducible refine nq_then_n ?_
        | with_reducible refine nx_block ?_
        | with_reducible refine nx_skip ?_
        | with_reducible refine nx_exit ?_
        | with_reducible refine nx_ret ?_
        | with_reducible refine nq_then_x ?_
        | with_reducible refine nq_then_r ?_
        | with_reducible refine nq_blk_n ?_
        | with_reducible refine nq_blk_r ?_
        | with_reducible refine nq_blk_hit ?_
        | with_reducible refine nq_blk_miss rfl ?_
        | with_reducible refine nd_nil ?_
    | refine nx_cond_t rfl ?_ | refine nx_cond_f rfl ?_
    | refine nl_pass hF rfl rfl rfl ?_
    | refine nd_pass rfl rfl rfl rfl rfl ?_
    | refine nd_pass2 rfl rfl rfl (fun c => by exact (fun h => by cases h)) a_allK rfl rfl ?_
    | refine nd_pass3 rfl rfl rfl (fun c => by exact (fun h => by cases h)) rfl rfl ?_
    | (with_reducible refine hQ1 _ _ _ ?_; clear hQ1 Q1)
    )
        all_goals (try (exfalso; dsimp only at *; omega))
        refine nx_again ⟨i + 1, by omega⟩ (by dsimp only; omega) (by exact a_sub) (by exact a_subR) (by exact a_holds)
      · rw [List.take_of_length_le (by omega)]
        repeat' (first
    | ((first | with_reducible refine nl_op rfl ?_ | refine nd_go rfl rfl rfl ?_); intro K hK; (first
      | ((first | refine on_E hF rfl rfl ?_ | refine od_E rfl rfl ?_ | refine od_R rfl rfl ?_); (first | refine ⟨_, a_yl, ?_⟩ | refine ⟨_, yl_fieldB (T := 27) (f := 0) (q := 0) rfl rfl (by kernel_rfl), ?_⟩ | refine ⟨_, yl_fieldE (T := 27) (f := 0) (j := 0) rfl rfl a_sl (by (first | omega | (simp only [List.length_append, List.length_cons, List.length_nil, List.length_map] at *; omega))) (by kernel_rfl), ?_⟩))
      | ((first | refine on_Ec hF rfl rfl ?_ | refine od_Ec rfl rfl ?_); refine ⟨_, _, _, a_yc, ?_, ?_⟩ <;> (intro hc; try (exfalso; first | (omega; done) | exact absurd (by with_reducible rfl) hc | (simp at hc; done))))
      | ((first | (refine od_act (fun c => by exact (fun h => by cases h)) ?_; intro K2 hK2) | refine od_last (fun c => by exact (fun h => by cases h)) ?_ | skip); (first
      
      | (refine on_buildSlice (T := 22) (e := 27) (k := 9) (by_ := 88) hF rfl rfl rfl rfl rfl rfl (by kernel_rfl) a_cel (Nat.le_of_ble_eq_true rfl) (fun b => ?_))
      | (refine on_append (T := 22) (e := 27) (k := 9) (by_ := 88) hF rfl rfl rfl rfl rfl a_pick (by kernel_rfl) a_sl a_cel (by first | omega | (unfold maxLen; simp only [List.length_map, List.length_append, List.length_cons, List.length_nil, List.length_replicate]; omega) | (simp only [List.length_map, List.length_append, List.length_cons, List.length_nil, List.length_replicate]; omega)) (by first | omega | (unfold maxLen; simp only [List.length_map, List.length_append, List.length_cons, List.length_nil, List.length_replicate]; omega) | (simp only [List.length_map, List.length_append, List.length_cons, List.length_nil, List.length_replicate]; omega)) (fun v => ?_))
      | (refine on_alloc hF rfl Try.zeroValue4 rfl rfl (fun B => ?_))
      | (refine on_alloc hF rfl Try.zeroValue22 rfl rfl (fun B => ?_))
      | (refine on_alloc hF rfl Try.zeroValue27 rfl rfl (fun B => ?_))
      | (refine on_box hF rfl rfl rfl rfl (fun B => ?_))
      | (refine on_store hF rfl rfl rfl rfl a_turn a_vof (by first | rfl | exact hsz.symm | exact hsz) ?_)
      | (refine on_storeE hF rfl rfl rfl rfl a_turn (by (first | omega | (simp only [List.length_append, List.length_cons, List.length_nil, List.length_map] at *; omega))) a_vof (by first | rfl | exact hsz) ?_)
      | (refine on_storeEF hF rfl rfl rfl rfl a_turn (by first | with_reducible assumption | rfl) (by decide) a_vof rfl ?_)
      | (refine on_storeF hF rfl rfl rfl rfl a_turn (by decide) a_vof rfl ?_)) <;> try (refine hK2 _ _ _ a_allK ?_; clear hK2 K2))) <;> (refine hK _ _ _ ?_; clear hK K))
    | with_reducible refine nx_seq ?_
        | with_reducible refine nx_region ?_
        | with_reducible refine nl_nil ?_
        | with_reducible refine nq_then_n ?_
        | with_reducible refine nx_block ?_
        | with_reducible refine nx_skip ?_
        | with_reducible refine nx_exit ?_
        | with_reducible refine nx_ret ?_
        | with_reducible refine nq_then_x ?_
        | with_reducible refine nq_then_r ?_
        | with_reducible refine nq_blk_n ?_
        | with_reducible refine nq_blk_r ?_
        | with_reducible refine nq_blk_hit ?_
        | with_reducible refine nq_blk_miss rfl ?_
        | with_reducible refine nd_nil ?_
    | refine nx_cond_t rfl ?_ | refine nx_cond_f rfl ?_
    | refine nl_pass hF rfl rfl rfl ?_
    | refine nd_pass rfl rfl rfl rfl rfl ?_
    | refine nd_pass2 rfl rfl rfl (fun c => by exact (fun h => by cases h)) a_allK rfl rfl ?_
    | refine nd_pass3 rfl rfl rfl (fun c => by exact (fun h => by cases h)) rfl rfl ?_
    | (with_reducible refine hQ1 _ _ _ ?_; clear hQ1 Q1)
    )
        all_goals (try (exfalso; dsimp only at *; omega))
        obtain ⟨b8, hb8⟩ : ∃ b8, b8 = B := ⟨_, rfl⟩
        subst hb8
        refine nx_nilRow 27 9 ?_
        refine nx_loop (ι := { i : Nat // i ≤ L.length } × SV) (fun p => [(2, ptr b2), (3, ptr b3), (5, .map (some bm)), (8, ptr b8), (37, .slice sa (L.map It2.v).length sc), (38, .int .i64 ((L.map It2.v).length : Int)), (39, .int .i64 (p.1.1 : Int))]) (fun _ => BoxC b3 3 (.int .i64 c) :: BoxC b2 22 (.slice sa (L.map It2.v).length sc) :: R) (fun p => BoxC b8 22 p.2.1 :: RowC 27 9 p.2.1 (((L.take p.1.1).filter (keepB rs)).map It2.v) :: MapC Try.prog 3 bm i (setF rs) :: C) (fun p => L.length - p.1.1) (⟨0, Nat.zero_le _⟩, ⟨.slice none 0 0, _, _, _, rfl⟩) (by exact a_sub) (by exact a_subR) (by exact a_holds) (fun p => ?_)
        obtain ⟨⟨j, hj⟩, u⟩ := p
        obtain ⟨u, hu⟩ := u
        dsimp only
        have hvu : VOf Try.prog 22 u := vof_slice (by kernel_rfl) hu
        have hsu : (cv u).size = 1 := by obtain ⟨_, _, _, rfl⟩ := hu; rfl
        by_cases hjt : j < L.length
        · obtain ⟨x, hx⟩ : ∃ x, L[j]? = some x := ⟨_, List.getElem?_eq_getElem hjt⟩
          have hxm : x ∈ L := List.mem_of_getElem? hx
          have hxv : (L.map It2.v)[j]? = some x.v := by rw [List.getElem?_map, hx]; rfl
          have hvx := x.vof (hok x hxm)
          have hxw := wf_id (hI x hxm)
          have hgt := setF_get rs x.id
          have hzv0 := Try.zeroValue4
          have hft : (L.take (j + 1)).filter (keepB rs) = (L.take j).filter (keepB rs) ++ if keepB rs x then [x] else [] := by
            rw [List.take_add_one, hx]; simp [List.filter_cons]
          have hfl : ((L.take j).filter (keepB rs)).length ≤ 20 := by
            have h1 := List.length_filter_le (keepB rs) (L.take j)
            rw [List.length_take] at h1; omega
          have hcx : Cel 9 [x.v] := celIt [x] (fun y hy => by rw [List.mem_singleton.1 hy]; exact hok x hxm)
          obtain ⟨q, hq⟩ : ∃ q, (L.take j).filter (keepB rs) = q := ⟨_, rfl⟩
          rw [hq] at hft hfl ⊢
          have hl1 : (q.map It2.v).length + 1 ≤ maxLen := by unfold maxLen; rw [List.length_map]; omega
          have hl2 : ((q.map It2.v).length + 1) * 88 ≤ 140737488355328 := by rw [List.length_map]; omega
          clear hkp ac hI hok hri
          cases hkb : decide (x.id ∈ rs) with
          | true =>
            rw [hkb] at hgt
            have hkb2 : keepB rs x = false := by unfold keepB; rw [hkb]; rfl
            rw [hkb2] at hft
            simp only [Bool.false_eq_true, if_false, List.append_nil] at hft
            repeat' (first
    | ((first | with_reducible refine nl_op rfl ?_ | refine nd_go rfl rfl rfl ?_); intro K hK; (first
      | ((first | refine on_E hF rfl rfl ?_ | refine od_E rfl rfl ?_ | refine od_R rfl rfl ?_); (first | refine ⟨_, yl_lookupX (k := 3) (e := 4) hgt rfl rfl rfl (by kernel_rfl) hzv0 hxw a_has, ?_⟩ | refine ⟨_, a_yl, ?_⟩ | refine ⟨_, yl_fieldB (T := 27) (f := 0) (q := 0) rfl rfl (by kernel_rfl), ?_⟩ | refine ⟨_, yl_fieldE (T := 27) (f := 0) (j := 0) rfl rfl a_sl (by (first | omega | (simp only [List.length_append, List.length_cons, List.length_nil, List.length_map] at *; omega))) (by kernel_rfl), ?_⟩))
      | ((first | refine on_Ec hF rfl rfl ?_ | refine od_Ec rfl rfl ?_); refine ⟨_, _, _, a_yc, ?_, ?_⟩ <;> (intro hc; try (exfalso; first | (omega; done) | exact absurd (by with_reducible rfl) hc | (simp at hc; done))))
      | ((first | (refine od_act (fun c => by exact (fun h => by cases h)) ?_; intro K2 hK2) | refine od_last (fun c => by exact (fun h => by cases h)) ?_ | skip); (first
      
      | (refine on_buildSlice (T := 22) (e := 27) (k := 9) (by_ := 88) hF rfl rfl rfl rfl rfl rfl (by kernel_rfl) a_cel (Nat.le_of_ble_eq_true rfl) (fun b => ?_))
      | (refine on_append (T := 22) (e := 27) (k := 9) (by_ := 88) hF rfl rfl rfl rfl rfl a_pick (by kernel_rfl) a_sl a_cel (by first | omega | (unfold maxLen; simp only [List.length_map, List.length_append, List.length_cons, List.length_nil, List.length_replicate]; omega) | (simp only [List.length_map, List.length_append, List.length_cons, List.length_nil, List.length_replicate]; omega)) (by first | omega | (unfold maxLen; simp only [List.length_map, List.length_append, List.length_cons, List.length_nil, List.length_replicate]; omega) | (simp only [List.length_map, List.length_append, List.length_cons, List.length_nil, List.length_replicate]; omega)) (fun v => ?_))
      | (refine on_alloc hF rfl Try.zeroValue4 rfl rfl (fun B => ?_))
      | (refine on_alloc hF rfl Try.zeroValue22 rfl rfl (fun B => ?_))
      | (refine on_alloc hF rfl Try.zeroValue27 rfl rfl (fun B => ?_))
      | (refine on_box hF rfl rfl rfl rfl (fun B => ?_))
      | (refine on_store hF rfl rfl rfl rfl a_turn a_vof (by first | rfl | exact hsz.symm | exact hsz) ?_)
      | (refine on_storeE hF rfl rfl rfl rfl a_turn (by (first | omega | (simp only [List.length_append, List.length_cons, List.length_nil, List.length_map] at *; omega))) a_vof (by first | rfl | exact hsz) ?_)
      | (refine on_storeEF hF rfl rfl rfl rfl a_turn (by first | with_reducible assumption | rfl) (by decide) a_vof rfl ?_)
      | (refine on_storeF hF rfl rfl rfl rfl a_turn (by decide) a_vof rfl ?_)) <;> try (refine hK2 _ _ _ a_allK ?_; clear hK2 K2))) <;> (refine hK _ _ _ ?_; clear hK K))
    | with_reducible refine nx_seq ?_
        | with_reducible refine nx_region ?_
        | with_reducible refine nl_nil ?_
        | with_reducible refine nq_then_n ?_
        | with_reducible refine nx_block ?_
        | with_reducible refine nx_skip ?_
        | with_reducible refine nx_exit ?_
        | with_reducible refine nx_ret ?_
        | with_reducible refine nq_then_x ?_
        | with_reducible refine nq_then_r ?_
        | with_reducible refine nq_blk_n ?_
        | with_reducible refine nq_blk_r ?_
        | with_reducible refine nq_blk_hit ?_
        | with_reducible refine nq_blk_miss rfl ?_
        | with_reducible refine nd_nil ?_
    | refine nx_cond_t rfl ?_ | refine nx_cond_f rfl ?_
    | refine nl_pass hF rfl rfl rfl ?_
    | refine nd_pass rfl rfl rfl rfl rfl ?_
    | refine nd_pass2 rfl rfl rfl (fun c => by exact (fun h => by cases h)) a_allK rfl rfl ?_
    | refine nd_pass3 rfl rfl rfl (fun c => by exact (fun h => by cases h)) rfl rfl ?_
    | (with_reducible refine hQ1 _ _ _ ?_; clear hQ1 Q1)
    )
            all_goals (try (exfalso; dsimp only at *; omega))
            rw [← hft]
            refine nx_again (⟨j + 1, by omega⟩, ⟨u, hu⟩) (by dsimp only; omega) (by exact a_sub) (by exact a_subR) (by exact a_holds)
          | false =>
            rw [hkb] at hgt
            have hkb2 : keepB rs x = true := by unfold keepB; rw [hkb]; rfl
            rw [hkb2] at hft
            simp only [if_true] at hft
            repeat' (first
    | ((first | with_reducible refine nl_op rfl ?_ | refine nd_go rfl rfl rfl ?_); intro K hK; (first
      | ((first | refine on_E hF rfl rfl ?_ | refine od_E rfl rfl ?_ | refine od_R rfl rfl ?_); (first | refine ⟨_, yl_lookupX (k := 3) (e := 4) hgt rfl rfl rfl (by kernel_rfl) hzv0 hxw a_has, ?_⟩ | refine ⟨_, a_yl, ?_⟩ | refine ⟨_, yl_fieldB (T := 27) (f := 0) (q := 0) rfl rfl (by kernel_rfl), ?_⟩ | refine ⟨_, yl_fieldE (T := 27) (f := 0) (j := 0) rfl rfl a_sl (by (first | omega | (simp only [List.length_append, List.length_cons, List.length_nil, List.length_map] at *; omega))) (by kernel_rfl), ?_⟩))
      | ((first | refine on_Ec hF rfl rfl ?_ | refine od_Ec rfl rfl ?_); refine ⟨_, _, _, a_yc, ?_, ?_⟩ <;> (intro hc; try (exfalso; first | (omega; done) | exact absurd (by with_reducible rfl) hc | (simp at hc; done))))
      | ((first | (refine od_act (fun c => by exact (fun h => by cases h)) ?_; intro K2 hK2) | refine od_last (fun c => by exact (fun h => by cases h)) ?_ | skip); (first
      | (refine on_buildSlice (e := 27) (k := 9) (by_ := 88) (vs := [x.v]) hF rfl rfl rfl rfl rfl rfl (by kernel_rfl) hcx (Nat.le_of_ble_eq_true rfl) (fun bq => ?_))
      | (refine on_append (e := 27) (k := 9) (by_ := 88) (xs := q.map It2.v) (ys := [x.v]) hF rfl rfl rfl rfl rfl a_pick (by kernel_rfl) a_sl hcx hl1 hl2 (fun v2 => ?_)) | (refine on_store hF rfl rfl rfl rfl (by exact a_turn) (vof_slice (by kernel_rfl) v2.2) (by obtain ⟨_, _, _, e⟩ := v2.2; rw [e, hsu]; rfl) ?_)
      | (refine on_buildSlice (T := 22) (e := 27) (k := 9) (by_ := 88) hF rfl rfl rfl rfl rfl rfl (by kernel_rfl) a_cel (Nat.le_of_ble_eq_true rfl) (fun b => ?_))
      | (refine on_append (T := 22) (e := 27) (k := 9) (by_ := 88) hF rfl rfl rfl rfl rfl a_pick (by kernel_rfl) a_sl a_cel (by first | omega | (unfold maxLen; simp only [List.length_map, List.length_append, List.length_cons, List.length_nil, List.length_replicate]; omega) | (simp only [List.length_map, List.length_append, List.length_cons, List.length_nil, List.length_replicate]; omega)) (by first | omega | (unfold maxLen; simp only [List.length_map, List.length_append, List.length_cons, List.length_nil, List.length_replicate]; omega) | (simp only [List.length_map, List.length_append, List.length_cons, List.length_nil, List.length_replicate]; omega)) (fun v => ?_))
      | (refine on_alloc hF rfl Try.zeroValue4 rfl rfl (fun B => ?_))
      | (refine on_alloc hF rfl Try.zeroValue22 rfl rfl (fun B => ?_))
      | (refine on_alloc hF rfl Try.zeroValue27 rfl rfl (fun B => ?_))
      | (refine on_box hF rfl rfl rfl rfl (fun B => ?_))
      | (refine on_store hF rfl rfl rfl rfl a_turn a_vof (by first | rfl | exact hsz.symm | exact hsz) ?_)
      | (refine on_storeE hF rfl rfl rfl rfl a_turn (by (first | omega | (simp only [List.length_append, List.length_cons, List.length_nil, List.length_map] at *; omega))) a_vof (by first | rfl | exact hsz) ?_)
      | (refine on_storeEF hF rfl rfl rfl rfl a_turn (by first | with_reducible assumption | rfl) (by decide) a_vof rfl ?_)
      | (refine on_storeF hF rfl rfl rfl rfl a_turn (by decide) a_vof rfl ?_)) <;> try (refine hK2 _ _ _ a_allK ?_; clear hK2 K2))) <;> (refine hK _ _ _ ?_; clear hK K))
    | with_reducible refine nx_seq ?_
        | with_reducible refine nx_region ?_
        | with_reducible refine nl_nil ?_
        | with_reducible refine nq_then_n ?_
        | with_reducible refine nx_block ?_
        | with_reducible refine nx_skip ?_
        | with_reducible refine nx_exit ?_
        | with_reducible refine nx_ret ?_
        | with_reducible refine nq_then_x ?_
        | with_reducible refine nq_then_r ?_
        | with_reducible refine nq_blk_n ?_
        | with_reducible refine nq_blk_r ?_
        | with_reducible refine nq_blk_hit ?_
        | with_reducible refine nq_blk_miss rfl ?_
        | with_reducible refine nd_nil ?_
    | refine nx_cond_t rfl ?_ | refine nx_cond_f rfl ?_
    | refine nl_pass hF rfl rfl rfl ?_
    | refine nd_pass rfl rfl rfl rfl rfl ?_
    | refine nd_pass2 rfl rfl rfl (fun c => by exact (fun h => by cases h)) a_allK rfl rfl ?_
    | refine nd_pass3 rfl rfl rfl (fun c => by exact (fun h => by cases h)) rfl rfl ?_
    | (with_reducible refine hQ1 _ _ _ ?_; clear hQ1 Q1)
    )
            all_goals (try (exfalso; dsimp only at *; omega))
            rw [show q.map It2.v ++ [x.v] = ((L.take (j + 1)).filter (keepB rs)).map It2.v by rw [hft]; simp]
            refine nx_again (⟨j + 1, by omega⟩, v2) (by dsimp only; omega) (by exact a_sub) (by exact a_subR) (by exact a_holds)
        · rw [List.take_of_length_le (by omega)]
          obtain ⟨K, hK⟩ : ∃ K, L.filter (keepB rs) = K := ⟨_, rfl⟩
          rw [hK] at hkp ⊢
          clear hK hri hI
          have hu0 := hu
          obtain ⟨ua, un, uc, rfl⟩ := hu
          refine nx_frz (BoxC b8 22 (.slice ua un uc)) (by exact a_pick) ?_
          refine nx_frzRow (e := 27) (k := 9) (v := .slice ua un uc) (xs := K.map It2.v) (by exact a_pick) ?_
          have hvi : ∀ x ∈ (allL L).map (Value.int .i64), VOf Try.prog 3 x := fun x hx => by obtain ⟨i, _, rfl⟩ := List.mem_map.1 hx; exact vof1 (by kernel_rfl) rfl rfl
          have hit := fun q : SV × Nat => NInt.vals_it q.2 q.1.1 ((allL L).map (.int .i64)) hvi q.1.2 (by unfold maxLen; rw [List.length_map]; omega)
          repeat' (first
    | ((first | with_reducible refine nl_op rfl ?_ | refine nd_go rfl rfl rfl ?_); intro K hK; (first
      | ((first | refine on_E hF rfl rfl ?_ | refine od_E rfl rfl ?_ | refine od_R rfl rfl ?_); (first | refine ⟨_, a_yl, ?_⟩ | refine ⟨_, yl_fieldB (T := 27) (f := 0) (q := 0) rfl rfl (by kernel_rfl), ?_⟩ | refine ⟨_, yl_fieldE (T := 27) (f := 0) (j := 0) rfl rfl a_sl (by (first | omega | (simp only [List.length_append, List.length_cons, List.length_nil, List.length_map] at *; omega))) (by kernel_rfl), ?_⟩))
      | ((first | refine on_Ec hF rfl rfl ?_ | refine od_Ec rfl rfl ?_); refine ⟨_, _, _, a_yc, ?_, ?_⟩ <;> (intro hc; try (exfalso; first | (omega; done) | exact absurd (by with_reducible rfl) hc | (simp at hc; done))))
      | ((first | (refine od_act (fun c => by exact (fun h => by cases h)) ?_; intro K2 hK2) | refine od_last (fun c => by exact (fun h => by cases h)) ?_ | skip); (first
      | (refine on_callG hF (enters_of Try.func15 (by kernel_rfl) rfl) rfl rfl rfl rfl (ac _ _ _ _ (by exact a_mem)) (fun q => ?_))
      | (refine on_buildSlice (T := 22) (e := 27) (k := 9) (by_ := 88) hF rfl rfl rfl rfl rfl rfl (by kernel_rfl) a_cel (Nat.le_of_ble_eq_true rfl) (fun b => ?_))
      | (refine on_append (T := 22) (e := 27) (k := 9) (by_ := 88) hF rfl rfl rfl rfl rfl a_pick (by kernel_rfl) a_sl a_cel (by first | omega | (unfold maxLen; simp only [List.length_map, List.length_append, List.length_cons, List.length_nil, List.length_replicate]; omega) | (simp only [List.length_map, List.length_append, List.length_cons, List.length_nil, List.length_replicate]; omega)) (by first | omega | (unfold maxLen; simp only [List.length_map, List.length_append, List.length_cons, List.length_nil, List.length_replicate]; omega) | (simp only [List.length_map, List.length_append, List.length_cons, List.length_nil, List.length_replicate]; omega)) (fun v => ?_))
      | (refine on_alloc hF rfl Try.zeroValue4 rfl rfl (fun B => ?_))
      | (refine on_alloc hF rfl Try.zeroValue22 rfl rfl (fun B => ?_))
      | (refine on_alloc hF rfl Try.zeroValue27 rfl rfl (fun B => ?_))
      | (refine on_box hF rfl rfl rfl rfl (fun B => ?_))
      | (refine on_store hF rfl rfl rfl rfl a_turn a_vof (by first | rfl | exact hsz.symm | exact hsz) ?_)
      | (refine on_storeE hF rfl rfl rfl rfl a_turn (by (first | omega | (simp only [List.length_append, List.length_cons, List.length_nil, List.length_map] at *; omega))) a_vof (by first | rfl | exact hsz) ?_)
      | (refine on_storeEF hF rfl rfl rfl rfl a_turn (by first | with_reducible assumption | rfl) (by decide) a_vof rfl ?_)
      | (refine on_storeF hF rfl rfl rfl rfl a_turn (by decide) a_vof rfl ?_)) <;> try (refine hK2 _ _ _ a_allK ?_; clear hK2 K2))) <;> (refine hK _ _ _ ?_; clear hK K))
    | with_reducible refine nx_seq ?_
        | with_reducible refine nx_region ?_
        | with_reducible refine nl_nil ?_
        | with_reducible refine nq_then_n ?_
        | with_reducible refine nx_block ?_
        | with_reducible refine nx_skip ?_
        | with_reducible refine nx_exit ?_
        | with_reducible refine nx_ret ?_
        | with_reducible refine nq_then_x ?_
        | with_reducible refine nq_then_r ?_
        | with_reducible refine nq_blk_n ?_
        | with_reducible refine nq_blk_r ?_
        | with_reducible refine nq_blk_hit ?_
        | with_reducible refine nq_blk_miss rfl ?_
        | with_reducible refine nd_nil ?_
    | refine nx_cond_t rfl ?_ | refine nx_cond_f rfl ?_
    | refine nl_pass hF rfl rfl rfl ?_
    | refine nd_pass rfl rfl rfl rfl rfl ?_
    | refine nd_pass2 rfl rfl rfl (fun c => by exact (fun h => by cases h)) a_allK rfl rfl ?_
    | refine nd_pass3 rfl rfl rfl (fun c => by exact (fun h => by cases h)) rfl rfl ?_
    | (with_reducible refine hQ1 _ _ _ ?_; clear hQ1 Q1)
    )
          all_goals (try (exfalso; dsimp only at *; omega))
          obtain ⟨b11, hb11⟩ : ∃ b11, b11 = B := ⟨_, rfl⟩
          subst hb11
          have hit2 := hit q
          clear hit ac
          refine nx_lk (l' := [(11, ptr b11), (54, NInt.ofV q.2), (55, .func (.func 16) #[] #[ptr b3, ptr b2, ptr b8, ptr b11])]) (by exact a_sub) ?_
          refine on_iter (gy := 16) (lbY := [ptr b3, ptr b2, ptr b8, ptr b11]) hF hit2 rfl rfl rfl rfl rfl (enters_of Try.func16 (by kernel_rfl) rfl) (by exact a_subR) [BoxC b2 22 (.slice sa (L.map It2.v).length sc), BoxC b3 3 (.int .i64 c), BoxC b8 22 (.slice ua un uc), SlC 9 (.slice sa (L.map It2.v).length sc) (L.map It2.v), SlC 9 (.slice ua un uc) (K.map It2.v)] (by exact a_subR) (fun _ (_ : Unit) => True) (fun _ _ => [BoxC b11 4 (.bool true)]) (fun _ (_ : Unit) => False) (fun _ _ => []) () trivial (List.Perm.refl _) (fun pre x post hx vs hv i hp W0 X R2 E hR2 => law1_round _ _ hs0 hu0 L K c hcc hkp b2 b3 b8 b11 (hR2 _ (by simp)) (hR2 _ (by simp)) (hR2 _ (by simp)) (hR2 _ (by simp)) (hR2 _ (by simp)) pre x post hx vs hv) (fun _ hd => ?_) (fun pre x post hx _ hd => hd.elim)
          simp only [List.cons_append, List.nil_append]
          repeat' (first
    | ((first | with_reducible refine nl_op rfl ?_ | refine nd_go rfl rfl rfl ?_); intro K hK; (first
      | ((first | refine on_E hF rfl rfl ?_ | refine od_E rfl rfl ?_ | refine od_R rfl rfl ?_); (first | refine ⟨_, a_yl, ?_⟩ | refine ⟨_, yl_fieldB (T := 27) (f := 0) (q := 0) rfl rfl (by kernel_rfl), ?_⟩ | refine ⟨_, yl_fieldE (T := 27) (f := 0) (j := 0) rfl rfl a_sl (by (first | omega | (simp only [List.length_append, List.length_cons, List.length_nil, List.length_map] at *; omega))) (by kernel_rfl), ?_⟩))
      | ((first | refine on_Ec hF rfl rfl ?_ | refine od_Ec rfl rfl ?_); refine ⟨_, _, _, a_yc, ?_, ?_⟩ <;> (intro hc; try (exfalso; first | (omega; done) | exact absurd (by with_reducible rfl) hc | (simp at hc; done))))
      | ((first | (refine od_act (fun c => by exact (fun h => by cases h)) ?_; intro K2 hK2) | refine od_last (fun c => by exact (fun h => by cases h)) ?_ | skip); (first
      
      | (refine on_buildSlice (T := 22) (e := 27) (k := 9) (by_ := 88) hF rfl rfl rfl rfl rfl rfl (by kernel_rfl) a_cel (Nat.le_of_ble_eq_true rfl) (fun b => ?_))
      | (refine on_append (T := 22) (e := 27) (k := 9) (by_ := 88) hF rfl rfl rfl rfl rfl a_pick (by kernel_rfl) a_sl a_cel (by first | omega | (unfold maxLen; simp only [List.length_map, List.length_append, List.length_cons, List.length_nil, List.length_replicate]; omega) | (simp only [List.length_map, List.length_append, List.length_cons, List.length_nil, List.length_replicate]; omega)) (by first | omega | (unfold maxLen; simp only [List.length_map, List.length_append, List.length_cons, List.length_nil, List.length_replicate]; omega) | (simp only [List.length_map, List.length_append, List.length_cons, List.length_nil, List.length_replicate]; omega)) (fun v => ?_))
      | (refine on_alloc hF rfl Try.zeroValue4 rfl rfl (fun B => ?_))
      | (refine on_alloc hF rfl Try.zeroValue22 rfl rfl (fun B => ?_))
      | (refine on_alloc hF rfl Try.zeroValue27 rfl rfl (fun B => ?_))
      | (refine on_box hF rfl rfl rfl rfl (fun B => ?_))
      | (refine on_store hF rfl rfl rfl rfl a_turn a_vof (by first | rfl | exact hsz.symm | exact hsz) ?_)
      | (refine on_storeE hF rfl rfl rfl rfl a_turn (by (first | omega | (simp only [List.length_append, List.length_cons, List.length_nil, List.length_map] at *; omega))) a_vof (by first | rfl | exact hsz) ?_)
      | (refine on_storeEF hF rfl rfl rfl rfl a_turn (by first | with_reducible assumption | rfl) (by decide) a_vof rfl ?_)
      | (refine on_storeF hF rfl rfl rfl rfl a_turn (by decide) a_vof rfl ?_)) <;> try (refine hK2 _ _ _ a_allK ?_; clear hK2 K2))) <;> (refine hK _ _ _ ?_; clear hK K))
    | with_reducible refine nx_seq ?_
        | with_reducible refine nx_region ?_
        | with_reducible refine nl_nil ?_
        | with_reducible refine nq_then_n ?_
        | with_reducible refine nx_block ?_
        | with_reducible refine nx_skip ?_
        | with_reducible refine nx_exit ?_
        | with_reducible refine nx_ret ?_
        | with_reducible refine nq_then_x ?_
        | with_reducible refine nq_then_r ?_
        | with_reducible refine nq_blk_n ?_
        | with_reducible refine nq_blk_r ?_
        | with_reducible refine nq_blk_hit ?_
        | with_reducible refine nq_blk_miss rfl ?_
        | with_reducible refine nd_nil ?_
    | refine nx_cond_t rfl ?_ | refine nx_cond_f rfl ?_
    | refine nl_pass hF rfl rfl rfl ?_
    | refine nd_pass rfl rfl rfl rfl rfl ?_
    | refine nd_pass2 rfl rfl rfl (fun c => by exact (fun h => by cases h)) a_allK rfl rfl ?_
    | refine nd_pass3 rfl rfl rfl (fun c => by exact (fun h => by cases h)) rfl rfl ?_
    | (with_reducible refine hQ1 _ _ _ ?_; clear hQ1 Q1)
    )
          refine nx_end [] rfl () (fun a w ha hw => res_tmp Try.results4 rfl ha) (by exact a_subR) (by exact a_holds2)
  · refine calls_nx Try.func4 rfl Try.ntmps4 rfl ?_ hw
    repeat' (first
    | ((first | with_reducible refine nl_op rfl ?_ | refine nd_go rfl rfl rfl ?_); intro K hK; (first
      | ((first | refine on_E hF rfl rfl ?_ | refine od_E rfl rfl ?_ | refine od_R rfl rfl ?_); (first | refine ⟨_, a_yl, ?_⟩ | refine ⟨_, yl_fieldB (T := 27) (f := 0) (q := 0) rfl rfl (by kernel_rfl), ?_⟩ | refine ⟨_, yl_fieldE (T := 27) (f := 0) (j := 0) rfl rfl a_sl (by (first | omega | (simp only [List.length_append, List.length_cons, List.length_nil, List.length_map] at *; omega))) (by kernel_rfl), ?_⟩))
      | ((first | refine on_Ec hF rfl rfl ?_ | refine od_Ec rfl rfl ?_); refine ⟨_, _, _, a_yc, ?_, ?_⟩ <;> (intro hc; try (exfalso; first | (omega; done) | exact absurd (by with_reducible rfl) hc | (simp at hc; done))))
      | ((first | (refine od_act (fun c => by exact (fun h => by cases h)) ?_; intro K2 hK2) | refine od_last (fun c => by exact (fun h => by cases h)) ?_ | skip); (first
      | (refine on_callG hF (enters_of Try.func12 (by kernel_rfl) rfl) rfl rfl rfl rfl first_ct (fun _ => ?_))
      | (refine on_callG hF (enters_of Try.func13 (by kernel_rfl) rfl) rfl rfl rfl rfl (fc _ _ _ _ (by exact a_mem)) (fun i => ?_); obtain ⟨bf, hbf⟩ := i; dsimp only; cases bf)
      | (refine on_buildSlice (T := 22) (e := 27) (k := 9) (by_ := 88) hF rfl rfl rfl rfl rfl rfl (by kernel_rfl) a_cel (Nat.le_of_ble_eq_true rfl) (fun b => ?_))
      | (refine on_append (T := 22) (e := 27) (k := 9) (by_ := 88) hF rfl rfl rfl rfl rfl a_pick (by kernel_rfl) a_sl a_cel (by first | omega | (unfold maxLen; simp only [List.length_map, List.length_append, List.length_cons, List.length_nil, List.length_replicate]; omega) | (simp only [List.length_map, List.length_append, List.length_cons, List.length_nil, List.length_replicate]; omega)) (by first | omega | (unfold maxLen; simp only [List.length_map, List.length_append, List.length_cons, List.length_nil, List.length_replicate]; omega) | (simp only [List.length_map, List.length_append, List.length_cons, List.length_nil, List.length_replicate]; omega)) (fun v => ?_))
      | (refine on_alloc hF rfl Try.zeroValue4 rfl rfl (fun B => ?_))
      | (refine on_alloc hF rfl Try.zeroValue22 rfl rfl (fun B => ?_))
      | (refine on_alloc hF rfl Try.zeroValue27 rfl rfl (fun B => ?_))
      | (refine on_box hF rfl rfl rfl rfl (fun B => ?_))
      | (refine on_store hF rfl rfl rfl rfl a_turn a_vof (by first | rfl | exact hsz.symm | exact hsz) ?_)
      | (refine on_storeE hF rfl rfl rfl rfl a_turn (by (first | omega | (simp only [List.length_append, List.length_cons, List.length_nil, List.length_map] at *; omega))) a_vof (by first | rfl | exact hsz) ?_)
      | (refine on_storeEF hF rfl rfl rfl rfl a_turn (by first | with_reducible assumption | rfl) (by decide) a_vof rfl ?_)
      | (refine on_storeF hF rfl rfl rfl rfl a_turn (by decide) a_vof rfl ?_)) <;> try (refine hK2 _ _ _ a_allK ?_; clear hK2 K2))) <;> (refine hK _ _ _ ?_; clear hK K))
    | with_reducible refine nx_seq ?_
        | with_reducible refine nx_region ?_
        | with_reducible refine nl_nil ?_
        | with_reducible refine nq_then_n ?_
        | with_reducible refine nx_block ?_
        | with_reducible refine nx_skip ?_
        | with_reducible refine nx_exit ?_
        | with_reducible refine nx_ret ?_
        | with_reducible refine nq_then_x ?_
        | with_reducible refine nq_then_r ?_
        | with_reducible refine nq_blk_n ?_
        | with_reducible refine nq_blk_r ?_
        | with_reducible refine nq_blk_hit ?_
        | with_reducible refine nq_blk_miss rfl ?_
        | with_reducible refine nd_nil ?_
    | refine nx_cond_t rfl ?_ | refine nx_cond_f rfl ?_
    | refine nl_pass hF rfl rfl rfl ?_
    | refine nd_pass rfl rfl rfl rfl rfl ?_
    | refine nd_pass2 rfl rfl rfl (fun c => by exact (fun h => by cases h)) a_allK rfl rfl ?_
    | refine nd_pass3 rfl rfl rfl (fun c => by exact (fun h => by cases h)) rfl rfl ?_
    | (with_reducible refine hQ1 _ _ _ ?_; clear hQ1 Q1)
    )
    all_goals (first
      | (exfalso; dsimp only at *; omega)
      | refine nx_end [] rfl () (fun a w ha hw => res_tmp Try.results4 rfl ha) (by exact a_subR) (by exact a_holds2))
end Law24
end Go.Proofs.Ytinofjenoapeaaa
end

section
namespace Go.Proofs.Ytinofjenoapeaaa.pruneKeeps
open Go.ChangeShapes Go.WideShapes Go.ChangeAt Go.RowKit
open Go.ChangeMaps (open_string shut_string)
set_option linter.unusedVariables false
open Go.Proofs.Ytinofjenoapeaaa
theorem own : ownKnob Try.prog.godebug = none := by kernel_rfl
theorem laidOut : laidOutB Try.prog = true := by kernel_rfl
set_option maxRecDepth 100000 in
theorem lifted (os : Os) (started : os.Started) (H : Type) (enc : TypeId × Value → H) :
    ReturnsInHanded {} Try.checked os 4 .any (Rows.pruneKeepsSpec.pre6 enc Try.prog Try.f4 Rows.pruneKeepsRow.domain false) (Rows.pruneKeepsSpec.post enc Try.prog Try.f4 false true false false) := by
  refine returnsInHanded_of_change_sized (C := Try.checked) own started (by kernel_rfl) Try.func4
    (ChangeSpec.witness6 (enc := enc) (C := Try.checked) false ⟨#[], #[.slice none 0 0, .int .i64 0], []⟩ 8 (by kernel_rfl) (by kernel_rfl) (by kernel_rfl) (by kernel_rfl)) ?_
  intro W base args ds gs before hval0 hW hcnd hsz0 _
  have hsz : (DataW.weightsEach Try.prog (Try.f4.params.toList ++ Rows.pruneKeepsSpec.plain.varTypes Try.prog) (ds ++ gs)).all (· ≤ reachBytes) = true := hsz0
  have hval : ∀ (j : Nat) t v, Try.f4.params[j]? = some t → args[j]? = some v → Value.okWide Try.prog W .any base t v := hval0
  have hW' := hW
  obtain ⟨p, q, hA0, hV, rfl, hfz, hnd⟩ := hW
  have hA : DataW.TrodAll enc Try.prog W 0 (fun _ => true) true Try.f4.params.toList args.toList ds p := hA0
  rw [Try.params4] at hA hval hsz
  obtain ⟨v0, vs0, d0, ds0, p0, q0, hargs, rfl, rfl, h0, r0⟩ := trodAll_cons hA
  obtain ⟨v1, vs1, d1, ds1, p1, q1, rfl, rfl, rfl, h1, r1⟩ := trodAll_cons r0
  obtain ⟨rfl, rfl, rfl⟩ := trodAll_nil r1
  obtain rfl : args = #[v0, v1] := by cases args; simp_all
  obtain ⟨rfl, rfl⟩ := trodVars_none hV
  have k0 := h0
  have lt0 : ∀ x ∈ p0, x.block < W.heap.size := by obtain ⟨m, hm⟩ := k0; exact DataW.trod_lt m _ _ _ hm
  obtain ⟨a0, len0, cap0, rfl⟩ := okWide_slice Try.underlying22 (hval 0 22 v0 rfl rfl)
  obtain ⟨L0, I0, l0⟩ := its_open h0
  have z0 := slice_bound hsz (j := 0) rfl rfl Try.underlying22 (by kernel_rfl : _ = 88) h0
  obtain ⟨a1, rfl, rfl, rfl, w1⟩ := open_int Try.underlying3 (hval 1 3 v1 rfl rfl) h1
  clear hA0 hval0 hsz0 hsz
  refine ((Ct.retB (v := .bool true) (R := [SlC 9 (.slice a0 len0 cap0) (L0.map It2.v)]) (Law24.law_ct _ ⟨_, _, _, rfl⟩ L0 I0.ok (fun x hx => (I0.wf x hx).id) a1 List.mem_cons_self (by omega)) I0.ch)).mono fun e W' ⟨he, bel⟩ => ?_
  subst he
  exact ⟨_, rfl, _, _, _, [], _, [], hW', trodAll_mk1 (shut_bool Try.underlying4 _), (trodAll_cons_mk (Below.trod laidOut (by kernel_rfl) (of_decide_eq_true (by kernel_rfl)) k0 bel lt0) (trodAll_cons_mk (shut_int Try.underlying3 w1) trodAll_mk0)), rfl, bel.frame _, fun h => by cases h⟩
theorem over : Rows.pruneKeepsRow.holds Try.pinned (OpenSpec.ofChange Rows.pruneKeepsSpec) :=
  OpenClaim.holds_of_wide 4 Try.f4 rfl rfl rfl rfl rfl rfl rfl ⟨rfl, rfl, rfl, rfl, rfl⟩ rfl rfl rfl rfl rfl (by kernel_rfl) Try.func4 (by kernel_rfl)
    (of_decide_eq_true (by kernel_rfl)) (by unfold Func.isWrapper; first | (rw [if_pos (by decide +kernel)]; kernel_rfl) | (rw [if_neg (by decide +kernel)]; exact ⟨rfl, rfl⟩))
    (fun os started H enc _ => lifted os started H enc)
theorem proved : Rows.PruneKeepsSaid := over
end Go.Proofs.Ytinofjenoapeaaa.pruneKeeps
namespace Go.Proofs.Ytinofjenoapeaaa
/-- The row, under a short name, for the claim. -/
theorem pruneKeeps_holds : Rows.PruneKeepsSaid := pruneKeeps.proved
end Go.Proofs.Ytinofjenoapeaaa
end
