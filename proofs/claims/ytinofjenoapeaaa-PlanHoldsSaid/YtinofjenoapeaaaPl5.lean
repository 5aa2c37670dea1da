/- The contracts of plan.Kept and plan.Range. Condition: few items whose extents are a slice, a timeline that is small, and commits in range. -/
import Derived.Test.YtinofjenoapeaaaPl3
import Derived.Test.YtinofjenoapeaaaPl4
namespace Go.Proofs.Ytinofjenoapeaaa
open Go.RowKit Go.Shelf
set_option linter.unusedSimpArgs false
set_option linter.unusedVariables false
namespace Pl
open Li
variable {W0 : World} {X : Nat → Prop} {R C : List Ch}
theorem yl_subE {P : Program} {G : World → Prop} {m : Nat} {l : List (Nat × Value)} {d : List Deferred} {o : Oper} {T T2 : TypeId} {x y : Operand} {i j z : Int} (hz : i - j = z) (hb : -9223372036854775808 ≤ i - j ∧ i - j ≤ 9223372036854775807) (ho : o.op = .binOp .sub T x y T2) (hx : ev l x = some (.int .i64 i)) (hy : ev l y = some (.int .i64 j)) : Yl P G m l d o (.int .i64 z) := hz ▸ yl_sub ho hx hy hb
def keptB (L : List It2) (t n : Int) : Bool := (findP L t n).isSome
set_option maxRecDepth 100000 in
set_option maxHeartbeats 4000000 in
theorem kept_ct (s : Value) (hs : IsSl s) (L : List It2) (hok : ∀ x ∈ L, x.ok) (t n : Int) (ht : t ≤ 1099511627776) (hsl : SlC 9 s (L.map It2.v) ∈ R) (hm : L.length ≤ 1000) :
    Ct Try.prog 11 [s, .int .i64 t, .int .i64 n] W0 X R C Unit (fun _ => .bool (keptB L t n)) (fun _ => R) (fun _ => C) := by
  intro w hw
  have hF := isWide_wide
  have fc := fun (W0 : World) (X : Nat → Prop) (R C : List Ch) h => find_ct (W0 := W0) (X := X) (R := R) (C := C) s hs L hok t n ht h hm
  unfold keptB
  obtain ⟨r, hr⟩ : ∃ r, findP L t n = r := ⟨_, rfl⟩
  rw [hr] at fc ⊢
  clear hr
  cases r with
  | none =>
    have hvz : ∀ i : SV × SV × SV, VOf Try.prog 43 (planV nilV nilV nilV 0 0) := fun i => vofPlan ⟨_, _, _, rfl⟩ ⟨_, _, _, rfl⟩ ⟨_, _, _, rfl⟩ 0 0
    unfold findRet findC at fc
    dsimp only at fc
    refine calls_nx Try.func11 rfl Try.ntmps11 rfl ?_ hw
    repeat' (first
    | ((first | with_reducible refine nl_op rfl ?_ | refine nd_go rfl rfl rfl ?_); intro K hK; (first
      | ((first | refine on_E hF rfl rfl ?_ | refine od_E rfl rfl ?_ | refine od_R rfl rfl ?_); (first | refine ⟨_, a_yl, ?_⟩))
      | ((first | refine on_Ec hF rfl rfl ?_ | refine od_Ec rfl rfl ?_); refine ⟨_, _, _, a_yc, ?_, ?_⟩ <;> (intro hc; try (exfalso; first | (omega; done) | exact absurd (by with_reducible rfl) hc | (simp at hc; done))))
      | ((first | (refine od_act (fun c => by exact (fun h => by cases h)) ?_; intro K2 hK2) | refine od_last (fun c => by exact (fun h => by cases h)) ?_ | skip); (first
      | (refine on_callG hF (enters_of Try.func17 (by kernel_rfl) rfl) rfl rfl rfl rfl (fc _ _ _ _ (by exact a_mem)) (fun i => ?_); have hvi := hvz i)
      
      | (refine on_alloc hF rfl Try.zeroValue43 rfl rfl (fun B => ?_))
      | (refine on_box hF rfl rfl rfl rfl (fun B => ?_))
      | (refine on_store hF rfl rfl rfl rfl a_turn a_vof (by first | rfl | exact hsz.symm | exact hsz) ?_)
      | (refine on_storeE hF rfl rfl rfl rfl a_turn (by (first | omega | (simp only [List.length_append, List.length_cons, List.length_nil, List.length_map] at *; omega))) a_vof (by first | rfl | exact hsz) ?_)
      | (refine on_storeEF hF rfl rfl rfl rfl a_turn (by first | with_reducible assumption | rfl) (by decide) a_vof rfl ?_)
      | (refine on_storeF hF rfl rfl rfl rfl a_turn (by decide) a_vof rfl ?_)) <;> try (refine hK2 _ _ _ a_allK ?_; clear hK2 K2))) <;> (refine hK _ _ _ ?_; clear hK K))
    | with_reducible refine nx_seq ?_
        | with_reducible refine nx_region ?_
        | with_reducible refine nl_nil ?_
        | with_reducible refine nq_then_n ?_
        | with_reducible refine nx_block ?_
        | with_reducible refine nx_skip ?_
        | with_reducible refine nx_exit ?_
        | with_reducible refine nx_ret ?_
        | with_reducible refine nq_then_x ?_
        | with_reducible refine nq_then_r ?_
        | with_reducible refine nq_blk_n ?_
        | with_reducible refine nq_blk_r ?_
        | with_reducible refine nq_blk_hit ?_
        | with_reducible refine nq_blk_miss rfl ?_
        | with_reducible refine nd_nil ?_
    | refine nx_cond_t rfl ?_ | refine nx_cond_f rfl ?_
    | refine nl_pass hF rfl rfl rfl ?_
    | refine nd_pass rfl rfl rfl rfl rfl ?_
    | refine nd_pass2 rfl rfl rfl (fun c => by exact (fun h => by cases h)) a_allK rfl rfl ?_
    | refine nd_pass3 rfl rfl rfl (fun c => by exact (fun h => by cases h)) rfl rfl ?_
    | (with_reducible refine hQ1 _ _ _ ?_; clear hQ1 Q1)
    )
    refine nx_end [] rfl () (fun a w ha hw => res_tmp Try.results11 rfl ha) (by exact a_subR) (by exact a_holds2)
  | some p =>
    have hvz : ∀ i : SV × SV × SV, VOf Try.prog 43 (planV i.1.1 i.2.1.1 i.2.2.1 p.1.a n) := fun i => vofPlan i.1.2 i.2.1.2 i.2.2.2 _ _
    unfold findRet findC at fc
    dsimp only at fc
    refine calls_nx Try.func11 rfl Try.ntmps11 rfl ?_ hw
    repeat' (first
    | ((first | with_reducible refine nl_op rfl ?_ | refine nd_go rfl rfl rfl ?_); intro K hK; (first
      | ((first | refine on_E hF rfl rfl ?_ | refine od_E rfl rfl ?_ | refine od_R rfl rfl ?_); (first | refine ⟨_, a_yl, ?_⟩))
      | ((first | refine on_Ec hF rfl rfl ?_ | refine od_Ec rfl rfl ?_); refine ⟨_, _, _, a_yc, ?_, ?_⟩ <;> (intro hc; try (exfalso; first | (omega; done) | exact absurd (by with_reducible rfl) hc | (simp at hc; done))))
      | ((first | (refine od_act (fun c => by exact (fun h => by cases h)) ?_; intro K2 hK2) | refine od_last (fun c => by exact (fun h => by cases h)) ?_ | skip); (first
      | (refine on_callG hF (enters_of Try.func17 (by kernel_rfl) rfl) rfl rfl rfl rfl (fc _ _ _ _ (by exact a_mem)) (fun i => ?_); have hvi := hvz i)
      
      | (refine on_alloc hF rfl Try.zeroValue43 rfl rfl (fun B => ?_))
      | (refine on_box hF rfl rfl rfl rfl (fun B => ?_))
      | (refine on_store hF rfl rfl rfl rfl a_turn a_vof (by first | rfl | exact hsz.symm | exact hsz) ?_)
      | (refine on_storeE hF rfl rfl rfl rfl a_turn (by (first | omega | (simp only [List.length_append, List.length_cons, List.length_nil, List.length_map] at *; omega))) a_vof (by first | rfl | exact hsz) ?_)
      | (refine on_storeEF hF rfl rfl rfl rfl a_turn (by first | with_reducible assumption | rfl) (by decide) a_vof rfl ?_)
      | (refine on_storeF hF rfl rfl rfl rfl a_turn (by decide) a_vof rfl ?_)) <;> try (refine hK2 _ _ _ a_allK ?_; clear hK2 K2))) <;> (refine hK _ _ _ ?_; clear hK K))
    | with_reducible refine nx_seq ?_
        | with_reducible refine nx_region ?_
        | with_reducible refine nl_nil ?_
        | with_reducible refine nq_then_n ?_
        | with_reducible refine nx_block ?_
        | with_reducible refine nx_skip ?_
        | with_reducible refine nx_exit ?_
        | with_reducible refine nx_ret ?_
        | with_reducible refine nq_then_x ?_
        | with_reducible refine nq_then_r ?_
        | with_reducible refine nq_blk_n ?_
        | with_reducible refine nq_blk_r ?_
        | with_reducible refine nq_blk_hit ?_
        | with_reducible refine nq_blk_miss rfl ?_
        | with_reducible refine nd_nil ?_
    | refine nx_cond_t rfl ?_ | refine nx_cond_f rfl ?_
    | refine nl_pass hF rfl rfl rfl ?_
    | refine nd_pass rfl rfl rfl rfl rfl ?_
    | refine nd_pass2 rfl rfl rfl (fun c => by exact (fun h => by cases h)) a_allK rfl rfl ?_
    | refine nd_pass3 rfl rfl rfl (fun c => by exact (fun h => by cases h)) rfl rfl ?_
    | (with_reducible refine hQ1 _ _ _ ?_; clear hQ1 Q1)
    )
    refine nx_end [] rfl () (fun a w ha hw => res_tmp Try.results11 rfl ha) (by exact a_subR) (by exact a_holds2)
/-- The commits at which a timeline is retained, of those at which this may begin or end. -/
def keptL (L : List It2) (t : Int) : List Int := (marksL L).filter (keptB L t)
def rangeRet (K : List Int) : Value := .tuple #[.int .i64 (K.headD 0), .int .i64 (K.getLastD 0), .bool (!K.isEmpty)]
set_option maxRecDepth 100000 in
set_option maxHeartbeats 4000000 in
theorem range_ct (s : Value) (hs : IsSl s) (L : List It2) (hok : ∀ x ∈ L, x.ok) (hr : ∀ x ∈ L, 0 ≤ x.a ∧ x.a ≤ 1099511627776 ∧ 0 ≤ x.b ∧ x.b ≤ 1099511627776) (t : Int) (ht : t ≤ 1099511627776) (hsl : SlC 9 s (L.map It2.v) ∈ R) (hm : L.length ≤ 1000) :
    Ct Try.prog 19 [s, .int .i64 t] W0 X R C Unit (fun _ => rangeRet (keptL L t)) (fun _ => R) (fun _ => C) := by
  intro w hw
  have hF := isWide_wide
  have kc := fun (W0 : World) (X : Nat → Prop) (R C : List Ch) n h => kept_ct (W0 := W0) (X := X) (R := R) (C := C) s hs L hok t n ht h hm
  have hMl : (marksL L).length ≤ 10000 := by
    have h1 := raw_len L
    have h2 : (marksL L).length ≤ (raw L).length := by unfold marksL; exact Sc.upr_len _
    omega
  have mc := fun (W0 : World) (X : Nat → Prop) (R C : List Ch) h => marks_ct (W0 := W0) (X := X) (R := R) (C := C) s hs L hok hr h hm
  unfold keptL
  obtain ⟨M, hM⟩ : ∃ M, marksL L = M := ⟨_, rfl⟩
  rw [hM] at mc hMl ⊢
  clear hM
  obtain ⟨K, hK⟩ : ∃ K, M.filter (keptB L t) = K := ⟨_, rfl⟩
  rw [hK]
  refine calls_nx Try.func19 rfl Try.ntmps19 rfl ?_ hw
  refine nx_nilRow 3 1 ?_
  repeat' (first
    | ((first | with_reducible refine nl_op rfl ?_ | refine nd_go rfl rfl rfl ?_); intro K hK; (first
      | ((first | refine on_E hF rfl rfl ?_ | refine od_E rfl rfl ?_ | refine od_R rfl rfl ?_); (first | refine ⟨_, a_yl, ?_⟩))
      | ((first | refine on_Ec hF rfl rfl ?_ | refine od_Ec rfl rfl ?_); refine ⟨_, _, _, a_yc, ?_, ?_⟩ <;> (intro hc; try (exfalso; first | (omega; done) | exact absurd (by with_reducible rfl) hc | (simp at hc; done))))
      | ((first | (refine od_act (fun c => by exact (fun h => by cases h)) ?_; intro K2 hK2) | refine od_last (fun c => by exact (fun h => by cases h)) ?_ | skip); (first
      | (refine on_callG hF (enters_of Try.func45 (by kernel_rfl) rfl) rfl rfl rfl rfl (mc _ _ _ _ (by exact a_mem)) (fun v => ?_); refine nx_frzRow Pick.here ?_)
      | (refine on_buildSlice (T := 28) (e := 3) (k := 1) (by_ := 8) hF rfl rfl rfl rfl rfl rfl (by kernel_rfl) a_cel (Nat.le_of_ble_eq_true rfl) (fun b => ?_))
      | (refine on_append (T := 28) (e := 3) (k := 1) (by_ := 8) hF rfl rfl rfl rfl rfl a_pick (by kernel_rfl) a_sl a_cel (by first | omega | (unfold maxLen; simp only [List.length_map, List.length_append, List.length_cons, List.length_nil, List.length_replicate]; omega) | (simp only [List.length_map, List.length_append, List.length_cons, List.length_nil, List.length_replicate]; omega)) (by first | omega | (unfold maxLen; simp only [List.length_map, List.length_append, List.length_cons, List.length_nil, List.length_replicate]; omega) | (simp only [List.length_map, List.length_append, List.length_cons, List.length_nil, List.length_replicate]; omega)) (fun v => ?_))
      
      | (refine on_box hF rfl rfl rfl rfl (fun B => ?_))
      | (refine on_store hF rfl rfl rfl rfl a_turn a_vof (by first | rfl | exact hsz.symm | exact hsz) ?_)
      | (refine on_storeE hF rfl rfl rfl rfl a_turn (by (first | omega | (simp only [List.length_append, List.length_cons, List.length_nil, List.length_map] at *; omega))) a_vof (by first | rfl | exact hsz) ?_)
      | (refine on_storeEF hF rfl rfl rfl rfl a_turn (by first | with_reducible assumption | rfl) (by decide) a_vof rfl ?_)
      | (refine on_storeF hF rfl rfl rfl rfl a_turn (by decide) a_vof rfl ?_)) <;> try (refine hK2 _ _ _ a_allK ?_; clear hK2 K2))) <;> (refine hK _ _ _ ?_; clear hK K))
    | with_reducible refine nx_seq ?_
        | with_reducible refine nx_region ?_
        | with_reducible refine nl_nil ?_
        | with_reducible refine nq_then_n ?_
        | with_reducible refine nx_block ?_
        | with_reducible refine nx_skip ?_
        | with_reducible refine nx_exit ?_
        | with_reducible refine nx_ret ?_
        | with_reducible refine nq_then_x ?_
        | with_reducible refine nq_then_r ?_
        | with_reducible refine nq_blk_n ?_
        | with_reducible refine nq_blk_r ?_
        | with_reducible refine nq_blk_hit ?_
        | with_reducible refine nq_blk_miss rfl ?_
        | with_reducible refine nd_nil ?_
    | refine nx_cond_t rfl ?_ | refine nx_cond_f rfl ?_
    | refine nl_pass hF rfl rfl rfl ?_
    | refine nd_pass rfl rfl rfl rfl rfl ?_
    | refine nd_pass2 rfl rfl rfl (fun c => by exact (fun h => by cases h)) a_allK rfl rfl ?_
    | refine nd_pass3 rfl rfl rfl (fun c => by exact (fun h => by cases h)) rfl rfl ?_
    | (with_reducible refine hQ1 _ _ _ ?_; clear hQ1 Q1)
    | (refine nd_region (id := 10) hF [0, 1, 1, 0, 0, 1, 0, 1, 1, 0, 0, 0] [0, 1, 2, 3, 4, 5, 6, 7, 8, 9, 10, 11] _ _ (by kernel_rfl) (by kernel_rfl) sub2_same ?_; intro Q1 hQ1))
  have hlM : (M.map (Value.int .i64)).length = M.length := by simp
  refine nx_loop (ι := { i : Nat // i ≤ M.length } × SV) (fun p => [(0, s), (1, .int .i64 t), (7, p.2.1), (11, v.1), (12, .int .i64 ((M.map (Value.int .i64)).length : Int)), (13, .int .i64 (p.1.1 : Int))]) (fun _ => SlC 1 v.1 (M.map (.int .i64)) :: R) (fun p => RowC 3 1 p.2.1 (((M.take p.1.1).filter (keptB L t)).map (.int .i64)) :: C) (fun p => M.length - p.1.1) (⟨0, Nat.zero_le _⟩, ⟨.slice none 0 0, _, _, _, rfl⟩) (by exact a_sub) (by exact a_subR) (by exact a_holds) (fun p => ?_)
  obtain ⟨⟨i, hi⟩, u⟩ := p
  dsimp only
  by_cases hlt : i < M.length
  · obtain ⟨x, hx⟩ : ∃ x, M[i]? = some x := ⟨_, List.getElem?_eq_getElem hlt⟩
    have hxv : (M.map (Value.int .i64))[i]? = some (.int .i64 x) := by rw [List.getElem?_map, hx]; rfl
    have hsn : (M.take (i + 1)).filter (keptB L t) = (M.take i).filter (keptB L t) ++ if keptB L t x then [x] else [] := by
      rw [List.take_add_one, hx]; simp [List.filter_cons]
    have hfl : ((M.take i).filter (keptB L t)).length ≤ M.length := by
      have h1 := List.length_filter_le (keptB L t) (M.take i)
      have h2 := List.length_take_le i M
      simp only [List.length_take] at h1
      omega
    have kx := fun (W0 : World) (X : Nat → Prop) (R C : List Ch) h => kc W0 X R C x h
    clear kc mc
    obtain ⟨F, hF2⟩ : ∃ F, (M.take i).filter (keptB L t) = F := ⟨_, rfl⟩
    rw [hF2] at hsn hfl ⊢
    have hcx : Cel 1 [Value.int .i64 x] := cel_ints [x]
    have hl1 : (F.map (Value.int .i64)).length + 1 ≤ maxLen := by unfold maxLen; rw [List.length_map]; omega
    have hl2 : ((F.map (Value.int .i64)).length + 1) * 8 ≤ 140737488355328 := by rw [List.length_map]; omega
    cases hk : keptB L t x with
    | false =>
      rw [hk] at kx hsn
      simp only [Bool.false_eq_true, if_false, List.append_nil] at hsn
      repeat' (first
    | ((first | with_reducible refine nl_op rfl ?_ | refine nd_go rfl rfl rfl ?_); intro K hK; (first
      | ((first | refine on_E hF rfl rfl ?_ | refine od_E rfl rfl ?_ | refine od_R rfl rfl ?_); (first | refine ⟨_, a_yl, ?_⟩))
      | ((first | refine on_Ec hF rfl rfl ?_ | refine od_Ec rfl rfl ?_); refine ⟨_, _, _, a_yc, ?_, ?_⟩ <;> (intro hc; try (exfalso; first | (omega; done) | exact absurd (by with_reducible rfl) hc | (simp at hc; done))))
      | ((first | (refine od_act (fun c => by exact (fun h => by cases h)) ?_; intro K2 hK2) | refine od_last (fun c => by exact (fun h => by cases h)) ?_ | skip); (first
      | (refine on_callG hF (enters_of Try.func11 (by kernel_rfl) rfl) rfl rfl rfl rfl (kx _ _ _ _ (by exact a_mem)) (fun _ => ?_))
      | (refine on_buildSlice (T := 28) (e := 3) (k := 1) (by_ := 8) hF rfl rfl rfl rfl rfl rfl (by kernel_rfl) a_cel (Nat.le_of_ble_eq_true rfl) (fun b => ?_))
      | (refine on_append (T := 28) (e := 3) (k := 1) (by_ := 8) hF rfl rfl rfl rfl rfl a_pick (by kernel_rfl) a_sl a_cel (by first | omega | (unfold maxLen; simp only [List.length_map, List.length_append, List.length_cons, List.length_nil, List.length_replicate]; omega) | (simp only [List.length_map, List.length_append, List.length_cons, List.length_nil, List.length_replicate]; omega)) (by first | omega | (unfold maxLen; simp only [List.length_map, List.length_append, List.length_cons, List.length_nil, List.length_replicate]; omega) | (simp only [List.length_map, List.length_append, List.length_cons, List.length_nil, List.length_replicate]; omega)) (fun v => ?_))
      
      | (refine on_box hF rfl rfl rfl rfl (fun B => ?_))
      | (refine on_store hF rfl rfl rfl rfl a_turn a_vof (by first | rfl | exact hsz.symm | exact hsz) ?_)
      | (refine on_storeE hF rfl rfl rfl rfl a_turn (by (first | omega | (simp only [List.length_append, List.length_cons, List.length_nil, List.length_map] at *; omega))) a_vof (by first | rfl | exact hsz) ?_)
      | (refine on_storeEF hF rfl rfl rfl rfl a_turn (by first | with_reducible assumption | rfl) (by decide) a_vof rfl ?_)
      | (refine on_storeF hF rfl rfl rfl rfl a_turn (by decide) a_vof rfl ?_)) <;> try (refine hK2 _ _ _ a_allK ?_; clear hK2 K2))) <;> (refine hK _ _ _ ?_; clear hK K))
    | with_reducible refine nx_seq ?_
        | with_reducible refine nx_region ?_
        | with_reducible refine nl_nil ?_
        | with_reducible refine nq_then_n ?_
        | with_reducible refine nx_block ?_
        | with_reducible refine nx_skip ?_
        | with_reducible refine nx_exit ?_
        | with_reducible refine nx_ret ?_
        | with_reducible refine nq_then_x ?_
        | with_reducible refine nq_then_r ?_
        | with_reducible refine nq_blk_n ?_
        | with_reducible refine nq_blk_r ?_
        | with_reducible refine nq_blk_hit ?_
        | with_reducible refine nq_blk_miss rfl ?_
        | with_reducible refine nd_nil ?_
    | refine nx_cond_t rfl ?_ | refine nx_cond_f rfl ?_
    | refine nl_pass hF rfl rfl rfl ?_
    | refine nd_pass rfl rfl rfl rfl rfl ?_
    | refine nd_pass2 rfl rfl rfl (fun c => by exact (fun h => by cases h)) a_allK rfl rfl ?_
    | refine nd_pass3 rfl rfl rfl (fun c => by exact (fun h => by cases h)) rfl rfl ?_
    | (with_reducible refine hQ1 _ _ _ ?_; clear hQ1 Q1)
    | (refine nd_region (id := 10) hF [0, 1, 1, 0, 0, 1, 0, 1, 1, 0, 0, 0] [0, 1, 2, 3, 4, 5, 6, 7, 8, 9, 10, 11] _ _ (by kernel_rfl) (by kernel_rfl) sub2_same ?_; intro Q1 hQ1))
      rw [← hsn]
      refine nx_again (⟨i + 1, by omega⟩, u) (by dsimp only; omega) (by exact a_sub) (by exact a_subR) (by exact a_holds)
    | true =>
      rw [hk] at kx hsn
      simp only [if_true] at hsn
      repeat' (first
    | ((first | with_reducible refine nl_op rfl ?_ | refine nd_go rfl rfl rfl ?_); intro K hK; (first
      | ((first | refine on_E hF rfl rfl ?_ | refine od_E rfl rfl ?_ | refine od_R rfl rfl ?_); (first | refine ⟨_, a_yl, ?_⟩))
      | ((first | refine on_Ec hF rfl rfl ?_ | refine od_Ec rfl rfl ?_); refine ⟨_, _, _, a_yc, ?_, ?_⟩ <;> (intro hc; try (exfalso; first | (omega; done) | exact absurd (by with_reducible rfl) hc | (simp at hc; done))))
      | ((first | (refine od_act (fun c => by exact (fun h => by cases h)) ?_; intro K2 hK2) | refine od_last (fun c => by exact (fun h => by cases h)) ?_ | skip); (first
      | (refine on_callG hF (enters_of Try.func11 (by kernel_rfl) rfl) rfl rfl rfl rfl (kx _ _ _ _ (by exact a_mem)) (fun _ => ?_))
      | (refine on_buildSlice (e := 3) (k := 1) (by_ := 8) hF rfl rfl rfl rfl rfl rfl (by kernel_rfl) hcx (Nat.le_of_ble_eq_true rfl) (fun bq => ?_))
      | (refine on_append (e := 3) (k := 1) (by_ := 8) (xs := F.map (.int .i64)) (ys := [.int .i64 x]) hF rfl rfl rfl rfl rfl a_pick (by kernel_rfl) a_sl hcx hl1 hl2 (fun v2 => ?_))
      | (refine on_buildSlice (T := 28) (e := 3) (k := 1) (by_ := 8) hF rfl rfl rfl rfl rfl rfl (by kernel_rfl) a_cel (Nat.le_of_ble_eq_true rfl) (fun b => ?_))
      | (refine on_append (T := 28) (e := 3) (k := 1) (by_ := 8) hF rfl rfl rfl rfl rfl a_pick (by kernel_rfl) a_sl a_cel (by first | omega | (unfold maxLen; simp only [List.length_map, List.length_append, List.length_cons, List.length_nil, List.length_replicate]; omega) | (simp only [List.length_map, List.length_append, List.length_cons, List.length_nil, List.length_replicate]; omega)) (by first | omega | (unfold maxLen; simp only [List.length_map, List.length_append, List.length_cons, List.length_nil, List.length_replicate]; omega) | (simp only [List.length_map, List.length_append, List.length_cons, List.length_nil, List.length_replicate]; omega)) (fun v => ?_))
      
      | (refine on_box hF rfl rfl rfl rfl (fun B => ?_))
      | (refine on_store hF rfl rfl rfl rfl a_turn a_vof (by first | rfl | exact hsz.symm | exact hsz) ?_)
      | (refine on_storeE hF rfl rfl rfl rfl a_turn (by (first | omega | (simp only [List.length_append, List.length_cons, List.length_nil, List.length_map] at *; omega))) a_vof (by first | rfl | exact hsz) ?_)
      | (refine on_storeEF hF rfl rfl rfl rfl a_turn (by first | with_reducible assumption | rfl) (by decide) a_vof rfl ?_)
      | (refine on_storeF hF rfl rfl rfl rfl a_turn (by decide) a_vof rfl ?_)) <;> try (refine hK2 _ _ _ a_allK ?_; clear hK2 K2))) <;> (refine hK _ _ _ ?_; clear hK K))
    | with_reducible refine nx_seq ?_
        | with_reducible refine nx_region ?_
        | with_reducible refine nl_nil ?_
        | with_reducible refine nq_then_n ?_
        | with_reducible refine nx_block ?_
        | with_reducible refine nx_skip ?_
        | with_reducible refine nx_exit ?_
        | with_reducible refine nx_ret ?_
        | with_reducible refine nq_then_x ?_
        | with_reducible refine nq_then_r ?_
        | with_reducible refine nq_blk_n ?_
        | with_reducible refine nq_blk_r ?_
        | with_reducible refine nq_blk_hit ?_
        | with_reducible refine nq_blk_miss rfl ?_
        | with_reducible refine nd_nil ?_
    | refine nx_cond_t rfl ?_ | refine nx_cond_f rfl ?_
    | refine nl_pass hF rfl rfl rfl ?_
    | refine nd_pass rfl rfl rfl rfl rfl ?_
    | refine nd_pass2 rfl rfl rfl (fun c => by exact (fun h => by cases h)) a_allK rfl rfl ?_
    | refine nd_pass3 rfl rfl rfl (fun c => by exact (fun h => by cases h)) rfl rfl ?_
    | (with_reducible refine hQ1 _ _ _ ?_; clear hQ1 Q1)
    | (refine nd_region (id := 10) hF [0, 1, 1, 0, 0, 1, 0, 1, 1, 0, 0, 0] [0, 1, 2, 3, 4, 5, 6, 7, 8, 9, 10, 11] _ _ (by kernel_rfl) (by kernel_rfl) sub2_same ?_; intro Q1 hQ1))
      rw [show F.map (Value.int .i64) ++ [.int .i64 x] = ((M.take (i + 1)).filter (keptB L t)).map (.int .i64) by rw [hsn]; simp]
      refine nx_again (⟨i + 1, by omega⟩, v2) (by dsimp only; omega) (by exact a_sub) (by exact a_subR) (by exact a_holds)
  · rw [List.take_of_length_le (by omega), hK]
    have hKl : K.length ≤ 10000 := by rw [← hK]; exact Nat.le_trans (List.length_filter_le _ _) hMl
    clear kc mc hK
    obtain ⟨u, ua, un, uc, rfl⟩ := u
    dsimp only
    refine nx_len (e := 3) (k := 1) (xs := K.map (.int .i64)) (by exact a_mem) (fun hlen => ?_)
    rw [List.length_map] at hlen
    subst hlen
    cases K with
    | nil =>
      rw [show rangeRet [] = .tuple #[.int .i64 0, .int .i64 0, .bool false] from rfl]
      repeat' (first
    | ((first | with_reducible refine nl_op rfl ?_ | refine nd_go rfl rfl rfl ?_); intro K hK; (first
      | ((first | refine on_E hF rfl rfl ?_ | refine od_E rfl rfl ?_ | refine od_R rfl rfl ?_); (first | refine ⟨_, a_yl, ?_⟩))
      | ((first | refine on_Ec hF rfl rfl ?_ | refine od_Ec rfl rfl ?_); refine ⟨_, _, _, a_yc, ?_, ?_⟩ <;> (intro hc; try (exfalso; first | (omega; done) | exact absurd (by with_reducible rfl) hc | (simp at hc; done))))
      | ((first | (refine od_act (fun c => by exact (fun h => by cases h)) ?_; intro K2 hK2) | refine od_last (fun c => by exact (fun h => by cases h)) ?_ | skip); (first
      
      | (refine on_buildSlice (T := 28) (e := 3) (k := 1) (by_ := 8) hF rfl rfl rfl rfl rfl rfl (by kernel_rfl) a_cel (Nat.le_of_ble_eq_true rfl) (fun b => ?_))
      | (refine on_append (T := 28) (e := 3) (k := 1) (by_ := 8) hF rfl rfl rfl rfl rfl a_pick (by kernel_rfl) a_sl a_cel (by first | omega | (unfold maxLen; simp only [List.length_map, List.length_append, List.length_cons, List.length_nil, List.length_replicate]; omega) | (simp only [List.length_map, List.length_append, List.length_cons, List.length_nil, List.length_replicate]; omega)) (by first | omega | (unfold maxLen; simp only [List.length_map, List.length_append, List.length_cons, List.length_nil, List.length_replicate]; omega) | (simp only [List.length_map, List.length_append, List.length_cons, List.length_nil, List.length_replicate]; omega)) (fun v => ?_))
      
      | (refine on_box hF rfl rfl rfl rfl (fun B => ?_))
      | (refine on_store hF rfl rfl rfl rfl a_turn a_vof (by first | rfl | exact hsz.symm | exact hsz) ?_)
      | (refine on_storeE hF rfl rfl rfl rfl a_turn (by (first | omega | (simp only [List.length_append, List.length_cons, List.length_nil, List.length_map] at *; omega))) a_vof (by first | rfl | exact hsz) ?_)
      | (refine on_storeEF hF rfl rfl rfl rfl a_turn (by first | with_reducible assumption | rfl) (by decide) a_vof rfl ?_)
      | (refine on_storeF hF rfl rfl rfl rfl a_turn (by decide) a_vof rfl ?_)) <;> try (refine hK2 _ _ _ a_allK ?_; clear hK2 K2))) <;> (refine hK _ _ _ ?_; clear hK K))
    | with_reducible refine nx_seq ?_
        | with_reducible refine nx_region ?_
        | with_reducible refine nl_nil ?_
        | with_reducible refine nq_then_n ?_
        | with_reducible refine nx_block ?_
        | with_reducible refine nx_skip ?_
        | with_reducible refine nx_exit ?_
        | with_reducible refine nx_ret ?_
        | with_reducible refine nq_then_x ?_
        | with_reducible refine nq_then_r ?_
        | with_reducible refine nq_blk_n ?_
        | with_reducible refine nq_blk_r ?_
        | with_reducible refine nq_blk_hit ?_
        | with_reducible refine nq_blk_miss rfl ?_
        | with_reducible refine nd_nil ?_
    | refine nx_cond_t rfl ?_ | refine nx_cond_f rfl ?_
    | refine nl_pass hF rfl rfl rfl ?_
    | refine nd_pass rfl rfl rfl rfl rfl ?_
    | refine nd_pass2 rfl rfl rfl (fun c => by exact (fun h => by cases h)) a_allK rfl rfl ?_
    | refine nd_pass3 rfl rfl rfl (fun c => by exact (fun h => by cases h)) rfl rfl ?_
    | (with_reducible refine hQ1 _ _ _ ?_; clear hQ1 Q1)
    | (refine nd_region (id := 10) hF [0, 1, 1, 0, 0, 1, 0, 1, 1, 0, 0, 0] [0, 1, 2, 3, 4, 5, 6, 7, 8, 9, 10, 11] _ _ (by kernel_rfl) (by kernel_rfl) sub2_same ?_; intro Q1 hQ1))
      refine nx_end [] rfl () (fun a w ha hw => res_tmp3 Try.results19 rfl rfl rfl ha) (by exact a_subR) (by exact a_holds2)
    | cons k K =>
      have h0 : ((k :: K).map (Value.int .i64))[0]? = some (.int .i64 k) := rfl
      have h1 : ((k :: K).map (Value.int .i64))[K.length]? = some (.int .i64 ((k :: K).getLastD 0)) := by
        rw [List.getElem?_map]
        have : (k :: K)[K.length]? = some ((k :: K).getLastD 0) := by
          rw [show K.length = (k :: K).length - 1 by simp, ← List.getLast?_eq_getElem?, List.getLastD_eq_getLast?, List.getLast?_eq_some_getLast (by simp)]; rfl
        rw [this]; rfl
      have hlk : ((k :: K).map (Value.int .i64)).length = K.length + 1 := by simp
      have hlc : (k :: K).length = K.length + 1 := rfl
      obtain ⟨z, hz⟩ : ∃ z, (k :: K).getLastD 0 = z := ⟨_, rfl⟩
      rw [show rangeRet (k :: K) = .tuple #[.int .i64 k, .int .i64 z, .bool true] by unfold rangeRet; rw [hz]; rfl]
      rw [hz] at h1
      have hsz : ((k :: K).length : Int) - 1 = (K.length : Int) := by rw [hlc]; omega
      have hsb : -9223372036854775808 ≤ ((k :: K).length : Int) - 1 ∧ ((k :: K).length : Int) - 1 ≤ 9223372036854775807 := by omega
      repeat' (first
    | ((first | with_reducible refine nl_op rfl ?_ | refine nd_go rfl rfl rfl ?_); intro K hK; (first
      | ((first | refine on_E hF rfl rfl ?_ | refine od_E rfl rfl ?_ | refine od_R rfl rfl ?_); (first | refine ⟨_, yl_subE hsz hsb rfl rfl rfl, ?_⟩ | refine ⟨_, a_yl, ?_⟩))
      | ((first | refine on_Ec hF rfl rfl ?_ | refine od_Ec rfl rfl ?_); refine ⟨_, _, _, a_yc, ?_, ?_⟩ <;> (intro hc; try (exfalso; first | (omega; done) | exact absurd (by with_reducible rfl) hc | (simp at hc; done))))
      | ((first | (refine od_act (fun c => by exact (fun h => by cases h)) ?_; intro K2 hK2) | refine od_last (fun c => by exact (fun h => by cases h)) ?_ | skip); (first
      
      | (refine on_buildSlice (T := 28) (e := 3) (k := 1) (by_ := 8) hF rfl rfl rfl rfl rfl rfl (by kernel_rfl) a_cel (Nat.le_of_ble_eq_true rfl) (fun b => ?_))
      | (refine on_append (T := 28) (e := 3) (k := 1) (by_ := 8) hF rfl rfl rfl rfl rfl a_pick (by kernel_rfl) a_sl a_cel (by first | omega | (unfold maxLen; simp only [List.length_map, List.length_append, List.length_cons, List.length_nil, List.length_replicate]; omega) | (simp only [List.length_map, List.length_append, List.length_cons, List.length_nil, List.length_replicate]; omega)) (by first | omega | (unfold maxLen; simp only [List.length_map, List.length_append, List.length_cons, List.length_nil, List.length_replicate]; omega) | (simp only [List.length_map, List.length_append, List.length_cons, List.length_nil, List.length_replicate]; omega)) (fun v => ?_))
      
      | (refine on_box hF rfl rfl rfl rfl (fun B => ?_))
      | (refine on_store hF rfl rfl rfl rfl a_turn a_vof (by first | rfl | exact hsz.symm | exact hsz) ?_)
      | (refine on_storeE hF rfl rfl rfl rfl a_turn (by (first | omega | (simp only [List.length_append, List.length_cons, List.length_nil, List.length_map] at *; omega))) a_vof (by first | rfl | exact hsz) ?_)
      | (refine on_storeEF hF rfl rfl rfl rfl a_turn (by first | with_reducible assumption | rfl) (by decide) a_vof rfl ?_)
      | (refine on_storeF hF rfl rfl rfl rfl a_turn (by decide) a_vof rfl ?_)) <;> try (refine hK2 _ _ _ a_allK ?_; clear hK2 K2))) <;> (refine hK _ _ _ ?_; clear hK K))
    | with_reducible refine nx_seq ?_
        | with_reducible refine nx_region ?_
        | with_reducible refine nl_nil ?_
        | with_reducible refine nq_then_n ?_
        | with_reducible refine nx_block ?_
        | with_reducible refine nx_skip ?_
        | with_reducible refine nx_exit ?_
        | with_reducible refine nx_ret ?_
        | with_reducible refine nq_then_x ?_
        | with_reducible refine nq_then_r ?_
        | with_reducible refine nq_blk_n ?_
        | with_reducible refine nq_blk_r ?_
        | with_reducible refine nq_blk_hit ?_
        | with_reducible refine nq_blk_miss rfl ?_
        | with_reducible refine nd_nil ?_
    | refine nx_cond_t rfl ?_ | refine nx_cond_f rfl ?_
    | refine nl_pass hF rfl rfl rfl ?_
    | refine nd_pass rfl rfl rfl rfl rfl ?_
    | refine nd_pass2 rfl rfl rfl (fun c => by exact (fun h => by cases h)) a_allK rfl rfl ?_
    | refine nd_pass3 rfl rfl rfl (fun c => by exact (fun h => by cases h)) rfl rfl ?_
    | (with_reducible refine hQ1 _ _ _ ?_; clear hQ1 Q1)
    | (refine nd_region (id := 10) hF [0, 1, 1, 0, 0, 1, 0, 1, 1, 0, 0, 0] [0, 1, 2, 3, 4, 5, 6, 7, 8, 9, 10, 11] _ _ (by kernel_rfl) (by kernel_rfl) sub2_same ?_; intro Q1 hQ1))
      refine nx_end [] rfl () (fun a w ha hw => res_tmp3 Try.results19 rfl rfl rfl ha) (by exact a_subR) (by exact a_holds2)
end Pl
end Go.Proofs.Ytinofjenoapeaaa
