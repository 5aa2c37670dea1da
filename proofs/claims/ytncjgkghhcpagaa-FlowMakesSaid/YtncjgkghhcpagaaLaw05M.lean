/- The contract of breviarylaw05.FlowMakes. Condition: two lists of int's values, and two numbers. -/
import Derived.Test.YtncjgkghhcpagaaLaw05W
import Derived.Test.YtncjgkghhcpagaaFr
import Derived.Test.YtncjgkghhcpagaaFh
import Derived.Test.YtncjgkghhcpagaaFjInt
import Derived.Test.YtncjgkghhcpagaaFmIntInt
import Derived.Test.YtncjgkghhcpagaaT5
namespace Go.Proofs.Ytncjgkghhcpagaa
open Go.RowKit Go.Shelf
set_option linter.unusedSimpArgs false
set_option linter.unusedVariables false
namespace Law05
variable {W0 : World} {X : Nat → Prop} {R C : List Ch}
abbrev MQ (W0 : World) (X : Nat → Prop) (R C : List Ch) : Exit → Act → World → Prop := bodyPostM Fence.wide 0 Try.prog Try.f5 (fun e w' => ∃ i : Unit, e = Ending.returned (Value.bool true) ∧ St W0 X R C w')
/-- What is known between the parts. -/
structure MK (s t : Value) (xs ys : List Int) (b : Int) (bb : Nat) (R R' : List Ch) : Prop where
  hs : IsSl s
  ht : IsSl t
  mx : xs.length ≤ 200
  my : ys.length ≤ 200
  sl : SlC 1 s (xs.map (.int .i64)) ∈ R'
  tl : SlC 1 t (ys.map (.int .i64)) ∈ R'
  bb : BoxC bb 3 (.int .i64 b) ∈ R'
  sub : ∀ r ∈ R, r ∈ R'
abbrev ML (s t : Value) (k : Int) (bb : Nat) : List (Nat × Value) := [(0, s), (1, t), (7, ptr bb), (8, .int .i64 k), (9, Rf05.lowV bb)]
theorem chunks_mlen {α : Type} {n : Nat} : ∀ (m : Nat) (xs : List α), xs.length ≤ m → ∀ zs ∈ chunks n xs, zs.length ≤ xs.length
  | _, [], _, zs, h => by simp [chunks] at h
  | 0, _ :: _, h, _, _ => by simp at h
  | m + 1, x :: xs, h, zs, hz => by
    rw [chunks] at hz
    split at hz
    · simp at hz
    · rcases List.mem_cons.1 hz with rfl | hz
      · simp; omega
      · have := chunks_mlen m (xs.drop (n - 1)) (by simp at h ⊢; omega) zs hz
        simp at this ⊢; omega
set_option maxRecDepth 100000 in
set_option maxHeartbeats 8000000 in
theorem p6 (s t : Value) (xs ys Tw : List Int) (hTw : Tw.length = xs.length) (b k : Int) (hk : Rf05.I64 k) (bb : Nat) (v : SV) (R' : List Ch) (h : MK s t xs ys b bb R R') (hv : SlC 1 v.1 (Tw.map (.int .i64)) ∈ R') :
    Nx ((restOf 22 (bodyOf Try.f5)).wpIn Fence.wide 0 Try.prog (MQ W0 X R C)) 195 ((21, v.1) :: ML s t k bb) [] W0 X R' C := by
  obtain ⟨hs0, ht0, hmx, hmy, hsl, htl, hbb, hR⟩ := h
  have hF := isWide_wide
  have hvs : VOf Try.prog 22 s := vof_slice (by kernel_rfl) hs0
  have hvt : VOf Try.prog 22 t := vof_slice (by kernel_rfl) ht0
  have hl1 : (Tw.map (Value.int .i64)).length = Tw.length := by simp
  have hl2 : (xs.map (Value.int .i64)).length = xs.length := by simp
  have hl3 : (ys.map (Value.int .i64)).length = ys.length := by simp
  have vx := Rf05.vofm xs
  have vy := Rf05.vofm ys
  have vxy := Rf05.vofm (xs ++ ys)
  have cx : Cel 1 (xs.map (Value.int .i64)) := Cel.of vx (by kernel_rfl)
  have cy : Cel 1 (ys.map (Value.int .i64)) := Cel.of vy (by kernel_rfl)
  have hmx8 : (xs.map (Value.int .i64)).length * 8 ≤ 140737488355328 := by omega
  have hmy8 : (ys.map (Value.int .i64)).length * 8 ≤ 140737488355328 := by omega
  have hmxM : (xs.map (Value.int .i64)).length ≤ maxLen := by unfold maxLen; omega
  have hmyM : (ys.map (Value.int .i64)).length ≤ maxLen := by unfold maxLen; omega
  have hb1 : ([] : List Value).length + (xs.map (Value.int .i64)).length ≤ maxLen := by unfold maxLen; simp; omega
  have hb2 : (([] : List Value).length + (xs.map (Value.int .i64)).length) * 8 ≤ 140737488355328 := by simp; omega
  have hb3 : (xs.map (Value.int .i64)).length + (ys.map (Value.int .i64)).length ≤ maxLen := by unfold maxLen; omega
  have hb4 : ((xs.map (Value.int .i64)).length + (ys.map (Value.int .i64)).length) * 8 ≤ 140737488355328 := by omega
  have hb5 : ((xs ++ ys).map (Value.int .i64)).length * 8 ≤ 140737488355328 := by simp; omega
  have hb6 : (xs ++ ys).length ≤ 1000 := by simp; omega
  have hfl := List.length_filter_le (fun z => decide (z < b)) xs
  have hb7 : ((xs.filter fun z => decide (z < b)).map (Value.int .i64)).length * 8 ≤ 140737488355328 := by rw [List.length_map]; omega
  have hb8 : (xs.filter fun z => decide (z < b)).length ≤ 1000 := by omega
  have hb9 : xs.length ≤ 1000 := by omega
  obtain ⟨F, hFe⟩ : ∃ F, F = xs.filter fun z => decide (z < b) := ⟨_, rfl⟩
  have ji : ∀ (q j1 j2 : SV × Nat), It Try.prog ((xs ++ ys).map (.int .i64)) (NInt.joinV q.2) (BoxC q.2 69 q.1.1 :: SlC 1 q.1.1 [NInt.ofV j1.2, .nilFunc, NInt.ofV j2.2] :: ([BoxC j1.2 22 j1.1.1, SlC 1 j1.1.1 (xs.map (.int .i64))] ++ [BoxC j2.2 22 j2.1.1, SlC 1 j2.1.1 (ys.map (.int .i64))])) := fun q j1 j2 => by
    have h := NInt.join_it q.2 q.1.1 [NInt.ofV j1.2, .nilFunc, NInt.ofV j2.2] [xs.map (.int .i64), [], ys.map (.int .i64)] ([BoxC j1.2 22 j1.1.1, SlC 1 j1.1.1 (xs.map (.int .i64))] ++ [BoxC j2.2 22 j2.1.1, SlC 1 j2.1.1 (ys.map (.int .i64))]) q.1.2 rfl (Nat.le_of_ble_eq_true rfl) (fun i v zs h1 h2 => by
      match i, h1, h2 with
      | 0, h1, h2 => simp at h1 h2; subst h1; subst h2; exact ((NInt.of_it j1 _ vx hmxM).mono (fun r hr => List.mem_append.2 (.inl hr))).n
      | 1, h1, h2 => simp at h1 h2; subst h1; subst h2; exact itN_nil
      | 2, h1, h2 => simp at h1 h2; subst h1; subst h2; exact ((NInt.of_it j2 _ vy hmyM).mono (fun r hr => List.mem_append.2 (.inr hr))).n
      | i + 3, h1, h2 => simp at h1) (fun zs hzs => by
      simp only [List.mem_cons, List.not_mem_nil, or_false] at hzs
      rcases hzs with rfl | rfl | rfl
      · exact vx
      · intro x hx; cases hx
      · exact vy)
    rwa [show [xs.map (Value.int .i64), [], ys.map (Value.int .i64)].flatten = (xs ++ ys).map (.int .i64) by simp] at h
  have ki : ∀ (q : Nat × Nat) (j : SV × Nat), It Try.prog ((xs.filter fun z => decide (z < b)).map (.int .i64)) (.func (.func 40) #[] #[ptr q.1, ptr q.2]) (BoxC q.2 24 (Rf05.lowV bb) :: BoxC q.1 27 (NInt.ofV j.2) :: ([BoxC j.2 22 j.1.1, SlC 1 j.1.1 (xs.map (.int .i64))] ++ [BoxC bb 3 (.int .i64 b)])) := fun q j => by
    have h := NInt.keep_it q.1 q.2 (NInt.ofV j.2) (Rf05.lowV bb) (xs.map (.int .i64)) (Rf05.lowB b) _ _ (NInt.of_it j _ vx hmxM).n (Rf05.below_pred xs b bb).n vx
    rwa [Rf05.filter_map] at h
  have kc := fun (W0 : World) (X : Nat → Prop) (R C : List Ch) h => Rf05.keep_ct (W0 := W0) (X := X) (R := R) (C := C) s hs0 xs b h hb9
  rw [← hFe] at hb7 hb8 kc
  simp only [← hFe] at ki
  clear hFe hfl
  dsimp only [restOf, bodyOf, Try.f5]
  repeat' (first
    | ((first | with_reducible refine nl_op rfl ?_ | refine nd_go rfl rfl rfl ?_); intro K hK; (first
      | ((first | refine on_E hF rfl rfl ?_ | refine od_E rfl rfl ?_ | refine od_R rfl rfl ?_); (first | refine ⟨_, a_yl, ?_⟩))
      | ((first | refine on_Ec hF rfl rfl ?_ | refine od_Ec rfl rfl ?_); refine ⟨_, _, _, a_yc, ?_, ?_⟩ <;> (intro hc; try (exfalso; first | (omega; done) | exact absurd (by with_reducible rfl) hc | (simp at hc; done))))
      | ((first | (refine od_act (fun c => by exact (fun h => by cases h)) ?_; intro K2 hK2) | refine od_last (fun c => by exact (fun h => by cases h)) ?_ | skip); (first
      | (refine on_callG hF (enters_of Try.func11 (by kernel_rfl) rfl) rfl rfl rfl rfl (NInt.of_ct s (xs.map (.int .i64)) (by exact a_mem) hs0 vx hmx8) (fun j => ?_))
      | (refine on_callG hF (enters_of Try.func11 (by kernel_rfl) rfl) rfl rfl rfl rfl (NInt.of_ct t (ys.map (.int .i64)) (by exact a_mem) ht0 vy hmy8) (fun j2 => ?_))
      | (refine on_buildSlice (e := 27) (k := 1) (by_ := 8) (vs := [_, _, _]) hF rfl rfl rfl rfl rfl rfl (by kernel_rfl) (Cel.one1 rfl (Cel.one1 rfl (Cel.one1 rfl Cel.nil))) (Nat.le_of_ble_eq_true rfl) (fun bq => ?_); refine nx_frzRow Pick.here ?_)
      | (refine on_callG hF (enters_of Try.func20 (by kernel_rfl) rfl) rfl rfl rfl rfl (NInt.join_ct _ _ (by exact a_mem) ⟨_, _, _, rfl⟩ (fun x hx => by simp only [List.mem_cons, List.not_mem_nil, or_false] at hx; rcases hx with rfl | rfl | rfl <;> rfl) (by simp only [List.length_cons, List.length_nil]; decide)) (fun q => ?_))
      | (refine on_callG (vs := [NInt.joinV q.2]) hF (enters_of Try.func9 (by kernel_rfl) rfl) rfl rfl rfl rfl (NInt.list_ct _ ((xs ++ ys).map (.int .i64)) _ (ji q j j2).n vxy (by exact a_subR) hb5) (fun r => ?_); refine nx_frzRow Pick.here ?_)
      | (refine on_append (e := 3) (k := 1) (by_ := 8) (xs := []) (ys := xs.map (.int .i64)) hF rfl rfl rfl rfl rfl a_pick (by kernel_rfl) a_sl cx hb1 hb2 (fun v1 => ?_); rw [List.nil_append])
      | (refine on_append (e := 3) (k := 1) (by_ := 8) (xs := xs.map (.int .i64)) (ys := ys.map (.int .i64)) hF rfl rfl rfl rfl rfl a_pick (by kernel_rfl) a_sl cy hb3 hb4 (fun v2 => ?_); rw [← List.map_append]; refine nx_frzRow Pick.here ?_)
      | (refine on_callG hF (enters_of Try.func15 (by kernel_rfl) rfl) rfl rfl rfl rfl (Rf05.sameT _ _ (xs ++ ys) (by exact a_mem) (by exact a_mem) hb6) (fun _ => ?_))
      | (refine on_callG hF (enters_of Try.func10 (by kernel_rfl) rfl) rfl rfl rfl rfl (NInt.keep_ct _ _ rfl rfl) (fun k1 => ?_))
      | (refine on_call (vs := [.func (.func 40) #[] #[ptr k1.1, ptr k1.2]]) hF rfl rfl rfl rfl (enters_of Try.func9 (by kernel_rfl) rfl) (NInt.list_ct _ _ _ (ki k1 j).n (Rf05.vofm _) (by exact a_subR) hb7) (fun f1 => ?_); refine nx_frzRow Pick.here ?_)
      | (refine on_callG hF (enters_of Try.func33 (by kernel_rfl) rfl) rfl rfl rfl rfl (kc _ _ _ _ (by exact a_mem)) (fun f2 => ?_); refine nx_frzRow Pick.here ?_)
      | (refine on_callG hF (enters_of Try.func15 (by kernel_rfl) rfl) rfl rfl rfl rfl (Rf05.sameT _ _ F (by exact a_mem) (by exact a_mem) hb8) (fun _ => ?_))
      | (refine on_buildSlice (T := 22) (e := 3) (k := 1) (by_ := 8) hF rfl rfl rfl rfl rfl rfl (by kernel_rfl) a_cel (Nat.le_of_ble_eq_true rfl) (fun b => ?_))
      | (refine on_buildSlice (T := 69) (e := 27) (k := 1) (by_ := 8) hF rfl rfl rfl rfl rfl rfl (by kernel_rfl) a_cel (Nat.le_of_ble_eq_true rfl) (fun b => ?_))
      | (refine on_append (T := 22) (e := 3) (k := 1) (by_ := 8) hF rfl rfl rfl rfl rfl a_pick (by kernel_rfl) a_sl a_cel (by first | omega | (unfold maxLen; simp only [List.length_map, List.length_append, List.length_cons, List.length_nil, List.length_replicate]; omega) | (simp only [List.length_map, List.length_append, List.length_cons, List.length_nil, List.length_replicate]; omega)) (by first | omega | (unfold maxLen; simp only [List.length_map, List.length_append, List.length_cons, List.length_nil, List.length_replicate]; omega) | (simp only [List.length_map, List.length_append, List.length_cons, List.length_nil, List.length_replicate]; omega)) (fun v => ?_))
      | (refine on_alloc hF rfl Try.zeroValue3 rfl rfl (fun B => ?_))
      | (refine on_box hF rfl rfl rfl rfl (fun B => ?_))
      | (refine on_store hF rfl rfl rfl rfl a_turn a_vof (by first | rfl | exact hsz.symm | exact hsz) ?_)
      | (refine on_storeE hF rfl rfl rfl rfl a_turn (by (first | omega | (simp only [List.length_append, List.length_cons, List.length_nil, List.length_map] at *; omega))) a_vof (by first | rfl | exact hsz) ?_)
      | (refine on_storeEF hF rfl rfl rfl rfl a_turn (by first | with_reducible assumption | rfl) (by decide) a_vof rfl ?_)
      | (refine on_storeF hF rfl rfl rfl rfl a_turn (by decide) a_vof rfl ?_)) <;> try (refine hK2 _ _ _ a_allK ?_; clear hK2 K2))) <;> (refine hK _ _ _ ?_; clear hK K))
    | with_reducible refine nx_seq ?_
        | with_reducible refine nx_region ?_
        | with_reducible refine nl_nil ?_
        | with_reducible refine nq_then_n ?_
        | with_reducible refine nx_block ?_
        | with_reducible refine nx_skip ?_
        | with_reducible refine nx_exit ?_
        | with_reducible refine nx_ret ?_
        | with_reducible refine nq_then_x ?_
        | with_reducible refine nq_then_r ?_
        | with_reducible refine nq_blk_n ?_
        | with_reducible refine nq_blk_r ?_
        | with_reducible refine nq_blk_hit ?_
        | with_reducible refine nq_blk_miss rfl ?_
        | with_reducible refine nd_nil ?_
    | refine nx_cond_t rfl ?_ | refine nx_cond_f rfl ?_
    | refine nl_pass hF rfl rfl rfl ?_
    | refine nd_pass rfl rfl rfl rfl rfl ?_
    | refine nd_pass2 rfl rfl rfl (fun c => by exact (fun h => by cases h)) a_allK rfl rfl ?_
    | refine nd_pass3 rfl rfl rfl (fun c => by exact (fun h => by cases h)) rfl rfl ?_
    | (with_reducible refine hQ1 _ _ _ ?_; clear hQ1 Q1)
    | (refine nd_region (id := 5) hF [1, 1, 1, 1, 2, 2, 0] [0, 1, 2, 3, 4, 5, 6] _ _ (by kernel_rfl) (by kernel_rfl) sub2_same ?_; intro Q1 hQ1)
    | (refine nd_region (id := 28) hF [0, 0, 1, 1, 0, 0, 1, 1, 2, 0] [0, 1, 2, 3, 4, 5, 6, 7, 8, 9] _ _ (by kernel_rfl) (by kernel_rfl) sub2_same ?_; intro Q1 hQ1)
    | (refine nd_region (id := 35) hF [0, 0, 1, 1, 0, 0, 1, 1, 0, 0] [0, 1, 2, 3, 4, 5, 6, 7, 8, 9] _ _ (by kernel_rfl) (by kernel_rfl) sub2_same ?_; intro Q1 hQ1)
    | (refine nd_region (id := 39) hF [0, 1, 0, 1, 0, 0, 0, 2, 0, 2, 0, 2, 2, 0, 0, 0, 2, 0, 2, 2, 0, 1, 2, 2, 0, 0] [0, 1, 2, 3, 4, 5, 6, 8, 10, 7, 9, 11, 12, 13, 14, 15, 17, 20, 21, 16, 18, 19, 22, 23, 24, 25] _ _ (by kernel_rfl) (by kernel_rfl) sub2_same ?_; intro Q1 hQ1))
  refine nx_end [] rfl () (fun a w ha hw => res_tmp Try.results5 rfl ha) (by exact a_subR) (by exact a_holds2)
set_option maxRecDepth 100000 in
set_option maxHeartbeats 8000000 in
theorem p5 (s t : Value) (xs ys : List Int) (b k : Int) (hk : Rf05.I64 k) (bb : Nat) (R' : List Ch) (h : MK s t xs ys b bb R R') :
    Nx ((restOf 20 (bodyOf Try.f5)).wpIn Fence.wide 0 Try.prog (MQ W0 X R C)) 195 (ML s t k bb) [] W0 X R' C := by
  obtain ⟨hs0, ht0, hmx, hmy, hsl, htl, hbb, hR⟩ := h
  have hF := isWide_wide
  have hvs : VOf Try.prog 22 s := vof_slice (by kernel_rfl) hs0
  have vx := Rf05.vofm xs
  have hl2 : (xs.map (Value.int .i64)).length = xs.length := by simp
  have hmx8 : (xs.map (Value.int .i64)).length * 8 ≤ 140737488355328 := by omega
  have hmxM : (xs.map (Value.int .i64)).length ≤ maxLen := by unfold maxLen; omega
  have htm : (xs.map (Value.int .i64)).map Rf05.xorV = (xs.map fun z => bits .xor .i64 z 1).map (.int .i64) := by rw [List.map_map, List.map_map]; rfl
  have hTl : (xs.map fun z => bits .xor .i64 z 1).length = xs.length := by simp
  have hTg : ∀ i x, xs[i]? = some x → ((xs.map fun z => bits .xor .i64 z 1).map (Value.int .i64))[i]? = some (Value.int .i64 (bits .xor .i64 x 1)) := fun i x hx => by rw [List.getElem?_map, List.getElem?_map, hx]; rfl
  have mi : ∀ (q : Nat × Nat) (j : SV × Nat), It Try.prog ((xs.map (Value.int .i64)).map Rf05.xorV) _ _ := fun q j => FIntInt.map_it q.1 q.2 (NInt.ofV j.2) _ (xs.map (.int .i64)) Rf05.xorV _ [] (NInt.of_it j _ vx hmxM).n (Rf05.xor1_fun xs) vx
  rw [htm] at mi
  obtain ⟨Tw, hTw⟩ : ∃ Tw, Tw = xs.map fun z => bits .xor .i64 z 1 := ⟨_, rfl⟩
  rw [← hTw] at mi hTl hTg
  have vT := Rf05.vofm Tw
  have hlT : (Tw.map (Value.int .i64)).length = Tw.length := by simp
  have hT8 : (Tw.map (Value.int .i64)).length * 8 ≤ 140737488355328 := by omega
  clear htm hTw
  dsimp only [restOf, bodyOf, Try.f5]
  repeat' (first
    | ((first | with_reducible refine nl_op rfl ?_ | refine nd_go rfl rfl rfl ?_); intro K hK; (first
      | ((first | refine on_E hF rfl rfl ?_ | refine od_E rfl rfl ?_ | refine od_R rfl rfl ?_); (first | refine ⟨_, a_yl, ?_⟩))
      | ((first | refine on_Ec hF rfl rfl ?_ | refine od_Ec rfl rfl ?_); refine ⟨_, _, _, a_yc, ?_, ?_⟩ <;> (intro hc; try (exfalso; first | (omega; done) | exact absurd (by with_reducible rfl) hc | (simp at hc; done))))
      | ((first | (refine od_act (fun c => by exact (fun h => by cases h)) ?_; intro K2 hK2) | refine od_last (fun c => by exact (fun h => by cases h)) ?_ | skip); (first
      | (refine on_callG hF (enters_of Try.func11 (by kernel_rfl) rfl) rfl rfl rfl rfl (NInt.of_ct s (xs.map (.int .i64)) (by exact a_mem) hs0 vx hmx8) (fun j => ?_))
      | (refine on_callG hF (enters_of Try.func16 (by kernel_rfl) rfl) rfl rfl rfl rfl (FIntInt.map_ct _ _ rfl rfl) (fun q => ?_))
      | (refine on_callG hF (enters_of Try.func9 (by kernel_rfl) rfl) rfl rfl rfl rfl (NInt.list_ct _ (Tw.map (.int .i64)) _ (mi q j).n vT (by exact a_subR) hT8) (fun v => ?_); refine nx_frzRow Pick.here ?_)
      | (refine on_buildSlice (T := 22) (e := 3) (k := 1) (by_ := 8) hF rfl rfl rfl rfl rfl rfl (by kernel_rfl) a_cel (Nat.le_of_ble_eq_true rfl) (fun b => ?_))
      | (refine on_buildSlice (T := 69) (e := 27) (k := 1) (by_ := 8) hF rfl rfl rfl rfl rfl rfl (by kernel_rfl) a_cel (Nat.le_of_ble_eq_true rfl) (fun b => ?_))
      | (refine on_append (T := 22) (e := 3) (k := 1) (by_ := 8) hF rfl rfl rfl rfl rfl a_pick (by kernel_rfl) a_sl a_cel (by first | omega | (unfold maxLen; simp only [List.length_map, List.length_append, List.length_cons, List.length_nil, List.length_replicate]; omega) | (simp only [List.length_map, List.length_append, List.length_cons, List.length_nil, List.length_replicate]; omega)) (by first | omega | (unfold maxLen; simp only [List.length_map, List.length_append, List.length_cons, List.length_nil, List.length_replicate]; omega) | (simp only [List.length_map, List.length_append, List.length_cons, List.length_nil, List.length_replicate]; omega)) (fun v => ?_))
      | (refine on_alloc hF rfl Try.zeroValue3 rfl rfl (fun B => ?_))
      | (refine on_box hF rfl rfl rfl rfl (fun B => ?_))
      | (refine on_store hF rfl rfl rfl rfl a_turn a_vof (by first | rfl | exact hsz.symm | exact hsz) ?_)
      | (refine on_storeE hF rfl rfl rfl rfl a_turn (by (first | omega | (simp only [List.length_append, List.length_cons, List.length_nil, List.length_map] at *; omega))) a_vof (by first | rfl | exact hsz) ?_)
      | (refine on_storeEF hF rfl rfl rfl rfl a_turn (by first | with_reducible assumption | rfl) (by decide) a_vof rfl ?_)
      | (refine on_storeF hF rfl rfl rfl rfl a_turn (by decide) a_vof rfl ?_)) <;> try (refine hK2 _ _ _ a_allK ?_; clear hK2 K2))) <;> (refine hK _ _ _ ?_; clear hK K))
    | with_reducible refine nx_seq ?_
        | with_reducible refine nx_region ?_
        | with_reducible refine nl_nil ?_
        | with_reducible refine nq_then_n ?_
        | with_reducible refine nx_block ?_
        | with_reducible refine nx_skip ?_
        | with_reducible refine nx_exit ?_
        | with_reducible refine nx_ret ?_
        | with_reducible refine nq_then_x ?_
        | with_reducible refine nq_then_r ?_
        | with_reducible refine nq_blk_n ?_
        | with_reducible refine nq_blk_r ?_
        | with_reducible refine nq_blk_hit ?_
        | with_reducible refine nq_blk_miss rfl ?_
        | with_reducible refine nd_nil ?_
    | refine nx_cond_t rfl ?_ | refine nx_cond_f rfl ?_
    | refine nl_pass hF rfl rfl rfl ?_
    | refine nd_pass rfl rfl rfl rfl rfl ?_
    | refine nd_pass2 rfl rfl rfl (fun c => by exact (fun h => by cases h)) a_allK rfl rfl ?_
    | refine nd_pass3 rfl rfl rfl (fun c => by exact (fun h => by cases h)) rfl rfl ?_
    | (with_reducible refine hQ1 _ _ _ ?_; clear hQ1 Q1)
    | (refine nd_region (id := 5) hF [1, 1, 1, 1, 2, 2, 0] [0, 1, 2, 3, 4, 5, 6] _ _ (by kernel_rfl) (by kernel_rfl) sub2_same ?_; intro Q1 hQ1)
    | (refine nd_region (id := 28) hF [0, 0, 1, 1, 0, 0, 1, 1, 2, 0] [0, 1, 2, 3, 4, 5, 6, 7, 8, 9] _ _ (by kernel_rfl) (by kernel_rfl) sub2_same ?_; intro Q1 hQ1)
    | (refine nd_region (id := 35) hF [0, 0, 1, 1, 0, 0, 1, 1, 0, 0] [0, 1, 2, 3, 4, 5, 6, 7, 8, 9] _ _ (by kernel_rfl) (by kernel_rfl) sub2_same ?_; intro Q1 hQ1)
    | (refine nd_region (id := 39) hF [0, 1, 0, 1, 0, 0, 0, 2, 0, 2, 0, 2, 2, 0, 0, 0, 2, 0, 2, 2, 0, 1, 2, 2, 0, 0] [0, 1, 2, 3, 4, 5, 6, 8, 10, 7, 9, 11, 12, 13, 14, 15, 17, 20, 21, 16, 18, 19, 22, 23, 24, 25] _ _ (by kernel_rfl) (by kernel_rfl) sub2_same ?_; intro Q1 hQ1))
  refine nx_cutL (ι := Unit) (fun _ => (21, v.1) :: ML s t k bb) (fun _ => SlC 1 v.1 (Tw.map (.int .i64)) :: R') (fun _ => C) (fun _ => p6 s t xs ys Tw hTl b k hk bb v _ ⟨hs0, ht0, hmx, hmy, by exact a_mem, by exact a_mem, by exact a_mem, by exact a_subR⟩ (by exact a_mem)) (fun K HK => ?_)
  refine nx_loop (ι := { i : Nat // i ≤ Tw.length }) (fun i => (21, v.1) :: (147, v.1) :: (148, .int .i64 ((Tw.map (Value.int .i64)).length : Int)) :: (149, .int .i64 (i.1 : Int)) :: ML s t k bb) (fun _ => SlC 1 v.1 (Tw.map (.int .i64)) :: R') (fun _ => C) (fun i => Tw.length - i.1) ⟨0, Nat.zero_le _⟩ (by exact a_sub) (by exact a_subR) (by exact a_holds) (fun i => ?_)
  obtain ⟨i, hi⟩ := i
  dsimp only
  by_cases hlt : i < Tw.length
  · obtain ⟨x, hx⟩ : ∃ x, xs[i]? = some x := ⟨_, List.getElem?_eq_getElem (by omega)⟩
    have hxv : (xs.map (Value.int .i64))[i]? = some (.int .i64 x) := by rw [List.getElem?_map, hx]; rfl
    have hTv := hTg i x hx
    repeat' (first
    | ((first | with_reducible refine nl_op rfl ?_ | refine nd_go rfl rfl rfl ?_); intro K hK; (first
      | ((first | refine on_E hF rfl rfl ?_ | refine od_E rfl rfl ?_ | refine od_R rfl rfl ?_); (first | refine ⟨_, a_yl, ?_⟩))
      | ((first | refine on_Ec hF rfl rfl ?_ | refine od_Ec rfl rfl ?_); refine ⟨_, _, _, a_yc, ?_, ?_⟩ <;> (intro hc; try (exfalso; first | (omega; done) | exact absurd (by with_reducible rfl) hc | (simp at hc; done))))
      | ((first | (refine od_act (fun c => by exact (fun h => by cases h)) ?_; intro K2 hK2) | refine od_last (fun c => by exact (fun h => by cases h)) ?_ | skip); (first
      
      | (refine on_buildSlice (T := 22) (e := 3) (k := 1) (by_ := 8) hF rfl rfl rfl rfl rfl rfl (by kernel_rfl) a_cel (Nat.le_of_ble_eq_true rfl) (fun b => ?_))
      | (refine on_buildSlice (T := 69) (e := 27) (k := 1) (by_ := 8) hF rfl rfl rfl rfl rfl rfl (by kernel_rfl) a_cel (Nat.le_of_ble_eq_true rfl) (fun b => ?_))
      | (refine on_append (T := 22) (e := 3) (k := 1) (by_ := 8) hF rfl rfl rfl rfl rfl a_pick (by kernel_rfl) a_sl a_cel (by first | omega | (unfold maxLen; simp only [List.length_map, List.length_append, List.length_cons, List.length_nil, List.length_replicate]; omega) | (simp only [List.length_map, List.length_append, List.length_cons, List.length_nil, List.length_replicate]; omega)) (by first | omega | (unfold maxLen; simp only [List.length_map, List.length_append, List.length_cons, List.length_nil, List.length_replicate]; omega) | (simp only [List.length_map, List.length_append, List.length_cons, List.length_nil, List.length_replicate]; omega)) (fun v => ?_))
      | (refine on_alloc hF rfl Try.zeroValue3 rfl rfl (fun B => ?_))
      | (refine on_box hF rfl rfl rfl rfl (fun B => ?_))
      | (refine on_store hF rfl rfl rfl rfl a_turn a_vof (by first | rfl | exact hsz.symm | exact hsz) ?_)
      | (refine on_storeE hF rfl rfl rfl rfl a_turn (by (first | omega | (simp only [List.length_append, List.length_cons, List.length_nil, List.length_map] at *; omega))) a_vof (by first | rfl | exact hsz) ?_)
      | (refine on_storeEF hF rfl rfl rfl rfl a_turn (by first | with_reducible assumption | rfl) (by decide) a_vof rfl ?_)
      | (refine on_storeF hF rfl rfl rfl rfl a_turn (by decide) a_vof rfl ?_)) <;> try (refine hK2 _ _ _ a_allK ?_; clear hK2 K2))) <;> (refine hK _ _ _ ?_; clear hK K))
    | with_reducible refine nx_seq ?_
        | with_reducible refine nx_region ?_
        | with_reducible refine nl_nil ?_
        | with_reducible refine nq_then_n ?_
        | with_reducible refine nx_block ?_
        | with_reducible refine nx_skip ?_
        | with_reducible refine nx_exit ?_
        | with_reducible refine nx_ret ?_
        | with_reducible refine nq_then_x ?_
        | with_reducible refine nq_then_r ?_
        | with_reducible refine nq_blk_n ?_
        | with_reducible refine nq_blk_r ?_
        | with_reducible refine nq_blk_hit ?_
        | with_reducible refine nq_blk_miss rfl ?_
        | with_reducible refine nd_nil ?_
    | refine nx_cond_t rfl ?_ | refine nx_cond_f rfl ?_
    | refine nl_pass hF rfl rfl rfl ?_
    | refine nd_pass rfl rfl rfl rfl rfl ?_
    | refine nd_pass2 rfl rfl rfl (fun c => by exact (fun h => by cases h)) a_allK rfl rfl ?_
    | refine nd_pass3 rfl rfl rfl (fun c => by exact (fun h => by cases h)) rfl rfl ?_
    | (with_reducible refine hQ1 _ _ _ ?_; clear hQ1 Q1)
    | (refine nd_region (id := 5) hF [1, 1, 1, 1, 2, 2, 0] [0, 1, 2, 3, 4, 5, 6] _ _ (by kernel_rfl) (by kernel_rfl) sub2_same ?_; intro Q1 hQ1)
    | (refine nd_region (id := 28) hF [0, 0, 1, 1, 0, 0, 1, 1, 2, 0] [0, 1, 2, 3, 4, 5, 6, 7, 8, 9] _ _ (by kernel_rfl) (by kernel_rfl) sub2_same ?_; intro Q1 hQ1)
    | (refine nd_region (id := 35) hF [0, 0, 1, 1, 0, 0, 1, 1, 0, 0] [0, 1, 2, 3, 4, 5, 6, 7, 8, 9] _ _ (by kernel_rfl) (by kernel_rfl) sub2_same ?_; intro Q1 hQ1)
    | (refine nd_region (id := 39) hF [0, 1, 0, 1, 0, 0, 0, 2, 0, 2, 0, 2, 2, 0, 0, 0, 2, 0, 2, 2, 0, 1, 2, 2, 0, 0] [0, 1, 2, 3, 4, 5, 6, 8, 10, 7, 9, 11, 12, 13, 14, 15, 17, 20, 21, 16, 18, 19, 22, 23, 24, 25] _ _ (by kernel_rfl) (by kernel_rfl) sub2_same ?_; intro Q1 hQ1))
    all_goals (try (exfalso; dsimp only at *; omega))
    refine nx_again ⟨i + 1, by omega⟩ (by dsimp only; omega) (by exact a_sub) (by exact a_subR) (by exact a_holds)
  · repeat' (first
    | ((first | with_reducible refine nl_op rfl ?_ | refine nd_go rfl rfl rfl ?_); intro K hK; (first
      | ((first | refine on_E hF rfl rfl ?_ | refine od_E rfl rfl ?_ | refine od_R rfl rfl ?_); (first | refine ⟨_, a_yl, ?_⟩))
      | ((first | refine on_Ec hF rfl rfl ?_ | refine od_Ec rfl rfl ?_); refine ⟨_, _, _, a_yc, ?_, ?_⟩ <;> (intro hc; try (exfalso; first | (omega; done) | exact absurd (by with_reducible rfl) hc | (simp at hc; done))))
      | ((first | (refine od_act (fun c => by exact (fun h => by cases h)) ?_; intro K2 hK2) | refine od_last (fun c => by exact (fun h => by cases h)) ?_ | skip); (first
      
      | (refine on_buildSlice (T := 22) (e := 3) (k := 1) (by_ := 8) hF rfl rfl rfl rfl rfl rfl (by kernel_rfl) a_cel (Nat.le_of_ble_eq_true rfl) (fun b => ?_))
      | (refine on_buildSlice (T := 69) (e := 27) (k := 1) (by_ := 8) hF rfl rfl rfl rfl rfl rfl (by kernel_rfl) a_cel (Nat.le_of_ble_eq_true rfl) (fun b => ?_))
      | (refine on_append (T := 22) (e := 3) (k := 1) (by_ := 8) hF rfl rfl rfl rfl rfl a_pick (by kernel_rfl) a_sl a_cel (by first | omega | (unfold maxLen; simp only [List.length_map, List.length_append, List.length_cons, List.length_nil, List.length_replicate]; omega) | (simp only [List.length_map, List.length_append, List.length_cons, List.length_nil, List.length_replicate]; omega)) (by first | omega | (unfold maxLen; simp only [List.length_map, List.length_append, List.length_cons, List.length_nil, List.length_replicate]; omega) | (simp only [List.length_map, List.length_append, List.length_cons, List.length_nil, List.length_replicate]; omega)) (fun v => ?_))
      | (refine on_alloc hF rfl Try.zeroValue3 rfl rfl (fun B => ?_))
      | (refine on_box hF rfl rfl rfl rfl (fun B => ?_))
      | (refine on_store hF rfl rfl rfl rfl a_turn a_vof (by first | rfl | exact hsz.symm | exact hsz) ?_)
      | (refine on_storeE hF rfl rfl rfl rfl a_turn (by (first | omega | (simp only [List.length_append, List.length_cons, List.length_nil, List.length_map] at *; omega))) a_vof (by first | rfl | exact hsz) ?_)
      | (refine on_storeEF hF rfl rfl rfl rfl a_turn (by first | with_reducible assumption | rfl) (by decide) a_vof rfl ?_)
      | (refine on_storeF hF rfl rfl rfl rfl a_turn (by decide) a_vof rfl ?_)) <;> try (refine hK2 _ _ _ a_allK ?_; clear hK2 K2))) <;> (refine hK _ _ _ ?_; clear hK K))
    | with_reducible refine nx_seq ?_
        | with_reducible refine nx_region ?_
        | with_reducible refine nl_nil ?_
        | with_reducible refine nq_then_n ?_
        | with_reducible refine nx_block ?_
        | with_reducible refine nx_skip ?_
        | with_reducible refine nx_exit ?_
        | with_reducible refine nx_ret ?_
        | with_reducible refine nq_then_x ?_
        | with_reducible refine nq_then_r ?_
        | with_reducible refine nq_blk_n ?_
        | with_reducible refine nq_blk_r ?_
        | with_reducible refine nq_blk_hit ?_
        | with_reducible refine nq_blk_miss rfl ?_
        | with_reducible refine nd_nil ?_
    | refine nx_cond_t rfl ?_ | refine nx_cond_f rfl ?_
    | refine nl_pass hF rfl rfl rfl ?_
    | refine nd_pass rfl rfl rfl rfl rfl ?_
    | refine nd_pass2 rfl rfl rfl (fun c => by exact (fun h => by cases h)) a_allK rfl rfl ?_
    | refine nd_pass3 rfl rfl rfl (fun c => by exact (fun h => by cases h)) rfl rfl ?_
    | (with_reducible refine hQ1 _ _ _ ?_; clear hQ1 Q1)
    | (refine nd_region (id := 5) hF [1, 1, 1, 1, 2, 2, 0] [0, 1, 2, 3, 4, 5, 6] _ _ (by kernel_rfl) (by kernel_rfl) sub2_same ?_; intro Q1 hQ1)
    | (refine nd_region (id := 28) hF [0, 0, 1, 1, 0, 0, 1, 1, 2, 0] [0, 1, 2, 3, 4, 5, 6, 7, 8, 9] _ _ (by kernel_rfl) (by kernel_rfl) sub2_same ?_; intro Q1 hQ1)
    | (refine nd_region (id := 35) hF [0, 0, 1, 1, 0, 0, 1, 1, 0, 0] [0, 1, 2, 3, 4, 5, 6, 7, 8, 9] _ _ (by kernel_rfl) (by kernel_rfl) sub2_same ?_; intro Q1 hQ1)
    | (refine nd_region (id := 39) hF [0, 1, 0, 1, 0, 0, 0, 2, 0, 2, 0, 2, 2, 0, 0, 0, 2, 0, 2, 2, 0, 1, 2, 2, 0, 0] [0, 1, 2, 3, 4, 5, 6, 8, 10, 7, 9, 11, 12, 13, 14, 15, 17, 20, 21, 16, 18, 19, 22, 23, 24, 25] _ _ (by kernel_rfl) (by kernel_rfl) sub2_same ?_; intro Q1 hQ1))
    exact HK () _ _ _ (by exact a_sub) (by exact a_subR) (by exact a_holds2)
set_option maxRecDepth 100000 in
set_option maxHeartbeats 8000000 in
theorem p4 (s t : Value) (xs ys : List Int) (b k : Int) (hk : Rf05.I64 k) (bb : Nat) (R' : List Ch) (h : MK s t xs ys b bb R R') :
    Nx ((restOf 16 (bodyOf Try.f5)).wpIn Fence.wide 0 Try.prog (MQ W0 X R C)) 195 (ML s t k bb) [] W0 X R' C := by
  obtain ⟨hs0, ht0, hmx, hmy, hsl, htl, hbb, hR⟩ := h
  have hF := isWide_wide
  have hvs : VOf Try.prog 22 s := vof_slice (by kernel_rfl) hs0
  have vx := Rf05.vofm xs
  have hl2 : (xs.map (Value.int .i64)).length = xs.length := by simp
  have hmx8 : (xs.map (Value.int .i64)).length * 8 ≤ 140737488355328 := by omega
  have hmxM : (xs.map (Value.int .i64)).length ≤ maxLen := by unfold maxLen; omega
  have hch := chunks_map (Value.int .i64) k.toNat xs.length xs (Nat.le_refl _)
  have hcl := chunks_le (n := k.toNat) xs.length xs (Nat.le_refl _)
  have hcm := chunks_mlen (n := k.toNat) xs.length xs (Nat.le_refl _)
  have ri : ∀ (q : Nat × Nat) (j : SV × Nat), ItS Try.prog NInt.runV NInt.runD (fun _ => []) (chunks k.toNat (xs.map (Value.int .i64))) _ _ := fun q j => NInt.runs_it q.1 q.2 (NInt.ofV j.2) k (xs.map (.int .i64)) _ (NInt.of_it j _ vx hmxM).n vx hk hmx8
  have rr := fun (W0 : World) (X : Nat → Prop) (R C : List Ch) h => Rf05.runs_ct (W0 := W0) (X := X) (R := R) (C := C) s hs0 (xs.map (.int .i64)) (Rf05.ints_of xs) k h (by omega)
  rw [hch] at ri rr
  obtain ⟨cI, hcI⟩ : ∃ cI, cI = chunks k.toNat xs := ⟨_, rfl⟩
  rw [← hcI] at ri rr hcl hcm
  have hlc : (cI.map (List.map (Value.int .i64))).length = cI.length := by simp
  clear hch hcI
  dsimp only [restOf, bodyOf, Try.f5]
  repeat' (first
    | ((first | with_reducible refine nl_op rfl ?_ | refine nd_go rfl rfl rfl ?_); intro K hK; (first
      | ((first | refine on_E hF rfl rfl ?_ | refine od_E rfl rfl ?_ | refine od_R rfl rfl ?_); (first | refine ⟨_, a_yl, ?_⟩))
      | ((first | refine on_Ec hF rfl rfl ?_ | refine od_Ec rfl rfl ?_); refine ⟨_, _, _, a_yc, ?_, ?_⟩ <;> (intro hc; try (exfalso; first | (omega; done) | exact absurd (by with_reducible rfl) hc | (simp at hc; done))))
      | ((first | (refine od_act (fun c => by exact (fun h => by cases h)) ?_; intro K2 hK2) | refine od_last (fun c => by exact (fun h => by cases h)) ?_ | skip); (first
      | (refine on_callG hF (enters_of Try.func11 (by kernel_rfl) rfl) rfl rfl rfl rfl (NInt.of_ct s (xs.map (.int .i64)) (by exact a_mem) hs0 vx hmx8) (fun j => ?_))
      | (refine on_callG hF (enters_of Try.func13 (by kernel_rfl) rfl) rfl rfl rfl rfl (NInt.runs_ct _ k rfl) (fun q => ?_))
      | (refine on_callG hF (enters_of Try.func30 (by kernel_rfl) rfl) rfl rfl rfl rfl (NRuns.list_ct _ (cI.map (List.map (Value.int .i64))) _ (ri q j) (by exact a_subR) (by omega)) (fun p => ?_); obtain ⟨⟨⟨u, hu0⟩, us⟩, hul, husl⟩ := p; dsimp only at hul husl ⊢)
      | (refine on_callG hF (enters_of Try.func31 (by kernel_rfl) rfl) rfl rfl rfl rfl (rr _ _ _ _ (by exact a_mem)) (fun p => ?_); obtain ⟨⟨⟨v, hv0⟩, vs⟩, hvl, hvsl⟩ := p; dsimp only at hvl hvsl ⊢)
      | (refine on_buildSlice (T := 22) (e := 3) (k := 1) (by_ := 8) hF rfl rfl rfl rfl rfl rfl (by kernel_rfl) a_cel (Nat.le_of_ble_eq_true rfl) (fun b => ?_))
      | (refine on_buildSlice (T := 69) (e := 27) (k := 1) (by_ := 8) hF rfl rfl rfl rfl rfl rfl (by kernel_rfl) a_cel (Nat.le_of_ble_eq_true rfl) (fun b => ?_))
      | (refine on_append (T := 22) (e := 3) (k := 1) (by_ := 8) hF rfl rfl rfl rfl rfl a_pick (by kernel_rfl) a_sl a_cel (by first | omega | (unfold maxLen; simp only [List.length_map, List.length_append, List.length_cons, List.length_nil, List.length_replicate]; omega) | (simp only [List.length_map, List.length_append, List.length_cons, List.length_nil, List.length_replicate]; omega)) (by first | omega | (unfold maxLen; simp only [List.length_map, List.length_append, List.length_cons, List.length_nil, List.length_replicate]; omega) | (simp only [List.length_map, List.length_append, List.length_cons, List.length_nil, List.length_replicate]; omega)) (fun v => ?_))
      | (refine on_alloc hF rfl Try.zeroValue3 rfl rfl (fun B => ?_))
      | (refine on_box hF rfl rfl rfl rfl (fun B => ?_))
      | (refine on_store hF rfl rfl rfl rfl a_turn a_vof (by first | rfl | exact hsz.symm | exact hsz) ?_)
      | (refine on_storeE hF rfl rfl rfl rfl a_turn (by (first | omega | (simp only [List.length_append, List.length_cons, List.length_nil, List.length_map] at *; omega))) a_vof (by first | rfl | exact hsz) ?_)
      | (refine on_storeEF hF rfl rfl rfl rfl a_turn (by first | with_reducible assumption | rfl) (by decide) a_vof rfl ?_)
      | (refine on_storeF hF rfl rfl rfl rfl a_turn (by decide) a_vof rfl ?_)) <;> try (refine hK2 _ _ _ a_allK ?_; clear hK2 K2))) <;> (refine hK _ _ _ ?_; clear hK K))
    | with_reducible refine nx_seq ?_
        | with_reducible refine nx_region ?_
        | with_reducible refine nl_nil ?_
        | with_reducible refine nq_then_n ?_
        | with_reducible refine nx_block ?_
        | with_reducible refine nx_skip ?_
        | with_reducible refine nx_exit ?_
        | with_reducible refine nx_ret ?_
        | with_reducible refine nq_then_x ?_
        | with_reducible refine nq_then_r ?_
        | with_reducible refine nq_blk_n ?_
        | with_reducible refine nq_blk_r ?_
        | with_reducible refine nq_blk_hit ?_
        | with_reducible refine nq_blk_miss rfl ?_
        | with_reducible refine nd_nil ?_
    | refine nx_cond_t rfl ?_ | refine nx_cond_f rfl ?_
    | refine nl_pass hF rfl rfl rfl ?_
    | refine nd_pass rfl rfl rfl rfl rfl ?_
    | refine nd_pass2 rfl rfl rfl (fun c => by exact (fun h => by cases h)) a_allK rfl rfl ?_
    | refine nd_pass3 rfl rfl rfl (fun c => by exact (fun h => by cases h)) rfl rfl ?_
    | (with_reducible refine hQ1 _ _ _ ?_; clear hQ1 Q1)
    | (refine nd_region (id := 5) hF [1, 1, 1, 1, 2, 2, 0] [0, 1, 2, 3, 4, 5, 6] _ _ (by kernel_rfl) (by kernel_rfl) sub2_same ?_; intro Q1 hQ1)
    | (refine nd_region (id := 28) hF [0, 0, 1, 1, 0, 0, 1, 1, 2, 0] [0, 1, 2, 3, 4, 5, 6, 7, 8, 9] _ _ (by kernel_rfl) (by kernel_rfl) sub2_same ?_; intro Q1 hQ1)
    | (refine nd_region (id := 35) hF [0, 0, 1, 1, 0, 0, 1, 1, 0, 0] [0, 1, 2, 3, 4, 5, 6, 7, 8, 9] _ _ (by kernel_rfl) (by kernel_rfl) sub2_same ?_; intro Q1 hQ1)
    | (refine nd_region (id := 39) hF [0, 1, 0, 1, 0, 0, 0, 2, 0, 2, 0, 2, 2, 0, 0, 0, 2, 0, 2, 2, 0, 1, 2, 2, 0, 0] [0, 1, 2, 3, 4, 5, 6, 8, 10, 7, 9, 11, 12, 13, 14, 15, 17, 20, 21, 16, 18, 19, 22, 23, 24, 25] _ _ (by kernel_rfl) (by kernel_rfl) sub2_same ?_; intro Q1 hQ1))
  all_goals (try (exfalso; dsimp only at *; omega))
  refine nx_frzRow (e := 22) (k := 1) (v := v) (xs := vs) (by exact a_pick) ?_
  refine nx_frzRow (e := 22) (k := 1) (v := u) (xs := us) (by exact a_pick) ?_
  refine nx_perm (show Pick _ (RowsC 3 1 vs (cI.map (List.map (Value.int .i64)))) _ from by exact a_pick) (nx_frzRows hvl (fun R2 hR2 hS2 => ?_))
  refine nx_perm (show Pick _ (RowsC 3 1 us (cI.map (List.map (Value.int .i64)))) _ from by exact a_pick) (nx_frzRows hul (fun R3 hR3 hS3 => ?_))
  have hsv := hR3 _ (hR2 (SlC 1 v vs) (by exact a_mem))
  have hsu := hR3 _ (hR2 (SlC 1 u us) (by exact a_mem))
  have hsl3 := hR3 _ (hR2 (SlC 1 s (xs.map (.int .i64))) (by exact a_mem))
  have htl3 := hR3 _ (hR2 (SlC 1 t (ys.map (.int .i64))) (by exact a_mem))
  have hbb3 := hR3 _ (hR2 (BoxC bb 3 (.int .i64 b)) (by exact a_mem))
  have hRR3 : ∀ r ∈ R, r ∈ R3 := fun r hr => hR3 _ (hR2 _ (List.mem_cons_of_mem _ (List.mem_cons_of_mem _ (by have := hR r hr; exact a_mem))))
  refine nx_cutL (ι := Unit) (fun _ => ML s t k bb) (fun _ => R3) (fun _ => C) (fun _ => p5 s t xs ys b k hk bb R3 ⟨hs0, ht0, hmx, hmy, hsl3, htl3, hbb3, hRR3⟩) (fun K HK => ?_)
  have hR3' := hR3
  clear ri rr hR2 hR3 hsl htl hbb hR hRR3
  refine nx_loop (ι := { i : Nat // i ≤ cI.length }) (fun i => (18, u) :: (19, v) :: (127, v) :: (128, .int .i64 (vs.length : Int)) :: (129, .int .i64 (i.1 : Int)) :: ML s t k bb) (fun _ => R3) (fun _ => C) (fun i => cI.length - i.1) ⟨0, Nat.zero_le _⟩ (by exact a_sub) (by exact a_subR) (by exact a_holds) (fun i => ?_)
  obtain ⟨i, hi⟩ := i
  dsimp only
  by_cases hlt : i < cI.length
  · obtain ⟨zs, hzs⟩ : ∃ zs, cI[i]? = some zs := ⟨_, List.getElem?_eq_getElem hlt⟩
    have hzv : (cI.map (List.map (Value.int .i64)))[i]? = some (zs.map (.int .i64)) := by rw [List.getElem?_map, hzs]; rfl
    obtain ⟨x, hx⟩ : ∃ x, us[i]? = some x := ⟨_, List.getElem?_eq_getElem (by omega)⟩
    obtain ⟨y, hy⟩ : ∃ y, vs[i]? = some y := ⟨_, List.getElem?_eq_getElem (by omega)⟩
    have hvx : VOf Try.prog 22 x := vof_slice (by kernel_rfl) (husl x (List.mem_of_getElem? hx))
    have hvy : VOf Try.prog 22 y := vof_slice (by kernel_rfl) (hvsl y (List.mem_of_getElem? hy))
    have h3 := hS3 i x _ hx hzv
    have h2 := hR3' _ (hS2 i y _ hy hzv)
    have hzl := hcm zs (List.mem_of_getElem? hzs)
    repeat' (first
    | ((first | with_reducible refine nl_op rfl ?_ | refine nd_go rfl rfl rfl ?_); intro K hK; (first
      | ((first | refine on_E hF rfl rfl ?_ | refine od_E rfl rfl ?_ | refine od_R rfl rfl ?_); (first | refine ⟨_, a_yl, ?_⟩))
      | ((first | refine on_Ec hF rfl rfl ?_ | refine od_Ec rfl rfl ?_); refine ⟨_, _, _, a_yc, ?_, ?_⟩ <;> (intro hc; try (exfalso; first | (omega; done) | exact absurd (by with_reducible rfl) hc | (simp at hc; done))))
      | ((first | (refine od_act (fun c => by exact (fun h => by cases h)) ?_; intro K2 hK2) | refine od_last (fun c => by exact (fun h => by cases h)) ?_ | skip); (first
      | (refine on_callG hF (enters_of Try.func15 (by kernel_rfl) rfl) rfl rfl rfl rfl (Rf05.sameT _ _ zs h3 h2 (by omega)) (fun _ => ?_))
      | (refine on_buildSlice (T := 22) (e := 3) (k := 1) (by_ := 8) hF rfl rfl rfl rfl rfl rfl (by kernel_rfl) a_cel (Nat.le_of_ble_eq_true rfl) (fun b => ?_))
      | (refine on_buildSlice (T := 69) (e := 27) (k := 1) (by_ := 8) hF rfl rfl rfl rfl rfl rfl (by kernel_rfl) a_cel (Nat.le_of_ble_eq_true rfl) (fun b => ?_))
      | (refine on_append (T := 22) (e := 3) (k := 1) (by_ := 8) hF rfl rfl rfl rfl rfl a_pick (by kernel_rfl) a_sl a_cel (by first | omega | (unfold maxLen; simp only [List.length_map, List.length_append, List.length_cons, List.length_nil, List.length_replicate]; omega) | (simp only [List.length_map, List.length_append, List.length_cons, List.length_nil, List.length_replicate]; omega)) (by first | omega | (unfold maxLen; simp only [List.length_map, List.length_append, List.length_cons, List.length_nil, List.length_replicate]; omega) | (simp only [List.length_map, List.length_append, List.length_cons, List.length_nil, List.length_replicate]; omega)) (fun v => ?_))
      | (refine on_alloc hF rfl Try.zeroValue3 rfl rfl (fun B => ?_))
      | (refine on_box hF rfl rfl rfl rfl (fun B => ?_))
      | (refine on_store hF rfl rfl rfl rfl a_turn a_vof (by first | rfl | exact hsz.symm | exact hsz) ?_)
      | (refine on_storeE hF rfl rfl rfl rfl a_turn (by (first | omega | (simp only [List.length_append, List.length_cons, List.length_nil, List.length_map] at *; omega))) a_vof (by first | rfl | exact hsz) ?_)
      | (refine on_storeEF hF rfl rfl rfl rfl a_turn (by first | with_reducible assumption | rfl) (by decide) a_vof rfl ?_)
      | (refine on_storeF hF rfl rfl rfl rfl a_turn (by decide) a_vof rfl ?_)) <;> try (refine hK2 _ _ _ a_allK ?_; clear hK2 K2))) <;> (refine hK _ _ _ ?_; clear hK K))
    | with_reducible refine nx_seq ?_
        | with_reducible refine nx_region ?_
        | with_reducible refine nl_nil ?_
        | with_reducible refine nq_then_n ?_
        | with_reducible refine nx_block ?_
        | with_reducible refine nx_skip ?_
        | with_reducible refine nx_exit ?_
        | with_reducible refine nx_ret ?_
        | with_reducible refine nq_then_x ?_
        | with_reducible refine nq_then_r ?_
        | with_reducible refine nq_blk_n ?_
        | with_reducible refine nq_blk_r ?_
        | with_reducible refine nq_blk_hit ?_
        | with_reducible refine nq_blk_miss rfl ?_
        | with_reducible refine nd_nil ?_
    | refine nx_cond_t rfl ?_ | refine nx_cond_f rfl ?_
    | refine nl_pass hF rfl rfl rfl ?_
    | refine nd_pass rfl rfl rfl rfl rfl ?_
    | refine nd_pass2 rfl rfl rfl (fun c => by exact (fun h => by cases h)) a_allK rfl rfl ?_
    | refine nd_pass3 rfl rfl rfl (fun c => by exact (fun h => by cases h)) rfl rfl ?_
    | (with_reducible refine hQ1 _ _ _ ?_; clear hQ1 Q1)
    | (refine nd_region (id := 5) hF [1, 1, 1, 1, 2, 2, 0] [0, 1, 2, 3, 4, 5, 6] _ _ (by kernel_rfl) (by kernel_rfl) sub2_same ?_; intro Q1 hQ1)
    | (refine nd_region (id := 28) hF [0, 0, 1, 1, 0, 0, 1, 1, 2, 0] [0, 1, 2, 3, 4, 5, 6, 7, 8, 9] _ _ (by kernel_rfl) (by kernel_rfl) sub2_same ?_; intro Q1 hQ1)
    | (refine nd_region (id := 35) hF [0, 0, 1, 1, 0, 0, 1, 1, 0, 0] [0, 1, 2, 3, 4, 5, 6, 7, 8, 9] _ _ (by kernel_rfl) (by kernel_rfl) sub2_same ?_; intro Q1 hQ1)
    | (refine nd_region (id := 39) hF [0, 1, 0, 1, 0, 0, 0, 2, 0, 2, 0, 2, 2, 0, 0, 0, 2, 0, 2, 2, 0, 1, 2, 2, 0, 0] [0, 1, 2, 3, 4, 5, 6, 8, 10, 7, 9, 11, 12, 13, 14, 15, 17, 20, 21, 16, 18, 19, 22, 23, 24, 25] _ _ (by kernel_rfl) (by kernel_rfl) sub2_same ?_; intro Q1 hQ1))
    all_goals (try (exfalso; dsimp only at *; omega))
    refine nx_again ⟨i + 1, by omega⟩ (by dsimp only; omega) (by exact a_sub) (by exact a_subR) (by exact a_holds)
  · repeat' (first
    | ((first | with_reducible refine nl_op rfl ?_ | refine nd_go rfl rfl rfl ?_); intro K hK; (first
      | ((first | refine on_E hF rfl rfl ?_ | refine od_E rfl rfl ?_ | refine od_R rfl rfl ?_); (first | refine ⟨_, a_yl, ?_⟩))
      | ((first | refine on_Ec hF rfl rfl ?_ | refine od_Ec rfl rfl ?_); refine ⟨_, _, _, a_yc, ?_, ?_⟩ <;> (intro hc; try (exfalso; first | (omega; done) | exact absurd (by with_reducible rfl) hc | (simp at hc; done))))
      | ((first | (refine od_act (fun c => by exact (fun h => by cases h)) ?_; intro K2 hK2) | refine od_last (fun c => by exact (fun h => by cases h)) ?_ | skip); (first
      
      | (refine on_buildSlice (T := 22) (e := 3) (k := 1) (by_ := 8) hF rfl rfl rfl rfl rfl rfl (by kernel_rfl) a_cel (Nat.le_of_ble_eq_true rfl) (fun b => ?_))
      | (refine on_buildSlice (T := 69) (e := 27) (k := 1) (by_ := 8) hF rfl rfl rfl rfl rfl rfl (by kernel_rfl) a_cel (Nat.le_of_ble_eq_true rfl) (fun b => ?_))
      | (refine on_append (T := 22) (e := 3) (k := 1) (by_ := 8) hF rfl rfl rfl rfl rfl a_pick (by kernel_rfl) a_sl a_cel (by first | omega | (unfold maxLen; simp only [List.length_map, List.length_append, List.length_cons, List.length_nil, List.length_replicate]; omega) | (simp only [List.length_map, List.length_append, List.length_cons, List.length_nil, List.length_replicate]; omega)) (by first | omega | (unfold maxLen; simp only [List.length_map, List.length_append, List.length_cons, List.length_nil, List.length_replicate]; omega) | (simp only [List.length_map, List.length_append, List.length_cons, List.length_nil, List.length_replicate]; omega)) (fun v => ?_))
      | (refine on_alloc hF rfl Try.zeroValue3 rfl rfl (fun B => ?_))
      | (refine on_box hF rfl rfl rfl rfl (fun B => ?_))
      | (refine on_store hF rfl rfl rfl rfl a_turn a_vof (by first | rfl | exact hsz.symm | exact hsz) ?_)
      | (refine on_storeE hF rfl rfl rfl rfl a_turn (by (first | omega | (simp only [List.length_append, List.length_cons, List.length_nil, List.length_map] at *; omega))) a_vof (by first | rfl | exact hsz) ?_)
      | (refine on_storeEF hF rfl rfl rfl rfl a_turn (by first | with_reducible assumption | rfl) (by decide) a_vof rfl ?_)
      | (refine on_storeF hF rfl rfl rfl rfl a_turn (by decide) a_vof rfl ?_)) <;> try (refine hK2 _ _ _ a_allK ?_; clear hK2 K2))) <;> (refine hK _ _ _ ?_; clear hK K))
    | with_reducible refine nx_seq ?_
        | with_reducible refine nx_region ?_
        | with_reducible refine nl_nil ?_
        | with_reducible refine nq_then_n ?_
        | with_reducible refine nx_block ?_
        | with_reducible refine nx_skip ?_
        | with_reducible refine nx_exit ?_
        | with_reducible refine nx_ret ?_
        | with_reducible refine nq_then_x ?_
        | with_reducible refine nq_then_r ?_
        | with_reducible refine nq_blk_n ?_
        | with_reducible refine nq_blk_r ?_
        | with_reducible refine nq_blk_hit ?_
        | with_reducible refine nq_blk_miss rfl ?_
        | with_reducible refine nd_nil ?_
    | refine nx_cond_t rfl ?_ | refine nx_cond_f rfl ?_
    | refine nl_pass hF rfl rfl rfl ?_
    | refine nd_pass rfl rfl rfl rfl rfl ?_
    | refine nd_pass2 rfl rfl rfl (fun c => by exact (fun h => by cases h)) a_allK rfl rfl ?_
    | refine nd_pass3 rfl rfl rfl (fun c => by exact (fun h => by cases h)) rfl rfl ?_
    | (with_reducible refine hQ1 _ _ _ ?_; clear hQ1 Q1)
    | (refine nd_region (id := 5) hF [1, 1, 1, 1, 2, 2, 0] [0, 1, 2, 3, 4, 5, 6] _ _ (by kernel_rfl) (by kernel_rfl) sub2_same ?_; intro Q1 hQ1)
    | (refine nd_region (id := 28) hF [0, 0, 1, 1, 0, 0, 1, 1, 2, 0] [0, 1, 2, 3, 4, 5, 6, 7, 8, 9] _ _ (by kernel_rfl) (by kernel_rfl) sub2_same ?_; intro Q1 hQ1)
    | (refine nd_region (id := 35) hF [0, 0, 1, 1, 0, 0, 1, 1, 0, 0] [0, 1, 2, 3, 4, 5, 6, 7, 8, 9] _ _ (by kernel_rfl) (by kernel_rfl) sub2_same ?_; intro Q1 hQ1)
    | (refine nd_region (id := 39) hF [0, 1, 0, 1, 0, 0, 0, 2, 0, 2, 0, 2, 2, 0, 0, 0, 2, 0, 2, 2, 0, 1, 2, 2, 0, 0] [0, 1, 2, 3, 4, 5, 6, 8, 10, 7, 9, 11, 12, 13, 14, 15, 17, 20, 21, 16, 18, 19, 22, 23, 24, 25] _ _ (by kernel_rfl) (by kernel_rfl) sub2_same ?_; intro Q1 hQ1))
    exact HK () _ _ _ (by exact a_sub) (by exact a_subR) (by exact a_holds2)
set_option maxRecDepth 100000 in
set_option maxHeartbeats 8000000 in
theorem p3 (s t : Value) (xs ys : List Int) (b k : Int) (hk : Rf05.I64 k) (bb bc : Nat) (u : SV) (A : List Int) (nA : Nat) (hA : A = xs.takeWhile fun z => !decide (z < b)) (hn : nA = Rf05.asks b xs) (R' : List Ch) (h : MK s t xs ys b bb R R') (hu : SlC 1 u.1 (A.map (.int .i64)) ∈ R') :
    Nx ((restOf 13 (bodyOf Try.f5)).wpIn Fence.wide 0 Try.prog (MQ W0 X R C)) 195 ((10, ptr bc) :: (14, u.1) :: (15, .int .i64 (nA : Int)) :: ML s t k bb) [] W0 X R' (BoxC bc 3 (.int .i64 (nA : Int)) :: C) := by
  obtain ⟨hs0, ht0, hmx, hmy, hsl, htl, hbb, hR⟩ := h
  have hF := isWide_wide
  have hvs : VOf Try.prog 22 s := vof_slice (by kernel_rfl) hs0
  have hfc := Rf05.find_cases b xs
  have hm := List.takeWhile_sublist (fun z => !decide (z < b)) (l := xs)
  have hB := hm.length_le
  rw [← hA] at hfc hB
  have fi := fun (W0 : World) (X : Nat → Prop) (R C : List Ch) (i : Nat × Nat) h1 h2 => Rf05.find_ct (W0 := W0) (X := X) (R := R) (C := C) i bc bb s hs0 xs b hmx h1 h2
  rw [← hn] at fi
  have hl1 : (A.map (Value.int .i64)).length = A.length := by simp
  have hl2 : (xs.map (Value.int .i64)).length = xs.length := by simp
  clear hA hn hm
  dsimp only [restOf, bodyOf, Try.f5]
  repeat' (first
    | ((first | with_reducible refine nl_op rfl ?_ | refine nd_go rfl rfl rfl ?_); intro K hK; (first
      | ((first | refine on_E hF rfl rfl ?_ | refine od_E rfl rfl ?_ | refine od_R rfl rfl ?_); (first | refine ⟨_, a_yl, ?_⟩))
      | ((first | refine on_Ec hF rfl rfl ?_ | refine od_Ec rfl rfl ?_); refine ⟨_, _, _, a_yc, ?_, ?_⟩ <;> (intro hc; try (exfalso; first | (omega; done) | exact absurd (by with_reducible rfl) hc | (simp at hc; done))))
      | ((first | (refine od_act (fun c => by exact (fun h => by cases h)) ?_; intro K2 hK2) | refine od_last (fun c => by exact (fun h => by cases h)) ?_ | skip); (first
      | (refine on_callG hF (enters_of Try.func27 (by kernel_rfl) rfl) rfl rfl rfl rfl (Rf05.asked_ct _ hs0 bc) (fun i => ?_))
      | (refine on_buildSlice (T := 22) (e := 3) (k := 1) (by_ := 8) hF rfl rfl rfl rfl rfl rfl (by kernel_rfl) a_cel (Nat.le_of_ble_eq_true rfl) (fun b => ?_))
      | (refine on_buildSlice (T := 69) (e := 27) (k := 1) (by_ := 8) hF rfl rfl rfl rfl rfl rfl (by kernel_rfl) a_cel (Nat.le_of_ble_eq_true rfl) (fun b => ?_))
      | (refine on_append (T := 22) (e := 3) (k := 1) (by_ := 8) hF rfl rfl rfl rfl rfl a_pick (by kernel_rfl) a_sl a_cel (by first | omega | (unfold maxLen; simp only [List.length_map, List.length_append, List.length_cons, List.length_nil, List.length_replicate]; omega) | (simp only [List.length_map, List.length_append, List.length_cons, List.length_nil, List.length_replicate]; omega)) (by first | omega | (unfold maxLen; simp only [List.length_map, List.length_append, List.length_cons, List.length_nil, List.length_replicate]; omega) | (simp only [List.length_map, List.length_append, List.length_cons, List.length_nil, List.length_replicate]; omega)) (fun v => ?_))
      | (refine on_alloc hF rfl Try.zeroValue3 rfl rfl (fun B => ?_))
      | (refine on_box hF rfl rfl rfl rfl (fun B => ?_))
      | (refine on_store hF rfl rfl rfl rfl a_turn a_vof (by first | rfl | exact hsz.symm | exact hsz) ?_)
      | (refine on_storeE hF rfl rfl rfl rfl a_turn (by (first | omega | (simp only [List.length_append, List.length_cons, List.length_nil, List.length_map] at *; omega))) a_vof (by first | rfl | exact hsz) ?_)
      | (refine on_storeEF hF rfl rfl rfl rfl a_turn (by first | with_reducible assumption | rfl) (by decide) a_vof rfl ?_)
      | (refine on_storeF hF rfl rfl rfl rfl a_turn (by decide) a_vof rfl ?_)) <;> try (refine hK2 _ _ _ a_allK ?_; clear hK2 K2))) <;> (refine hK _ _ _ ?_; clear hK K))
    | with_reducible refine nx_seq ?_
        | with_reducible refine nx_region ?_
        | with_reducible refine nl_nil ?_
        | with_reducible refine nq_then_n ?_
        | with_reducible refine nx_block ?_
        | with_reducible refine nx_skip ?_
        | with_reducible refine nx_exit ?_
        | with_reducible refine nx_ret ?_
        | with_reducible refine nq_then_x ?_
        | with_reducible refine nq_then_r ?_
        | with_reducible refine nq_blk_n ?_
        | with_reducible refine nq_blk_r ?_
        | with_reducible refine nq_blk_hit ?_
        | with_reducible refine nq_blk_miss rfl ?_
        | with_reducible refine nd_nil ?_
    | refine nx_cond_t rfl ?_ | refine nx_cond_f rfl ?_
    | refine nl_pass hF rfl rfl rfl ?_
    | refine nd_pass rfl rfl rfl rfl rfl ?_
    | refine nd_pass2 rfl rfl rfl (fun c => by exact (fun h => by cases h)) a_allK rfl rfl ?_
    | refine nd_pass3 rfl rfl rfl (fun c => by exact (fun h => by cases h)) rfl rfl ?_
    | (with_reducible refine hQ1 _ _ _ ?_; clear hQ1 Q1)
    | (refine nd_region (id := 5) hF [1, 1, 1, 1, 2, 2, 0] [0, 1, 2, 3, 4, 5, 6] _ _ (by kernel_rfl) (by kernel_rfl) sub2_same ?_; intro Q1 hQ1)
    | (refine nd_region (id := 28) hF [0, 0, 1, 1, 0, 0, 1, 1, 2, 0] [0, 1, 2, 3, 4, 5, 6, 7, 8, 9] _ _ (by kernel_rfl) (by kernel_rfl) sub2_same ?_; intro Q1 hQ1)
    | (refine nd_region (id := 35) hF [0, 0, 1, 1, 0, 0, 1, 1, 0, 0] [0, 1, 2, 3, 4, 5, 6, 7, 8, 9] _ _ (by kernel_rfl) (by kernel_rfl) sub2_same ?_; intro Q1 hQ1)
    | (refine nd_region (id := 39) hF [0, 1, 0, 1, 0, 0, 0, 2, 0, 2, 0, 2, 2, 0, 0, 0, 2, 0, 2, 2, 0, 1, 2, 2, 0, 0] [0, 1, 2, 3, 4, 5, 6, 8, 10, 7, 9, 11, 12, 13, 14, 15, 17, 20, 21, 16, 18, 19, 22, 23, 24, 25] _ _ (by kernel_rfl) (by kernel_rfl) sub2_same ?_; intro Q1 hQ1))
  refine nl_cut1 (ι := Unit) (fun _ => ML s t k bb) (fun _ => R') (fun _ => C) (fun _ => p4 s t xs ys b k hk bb R' ⟨hs0, ht0, hmx, hmy, hsl, htl, hbb, hR⟩) (fun K HK => ?_)
  rcases hfc with ⟨x0, hx0, hlt, hfd⟩ | ⟨hle, hfd⟩
  · rw [hfd] at fi
    simp only [Option.getD_some, Option.isSome_some] at fi
    have hxv : (xs.map (Value.int .i64))[(A.map (Value.int .i64)).length]? = some (.int .i64 x0) := by rw [hl1, List.getElem?_map, hx0]; rfl
    repeat' (first
    | ((first | with_reducible refine nl_op rfl ?_ | refine nd_go rfl rfl rfl ?_); intro K hK; (first
      | ((first | refine on_E hF rfl rfl ?_ | refine od_E rfl rfl ?_ | refine od_R rfl rfl ?_); (first | refine ⟨_, a_yl, ?_⟩))
      | ((first | refine on_Ec hF rfl rfl ?_ | refine od_Ec rfl rfl ?_); refine ⟨_, _, _, a_yc, ?_, ?_⟩ <;> (intro hc; try (exfalso; first | (omega; done) | exact absurd (by with_reducible rfl) hc | (simp at hc; done))))
      | ((first | (refine od_act (fun c => by exact (fun h => by cases h)) ?_; intro K2 hK2) | refine od_last (fun c => by exact (fun h => by cases h)) ?_ | skip); (first
      | (refine on_callG hF (enters_of Try.func23 (by kernel_rfl) rfl) rfl rfl rfl rfl ((fi _ _ _ _ i (by exact a_subR) (by exact a_subR)).pre (show Pick _ (Rf05.cnt bc 0) _ from by exact a_pick)) (fun _ => ?_))
      | (refine on_buildSlice (T := 22) (e := 3) (k := 1) (by_ := 8) hF rfl rfl rfl rfl rfl rfl (by kernel_rfl) a_cel (Nat.le_of_ble_eq_true rfl) (fun b => ?_))
      | (refine on_buildSlice (T := 69) (e := 27) (k := 1) (by_ := 8) hF rfl rfl rfl rfl rfl rfl (by kernel_rfl) a_cel (Nat.le_of_ble_eq_true rfl) (fun b => ?_))
      | (refine on_append (T := 22) (e := 3) (k := 1) (by_ := 8) hF rfl rfl rfl rfl rfl a_pick (by kernel_rfl) a_sl a_cel (by first | omega | (unfold maxLen; simp only [List.length_map, List.length_append, List.length_cons, List.length_nil, List.length_replicate]; omega) | (simp only [List.length_map, List.length_append, List.length_cons, List.length_nil, List.length_replicate]; omega)) (by first | omega | (unfold maxLen; simp only [List.length_map, List.length_append, List.length_cons, List.length_nil, List.length_replicate]; omega) | (simp only [List.length_map, List.length_append, List.length_cons, List.length_nil, List.length_replicate]; omega)) (fun v => ?_))
      | (refine on_alloc hF rfl Try.zeroValue3 rfl rfl (fun B => ?_))
      | (refine on_box hF rfl rfl rfl rfl (fun B => ?_))
      | (refine on_store hF rfl rfl rfl rfl a_turn a_vof (by first | rfl | exact hsz.symm | exact hsz) ?_)
      | (refine on_storeE hF rfl rfl rfl rfl a_turn (by (first | omega | (simp only [List.length_append, List.length_cons, List.length_nil, List.length_map] at *; omega))) a_vof (by first | rfl | exact hsz) ?_)
      | (refine on_storeEF hF rfl rfl rfl rfl a_turn (by first | with_reducible assumption | rfl) (by decide) a_vof rfl ?_)
      | (refine on_storeF hF rfl rfl rfl rfl a_turn (by decide) a_vof rfl ?_)) <;> try (refine hK2 _ _ _ a_allK ?_; clear hK2 K2))) <;> (refine hK _ _ _ ?_; clear hK K))
    | with_reducible refine nx_seq ?_
        | with_reducible refine nx_region ?_
        | with_reducible refine nl_nil ?_
        | with_reducible refine nq_then_n ?_
        | with_reducible refine nx_block ?_
        | with_reducible refine nx_skip ?_
        | with_reducible refine nx_exit ?_
        | with_reducible refine nx_ret ?_
        | with_reducible refine nq_then_x ?_
        | with_reducible refine nq_then_r ?_
        | with_reducible refine nq_blk_n ?_
        | with_reducible refine nq_blk_r ?_
        | with_reducible refine nq_blk_hit ?_
        | with_reducible refine nq_blk_miss rfl ?_
        | with_reducible refine nd_nil ?_
    | refine nx_cond_t rfl ?_ | refine nx_cond_f rfl ?_
    | refine nl_pass hF rfl rfl rfl ?_
    | refine nd_pass rfl rfl rfl rfl rfl ?_
    | refine nd_pass2 rfl rfl rfl (fun c => by exact (fun h => by cases h)) a_allK rfl rfl ?_
    | refine nd_pass3 rfl rfl rfl (fun c => by exact (fun h => by cases h)) rfl rfl ?_
    | (with_reducible refine hQ1 _ _ _ ?_; clear hQ1 Q1)
    | (refine nd_region (id := 5) hF [1, 1, 1, 1, 2, 2, 0] [0, 1, 2, 3, 4, 5, 6] _ _ (by kernel_rfl) (by kernel_rfl) sub2_same ?_; intro Q1 hQ1)
    | (refine nd_region (id := 28) hF [0, 0, 1, 1, 0, 0, 1, 1, 2, 0] [0, 1, 2, 3, 4, 5, 6, 7, 8, 9] _ _ (by kernel_rfl) (by kernel_rfl) sub2_same ?_; intro Q1 hQ1)
    | (refine nd_region (id := 35) hF [0, 0, 1, 1, 0, 0, 1, 1, 0, 0] [0, 1, 2, 3, 4, 5, 6, 7, 8, 9] _ _ (by kernel_rfl) (by kernel_rfl) sub2_same ?_; intro Q1 hQ1)
    | (refine nd_region (id := 39) hF [0, 1, 0, 1, 0, 0, 0, 2, 0, 2, 0, 2, 2, 0, 0, 0, 2, 0, 2, 2, 0, 1, 2, 2, 0, 0] [0, 1, 2, 3, 4, 5, 6, 8, 10, 7, 9, 11, 12, 13, 14, 15, 17, 20, 21, 16, 18, 19, 22, 23, 24, 25] _ _ (by kernel_rfl) (by kernel_rfl) sub2_same ?_; intro Q1 hQ1))
    all_goals (try (exfalso; dsimp only at *; omega))
    exact HK () _ _ _ (by exact a_sub) (by exact a_subR) (by exact a_holds2)
  · rw [hfd] at fi
    simp only [Option.getD_none, Option.isSome_none] at fi
    repeat' (first
    | ((first | with_reducible refine nl_op rfl ?_ | refine nd_go rfl rfl rfl ?_); intro K hK; (first
      | ((first | refine on_E hF rfl rfl ?_ | refine od_E rfl rfl ?_ | refine od_R rfl rfl ?_); (first | refine ⟨_, a_yl, ?_⟩))
      | ((first | refine on_Ec hF rfl rfl ?_ | refine od_Ec rfl rfl ?_); refine ⟨_, _, _, a_yc, ?_, ?_⟩ <;> (intro hc; try (exfalso; first | (omega; done) | exact absurd (by with_reducible rfl) hc | (simp at hc; done))))
      | ((first | (refine od_act (fun c => by exact (fun h => by cases h)) ?_; intro K2 hK2) | refine od_last (fun c => by exact (fun h => by cases h)) ?_ | skip); (first
      | (refine on_callG hF (enters_of Try.func23 (by kernel_rfl) rfl) rfl rfl rfl rfl ((fi _ _ _ _ i (by exact a_subR) (by exact a_subR)).pre (show Pick _ (Rf05.cnt bc 0) _ from by exact a_pick)) (fun _ => ?_))
      | (refine on_buildSlice (T := 22) (e := 3) (k := 1) (by_ := 8) hF rfl rfl rfl rfl rfl rfl (by kernel_rfl) a_cel (Nat.le_of_ble_eq_true rfl) (fun b => ?_))
      | (refine on_buildSlice (T := 69) (e := 27) (k := 1) (by_ := 8) hF rfl rfl rfl rfl rfl rfl (by kernel_rfl) a_cel (Nat.le_of_ble_eq_true rfl) (fun b => ?_))
      | (refine on_append (T := 22) (e := 3) (k := 1) (by_ := 8) hF rfl rfl rfl rfl rfl a_pick (by kernel_rfl) a_sl a_cel (by first | omega | (unfold maxLen; simp only [List.length_map, List.length_append, List.length_cons, List.length_nil, List.length_replicate]; omega) | (simp only [List.length_map, List.length_append, List.length_cons, List.length_nil, List.length_replicate]; omega)) (by first | omega | (unfold maxLen; simp only [List.length_map, List.length_append, List.length_cons, List.length_nil, List.length_replicate]; omega) | (simp only [List.length_map, List.length_append, List.length_cons, List.length_nil, List.length_replicate]; omega)) (fun v => ?_))
      | (refine on_alloc hF rfl Try.zeroValue3 rfl rfl (fun B => ?_))
      | (refine on_box hF rfl rfl rfl rfl (fun B => ?_))
      | (refine on_store hF rfl rfl rfl rfl a_turn a_vof (by first | rfl | exact hsz.symm | exact hsz) ?_)
      | (refine on_storeE hF rfl rfl rfl rfl a_turn (by (first | omega | (simp only [List.length_append, List.length_cons, List.length_nil, List.length_map] at *; omega))) a_vof (by first | rfl | exact hsz) ?_)
      | (refine on_storeEF hF rfl rfl rfl rfl a_turn (by first | with_reducible assumption | rfl) (by decide) a_vof rfl ?_)
      | (refine on_storeF hF rfl rfl rfl rfl a_turn (by decide) a_vof rfl ?_)) <;> try (refine hK2 _ _ _ a_allK ?_; clear hK2 K2))) <;> (refine hK _ _ _ ?_; clear hK K))
    | with_reducible refine nx_seq ?_
        | with_reducible refine nx_region ?_
        | with_reducible refine nl_nil ?_
        | with_reducible refine nq_then_n ?_
        | with_reducible refine nx_block ?_
        | with_reducible refine nx_skip ?_
        | with_reducible refine nx_exit ?_
        | with_reducible refine nx_ret ?_
        | with_reducible refine nq_then_x ?_
        | with_reducible refine nq_then_r ?_
        | with_reducible refine nq_blk_n ?_
        | with_reducible refine nq_blk_r ?_
        | with_reducible refine nq_blk_hit ?_
        | with_reducible refine nq_blk_miss rfl ?_
        | with_reducible refine nd_nil ?_
    | refine nx_cond_t rfl ?_ | refine nx_cond_f rfl ?_
    | refine nl_pass hF rfl rfl rfl ?_
    | refine nd_pass rfl rfl rfl rfl rfl ?_
    | refine nd_pass2 rfl rfl rfl (fun c => by exact (fun h => by cases h)) a_allK rfl rfl ?_
    | refine nd_pass3 rfl rfl rfl (fun c => by exact (fun h => by cases h)) rfl rfl ?_
    | (with_reducible refine hQ1 _ _ _ ?_; clear hQ1 Q1)
    | (refine nd_region (id := 5) hF [1, 1, 1, 1, 2, 2, 0] [0, 1, 2, 3, 4, 5, 6] _ _ (by kernel_rfl) (by kernel_rfl) sub2_same ?_; intro Q1 hQ1)
    | (refine nd_region (id := 28) hF [0, 0, 1, 1, 0, 0, 1, 1, 2, 0] [0, 1, 2, 3, 4, 5, 6, 7, 8, 9] _ _ (by kernel_rfl) (by kernel_rfl) sub2_same ?_; intro Q1 hQ1)
    | (refine nd_region (id := 35) hF [0, 0, 1, 1, 0, 0, 1, 1, 0, 0] [0, 1, 2, 3, 4, 5, 6, 7, 8, 9] _ _ (by kernel_rfl) (by kernel_rfl) sub2_same ?_; intro Q1 hQ1)
    | (refine nd_region (id := 39) hF [0, 1, 0, 1, 0, 0, 0, 2, 0, 2, 0, 2, 2, 0, 0, 0, 2, 0, 2, 2, 0, 1, 2, 2, 0, 0] [0, 1, 2, 3, 4, 5, 6, 8, 10, 7, 9, 11, 12, 13, 14, 15, 17, 20, 21, 16, 18, 19, 22, 23, 24, 25] _ _ (by kernel_rfl) (by kernel_rfl) sub2_same ?_; intro Q1 hQ1))
    all_goals (try (exfalso; dsimp only at *; omega))
    exact HK () _ _ _ (by exact a_sub) (by exact a_subR) (by exact a_holds2)
set_option maxRecDepth 100000 in
set_option maxHeartbeats 8000000 in
theorem p2 (s t : Value) (xs ys : List Int) (b k : Int) (hk : Rf05.I64 k) (bb bc : Nat) (n0 : Int) (R' : List Ch) (h : MK s t xs ys b bb R R') :
    Nx ((restOf 9 (bodyOf Try.f5)).wpIn Fence.wide 0 Try.prog (MQ W0 X R C)) 195 ((10, ptr bc) :: ML s t k bb) [] W0 X R' (BoxC bc 3 (.int .i64 n0) :: C) := by
  obtain ⟨hs0, ht0, hmx, hmy, hsl, htl, hbb, hR⟩ := h
  have hF := isWide_wide
  have hvs : VOf Try.prog 22 s := vof_slice (by kernel_rfl) hs0
  have hB : (xs.takeWhile fun z => !decide (z < b)).length ≤ xs.length := (List.takeWhile_sublist _).length_le
  have lu := fun (W0 : World) (X : Nat → Prop) (R C : List Ch) (i j : Nat × Nat) h => Rf05.listUntil_ct (W0 := W0) (X := X) (R := R) (C := C) i j bc bb s hs0 xs b hmx h
  have ru := fun (W0 : World) (X : Nat → Prop) (R C : List Ch) h => Rf05.until_ct (W0 := W0) (X := X) (R := R) (C := C) s hs0 xs b h (by omega)
  obtain ⟨A, hAe⟩ : ∃ A, A = (xs.takeWhile fun z => !decide (z < b)) := ⟨_, rfl⟩
  obtain ⟨nA, hnA⟩ : ∃ nA, nA = Rf05.asks b xs := ⟨_, rfl⟩
  rw [← hAe] at lu ru hB
  rw [← hnA] at lu ru
  dsimp only [restOf, bodyOf, Try.f5]
  repeat' (first
    | ((first | with_reducible refine nl_op rfl ?_ | refine nd_go rfl rfl rfl ?_); intro K hK; (first
      | ((first | refine on_E hF rfl rfl ?_ | refine od_E rfl rfl ?_ | refine od_R rfl rfl ?_); (first | refine ⟨_, a_yl, ?_⟩))
      | ((first | refine on_Ec hF rfl rfl ?_ | refine od_Ec rfl rfl ?_); refine ⟨_, _, _, a_yc, ?_, ?_⟩ <;> (intro hc; try (exfalso; first | (omega; done) | exact absurd (by with_reducible rfl) hc | (simp at hc; done))))
      | ((first | (refine od_act (fun c => by exact (fun h => by cases h)) ?_; intro K2 hK2) | refine od_last (fun c => by exact (fun h => by cases h)) ?_ | skip); (first
      | (refine on_callG hF (enters_of Try.func27 (by kernel_rfl) rfl) rfl rfl rfl rfl (Rf05.asked_ct _ hs0 bc) (fun i => ?_))
      | (refine on_callG hF (enters_of Try.func21 (by kernel_rfl) rfl) rfl rfl rfl rfl (NInt.until_ct _ _ rfl rfl) (fun j => ?_))
      | (refine on_callG hF (enters_of Try.func9 (by kernel_rfl) rfl) rfl rfl rfl rfl ((lu _ _ _ _ i j (by exact a_subR)).pre (show Pick _ (Rf05.cnt bc 0) _ from by exact a_pick)) (fun v => ?_); refine nx_frzRow Pick.here ?_)
      | (refine on_callG hF (enters_of Try.func29 (by kernel_rfl) rfl) rfl rfl rfl rfl (ru _ _ _ _ (by exact a_mem)) (fun u => ?_); refine nx_frzRow Pick.here ?_)
      | (refine on_buildSlice (T := 22) (e := 3) (k := 1) (by_ := 8) hF rfl rfl rfl rfl rfl rfl (by kernel_rfl) a_cel (Nat.le_of_ble_eq_true rfl) (fun b => ?_))
      | (refine on_buildSlice (T := 69) (e := 27) (k := 1) (by_ := 8) hF rfl rfl rfl rfl rfl rfl (by kernel_rfl) a_cel (Nat.le_of_ble_eq_true rfl) (fun b => ?_))
      | (refine on_append (T := 22) (e := 3) (k := 1) (by_ := 8) hF rfl rfl rfl rfl rfl a_pick (by kernel_rfl) a_sl a_cel (by first | omega | (unfold maxLen; simp only [List.length_map, List.length_append, List.length_cons, List.length_nil, List.length_replicate]; omega) | (simp only [List.length_map, List.length_append, List.length_cons, List.length_nil, List.length_replicate]; omega)) (by first | omega | (unfold maxLen; simp only [List.length_map, List.length_append, List.length_cons, List.length_nil, List.length_replicate]; omega) | (simp only [List.length_map, List.length_append, List.length_cons, List.length_nil, List.length_replicate]; omega)) (fun v => ?_))
      | (refine on_alloc hF rfl Try.zeroValue3 rfl rfl (fun B => ?_))
      | (refine on_box hF rfl rfl rfl rfl (fun B => ?_))
      | (refine on_store hF rfl rfl rfl rfl a_turn a_vof (by first | rfl | exact hsz.symm | exact hsz) ?_)
      | (refine on_storeE hF rfl rfl rfl rfl a_turn (by (first | omega | (simp only [List.length_append, List.length_cons, List.length_nil, List.length_map] at *; omega))) a_vof (by first | rfl | exact hsz) ?_)
      | (refine on_storeEF hF rfl rfl rfl rfl a_turn (by first | with_reducible assumption | rfl) (by decide) a_vof rfl ?_)
      | (refine on_storeF hF rfl rfl rfl rfl a_turn (by decide) a_vof rfl ?_)) <;> try (refine hK2 _ _ _ a_allK ?_; clear hK2 K2))) <;> (refine hK _ _ _ ?_; clear hK K))
    | with_reducible refine nx_seq ?_
        | with_reducible refine nx_region ?_
        | with_reducible refine nl_nil ?_
        | with_reducible refine nq_then_n ?_
        | with_reducible refine nx_block ?_
        | with_reducible refine nx_skip ?_
        | with_reducible refine nx_exit ?_
        | with_reducible refine nx_ret ?_
        | with_reducible refine nq_then_x ?_
        | with_reducible refine nq_then_r ?_
        | with_reducible refine nq_blk_n ?_
        | with_reducible refine nq_blk_r ?_
        | with_reducible refine nq_blk_hit ?_
        | with_reducible refine nq_blk_miss rfl ?_
        | with_reducible refine nd_nil ?_
    | refine nx_cond_t rfl ?_ | refine nx_cond_f rfl ?_
    | refine nl_pass hF rfl rfl rfl ?_
    | refine nd_pass rfl rfl rfl rfl rfl ?_
    | refine nd_pass2 rfl rfl rfl (fun c => by exact (fun h => by cases h)) a_allK rfl rfl ?_
    | refine nd_pass3 rfl rfl rfl (fun c => by exact (fun h => by cases h)) rfl rfl ?_
    | (with_reducible refine hQ1 _ _ _ ?_; clear hQ1 Q1)
    | (refine nd_region (id := 5) hF [1, 1, 1, 1, 2, 2, 0] [0, 1, 2, 3, 4, 5, 6] _ _ (by kernel_rfl) (by kernel_rfl) sub2_same ?_; intro Q1 hQ1)
    | (refine nd_region (id := 28) hF [0, 0, 1, 1, 0, 0, 1, 1, 2, 0] [0, 1, 2, 3, 4, 5, 6, 7, 8, 9] _ _ (by kernel_rfl) (by kernel_rfl) sub2_same ?_; intro Q1 hQ1)
    | (refine nd_region (id := 35) hF [0, 0, 1, 1, 0, 0, 1, 1, 0, 0] [0, 1, 2, 3, 4, 5, 6, 7, 8, 9] _ _ (by kernel_rfl) (by kernel_rfl) sub2_same ?_; intro Q1 hQ1)
    | (refine nd_region (id := 39) hF [0, 1, 0, 1, 0, 0, 0, 2, 0, 2, 0, 2, 2, 0, 0, 0, 2, 0, 2, 2, 0, 1, 2, 2, 0, 0] [0, 1, 2, 3, 4, 5, 6, 8, 10, 7, 9, 11, 12, 13, 14, 15, 17, 20, 21, 16, 18, 19, 22, 23, 24, 25] _ _ (by kernel_rfl) (by kernel_rfl) sub2_same ?_; intro Q1 hQ1))
  refine nl_cutG (ι := Unit) (fun _ => (10, ptr bc) :: (14, u.1) :: (15, .int .i64 (nA : Int)) :: ML s t k bb) (fun _ => SlC 1 u.1 (A.map (.int .i64)) :: R') (fun _ => BoxC bc 3 (.int .i64 (nA : Int)) :: C) (fun _ => p3 s t xs ys b k hk bb bc u A nA hAe hnA (SlC 1 u.1 (A.map (.int .i64)) :: R') ⟨hs0, ht0, hmx, hmy, by exact a_mem, by exact a_mem, by exact a_mem, by exact a_subR⟩ (by exact a_mem)) (fun K HK => ?_)
  repeat' (first
    | ((first | with_reducible refine nl_op rfl ?_ | refine nd_go rfl rfl rfl ?_); intro K hK; (first
      | ((first | refine on_E hF rfl rfl ?_ | refine od_E rfl rfl ?_ | refine od_R rfl rfl ?_); (first | refine ⟨_, a_yl, ?_⟩))
      | ((first | refine on_Ec hF rfl rfl ?_ | refine od_Ec rfl rfl ?_); refine ⟨_, _, _, a_yc, ?_, ?_⟩ <;> (intro hc; try (exfalso; first | (omega; done) | exact absurd (by with_reducible rfl) hc | (simp at hc; done))))
      | ((first | (refine od_act (fun c => by exact (fun h => by cases h)) ?_; intro K2 hK2) | refine od_last (fun c => by exact (fun h => by cases h)) ?_ | skip); (first
      | (refine on_callG hF (enters_of Try.func15 (by kernel_rfl) rfl) rfl rfl rfl rfl (Rf05.sameT _ _ A (by exact a_mem) (by exact a_mem) (by omega)) (fun _ => ?_))
      | (refine on_buildSlice (T := 22) (e := 3) (k := 1) (by_ := 8) hF rfl rfl rfl rfl rfl rfl (by kernel_rfl) a_cel (Nat.le_of_ble_eq_true rfl) (fun b => ?_))
      | (refine on_buildSlice (T := 69) (e := 27) (k := 1) (by_ := 8) hF rfl rfl rfl rfl rfl rfl (by kernel_rfl) a_cel (Nat.le_of_ble_eq_true rfl) (fun b => ?_))
      | (refine on_append (T := 22) (e := 3) (k := 1) (by_ := 8) hF rfl rfl rfl rfl rfl a_pick (by kernel_rfl) a_sl a_cel (by first | omega | (unfold maxLen; simp only [List.length_map, List.length_append, List.length_cons, List.length_nil, List.length_replicate]; omega) | (simp only [List.length_map, List.length_append, List.length_cons, List.length_nil, List.length_replicate]; omega)) (by first | omega | (unfold maxLen; simp only [List.length_map, List.length_append, List.length_cons, List.length_nil, List.length_replicate]; omega) | (simp only [List.length_map, List.length_append, List.length_cons, List.length_nil, List.length_replicate]; omega)) (fun v => ?_))
      | (refine on_alloc hF rfl Try.zeroValue3 rfl rfl (fun B => ?_))
      | (refine on_box hF rfl rfl rfl rfl (fun B => ?_))
      | (refine on_store hF rfl rfl rfl rfl a_turn a_vof (by first | rfl | exact hsz.symm | exact hsz) ?_)
      | (refine on_storeE hF rfl rfl rfl rfl a_turn (by (first | omega | (simp only [List.length_append, List.length_cons, List.length_nil, List.length_map] at *; omega))) a_vof (by first | rfl | exact hsz) ?_)
      | (refine on_storeEF hF rfl rfl rfl rfl a_turn (by first | with_reducible assumption | rfl) (by decide) a_vof rfl ?_)
      | (refine on_storeF hF rfl rfl rfl rfl a_turn (by decide) a_vof rfl ?_)) <;> try (refine hK2 _ _ _ a_allK ?_; clear hK2 K2))) <;> (refine hK _ _ _ ?_; clear hK K))
    | with_reducible refine nx_seq ?_
        | with_reducible refine nx_region ?_
        | with_reducible refine nl_nil ?_
        | with_reducible refine nq_then_n ?_
        | with_reducible refine nx_block ?_
        | with_reducible refine nx_skip ?_
        | with_reducible refine nx_exit ?_
        | with_reducible refine nx_ret ?_
        | with_reducible refine nq_then_x ?_
        | with_reducible refine nq_then_r ?_
        | with_reducible refine nq_blk_n ?_
        | with_reducible refine nq_blk_r ?_
        | with_reducible refine nq_blk_hit ?_
        | with_reducible refine nq_blk_miss rfl ?_
        | with_reducible refine nd_nil ?_
    | refine nx_cond_t rfl ?_ | refine nx_cond_f rfl ?_
    | refine nl_pass hF rfl rfl rfl ?_
    | refine nd_pass rfl rfl rfl rfl rfl ?_
    | refine nd_pass2 rfl rfl rfl (fun c => by exact (fun h => by cases h)) a_allK rfl rfl ?_
    | refine nd_pass3 rfl rfl rfl (fun c => by exact (fun h => by cases h)) rfl rfl ?_
    | (with_reducible refine hQ1 _ _ _ ?_; clear hQ1 Q1)
    | (refine nd_region (id := 5) hF [1, 1, 1, 1, 2, 2, 0] [0, 1, 2, 3, 4, 5, 6] _ _ (by kernel_rfl) (by kernel_rfl) sub2_same ?_; intro Q1 hQ1)
    | (refine nd_region (id := 28) hF [0, 0, 1, 1, 0, 0, 1, 1, 2, 0] [0, 1, 2, 3, 4, 5, 6, 7, 8, 9] _ _ (by kernel_rfl) (by kernel_rfl) sub2_same ?_; intro Q1 hQ1)
    | (refine nd_region (id := 35) hF [0, 0, 1, 1, 0, 0, 1, 1, 0, 0] [0, 1, 2, 3, 4, 5, 6, 7, 8, 9] _ _ (by kernel_rfl) (by kernel_rfl) sub2_same ?_; intro Q1 hQ1)
    | (refine nd_region (id := 39) hF [0, 1, 0, 1, 0, 0, 0, 2, 0, 2, 0, 2, 2, 0, 0, 0, 2, 0, 2, 2, 0, 1, 2, 2, 0, 0] [0, 1, 2, 3, 4, 5, 6, 8, 10, 7, 9, 11, 12, 13, 14, 15, 17, 20, 21, 16, 18, 19, 22, 23, 24, 25] _ _ (by kernel_rfl) (by kernel_rfl) sub2_same ?_; intro Q1 hQ1))
  exact HK () _ _ _ (by exact a_sub) (by exact a_subR) (by exact a_holds2)
set_option maxRecDepth 100000 in
set_option maxHeartbeats 8000000 in
theorem makes_ct (s t : Value) (hs : IsSl s) (ht : IsSl t) (xs ys : List Int) (b k : Int) (hk : Rf05.I64 k) (hsl : SlC 1 s (xs.map (.int .i64)) ∈ R) (htl : SlC 1 t (ys.map (.int .i64)) ∈ R) (hx0 : xs.length ≤ 100000000000000) (hy0 : ys.length ≤ 100000000000000) :
    Ct Try.prog 5 [s, t, .agg #[.int .i64 b, .int .i64 k]] W0 X R C Unit (fun _ => .bool true) (fun _ => R) (fun _ => C) := by
  intro w hw
  have hF := isWide_wide
  have hs0 := hs
  have ht0 := ht
  obtain ⟨sa, sn, sc, rfl⟩ := hs
  obtain ⟨ta, tn, tc, rfl⟩ := ht
  obtain rfl := slLen (hw.hasR hsl)
  obtain rfl := slLen (hw.hasR htl)
  have hlx : (xs.map (Value.int .i64)).length = xs.length := by simp
  have hly : (ys.map (Value.int .i64)).length = ys.length := by simp
  have hva : VOf Try.prog 45 (.agg #[.int .i64 b, .int .i64 k]) := vofk (by kernel_rfl) rfl rfl
  by_cases h200 : 200 < xs.length + ys.length
  · refine calls_nx Try.func5 rfl Try.ntmps5 rfl ?_ hw
    repeat' (first
    | ((first | with_reducible refine nl_op rfl ?_ | refine nd_go rfl rfl rfl ?_); intro K hK; (first
      | ((first | refine on_E hF rfl rfl ?_ | refine od_E rfl rfl ?_ | refine od_R rfl rfl ?_); (first | refine ⟨_, a_yl, ?_⟩))
      | ((first | refine on_Ec hF rfl rfl ?_ | refine od_Ec rfl rfl ?_); refine ⟨_, _, _, a_yc, ?_, ?_⟩ <;> (intro hc; try (exfalso; first | (omega; done) | exact absurd (by with_reducible rfl) hc | (simp at hc; done))))
      | ((first | (refine od_act (fun c => by exact (fun h => by cases h)) ?_; intro K2 hK2) | refine od_last (fun c => by exact (fun h => by cases h)) ?_ | skip); (first
      | (refine on_callG hF (enters_of Try.func6 (by kernel_rfl) rfl) rfl rfl rfl rfl first_ct (fun _ => ?_))
      | (refine on_buildSlice (T := 22) (e := 3) (k := 1) (by_ := 8) hF rfl rfl rfl rfl rfl rfl (by kernel_rfl) a_cel (Nat.le_of_ble_eq_true rfl) (fun b => ?_))
      | (refine on_buildSlice (T := 69) (e := 27) (k := 1) (by_ := 8) hF rfl rfl rfl rfl rfl rfl (by kernel_rfl) a_cel (Nat.le_of_ble_eq_true rfl) (fun b => ?_))
      | (refine on_append (T := 22) (e := 3) (k := 1) (by_ := 8) hF rfl rfl rfl rfl rfl a_pick (by kernel_rfl) a_sl a_cel (by first | omega | (unfold maxLen; simp only [List.length_map, List.length_append, List.length_cons, List.length_nil, List.length_replicate]; omega) | (simp only [List.length_map, List.length_append, List.length_cons, List.length_nil, List.length_replicate]; omega)) (by first | omega | (unfold maxLen; simp only [List.length_map, List.length_append, List.length_cons, List.length_nil, List.length_replicate]; omega) | (simp only [List.length_map, List.length_append, List.length_cons, List.length_nil, List.length_replicate]; omega)) (fun v => ?_))
      | (refine on_alloc hF rfl Try.zeroValue3 rfl rfl (fun B => ?_))
      | (refine on_box hF rfl rfl rfl rfl (fun B => ?_))
      | (refine on_store hF rfl rfl rfl rfl a_turn a_vof (by first | rfl | exact hsz.symm | exact hsz) ?_)
      | (refine on_storeE hF rfl rfl rfl rfl a_turn (by (first | omega | (simp only [List.length_append, List.length_cons, List.length_nil, List.length_map] at *; omega))) a_vof (by first | rfl | exact hsz) ?_)
      | (refine on_storeEF hF rfl rfl rfl rfl a_turn (by first | with_reducible assumption | rfl) (by decide) a_vof rfl ?_)
      | (refine on_storeF hF rfl rfl rfl rfl a_turn (by decide) a_vof rfl ?_)) <;> try (refine hK2 _ _ _ a_allK ?_; clear hK2 K2))) <;> (refine hK _ _ _ ?_; clear hK K))
    | with_reducible refine nx_seq ?_
        | with_reducible refine nx_region ?_
        | with_reducible refine nl_nil ?_
        | with_reducible refine nq_then_n ?_
        | with_reducible refine nx_block ?_
        | with_reducible refine nx_skip ?_
        | with_reducible refine nx_exit ?_
        | with_reducible refine nx_ret ?_
        | with_reducible refine nq_then_x ?_
        | with_reducible refine nq_then_r ?_
        | with_reducible refine nq_blk_n ?_
        | with_reducible refine nq_blk_r ?_
        | with_reducible refine nq_blk_hit ?_
        | with_reducible refine nq_blk_miss rfl ?_
        | with_reducible refine nd_nil ?_
    | refine nx_cond_t rfl ?_ | refine nx_cond_f rfl ?_
    | refine nl_pass hF rfl rfl rfl ?_
    | refine nd_pass rfl rfl rfl rfl rfl ?_
    | refine nd_pass2 rfl rfl rfl (fun c => by exact (fun h => by cases h)) a_allK rfl rfl ?_
    | refine nd_pass3 rfl rfl rfl (fun c => by exact (fun h => by cases h)) rfl rfl ?_
    | (with_reducible refine hQ1 _ _ _ ?_; clear hQ1 Q1)
    | (refine nd_region (id := 5) hF [1, 1, 1, 1, 2, 2, 0] [0, 1, 2, 3, 4, 5, 6] _ _ (by kernel_rfl) (by kernel_rfl) sub2_same ?_; intro Q1 hQ1)
    | (refine nd_region (id := 28) hF [0, 0, 1, 1, 0, 0, 1, 1, 2, 0] [0, 1, 2, 3, 4, 5, 6, 7, 8, 9] _ _ (by kernel_rfl) (by kernel_rfl) sub2_same ?_; intro Q1 hQ1)
    | (refine nd_region (id := 35) hF [0, 0, 1, 1, 0, 0, 1, 1, 0, 0] [0, 1, 2, 3, 4, 5, 6, 7, 8, 9] _ _ (by kernel_rfl) (by kernel_rfl) sub2_same ?_; intro Q1 hQ1)
    | (refine nd_region (id := 39) hF [0, 1, 0, 1, 0, 0, 0, 2, 0, 2, 0, 2, 2, 0, 0, 0, 2, 0, 2, 2, 0, 1, 2, 2, 0, 0] [0, 1, 2, 3, 4, 5, 6, 8, 10, 7, 9, 11, 12, 13, 14, 15, 17, 20, 21, 16, 18, 19, 22, 23, 24, 25] _ _ (by kernel_rfl) (by kernel_rfl) sub2_same ?_; intro Q1 hQ1))
    all_goals (try (exfalso; dsimp only at *; omega))
    refine nx_end [] rfl () (fun a w ha hw => res_tmp Try.results5 rfl ha) (by exact a_subR) (by exact a_holds2)
  have hmx : xs.length ≤ 200 := by omega
  have hmy : ys.length ≤ 200 := by omega
  obtain ⟨s, hse⟩ : ∃ s, s = Value.slice sa (xs.map (Value.int .i64)).length sc := ⟨_, rfl⟩
  obtain ⟨t, hte⟩ : ∃ t, t = Value.slice ta (ys.map (Value.int .i64)).length tc := ⟨_, rfl⟩
  rw [← hse] at hs0 hsl ⊢
  rw [← hte] at ht0 htl ⊢
  have hvs : VOf Try.prog 22 s := vof_slice (by kernel_rfl) hs0
  have hvt : VOf Try.prog 22 t := vof_slice (by kernel_rfl) ht0
  clear hse hte
  refine calls_nx Try.func5 rfl Try.ntmps5 rfl ?_ hw
  repeat' (first
    | ((first | with_reducible refine nl_op rfl ?_ | refine nd_go rfl rfl rfl ?_); intro K hK; (first
      | ((first | refine on_E hF rfl rfl ?_ | refine od_E rfl rfl ?_ | refine od_R rfl rfl ?_); (first | refine ⟨_, a_yl, ?_⟩))
      | ((first | refine on_Ec hF rfl rfl ?_ | refine od_Ec rfl rfl ?_); refine ⟨_, _, _, a_yc, ?_, ?_⟩ <;> (intro hc; try (exfalso; first | (omega; done) | exact absurd (by with_reducible rfl) hc | (simp at hc; done))))
      | ((first | (refine od_act (fun c => by exact (fun h => by cases h)) ?_; intro K2 hK2) | refine od_last (fun c => by exact (fun h => by cases h)) ?_ | skip); (first
      | (refine on_callG hF (enters_of Try.func6 (by kernel_rfl) rfl) rfl rfl rfl rfl first_ct (fun _ => ?_))
      | (refine on_buildSlice (T := 22) (e := 3) (k := 1) (by_ := 8) hF rfl rfl rfl rfl rfl rfl (by kernel_rfl) a_cel (Nat.le_of_ble_eq_true rfl) (fun b => ?_))
      | (refine on_buildSlice (T := 69) (e := 27) (k := 1) (by_ := 8) hF rfl rfl rfl rfl rfl rfl (by kernel_rfl) a_cel (Nat.le_of_ble_eq_true rfl) (fun b => ?_))
      | (refine on_append (T := 22) (e := 3) (k := 1) (by_ := 8) hF rfl rfl rfl rfl rfl a_pick (by kernel_rfl) a_sl a_cel (by first | omega | (unfold maxLen; simp only [List.length_map, List.length_append, List.length_cons, List.length_nil, List.length_replicate]; omega) | (simp only [List.length_map, List.length_append, List.length_cons, List.length_nil, List.length_replicate]; omega)) (by first | omega | (unfold maxLen; simp only [List.length_map, List.length_append, List.length_cons, List.length_nil, List.length_replicate]; omega) | (simp only [List.length_map, List.length_append, List.length_cons, List.length_nil, List.length_replicate]; omega)) (fun v => ?_))
      | (refine on_alloc hF rfl Try.zeroValue3 rfl rfl (fun B => ?_))
      | (refine on_box hF rfl rfl rfl rfl (fun B => ?_))
      | (refine on_store hF rfl rfl rfl rfl a_turn a_vof (by first | rfl | exact hsz.symm | exact hsz) ?_)
      | (refine on_storeE hF rfl rfl rfl rfl a_turn (by (first | omega | (simp only [List.length_append, List.length_cons, List.length_nil, List.length_map] at *; omega))) a_vof (by first | rfl | exact hsz) ?_)
      | (refine on_storeEF hF rfl rfl rfl rfl a_turn (by first | with_reducible assumption | rfl) (by decide) a_vof rfl ?_)
      | (refine on_storeF hF rfl rfl rfl rfl a_turn (by decide) a_vof rfl ?_)) <;> try (refine hK2 _ _ _ a_allK ?_; clear hK2 K2))) <;> (refine hK _ _ _ ?_; clear hK K))
    | with_reducible refine nx_seq ?_
        | with_reducible refine nx_region ?_
        | with_reducible refine nl_nil ?_
        | with_reducible refine nq_then_n ?_
        | with_reducible refine nx_block ?_
        | with_reducible refine nx_skip ?_
        | with_reducible refine nx_exit ?_
        | with_reducible refine nx_ret ?_
        | with_reducible refine nq_then_x ?_
        | with_reducible refine nq_then_r ?_
        | with_reducible refine nq_blk_n ?_
        | with_reducible refine nq_blk_r ?_
        | with_reducible refine nq_blk_hit ?_
        | with_reducible refine nq_blk_miss rfl ?_
        | with_reducible refine nd_nil ?_
    | refine nx_cond_t rfl ?_ | refine nx_cond_f rfl ?_
    | refine nl_pass hF rfl rfl rfl ?_
    | refine nd_pass rfl rfl rfl rfl rfl ?_
    | refine nd_pass2 rfl rfl rfl (fun c => by exact (fun h => by cases h)) a_allK rfl rfl ?_
    | refine nd_pass3 rfl rfl rfl (fun c => by exact (fun h => by cases h)) rfl rfl ?_
    | (with_reducible refine hQ1 _ _ _ ?_; clear hQ1 Q1)
    | (refine nd_region (id := 5) hF [1, 1, 1, 1, 2, 2, 0] [0, 1, 2, 3, 4, 5, 6] _ _ (by kernel_rfl) (by kernel_rfl) sub2_same ?_; intro Q1 hQ1)
    | (refine nd_region (id := 28) hF [0, 0, 1, 1, 0, 0, 1, 1, 2, 0] [0, 1, 2, 3, 4, 5, 6, 7, 8, 9] _ _ (by kernel_rfl) (by kernel_rfl) sub2_same ?_; intro Q1 hQ1)
    | (refine nd_region (id := 35) hF [0, 0, 1, 1, 0, 0, 1, 1, 0, 0] [0, 1, 2, 3, 4, 5, 6, 7, 8, 9] _ _ (by kernel_rfl) (by kernel_rfl) sub2_same ?_; intro Q1 hQ1)
    | (refine nd_region (id := 39) hF [0, 1, 0, 1, 0, 0, 0, 2, 0, 2, 0, 2, 2, 0, 0, 0, 2, 0, 2, 2, 0, 1, 2, 2, 0, 0] [0, 1, 2, 3, 4, 5, 6, 8, 10, 7, 9, 11, 12, 13, 14, 15, 17, 20, 21, 16, 18, 19, 22, 23, 24, 25] _ _ (by kernel_rfl) (by kernel_rfl) sub2_same ?_; intro Q1 hQ1))
  all_goals (try (exfalso; dsimp only at *; omega))
  rename_i b5 bb
  obtain ⟨bc, hbc⟩ : ∃ bc, bc = B := ⟨_, rfl⟩
  subst hbc
  refine nx_frz (BoxC bb 3 (.int .i64 b)) (by exact a_pick) ?_
  refine nx_gen (l' := [(37, s), (0, s), (1, t), (7, ptr bb), (8, .int .i64 k), (9, Rf05.lowV bb), (10, ptr bc)]) (C' := Rf05.cnt bc 0 :: C) (fun R' => SlC 1 s (xs.map (.int .i64)) ∈ R' ∧ SlC 1 t (ys.map (.int .i64)) ∈ R' ∧ BoxC bb 3 (.int .i64 b) ∈ R' ∧ ∀ r ∈ R, r ∈ R') ⟨by exact a_mem, by exact a_mem, by exact a_mem, by exact a_subR⟩ (by exact a_sub) (by exact a_holds) ?_
  clear hsl htl hw h200 hx0 hy0 hva
  rintro R1 ⟨hsl, htl, hbb, hR1⟩
  have hA : (xs.take k.toNat).length ≤ 200 := by simp; omega
  have hA2 : ((xs.take k.toNat).map (Value.int .i64)).length = (xs.take k.toNat).length := by simp
  repeat' (first
    | ((first | with_reducible refine nl_op rfl ?_ | refine nd_go rfl rfl rfl ?_); intro K hK; (first
      | ((first | refine on_E hF rfl rfl ?_ | refine od_E rfl rfl ?_ | refine od_R rfl rfl ?_); (first | refine ⟨_, a_yl, ?_⟩))
      | ((first | refine on_Ec hF rfl rfl ?_ | refine od_Ec rfl rfl ?_); refine ⟨_, _, _, a_yc, ?_, ?_⟩ <;> (intro hc; try (exfalso; first | (omega; done) | exact absurd (by with_reducible rfl) hc | (simp at hc; done))))
      | ((first | (refine od_act (fun c => by exact (fun h => by cases h)) ?_; intro K2 hK2) | refine od_last (fun c => by exact (fun h => by cases h)) ?_ | skip); (first
      | (refine on_callG hF (enters_of Try.func27 (by kernel_rfl) rfl) rfl rfl rfl rfl (Rf05.asked_ct _ hs0 bc) (fun i => ?_))
      | (refine on_callG hF (enters_of Try.func19 (by kernel_rfl) rfl) rfl rfl rfl rfl (NInt.first_ct _ k rfl) (fun j => ?_))
      | (refine on_callG hF (enters_of Try.func9 (by kernel_rfl) rfl) rfl rfl rfl rfl ((Rf05.listFirst_ct i j bc _ hs0 xs k hk hmx (by exact a_subR)).pre (show Pick _ (Rf05.cnt bc 0) _ from by exact a_pick)) (fun v => ?_); refine nx_frzRow Pick.here ?_)
      | (refine on_callG hF (enters_of Try.func28 (by kernel_rfl) rfl) rfl rfl rfl rfl (Rf05.first_ct _ hs0 xs k (by exact a_mem) (by omega)) (fun u => ?_); refine nx_frzRow Pick.here ?_)
      | (refine on_buildSlice (T := 22) (e := 3) (k := 1) (by_ := 8) hF rfl rfl rfl rfl rfl rfl (by kernel_rfl) a_cel (Nat.le_of_ble_eq_true rfl) (fun b => ?_))
      | (refine on_buildSlice (T := 69) (e := 27) (k := 1) (by_ := 8) hF rfl rfl rfl rfl rfl rfl (by kernel_rfl) a_cel (Nat.le_of_ble_eq_true rfl) (fun b => ?_))
      | (refine on_append (T := 22) (e := 3) (k := 1) (by_ := 8) hF rfl rfl rfl rfl rfl a_pick (by kernel_rfl) a_sl a_cel (by first | omega | (unfold maxLen; simp only [List.length_map, List.length_append, List.length_cons, List.length_nil, List.length_replicate]; omega) | (simp only [List.length_map, List.length_append, List.length_cons, List.length_nil, List.length_replicate]; omega)) (by first | omega | (unfold maxLen; simp only [List.length_map, List.length_append, List.length_cons, List.length_nil, List.length_replicate]; omega) | (simp only [List.length_map, List.length_append, List.length_cons, List.length_nil, List.length_replicate]; omega)) (fun v => ?_))
      | (refine on_alloc hF rfl Try.zeroValue3 rfl rfl (fun B => ?_))
      | (refine on_box hF rfl rfl rfl rfl (fun B => ?_))
      | (refine on_store hF rfl rfl rfl rfl a_turn a_vof (by first | rfl | exact hsz.symm | exact hsz) ?_)
      | (refine on_storeE hF rfl rfl rfl rfl a_turn (by (first | omega | (simp only [List.length_append, List.length_cons, List.length_nil, List.length_map] at *; omega))) a_vof (by first | rfl | exact hsz) ?_)
      | (refine on_storeEF hF rfl rfl rfl rfl a_turn (by first | with_reducible assumption | rfl) (by decide) a_vof rfl ?_)
      | (refine on_storeF hF rfl rfl rfl rfl a_turn (by decide) a_vof rfl ?_)) <;> try (refine hK2 _ _ _ a_allK ?_; clear hK2 K2))) <;> (refine hK _ _ _ ?_; clear hK K))
    | with_reducible refine nx_seq ?_
        | with_reducible refine nx_region ?_
        | with_reducible refine nl_nil ?_
        | with_reducible refine nq_then_n ?_
        | with_reducible refine nx_block ?_
        | with_reducible refine nx_skip ?_
        | with_reducible refine nx_exit ?_
        | with_reducible refine nx_ret ?_
        | with_reducible refine nq_then_x ?_
        | with_reducible refine nq_then_r ?_
        | with_reducible refine nq_blk_n ?_
        | with_reducible refine nq_blk_r ?_
        | with_reducible refine nq_blk_hit ?_
        | with_reducible refine nq_blk_miss rfl ?_
        | with_reducible refine nd_nil ?_
    | refine nx_cond_t rfl ?_ | refine nx_cond_f rfl ?_
    | refine nl_pass hF rfl rfl rfl ?_
    | refine nd_pass rfl rfl rfl rfl rfl ?_
    | refine nd_pass2 rfl rfl rfl (fun c => by exact (fun h => by cases h)) a_allK rfl rfl ?_
    | refine nd_pass3 rfl rfl rfl (fun c => by exact (fun h => by cases h)) rfl rfl ?_
    | (with_reducible refine hQ1 _ _ _ ?_; clear hQ1 Q1)
    | (refine nd_region (id := 5) hF [1, 1, 1, 1, 2, 2, 0] [0, 1, 2, 3, 4, 5, 6] _ _ (by kernel_rfl) (by kernel_rfl) sub2_same ?_; intro Q1 hQ1)
    | (refine nd_region (id := 28) hF [0, 0, 1, 1, 0, 0, 1, 1, 2, 0] [0, 1, 2, 3, 4, 5, 6, 7, 8, 9] _ _ (by kernel_rfl) (by kernel_rfl) sub2_same ?_; intro Q1 hQ1)
    | (refine nd_region (id := 35) hF [0, 0, 1, 1, 0, 0, 1, 1, 0, 0] [0, 1, 2, 3, 4, 5, 6, 7, 8, 9] _ _ (by kernel_rfl) (by kernel_rfl) sub2_same ?_; intro Q1 hQ1)
    | (refine nd_region (id := 39) hF [0, 1, 0, 1, 0, 0, 0, 2, 0, 2, 0, 2, 2, 0, 0, 0, 2, 0, 2, 2, 0, 1, 2, 2, 0, 0] [0, 1, 2, 3, 4, 5, 6, 8, 10, 7, 9, 11, 12, 13, 14, 15, 17, 20, 21, 16, 18, 19, 22, 23, 24, 25] _ _ (by kernel_rfl) (by kernel_rfl) sub2_same ?_; intro Q1 hQ1))
  refine nl_cutG (ι := Unit) (fun _ => (10, ptr bc) :: ML s t k bb) (fun _ => R1) (fun _ => BoxC bc 3 (.int .i64 ((xs.take k.toNat).length : Int)) :: C) (fun _ => p2 s t xs ys b k hk bb bc _ R1 ⟨hs0, ht0, hmx, hmy, hsl, htl, hbb, hR1⟩) (fun K HK => ?_)
  repeat' (first
    | ((first | with_reducible refine nl_op rfl ?_ | refine nd_go rfl rfl rfl ?_); intro K hK; (first
      | ((first | refine on_E hF rfl rfl ?_ | refine od_E rfl rfl ?_ | refine od_R rfl rfl ?_); (first | refine ⟨_, a_yl, ?_⟩))
      | ((first | refine on_Ec hF rfl rfl ?_ | refine od_Ec rfl rfl ?_); refine ⟨_, _, _, a_yc, ?_, ?_⟩ <;> (intro hc; try (exfalso; first | (omega; done) | exact absurd (by with_reducible rfl) hc | (simp at hc; done))))
      | ((first | (refine od_act (fun c => by exact (fun h => by cases h)) ?_; intro K2 hK2) | refine od_last (fun c => by exact (fun h => by cases h)) ?_ | skip); (first
      | (refine on_callG hF (enters_of Try.func15 (by kernel_rfl) rfl) rfl rfl rfl rfl (Rf05.sameT _ _ (xs.take k.toNat) (by exact a_mem) (by exact a_mem) (by omega)) (fun _ => ?_))
      | (refine on_buildSlice (T := 22) (e := 3) (k := 1) (by_ := 8) hF rfl rfl rfl rfl rfl rfl (by kernel_rfl) a_cel (Nat.le_of_ble_eq_true rfl) (fun b => ?_))
      | (refine on_buildSlice (T := 69) (e := 27) (k := 1) (by_ := 8) hF rfl rfl rfl rfl rfl rfl (by kernel_rfl) a_cel (Nat.le_of_ble_eq_true rfl) (fun b => ?_))
      | (refine on_append (T := 22) (e := 3) (k := 1) (by_ := 8) hF rfl rfl rfl rfl rfl a_pick (by kernel_rfl) a_sl a_cel (by first | omega | (unfold maxLen; simp only [List.length_map, List.length_append, List.length_cons, List.length_nil, List.length_replicate]; omega) | (simp only [List.length_map, List.length_append, List.length_cons, List.length_nil, List.length_replicate]; omega)) (by first | omega | (unfold maxLen; simp only [List.length_map, List.length_append, List.length_cons, List.length_nil, List.length_replicate]; omega) | (simp only [List.length_map, List.length_append, List.length_cons, List.length_nil, List.length_replicate]; omega)) (fun v => ?_))
      | (refine on_alloc hF rfl Try.zeroValue3 rfl rfl (fun B => ?_))
      | (refine on_box hF rfl rfl rfl rfl (fun B => ?_))
      | (refine on_store hF rfl rfl rfl rfl a_turn a_vof (by first | rfl | exact hsz.symm | exact hsz) ?_)
      | (refine on_storeE hF rfl rfl rfl rfl a_turn (by (first | omega | (simp only [List.length_append, List.length_cons, List.length_nil, List.length_map] at *; omega))) a_vof (by first | rfl | exact hsz) ?_)
      | (refine on_storeEF hF rfl rfl rfl rfl a_turn (by first | with_reducible assumption | rfl) (by decide) a_vof rfl ?_)
      | (refine on_storeF hF rfl rfl rfl rfl a_turn (by decide) a_vof rfl ?_)) <;> try (refine hK2 _ _ _ a_allK ?_; clear hK2 K2))) <;> (refine hK _ _ _ ?_; clear hK K))
    | with_reducible refine nx_seq ?_
        | with_reducible refine nx_region ?_
        | with_reducible refine nl_nil ?_
        | with_reducible refine nq_then_n ?_
        | with_reducible refine nx_block ?_
        | with_reducible refine nx_skip ?_
        | with_reducible refine nx_exit ?_
        | with_reducible refine nx_ret ?_
        | with_reducible refine nq_then_x ?_
        | with_reducible refine nq_then_r ?_
        | with_reducible refine nq_blk_n ?_
        | with_reducible refine nq_blk_r ?_
        | with_reducible refine nq_blk_hit ?_
        | with_reducible refine nq_blk_miss rfl ?_
        | with_reducible refine nd_nil ?_
    | refine nx_cond_t rfl ?_ | refine nx_cond_f rfl ?_
    | refine nl_pass hF rfl rfl rfl ?_
    | refine nd_pass rfl rfl rfl rfl rfl ?_
    | refine nd_pass2 rfl rfl rfl (fun c => by exact (fun h => by cases h)) a_allK rfl rfl ?_
    | refine nd_pass3 rfl rfl rfl (fun c => by exact (fun h => by cases h)) rfl rfl ?_
    | (with_reducible refine hQ1 _ _ _ ?_; clear hQ1 Q1)
    | (refine nd_region (id := 5) hF [1, 1, 1, 1, 2, 2, 0] [0, 1, 2, 3, 4, 5, 6] _ _ (by kernel_rfl) (by kernel_rfl) sub2_same ?_; intro Q1 hQ1)
    | (refine nd_region (id := 28) hF [0, 0, 1, 1, 0, 0, 1, 1, 2, 0] [0, 1, 2, 3, 4, 5, 6, 7, 8, 9] _ _ (by kernel_rfl) (by kernel_rfl) sub2_same ?_; intro Q1 hQ1)
    | (refine nd_region (id := 35) hF [0, 0, 1, 1, 0, 0, 1, 1, 0, 0] [0, 1, 2, 3, 4, 5, 6, 7, 8, 9] _ _ (by kernel_rfl) (by kernel_rfl) sub2_same ?_; intro Q1 hQ1)
    | (refine nd_region (id := 39) hF [0, 1, 0, 1, 0, 0, 0, 2, 0, 2, 0, 2, 2, 0, 0, 0, 2, 0, 2, 2, 0, 1, 2, 2, 0, 0] [0, 1, 2, 3, 4, 5, 6, 8, 10, 7, 9, 11, 12, 13, 14, 15, 17, 20, 21, 16, 18, 19, 22, 23, 24, 25] _ _ (by kernel_rfl) (by kernel_rfl) sub2_same ?_; intro Q1 hQ1))
  exact HK () _ _ _ (by exact a_sub) (by exact a_subR) (by exact a_holds2)
end Law05
end Go.Proofs.Ytncjgkghhcpagaa
