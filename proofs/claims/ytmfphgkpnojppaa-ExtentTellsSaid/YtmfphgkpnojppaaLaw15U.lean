/- The contract of breviarylaw15.ExtentTells. Condition: a list of extents, two bounds and a number. -/
import Derived.Test.YtmfphgkpnojppaaLaw15A
import Derived.Test.YtmfphgkpnojppaaLaw15T
import Derived.Test.YtmfphgkpnojppaaT5
namespace Go.Proofs.Ytmfphgkpnojppaa
open Go.RowKit Go.Shelf
set_option linter.unusedSimpArgs false
set_option linter.unusedVariables false
namespace Law15
open Ex
variable {W0 : World} {X : Nat → Prop} {R C : List Ch}
theorem takeP_len (L : List Ext) (n : Int) : (takeP L n).1.length ≤ L.length := by
  unfold takeP
  split
  · simp
  · split
    · simp
    · exact takeL_len L n
theorem freeP_len (L : List Ext) (a b : Int) (h : a < 0 ∨ a > b ∨ b ≤ 3000) : (freeP L a b).1.length ≤ 3000 := by
  by_cases hb : apB L = false ∨ a < 0 ∨ a > b ∨ b > 1099511627776
  · unfold freeP; rw [if_pos hb]; simp
  · have h1 : apB L = true := by cases h : apB L <;> simp_all
    have hK := (freeK L a b h1 (by omega) (by omega) (by omega)).2
    have := hK.len (by omega)
    omega
abbrev UQ (W0 : World) (X : Nat → Prop) (R C : List Ch) : Exit → Act → World → Prop := bodyPostM Fence.wide 0 Try.prog Try.f3 (fun e w' => ∃ i : Unit, e = Ending.returned (Value.bool true) ∧ St W0 X R C w')
set_option maxRecDepth 100000 in
set_option maxHeartbeats 8000000 in
/-- The sectors, one by one. -/
theorem u3 (s : Value) (hs0 : IsSl s) (L : List Ext) (hm2 : L.length ≤ 40) (hI : ∀ x ∈ L, I64 x.a ∧ I64 x.n) (b3 : Nat) (R' : List Ch) (hb3 : BoxC b3 22 s ∈ R') (hsl : SlC 2 s (L.map Ext.v) ∈ R') (hR : ∀ r ∈ R, r ∈ R') :
    Nx ((restOf 7 (bodyOf Try.f3)).wpIn Fence.wide 0 Try.prog (UQ W0 X R C)) 113 [(3, ptr b3)] [] W0 X R' C := by
  have hF := isWide_wide
  have hvs : VOf Try.prog 22 s := vof_slice (by kernel_rfl) hs0
  have ra := fun (W0 : World) (X : Nat → Prop) (R C : List Ch) h => rapart_ct (W0 := W0) (X := X) (R := R) (C := C) s hs0 L (apB L) (apB_iff L) h (by omega) hI
  have sit := fun (B : Nat) (s : Value) (hs : IsSl s) => sectors_it B s hs L (by omega) hI
  have scc := fun (W0 : World) (X : Nat → Prop) (R C : List Ch) h => sectors_ct (W0 := W0) (X := X) (R := R) (C := C) s hs0 L h (by omega)
  have hApart := apB_iff L
  unfold secB at sit
  obtain ⟨ap, hap⟩ : ∃ ap, apB L = ap := ⟨_, rfl⟩
  rw [hap] at ra sit hApart
  clear hap
  dsimp only [restOf, bodyOf, Try.f3]
  repeat' (first
    | ((first | with_reducible refine nl_op rfl ?_ | refine nd_go rfl rfl rfl ?_); intro K hK; (first
      | ((first | refine on_E hF rfl rfl ?_ | refine od_E rfl rfl ?_ | refine od_R rfl rfl ?_); (first | refine ⟨_, a_yl, ?_⟩))
      | ((first | refine on_Ec hF rfl rfl ?_ | refine od_Ec rfl rfl ?_); refine ⟨_, _, _, a_yc, ?_, ?_⟩ <;> (intro hc; try (exfalso; first | (omega; done) | exact absurd (by with_reducible rfl) hc | (simp at hc; done))))
      | ((first | (refine od_act (fun c => by exact (fun h => by cases h)) ?_; intro K2 hK2) | refine od_last (fun c => by exact (fun h => by cases h)) ?_ | skip); (first
      
      
      | (refine on_alloc hF rfl Try.zeroValue3 rfl rfl (fun B => ?_))
      | (refine on_alloc hF rfl Try.zeroValue4 rfl rfl (fun B => ?_))
      | (refine on_box hF rfl rfl rfl rfl (fun B => ?_))
      | (refine on_store hF rfl rfl rfl rfl a_turn a_vof (by first | rfl | exact hsz.symm | exact hsz) ?_)
      | (refine on_storeE hF rfl rfl rfl rfl a_turn (by (first | omega | (simp only [List.length_append, List.length_cons, List.length_nil, List.length_map] at *; omega))) a_vof (by first | rfl | exact hsz) ?_)
      | (refine on_storeEF hF rfl rfl rfl rfl a_turn (by first | with_reducible assumption | rfl) (by decide) a_vof rfl ?_)
      | (refine on_storeF hF rfl rfl rfl rfl a_turn (by decide) a_vof rfl ?_)) <;> try (refine hK2 _ _ _ a_allK ?_; clear hK2 K2))) <;> (refine hK _ _ _ ?_; clear hK K))
    | with_reducible refine nx_seq ?_
        | with_reducible refine nx_region ?_
        | with_reducible refine nl_nil ?_
        | with_reducible refine nq_then_n ?_
        | with_reducible refine nx_block ?_
        | with_reducible refine nx_skip ?_
        | with_reducible refine nx_exit ?_
        | with_reducible refine nx_ret ?_
        | with_reducible refine nq_then_x ?_
        | with_reducible refine nq_then_r ?_
        | with_reducible refine nq_blk_n ?_
        | with_reducible refine nq_blk_r ?_
        | with_reducible refine nq_blk_hit ?_
        | with_reducible refine nq_blk_miss rfl ?_
        | with_reducible refine nd_nil ?_
    | refine nx_cond_t rfl ?_ | refine nx_cond_f rfl ?_
    | refine nl_pass hF rfl rfl rfl ?_
    | refine nd_pass rfl rfl rfl rfl rfl ?_
    | refine nd_pass2 rfl rfl rfl (fun c => by exact (fun h => by cases h)) a_allK rfl rfl ?_
    | refine nd_pass3 rfl rfl rfl (fun c => by exact (fun h => by cases h)) rfl rfl ?_
    | (with_reducible refine hQ1 _ _ _ ?_; clear hQ1 Q1)
    | (refine nd_region (id := 7) hF [1, 2, 1, 2, 0, 0, 1, 2, 1, 2, 0, 0, 0, 0, 0, 2, 0, 0, 0, 0, 0, 0, 0] [0, 2, 1, 3, 4, 5, 6, 8, 7, 9, 10, 11, 12, 13, 14, 15, 16, 17, 18, 19, 20, 21, 22] _ _ (by kernel_rfl) (by kernel_rfl) sub2_same ?_; intro Q1 hQ1)
    | (refine nd_region (id := 9) hF [1, 1, 1, 1, 0, 0] [0, 1, 2, 3, 4, 5] _ _ (by kernel_rfl) (by kernel_rfl) sub2_same ?_; intro Q1 hQ1))
  rename_i b17 b18
  obtain ⟨b19, hb19⟩ : ∃ b19, b19 = B := ⟨_, rfl⟩
  subst hb19
  refine nx_perm (E := BoxC b17 3 (.int .i64 0) :: BoxC b18 3 (.int .i64 0) :: BoxC b19 4 (.bool true) :: C) ((Pick.there (Pick.there Pick.here)).trans (List.Perm.cons _ (Pick.there Pick.here))) ?_
  cases ap with
  | false =>
    simp only [Bool.false_eq_true, if_false] at sit
    repeat' (first
    | ((first | with_reducible refine nl_op rfl ?_ | refine nd_go rfl rfl rfl ?_); intro K hK; (first
      | ((first | refine on_E hF rfl rfl ?_ | refine od_E rfl rfl ?_ | refine od_R rfl rfl ?_); (first | refine ⟨_, a_yl, ?_⟩))
      | ((first | refine on_Ec hF rfl rfl ?_ | refine od_Ec rfl rfl ?_); refine ⟨_, _, _, a_yc, ?_, ?_⟩ <;> (intro hc; try (exfalso; first | (omega; done) | exact absurd (by with_reducible rfl) hc | (simp at hc; done))))
      | ((first | (refine od_act (fun c => by exact (fun h => by cases h)) ?_; intro K2 hK2) | refine od_last (fun c => by exact (fun h => by cases h)) ?_ | skip); (first
      | (refine on_callG hF (enters_of Try.func16 (by kernel_rfl) rfl) rfl rfl rfl rfl (scc _ _ _ _ (by exact a_mem)) (fun q => ?_))
      | (refine on_iter (gy := 17) (lbY := [ptr b17, ptr b3, ptr b18, ptr b19]) hF (sit q.2 q.1.1 q.1.2) rfl rfl rfl rfl rfl (enters_of Try.func17 (by kernel_rfl) rfl) (by exact a_subR) [] all_nil (fun _ (_ : Unit) => True) (fun _ _ => tlC b17 b18 b19 (0, 0)) (fun _ (_ : Unit) => False) (fun _ _ => []) () trivial (List.Perm.refl _) (fun pre x post hx vs hv i hp W0 X R2 E hR2 => absurd (congrArg List.length hx) (by simp)) (fun _ hd => ?_) (fun pre x post hx _ hd => hd.elim); change Nx _ _ _ _ _ _ _ (BoxC b17 3 (.int .i64 0) :: BoxC b18 3 (.int .i64 0) :: BoxC b19 4 (.bool true) :: _))
      | (refine on_callG hF (enters_of Try.func10 (by kernel_rfl) rfl) rfl rfl rfl rfl (ra _ _ _ _ (by exact a_mem)) (fun _ => ?_))
      
      | (refine on_alloc hF rfl Try.zeroValue3 rfl rfl (fun B => ?_))
      | (refine on_alloc hF rfl Try.zeroValue4 rfl rfl (fun B => ?_))
      | (refine on_box hF rfl rfl rfl rfl (fun B => ?_))
      | (refine on_store hF rfl rfl rfl rfl a_turn a_vof (by first | rfl | exact hsz.symm | exact hsz) ?_)
      | (refine on_storeE hF rfl rfl rfl rfl a_turn (by (first | omega | (simp only [List.length_append, List.length_cons, List.length_nil, List.length_map] at *; omega))) a_vof (by first | rfl | exact hsz) ?_)
      | (refine on_storeEF hF rfl rfl rfl rfl a_turn (by first | with_reducible assumption | rfl) (by decide) a_vof rfl ?_)
      | (refine on_storeF hF rfl rfl rfl rfl a_turn (by decide) a_vof rfl ?_)) <;> try (refine hK2 _ _ _ a_allK ?_; clear hK2 K2))) <;> (refine hK _ _ _ ?_; clear hK K))
    | with_reducible refine nx_seq ?_
        | with_reducible refine nx_region ?_
        | with_reducible refine nl_nil ?_
        | with_reducible refine nq_then_n ?_
        | with_reducible refine nx_block ?_
        | with_reducible refine nx_skip ?_
        | with_reducible refine nx_exit ?_
        | with_reducible refine nx_ret ?_
        | with_reducible refine nq_then_x ?_
        | with_reducible refine nq_then_r ?_
        | with_reducible refine nq_blk_n ?_
        | with_reducible refine nq_blk_r ?_
        | with_reducible refine nq_blk_hit ?_
        | with_reducible refine nq_blk_miss rfl ?_
        | with_reducible refine nd_nil ?_
    | refine nx_cond_t rfl ?_ | refine nx_cond_f rfl ?_
    | refine nl_pass hF rfl rfl rfl ?_
    | refine nd_pass rfl rfl rfl rfl rfl ?_
    | refine nd_pass2 rfl rfl rfl (fun c => by exact (fun h => by cases h)) a_allK rfl rfl ?_
    | refine nd_pass3 rfl rfl rfl (fun c => by exact (fun h => by cases h)) rfl rfl ?_
    | (with_reducible refine hQ1 _ _ _ ?_; clear hQ1 Q1)
    | (refine nd_region (id := 7) hF [1, 2, 1, 2, 0, 0, 1, 2, 1, 2, 0, 0, 0, 0, 0, 2, 0, 0, 0, 0, 0, 0, 0] [0, 2, 1, 3, 4, 5, 6, 8, 7, 9, 10, 11, 12, 13, 14, 15, 16, 17, 18, 19, 20, 21, 22] _ _ (by kernel_rfl) (by kernel_rfl) sub2_same ?_; intro Q1 hQ1)
    | (refine nd_region (id := 9) hF [1, 1, 1, 1, 0, 0] [0, 1, 2, 3, 4, 5] _ _ (by kernel_rfl) (by kernel_rfl) sub2_same ?_; intro Q1 hQ1))
    refine nx_end [] rfl () (fun a w ha hw => res_tmp Try.results3 rfl ha) (by exact a_subR) (by exact a_holds2)
  | true =>
    have hLo := ((hApart).1 rfl).ok
    simp only [if_true] at sit
    repeat' (first
    | ((first | with_reducible refine nl_op rfl ?_ | refine nd_go rfl rfl rfl ?_); intro K hK; (first
      | ((first | refine on_E hF rfl rfl ?_ | refine od_E rfl rfl ?_ | refine od_R rfl rfl ?_); (first | refine ⟨_, a_yl, ?_⟩))
      | ((first | refine on_Ec hF rfl rfl ?_ | refine od_Ec rfl rfl ?_); refine ⟨_, _, _, a_yc, ?_, ?_⟩ <;> (intro hc; try (exfalso; first | (omega; done) | exact absurd (by with_reducible rfl) hc | (simp at hc; done))))
      | ((first | (refine od_act (fun c => by exact (fun h => by cases h)) ?_; intro K2 hK2) | refine od_last (fun c => by exact (fun h => by cases h)) ?_ | skip); (first
      | (refine on_callG hF (enters_of Try.func16 (by kernel_rfl) rfl) rfl rfl rfl rfl (scc _ _ _ _ (by exact a_mem)) (fun q => ?_))
      | (refine on_iter (gy := 17) (lbY := [ptr b17, ptr b3, ptr b18, ptr b19]) hF (sit q.2 q.1.1 q.1.2) rfl rfl rfl rfl rfl (enters_of Try.func17 (by kernel_rfl) rfl) (by exact a_subR) [BoxC b3 22 s, SlC 2 s (L.map Ext.v)] (by exact a_subR) (fun pre p => SrI L pre p) (fun _ p => tlC b17 b18 b19 p) (fun _ (_ : Nat × Nat) => True) (fun _ p => tlC b17 b18 b19 p) (0, 0) (SrI.zero L hLo) (List.Perm.refl _) (fun pre x post hx vs hv p hp W0 X R2 E hR2 => tell1_round b17 b3 b18 b19 _ hs0 L hm2 hLo pre x post hx vs hv p hp (hR2 _ (by simp)) (hR2 _ (by simp))) (fun p hd => ?_) (fun pre x post hx p hd => ?_) <;> change Nx _ _ _ _ _ _ _ (BoxC b17 3 (.int .i64 (p.1 : Int)) :: BoxC b18 3 (.int .i64 (p.2 : Int)) :: BoxC b19 4 (.bool true) :: _))
      | (refine on_callG hF (enters_of Try.func10 (by kernel_rfl) rfl) rfl rfl rfl rfl (ra _ _ _ _ (by exact a_mem)) (fun _ => ?_))
      
      | (refine on_alloc hF rfl Try.zeroValue3 rfl rfl (fun B => ?_))
      | (refine on_alloc hF rfl Try.zeroValue4 rfl rfl (fun B => ?_))
      | (refine on_box hF rfl rfl rfl rfl (fun B => ?_))
      | (refine on_store hF rfl rfl rfl rfl a_turn a_vof (by first | rfl | exact hsz.symm | exact hsz) ?_)
      | (refine on_storeE hF rfl rfl rfl rfl a_turn (by (first | omega | (simp only [List.length_append, List.length_cons, List.length_nil, List.length_map] at *; omega))) a_vof (by first | rfl | exact hsz) ?_)
      | (refine on_storeEF hF rfl rfl rfl rfl a_turn (by first | with_reducible assumption | rfl) (by decide) a_vof rfl ?_)
      | (refine on_storeF hF rfl rfl rfl rfl a_turn (by decide) a_vof rfl ?_)) <;> try (refine hK2 _ _ _ a_allK ?_; clear hK2 K2))) <;> (refine hK _ _ _ ?_; clear hK K))
    | with_reducible refine nx_seq ?_
        | with_reducible refine nx_region ?_
        | with_reducible refine nl_nil ?_
        | with_reducible refine nq_then_n ?_
        | with_reducible refine nx_block ?_
        | with_reducible refine nx_skip ?_
        | with_reducible refine nx_exit ?_
        | with_reducible refine nx_ret ?_
        | with_reducible refine nq_then_x ?_
        | with_reducible refine nq_then_r ?_
        | with_reducible refine nq_blk_n ?_
        | with_reducible refine nq_blk_r ?_
        | with_reducible refine nq_blk_hit ?_
        | with_reducible refine nq_blk_miss rfl ?_
        | with_reducible refine nd_nil ?_
    | refine nx_cond_t rfl ?_ | refine nx_cond_f rfl ?_
    | refine nl_pass hF rfl rfl rfl ?_
    | refine nd_pass rfl rfl rfl rfl rfl ?_
    | refine nd_pass2 rfl rfl rfl (fun c => by exact (fun h => by cases h)) a_allK rfl rfl ?_
    | refine nd_pass3 rfl rfl rfl (fun c => by exact (fun h => by cases h)) rfl rfl ?_
    | (with_reducible refine hQ1 _ _ _ ?_; clear hQ1 Q1)
    | (refine nd_region (id := 7) hF [1, 2, 1, 2, 0, 0, 1, 2, 1, 2, 0, 0, 0, 0, 0, 2, 0, 0, 0, 0, 0, 0, 0] [0, 2, 1, 3, 4, 5, 6, 8, 7, 9, 10, 11, 12, 13, 14, 15, 16, 17, 18, 19, 20, 21, 22] _ _ (by kernel_rfl) (by kernel_rfl) sub2_same ?_; intro Q1 hQ1)
    | (refine nd_region (id := 9) hF [1, 1, 1, 1, 0, 0] [0, 1, 2, 3, 4, 5] _ _ (by kernel_rfl) (by kernel_rfl) sub2_same ?_; intro Q1 hQ1))
    all_goals (refine nx_end [] rfl () (fun a w ha hw => res_tmp Try.results3 rfl ha) (by exact a_subR) (by exact a_holds2))
set_option maxRecDepth 100000 in
set_option maxHeartbeats 8000000 in
/-- What is free, and what follows. -/
theorem u2 (s : Value) (hs0 : IsSl s) (L : List Ext) (hm2 : L.length ≤ 40) (hI : ∀ x ∈ L, I64 x.a ∧ I64 x.n) (n0 n1 : Int) (b3 b4 : Nat) (R' : List Ch) (hb3 : BoxC b3 22 s ∈ R') (hsl : SlC 2 s (L.map Ext.v) ∈ R') (hR : ∀ r ∈ R, r ∈ R') :
    Nx ((restOf 6 (bodyOf Try.f3)).wpIn Fence.wide 0 Try.prog (UQ W0 X R C)) 113 [(3, ptr b3), (4, ptr b4)] [] W0 X R' (BoxC b4 23 (.agg #[.int .i64 n0, .int .i64 n1]) :: C) := by
  have hF := isWide_wide
  have hvs : VOf Try.prog 22 s := vof_slice (by kernel_rfl) hs0
  have hva : VOf Try.prog 23 (.agg #[.int .i64 n0, .int .i64 n1]) := vofk (by kernel_rfl) rfl rfl
  have fc := fun (W0 : World) (X : Nat → Prop) (R C : List Ch) h => free_ct (W0 := W0) (X := X) (R := R) (C := C) s hs0 L n0 n1 h (by omega) hI
  have rf := fun (W0 : World) (X : Nat → Prop) (R C : List Ch) h => rfree_ct (W0 := W0) (X := X) (R := R) (C := C) s hs0 L n0 n1 h (by omega) hI
  have hGl := freeP_len L n0 n1
  obtain ⟨⟨G, eG⟩, hG⟩ : ∃ p, freeP L n0 n1 = p := ⟨_, rfl⟩
  rw [hG] at fc rf hGl
  dsimp only at fc rf hGl
  clear hG
  dsimp only [restOf, bodyOf, Try.f3]
  refine nx_cut1 (ι := Unit) (fun _ => [(3, ptr b3)]) (fun _ => R') (fun _ => C) (fun _ => u3 s hs0 L hm2 hI b3 R' hb3 hsl hR) (fun K HK => ?_)
  by_cases hg : n0 < 0 ∨ n0 > n1 ∨ n1 ≤ 3000
  · have hGl2 : G.length ≤ 1000000000000 := by have := hGl hg; omega
    clear hGl
    by_cases he : eG = 0
    · simp only [if_pos he] at fc
      repeat' (first
    | ((first | with_reducible refine nl_op rfl ?_ | refine nd_go rfl rfl rfl ?_); intro K hK; (first
      | ((first | refine on_E hF rfl rfl ?_ | refine od_E rfl rfl ?_ | refine od_R rfl rfl ?_); (first | refine ⟨_, a_yl, ?_⟩))
      | ((first | refine on_Ec hF rfl rfl ?_ | refine od_Ec rfl rfl ?_); refine ⟨_, _, _, a_yc, ?_, ?_⟩ <;> (intro hc; try (exfalso; first | (omega; done) | exact absurd (by with_reducible rfl) hc | (simp at hc; done))))
      | ((first | (refine od_act (fun c => by exact (fun h => by cases h)) ?_; intro K2 hK2) | refine od_last (fun c => by exact (fun h => by cases h)) ?_ | skip); (first
      | (refine on_callG hF (enters_of Try.func14 (by kernel_rfl) rfl) rfl rfl rfl rfl (fc _ _ _ _ (by exact a_mem)) (fun v => ?_); obtain ⟨⟨v, hv⟩, vb⟩ := v; dsimp only; refine nx_frzRow Pick.here ?_)
      | (refine on_callG hF (enters_of Try.func15 (by kernel_rfl) rfl) rfl rfl rfl rfl (rf _ _ _ _ (by exact a_mem)) (fun u => ?_); obtain ⟨u, hu⟩ := u; dsimp only; refine nx_frzRow Pick.here ?_)
      | (refine on_callG hF (enters_of Try.func13 (by kernel_rfl) rfl) rfl rfl rfl rfl (same_ct _ _ hv hu G (by exact a_mem) (by exact a_mem) hGl2) (fun _ => ?_))
      
      | (refine on_alloc hF rfl Try.zeroValue3 rfl rfl (fun B => ?_))
      | (refine on_alloc hF rfl Try.zeroValue4 rfl rfl (fun B => ?_))
      | (refine on_box hF rfl rfl rfl rfl (fun B => ?_))
      | (refine on_store hF rfl rfl rfl rfl a_turn a_vof (by first | rfl | exact hsz.symm | exact hsz) ?_)
      | (refine on_storeE hF rfl rfl rfl rfl a_turn (by (first | omega | (simp only [List.length_append, List.length_cons, List.length_nil, List.length_map] at *; omega))) a_vof (by first | rfl | exact hsz) ?_)
      | (refine on_storeEF hF rfl rfl rfl rfl a_turn (by first | with_reducible assumption | rfl) (by decide) a_vof rfl ?_)
      | (refine on_storeF hF rfl rfl rfl rfl a_turn (by decide) a_vof rfl ?_)) <;> try (refine hK2 _ _ _ a_allK ?_; clear hK2 K2))) <;> (refine hK _ _ _ ?_; clear hK K))
    | with_reducible refine nx_seq ?_
        | with_reducible refine nx_region ?_
        | with_reducible refine nl_nil ?_
        | with_reducible refine nq_then_n ?_
        | with_reducible refine nx_block ?_
        | with_reducible refine nx_skip ?_
        | with_reducible refine nx_exit ?_
        | with_reducible refine nx_ret ?_
        | with_reducible refine nq_then_x ?_
        | with_reducible refine nq_then_r ?_
        | with_reducible refine nq_blk_n ?_
        | with_reducible refine nq_blk_r ?_
        | with_reducible refine nq_blk_hit ?_
        | with_reducible refine nq_blk_miss rfl ?_
        | with_reducible refine nd_nil ?_
    | refine nx_cond_t rfl ?_ | refine nx_cond_f rfl ?_
    | refine nl_pass hF rfl rfl rfl ?_
    | refine nd_pass rfl rfl rfl rfl rfl ?_
    | refine nd_pass2 rfl rfl rfl (fun c => by exact (fun h => by cases h)) a_allK rfl rfl ?_
    | refine nd_pass3 rfl rfl rfl (fun c => by exact (fun h => by cases h)) rfl rfl ?_
    | (with_reducible refine hQ1 _ _ _ ?_; clear hQ1 Q1)
    | (refine nd_region (id := 7) hF [1, 2, 1, 2, 0, 0, 1, 2, 1, 2, 0, 0, 0, 0, 0, 2, 0, 0, 0, 0, 0, 0, 0] [0, 2, 1, 3, 4, 5, 6, 8, 7, 9, 10, 11, 12, 13, 14, 15, 16, 17, 18, 19, 20, 21, 22] _ _ (by kernel_rfl) (by kernel_rfl) sub2_same ?_; intro Q1 hQ1)
    | (refine nd_region (id := 9) hF [1, 1, 1, 1, 0, 0] [0, 1, 2, 3, 4, 5] _ _ (by kernel_rfl) (by kernel_rfl) sub2_same ?_; intro Q1 hQ1))
      all_goals (try (exfalso; dsimp only at *; omega))
      all_goals (exact HK () _ _ _ (by exact a_sub) (by exact a_subR) (by exact a_holds2))
    · simp only [if_neg he] at fc
      repeat' (first
    | ((first | with_reducible refine nl_op rfl ?_ | refine nd_go rfl rfl rfl ?_); intro K hK; (first
      | ((first | refine on_E hF rfl rfl ?_ | refine od_E rfl rfl ?_ | refine od_R rfl rfl ?_); (first | refine ⟨_, a_yl, ?_⟩))
      | ((first | refine on_Ec hF rfl rfl ?_ | refine od_Ec rfl rfl ?_); refine ⟨_, _, _, a_yc, ?_, ?_⟩ <;> (intro hc; try (exfalso; first | (omega; done) | exact absurd (by with_reducible rfl) hc | (simp at hc; done))))
      | ((first | (refine od_act (fun c => by exact (fun h => by cases h)) ?_; intro K2 hK2) | refine od_last (fun c => by exact (fun h => by cases h)) ?_ | skip); (first
      | (refine on_callG hF (enters_of Try.func14 (by kernel_rfl) rfl) rfl rfl rfl rfl (fc _ _ _ _ (by exact a_mem)) (fun v => ?_); obtain ⟨⟨v, hv⟩, vb⟩ := v; dsimp only; refine nx_frzRow Pick.here ?_)
      | (refine on_callG hF (enters_of Try.func15 (by kernel_rfl) rfl) rfl rfl rfl rfl (rf _ _ _ _ (by exact a_mem)) (fun u => ?_); obtain ⟨u, hu⟩ := u; dsimp only; refine nx_frzRow Pick.here ?_)
      | (refine on_callG hF (enters_of Try.func13 (by kernel_rfl) rfl) rfl rfl rfl rfl (same_ct _ _ hv hu G (by exact a_mem) (by exact a_mem) hGl2) (fun _ => ?_))
      
      | (refine on_alloc hF rfl Try.zeroValue3 rfl rfl (fun B => ?_))
      | (refine on_alloc hF rfl Try.zeroValue4 rfl rfl (fun B => ?_))
      | (refine on_box hF rfl rfl rfl rfl (fun B => ?_))
      | (refine on_store hF rfl rfl rfl rfl a_turn a_vof (by first | rfl | exact hsz.symm | exact hsz) ?_)
      | (refine on_storeE hF rfl rfl rfl rfl a_turn (by (first | omega | (simp only [List.length_append, List.length_cons, List.length_nil, List.length_map] at *; omega))) a_vof (by first | rfl | exact hsz) ?_)
      | (refine on_storeEF hF rfl rfl rfl rfl a_turn (by first | with_reducible assumption | rfl) (by decide) a_vof rfl ?_)
      | (refine on_storeF hF rfl rfl rfl rfl a_turn (by decide) a_vof rfl ?_)) <;> try (refine hK2 _ _ _ a_allK ?_; clear hK2 K2))) <;> (refine hK _ _ _ ?_; clear hK K))
    | with_reducible refine nx_seq ?_
        | with_reducible refine nx_region ?_
        | with_reducible refine nl_nil ?_
        | with_reducible refine nq_then_n ?_
        | with_reducible refine nx_block ?_
        | with_reducible refine nx_skip ?_
        | with_reducible refine nx_exit ?_
        | with_reducible refine nx_ret ?_
        | with_reducible refine nq_then_x ?_
        | with_reducible refine nq_then_r ?_
        | with_reducible refine nq_blk_n ?_
        | with_reducible refine nq_blk_r ?_
        | with_reducible refine nq_blk_hit ?_
        | with_reducible refine nq_blk_miss rfl ?_
        | with_reducible refine nd_nil ?_
    | refine nx_cond_t rfl ?_ | refine nx_cond_f rfl ?_
    | refine nl_pass hF rfl rfl rfl ?_
    | refine nd_pass rfl rfl rfl rfl rfl ?_
    | refine nd_pass2 rfl rfl rfl (fun c => by exact (fun h => by cases h)) a_allK rfl rfl ?_
    | refine nd_pass3 rfl rfl rfl (fun c => by exact (fun h => by cases h)) rfl rfl ?_
    | (with_reducible refine hQ1 _ _ _ ?_; clear hQ1 Q1)
    | (refine nd_region (id := 7) hF [1, 2, 1, 2, 0, 0, 1, 2, 1, 2, 0, 0, 0, 0, 0, 2, 0, 0, 0, 0, 0, 0, 0] [0, 2, 1, 3, 4, 5, 6, 8, 7, 9, 10, 11, 12, 13, 14, 15, 16, 17, 18, 19, 20, 21, 22] _ _ (by kernel_rfl) (by kernel_rfl) sub2_same ?_; intro Q1 hQ1)
    | (refine nd_region (id := 9) hF [1, 1, 1, 1, 0, 0] [0, 1, 2, 3, 4, 5] _ _ (by kernel_rfl) (by kernel_rfl) sub2_same ?_; intro Q1 hQ1))
      all_goals (try (exfalso; dsimp only at *; omega))
      all_goals (exact HK () _ _ _ (by exact a_sub) (by exact a_subR) (by exact a_holds2))
  · clear hGl
    repeat' (first
    | ((first | with_reducible refine nl_op rfl ?_ | refine nd_go rfl rfl rfl ?_); intro K hK; (first
      | ((first | refine on_E hF rfl rfl ?_ | refine od_E rfl rfl ?_ | refine od_R rfl rfl ?_); (first | refine ⟨_, a_yl, ?_⟩))
      | ((first | refine on_Ec hF rfl rfl ?_ | refine od_Ec rfl rfl ?_); refine ⟨_, _, _, a_yc, ?_, ?_⟩ <;> (intro hc; try (exfalso; first | (omega; done) | exact absurd (by with_reducible rfl) hc | (simp at hc; done))))
      | ((first | (refine od_act (fun c => by exact (fun h => by cases h)) ?_; intro K2 hK2) | refine od_last (fun c => by exact (fun h => by cases h)) ?_ | skip); (first
      
      
      | (refine on_alloc hF rfl Try.zeroValue3 rfl rfl (fun B => ?_))
      | (refine on_alloc hF rfl Try.zeroValue4 rfl rfl (fun B => ?_))
      | (refine on_box hF rfl rfl rfl rfl (fun B => ?_))
      | (refine on_store hF rfl rfl rfl rfl a_turn a_vof (by first | rfl | exact hsz.symm | exact hsz) ?_)
      | (refine on_storeE hF rfl rfl rfl rfl a_turn (by (first | omega | (simp only [List.length_append, List.length_cons, List.length_nil, List.length_map] at *; omega))) a_vof (by first | rfl | exact hsz) ?_)
      | (refine on_storeEF hF rfl rfl rfl rfl a_turn (by first | with_reducible assumption | rfl) (by decide) a_vof rfl ?_)
      | (refine on_storeF hF rfl rfl rfl rfl a_turn (by decide) a_vof rfl ?_)) <;> try (refine hK2 _ _ _ a_allK ?_; clear hK2 K2))) <;> (refine hK _ _ _ ?_; clear hK K))
    | with_reducible refine nx_seq ?_
        | with_reducible refine nx_region ?_
        | with_reducible refine nl_nil ?_
        | with_reducible refine nq_then_n ?_
        | with_reducible refine nx_block ?_
        | with_reducible refine nx_skip ?_
        | with_reducible refine nx_exit ?_
        | with_reducible refine nx_ret ?_
        | with_reducible refine nq_then_x ?_
        | with_reducible refine nq_then_r ?_
        | with_reducible refine nq_blk_n ?_
        | with_reducible refine nq_blk_r ?_
        | with_reducible refine nq_blk_hit ?_
        | with_reducible refine nq_blk_miss rfl ?_
        | with_reducible refine nd_nil ?_
    | refine nx_cond_t rfl ?_ | refine nx_cond_f rfl ?_
    | refine nl_pass hF rfl rfl rfl ?_
    | refine nd_pass rfl rfl rfl rfl rfl ?_
    | refine nd_pass2 rfl rfl rfl (fun c => by exact (fun h => by cases h)) a_allK rfl rfl ?_
    | refine nd_pass3 rfl rfl rfl (fun c => by exact (fun h => by cases h)) rfl rfl ?_
    | (with_reducible refine hQ1 _ _ _ ?_; clear hQ1 Q1)
    | (refine nd_region (id := 7) hF [1, 2, 1, 2, 0, 0, 1, 2, 1, 2, 0, 0, 0, 0, 0, 2, 0, 0, 0, 0, 0, 0, 0] [0, 2, 1, 3, 4, 5, 6, 8, 7, 9, 10, 11, 12, 13, 14, 15, 16, 17, 18, 19, 20, 21, 22] _ _ (by kernel_rfl) (by kernel_rfl) sub2_same ?_; intro Q1 hQ1)
    | (refine nd_region (id := 9) hF [1, 1, 1, 1, 0, 0] [0, 1, 2, 3, 4, 5] _ _ (by kernel_rfl) (by kernel_rfl) sub2_same ?_; intro Q1 hQ1))
    all_goals (try (exfalso; dsimp only at *; omega))
    all_goals (exact HK () _ _ _ (by exact a_sub) (by exact a_subR) (by exact a_holds2))
set_option maxRecDepth 100000 in
set_option maxHeartbeats 8000000 in
theorem tells_ct (s : Value) (hs : IsSl s) (L : List Ext) (n0 n1 n : Int) (hn : I64 n) (hsl : SlC 2 s (L.map Ext.v) ∈ R) (hm : L.length ≤ 10000000000000) (hI : ∀ x ∈ L, I64 x.a ∧ I64 x.n) :
    Ct Try.prog 3 [s, .agg #[.int .i64 n0, .int .i64 n1], .int .i64 n] W0 X R C Unit (fun _ => .bool true) (fun _ => R) (fun _ => C) := by
  intro w hw
  have hF := isWide_wide
  have hs0 := hs
  have hvs : VOf Try.prog 22 s := vof_slice (by kernel_rfl) hs
  have hva : VOf Try.prog 23 (.agg #[.int .i64 n0, .int .i64 n1]) := vofk (by kernel_rfl) rfl rfl
  obtain ⟨sa, sn, sc, rfl⟩ := hs
  obtain rfl := slLen (hw.hasR hsl)
  have hlv : (L.map Ext.v).length = L.length := by simp
  by_cases h40 : 40 < L.length
  · refine calls_nx Try.func3 rfl Try.ntmps3 rfl ?_ hw
    repeat' (first
    | ((first | with_reducible refine nl_op rfl ?_ | refine nd_go rfl rfl rfl ?_); intro K hK; (first
      | ((first | refine on_E hF rfl rfl ?_ | refine od_E rfl rfl ?_ | refine od_R rfl rfl ?_); (first | refine ⟨_, a_yl, ?_⟩))
      | ((first | refine on_Ec hF rfl rfl ?_ | refine od_Ec rfl rfl ?_); refine ⟨_, _, _, a_yc, ?_, ?_⟩ <;> (intro hc; try (exfalso; first | (omega; done) | exact absurd (by with_reducible rfl) hc | (simp at hc; done))))
      | ((first | (refine od_act (fun c => by exact (fun h => by cases h)) ?_; intro K2 hK2) | refine od_last (fun c => by exact (fun h => by cases h)) ?_ | skip); (first
      | (refine on_callG hF (enters_of Try.func6 (by kernel_rfl) rfl) rfl rfl rfl rfl first_ct (fun _ => ?_))
      
      | (refine on_alloc hF rfl Try.zeroValue3 rfl rfl (fun B => ?_))
      | (refine on_alloc hF rfl Try.zeroValue4 rfl rfl (fun B => ?_))
      | (refine on_box hF rfl rfl rfl rfl (fun B => ?_))
      | (refine on_store hF rfl rfl rfl rfl a_turn a_vof (by first | rfl | exact hsz.symm | exact hsz) ?_)
      | (refine on_storeE hF rfl rfl rfl rfl a_turn (by (first | omega | (simp only [List.length_append, List.length_cons, List.length_nil, List.length_map] at *; omega))) a_vof (by first | rfl | exact hsz) ?_)
      | (refine on_storeEF hF rfl rfl rfl rfl a_turn (by first | with_reducible assumption | rfl) (by decide) a_vof rfl ?_)
      | (refine on_storeF hF rfl rfl rfl rfl a_turn (by decide) a_vof rfl ?_)) <;> try (refine hK2 _ _ _ a_allK ?_; clear hK2 K2))) <;> (refine hK _ _ _ ?_; clear hK K))
    | with_reducible refine nx_seq ?_
        | with_reducible refine nx_region ?_
        | with_reducible refine nl_nil ?_
        | with_reducible refine nq_then_n ?_
        | with_reducible refine nx_block ?_
        | with_reducible refine nx_skip ?_
        | with_reducible refine nx_exit ?_
        | with_reducible refine nx_ret ?_
        | with_reducible refine nq_then_x ?_
        | with_reducible refine nq_then_r ?_
        | with_reducible refine nq_blk_n ?_
        | with_reducible refine nq_blk_r ?_
        | with_reducible refine nq_blk_hit ?_
        | with_reducible refine nq_blk_miss rfl ?_
        | with_reducible refine nd_nil ?_
    | refine nx_cond_t rfl ?_ | refine nx_cond_f rfl ?_
    | refine nl_pass hF rfl rfl rfl ?_
    | refine nd_pass rfl rfl rfl rfl rfl ?_
    | refine nd_pass2 rfl rfl rfl (fun c => by exact (fun h => by cases h)) a_allK rfl rfl ?_
    | refine nd_pass3 rfl rfl rfl (fun c => by exact (fun h => by cases h)) rfl rfl ?_
    | (with_reducible refine hQ1 _ _ _ ?_; clear hQ1 Q1)
    | (refine nd_region (id := 7) hF [1, 2, 1, 2, 0, 0, 1, 2, 1, 2, 0, 0, 0, 0, 0, 2, 0, 0, 0, 0, 0, 0, 0] [0, 2, 1, 3, 4, 5, 6, 8, 7, 9, 10, 11, 12, 13, 14, 15, 16, 17, 18, 19, 20, 21, 22] _ _ (by kernel_rfl) (by kernel_rfl) sub2_same ?_; intro Q1 hQ1)
    | (refine nd_region (id := 9) hF [1, 1, 1, 1, 0, 0] [0, 1, 2, 3, 4, 5] _ _ (by kernel_rfl) (by kernel_rfl) sub2_same ?_; intro Q1 hQ1))
    refine nx_end [] rfl () (fun a w ha hw => res_tmp Try.results3 rfl ha) (by exact a_subR) (by exact a_holds2)
  have hm2 : L.length ≤ 40 := by omega
  have kc := fun (W0 : World) (X : Nat → Prop) (R C : List Ch) h => take_ct (W0 := W0) (X := X) (R := R) (C := C) _ hs0 L n hn h (by omega) hI
  have rk := fun (W0 : World) (X : Nat → Prop) (R C : List Ch) h => rtake_ct (W0 := W0) (X := X) (R := R) (C := C) _ hs0 L (apB L) (apB_iff L) n h (by omega) hI
  have tc := fun (W0 : World) (X : Nat → Prop) (R C : List Ch) h => total_ct (W0 := W0) (X := X) (R := R) (C := C) _ hs0 L h (by omega) hI
  have rt := fun (W0 : World) (X : Nat → Prop) (R C : List Ch) h => rtotal_ct (W0 := W0) (X := X) (R := R) (C := C) _ hs0 L (apB L) (apB_iff L) h (by omega) hI
  have ac := fun (W0 : World) (X : Nat → Prop) (R C : List Ch) h => apart_ct (W0 := W0) (X := X) (R := R) (C := C) _ hs0 L h (by omega) hI
  have ra := fun (W0 : World) (X : Nat → Prop) (R C : List Ch) h => rapart_ct (W0 := W0) (X := X) (R := R) (C := C) _ hs0 L (apB L) (apB_iff L) h (by omega) hI
  have hTl := takeP_len L n
  have hend : (if apB L = true then tot L else 0) = totB L := rfl
  rw [show takeRes L (apB L) n = takeP L n from rfl] at rk
  rw [hend] at rt
  obtain ⟨tt, htt⟩ : ∃ tt, totB L = tt := ⟨_, rfl⟩
  rw [htt] at tc rt
  obtain ⟨⟨T, eT⟩, hT⟩ : ∃ p, takeP L n = p := ⟨_, rfl⟩
  rw [hT] at kc rk hTl
  obtain ⟨ap, hap⟩ : ∃ ap, apB L = ap := ⟨_, rfl⟩
  rw [hap] at ac ra
  dsimp only at kc rk hTl
  clear hend htt hT hap
  refine calls_nx Try.func3 rfl Try.ntmps3 rfl ?_ hw
  repeat' (first
    | ((first | with_reducible refine nl_op rfl ?_ | refine nd_go rfl rfl rfl ?_); intro K hK; (first
      | ((first | refine on_E hF rfl rfl ?_ | refine od_E rfl rfl ?_ | refine od_R rfl rfl ?_); (first | refine ⟨_, a_yl, ?_⟩))
      | ((first | refine on_Ec hF rfl rfl ?_ | refine od_Ec rfl rfl ?_); refine ⟨_, _, _, a_yc, ?_, ?_⟩ <;> (intro hc; try (exfalso; first | (omega; done) | exact absurd (by with_reducible rfl) hc | (simp at hc; done))))
      | ((first | (refine od_act (fun c => by exact (fun h => by cases h)) ?_; intro K2 hK2) | refine od_last (fun c => by exact (fun h => by cases h)) ?_ | skip); (first
      
      
      | (refine on_alloc hF rfl Try.zeroValue3 rfl rfl (fun B => ?_))
      | (refine on_alloc hF rfl Try.zeroValue4 rfl rfl (fun B => ?_))
      | (refine on_box hF rfl rfl rfl rfl (fun B => ?_))
      | (refine on_store hF rfl rfl rfl rfl a_turn a_vof (by first | rfl | exact hsz.symm | exact hsz) ?_)
      | (refine on_storeE hF rfl rfl rfl rfl a_turn (by (first | omega | (simp only [List.length_append, List.length_cons, List.length_nil, List.length_map] at *; omega))) a_vof (by first | rfl | exact hsz) ?_)
      | (refine on_storeEF hF rfl rfl rfl rfl a_turn (by first | with_reducible assumption | rfl) (by decide) a_vof rfl ?_)
      | (refine on_storeF hF rfl rfl rfl rfl a_turn (by decide) a_vof rfl ?_)) <;> try (refine hK2 _ _ _ a_allK ?_; clear hK2 K2))) <;> (refine hK _ _ _ ?_; clear hK K))
    | with_reducible refine nx_seq ?_
        | with_reducible refine nx_region ?_
        | with_reducible refine nl_nil ?_
        | with_reducible refine nq_then_n ?_
        | with_reducible refine nx_block ?_
        | with_reducible refine nx_skip ?_
        | with_reducible refine nx_exit ?_
        | with_reducible refine nx_ret ?_
        | with_reducible refine nq_then_x ?_
        | with_reducible refine nq_then_r ?_
        | with_reducible refine nq_blk_n ?_
        | with_reducible refine nq_blk_r ?_
        | with_reducible refine nq_blk_hit ?_
        | with_reducible refine nq_blk_miss rfl ?_
        | with_reducible refine nd_nil ?_
    | refine nx_cond_t rfl ?_ | refine nx_cond_f rfl ?_
    | refine nl_pass hF rfl rfl rfl ?_
    | refine nd_pass rfl rfl rfl rfl rfl ?_
    | refine nd_pass2 rfl rfl rfl (fun c => by exact (fun h => by cases h)) a_allK rfl rfl ?_
    | refine nd_pass3 rfl rfl rfl (fun c => by exact (fun h => by cases h)) rfl rfl ?_
    | (with_reducible refine hQ1 _ _ _ ?_; clear hQ1 Q1)
    | (refine nd_region (id := 7) hF [1, 2, 1, 2, 0, 0, 1, 2, 1, 2, 0, 0, 0, 0, 0, 2, 0, 0, 0, 0, 0, 0, 0] [0, 2, 1, 3, 4, 5, 6, 8, 7, 9, 10, 11, 12, 13, 14, 15, 16, 17, 18, 19, 20, 21, 22] _ _ (by kernel_rfl) (by kernel_rfl) sub2_same ?_; intro Q1 hQ1)
    | (refine nd_region (id := 9) hF [1, 1, 1, 1, 0, 0] [0, 1, 2, 3, 4, 5] _ _ (by kernel_rfl) (by kernel_rfl) sub2_same ?_; intro Q1 hQ1))
  rename_i b3
  obtain ⟨b4, hb4⟩ : ∃ b4, b4 = B := ⟨_, rfl⟩
  subst hb4
  refine nx_frz (BoxC b3 22 (.slice sa (L.map Ext.v).length sc)) (by exact a_pick) ?_
  repeat' (first
    | ((first | with_reducible refine nl_op rfl ?_ | refine nd_go rfl rfl rfl ?_); intro K hK; (first
      | ((first | refine on_E hF rfl rfl ?_ | refine od_E rfl rfl ?_ | refine od_R rfl rfl ?_); (first | refine ⟨_, yl_neq_same rfl rfl rfl (by kernel_rfl), ?_⟩ | refine ⟨_, a_yl, ?_⟩))
      | ((first | refine on_Ec hF rfl rfl ?_ | refine od_Ec rfl rfl ?_); refine ⟨_, _, _, a_yc, ?_, ?_⟩ <;> (intro hc; try (exfalso; first | (omega; done) | exact absurd (by with_reducible rfl) hc | (simp at hc; done))))
      | ((first | (refine od_act (fun c => by exact (fun h => by cases h)) ?_; intro K2 hK2) | refine od_last (fun c => by exact (fun h => by cases h)) ?_ | skip); (first
      | (refine on_callG hF (enters_of Try.func6 (by kernel_rfl) rfl) rfl rfl rfl rfl first_ct (fun _ => ?_))
      | (refine on_callG hF (enters_of Try.func7 (by kernel_rfl) rfl) rfl rfl rfl rfl (kc _ _ _ _ (by exact a_mem)) (fun v => ?_); obtain ⟨v, va, vn, vc, rfl⟩ := v; dsimp only; refine nx_len (e := 39) (k := 2) (xs := T.map Ext.v) (by exact a_mem) (fun hlen => ?_); rw [List.length_map] at hlen; subst hlen; refine nx_frzRow Pick.here ?_)
      
      | (refine on_alloc hF rfl Try.zeroValue3 rfl rfl (fun B => ?_))
      | (refine on_alloc hF rfl Try.zeroValue4 rfl rfl (fun B => ?_))
      | (refine on_box hF rfl rfl rfl rfl (fun B => ?_))
      | (refine on_store hF rfl rfl rfl rfl a_turn a_vof (by first | rfl | exact hsz.symm | exact hsz) ?_)
      | (refine on_storeE hF rfl rfl rfl rfl a_turn (by (first | omega | (simp only [List.length_append, List.length_cons, List.length_nil, List.length_map] at *; omega))) a_vof (by first | rfl | exact hsz) ?_)
      | (refine on_storeEF hF rfl rfl rfl rfl a_turn (by first | with_reducible assumption | rfl) (by decide) a_vof rfl ?_)
      | (refine on_storeF hF rfl rfl rfl rfl a_turn (by decide) a_vof rfl ?_)) <;> try (refine hK2 _ _ _ a_allK ?_; clear hK2 K2))) <;> (refine hK _ _ _ ?_; clear hK K))
    | with_reducible refine nx_seq ?_
        | with_reducible refine nx_region ?_
        | with_reducible refine nl_nil ?_
        | with_reducible refine nq_then_n ?_
        | with_reducible refine nx_block ?_
        | with_reducible refine nx_skip ?_
        | with_reducible refine nx_exit ?_
        | with_reducible refine nx_ret ?_
        | with_reducible refine nq_then_x ?_
        | with_reducible refine nq_then_r ?_
        | with_reducible refine nq_blk_n ?_
        | with_reducible refine nq_blk_r ?_
        | with_reducible refine nq_blk_hit ?_
        | with_reducible refine nq_blk_miss rfl ?_
        | with_reducible refine nd_nil ?_
    | refine nx_cond_t rfl ?_ | refine nx_cond_f rfl ?_
    | refine nl_pass hF rfl rfl rfl ?_
    | refine nd_pass rfl rfl rfl rfl rfl ?_
    | refine nd_pass2 rfl rfl rfl (fun c => by exact (fun h => by cases h)) a_allK rfl rfl ?_
    | refine nd_pass3 rfl rfl rfl (fun c => by exact (fun h => by cases h)) rfl rfl ?_
    | (with_reducible refine hQ1 _ _ _ ?_; clear hQ1 Q1)
    | (refine nd_region (id := 7) hF [1, 2, 1, 2, 0, 0, 1, 2, 1, 2, 0, 0, 0, 0, 0, 2, 0, 0, 0, 0, 0, 0, 0] [0, 2, 1, 3, 4, 5, 6, 8, 7, 9, 10, 11, 12, 13, 14, 15, 16, 17, 18, 19, 20, 21, 22] _ _ (by kernel_rfl) (by kernel_rfl) sub2_same ?_; intro Q1 hQ1)
    | (refine nd_region (id := 9) hF [1, 1, 1, 1, 0, 0] [0, 1, 2, 3, 4, 5] _ _ (by kernel_rfl) (by kernel_rfl) sub2_same ?_; intro Q1 hQ1))
  refine nl_cut1 (ι := Unit) (fun _ => [(3, ptr b3), (4, ptr b4)]) (fun _ => BoxC b3 22 (.slice sa (L.map Ext.v).length sc) :: R) (fun _ => BoxC b4 23 (.agg #[.int .i64 n0, .int .i64 n1]) :: C) (fun _ => u2 _ hs0 L hm2 hI n0 n1 b3 b4 _ (by exact a_mem) (by exact a_mem) (by exact a_subR)) (fun K HK => ?_)
  repeat' (first
    | ((first | with_reducible refine nl_op rfl ?_ | refine nd_go rfl rfl rfl ?_); intro K hK; (first
      | ((first | refine on_E hF rfl rfl ?_ | refine od_E rfl rfl ?_ | refine od_R rfl rfl ?_); (first | refine ⟨_, yl_neq_same rfl rfl rfl (by kernel_rfl), ?_⟩ | refine ⟨_, a_yl, ?_⟩))
      | ((first | refine on_Ec hF rfl rfl ?_ | refine od_Ec rfl rfl ?_); refine ⟨_, _, _, a_yc, ?_, ?_⟩ <;> (intro hc; try (exfalso; first | (omega; done) | exact absurd (by with_reducible rfl) hc | (simp at hc; done))))
      | ((first | (refine od_act (fun c => by exact (fun h => by cases h)) ?_; intro K2 hK2) | refine od_last (fun c => by exact (fun h => by cases h)) ?_ | skip); (first
      | (refine on_callG hF (enters_of Try.func8 (by kernel_rfl) rfl) rfl rfl rfl rfl (rk _ _ _ _ (by exact a_mem)) (fun u => ?_); obtain ⟨u, ua, un, uc, rfl⟩ := u; dsimp only; refine nx_len (e := 39) (k := 2) (xs := T.map Ext.v) (by exact a_mem) (fun hlen => ?_); rw [List.length_map] at hlen; subst hlen; refine nx_frzRow Pick.here ?_)
      | (refine on_callG hF (enters_of Try.func9 (by kernel_rfl) rfl) rfl rfl rfl rfl (ac _ _ _ _ (by exact a_mem)) (fun _ => ?_))
      | (refine on_callG hF (enters_of Try.func10 (by kernel_rfl) rfl) rfl rfl rfl rfl (ra _ _ _ _ (by exact a_mem)) (fun _ => ?_))
      | (refine on_callG hF (enters_of Try.func11 (by kernel_rfl) rfl) rfl rfl rfl rfl (tc _ _ _ _ (by exact a_mem)) (fun _ => ?_))
      | (refine on_callG hF (enters_of Try.func12 (by kernel_rfl) rfl) rfl rfl rfl rfl (rt _ _ _ _ (by exact a_mem)) (fun _ => ?_))
      | (refine on_callG hF (enters_of Try.func13 (by kernel_rfl) rfl) rfl rfl rfl rfl (same_ct _ _ ⟨_, _, _, rfl⟩ ⟨_, _, _, rfl⟩ T (by exact a_mem) (by exact a_mem) (by omega)) (fun _ => ?_))
      
      | (refine on_alloc hF rfl Try.zeroValue3 rfl rfl (fun B => ?_))
      | (refine on_alloc hF rfl Try.zeroValue4 rfl rfl (fun B => ?_))
      | (refine on_box hF rfl rfl rfl rfl (fun B => ?_))
      | (refine on_store hF rfl rfl rfl rfl a_turn a_vof (by first | rfl | exact hsz.symm | exact hsz) ?_)
      | (refine on_storeE hF rfl rfl rfl rfl a_turn (by (first | omega | (simp only [List.length_append, List.length_cons, List.length_nil, List.length_map] at *; omega))) a_vof (by first | rfl | exact hsz) ?_)
      | (refine on_storeEF hF rfl rfl rfl rfl a_turn (by first | with_reducible assumption | rfl) (by decide) a_vof rfl ?_)
      | (refine on_storeF hF rfl rfl rfl rfl a_turn (by decide) a_vof rfl ?_)) <;> try (refine hK2 _ _ _ a_allK ?_; clear hK2 K2))) <;> (refine hK _ _ _ ?_; clear hK K))
    | with_reducible refine nx_seq ?_
        | with_reducible refine nx_region ?_
        | with_reducible refine nl_nil ?_
        | with_reducible refine nq_then_n ?_
        | with_reducible refine nx_block ?_
        | with_reducible refine nx_skip ?_
        | with_reducible refine nx_exit ?_
        | with_reducible refine nx_ret ?_
        | with_reducible refine nq_then_x ?_
        | with_reducible refine nq_then_r ?_
        | with_reducible refine nq_blk_n ?_
        | with_reducible refine nq_blk_r ?_
        | with_reducible refine nq_blk_hit ?_
        | with_reducible refine nq_blk_miss rfl ?_
        | with_reducible refine nd_nil ?_
    | refine nx_cond_t rfl ?_ | refine nx_cond_f rfl ?_
    | refine nl_pass hF rfl rfl rfl ?_
    | refine nd_pass rfl rfl rfl rfl rfl ?_
    | refine nd_pass2 rfl rfl rfl (fun c => by exact (fun h => by cases h)) a_allK rfl rfl ?_
    | refine nd_pass3 rfl rfl rfl (fun c => by exact (fun h => by cases h)) rfl rfl ?_
    | (with_reducible refine hQ1 _ _ _ ?_; clear hQ1 Q1)
    | (refine nd_region (id := 7) hF [1, 2, 1, 2, 0, 0, 1, 2, 1, 2, 0, 0, 0, 0, 0, 2, 0, 0, 0, 0, 0, 0, 0] [0, 2, 1, 3, 4, 5, 6, 8, 7, 9, 10, 11, 12, 13, 14, 15, 16, 17, 18, 19, 20, 21, 22] _ _ (by kernel_rfl) (by kernel_rfl) sub2_same ?_; intro Q1 hQ1)
    | (refine nd_region (id := 9) hF [1, 1, 1, 1, 0, 0] [0, 1, 2, 3, 4, 5] _ _ (by kernel_rfl) (by kernel_rfl) sub2_same ?_; intro Q1 hQ1))
  all_goals (try (exfalso; dsimp only at *; omega))
  exact HK () _ _ _ (by exact a_sub) (by exact a_subR) (by exact a_holds2)
end Law15
end Go.Proofs.Ytmfphgkpnojppaa
