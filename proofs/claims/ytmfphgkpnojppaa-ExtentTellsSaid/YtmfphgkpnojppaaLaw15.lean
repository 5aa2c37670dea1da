/- The contract of breviarylaw15.first. No condition. -/
import Derived.Test.YtmfphgkpnojppaaEx5
import Derived.Test.YtmfphgkpnojppaaEx6
namespace Go.Proofs.Ytmfphgkpnojppaa
open Go.RowKit Go.Shelf
set_option linter.unusedSimpArgs false
set_option linter.unusedVariables false
namespace Law15
open Ex
variable {W0 : World} {X : Nat → Prop} {R C : List Ch}
theorem ris_one (x : Ext) : risL [x] = [x] := List.perm_singleton.1 (ris_perm [x]).symm
theorem ap1 : apB [⟨2, 3⟩] = true := (apB_iff _).2 ⟨fun x hx => by rw [List.mem_singleton.1 hx]; exact ⟨by decide, by decide, by decide⟩, by simp⟩
def F : List Ext := [⟨0, 2⟩, ⟨5, 3⟩]
theorem apF : apB F = true := (apB_iff _).2 ⟨fun x hx => by
  rcases List.mem_cons.1 hx with rfl | hx
  · exact ⟨by decide, by decide, by decide⟩
  · rw [List.mem_singleton.1 hx]; exact ⟨by decide, by decide, by decide⟩, by simp [F, over]⟩
theorem apT : apB [⟨0, 2⟩, ⟨5, 1⟩] = true := (apB_iff _).2 ⟨fun x hx => by
  rcases List.mem_cons.1 hx with rfl | hx
  · exact ⟨by decide, by decide, by decide⟩
  · rw [List.mem_singleton.1 hx]; exact ⟨by decide, by decide, by decide⟩, by simp [over]⟩
theorem apN : apB [⟨1, 0⟩] = false := by
  cases h : apB [⟨1, 0⟩] with
  | false => rfl
  | true => have := ((apB_iff _).1 h).ok ⟨1, 0⟩ (by simp); exact absurd this.n1 (by decide)
theorem free1 : freeP [⟨2, 3⟩] 0 8 = (F, 0) := by
  unfold freeP
  rw [if_neg (by rw [ap1]; decide), ris_one]
  rfl
theorem take3 : takeP F 3 = ([⟨0, 2⟩, ⟨5, 1⟩], 0) := by
  unfold takeP
  rw [if_neg (by rw [apF]; decide), if_neg (by decide)]
  rfl
theorem take6 : takeP F 6 = ([], 31) := by
  unfold takeP
  rw [if_neg (by rw [apF]; decide), if_pos (by decide)]
theorem totF : totB F = 5 := by unfold totB; rw [if_pos apF]; rfl
theorem secT : secB [⟨0, 2⟩, ⟨5, 1⟩] = [.int .i64 0, .int .i64 1, .int .i64 5] := by unfold secB; rw [if_pos apT]; rfl
def lst (pre : List Value) : Int := match pre.getLast? with | some (.int _ n) => n | _ => 0
theorem lst_snoc (pre : List Value) (z : Int) : lst (pre ++ [.int .i64 z]) = z := by unfold lst; simp
set_option maxRecDepth 100000 in
theorem first1_ct (x k : Int) (b : Nat) : Ct Try.prog 18 [.int .i64 x, ptr b] W0 X R (BoxC b 3 (.int .i64 k) :: C) Unit (fun _ => .bool true) (fun _ => R) (fun _ => BoxC b 3 (.int .i64 x) :: C) := by
  intro w hw
  have hF := isWide_wide
  refine calls_nx Try.func18 rfl Try.ntmps18 rfl ?_ hw
  repeat' (first
    | ((first | with_reducible refine nl_op rfl ?_ | refine nd_go rfl rfl rfl ?_); intro K hK; (first
      | ((first | refine on_E hF rfl rfl ?_ | refine od_E rfl rfl ?_ | refine od_R rfl rfl ?_); (first | refine ⟨_, a_yl, ?_⟩))
      | ((first | refine on_Ec hF rfl rfl ?_ | refine od_Ec rfl rfl ?_); refine ⟨_, _, _, a_yc, ?_, ?_⟩ <;> (intro hc; try (exfalso; first | (omega; done) | exact absurd (by with_reducible rfl) hc | (simp at hc; done))))
      | ((first | (refine od_act (fun c => by exact (fun h => by cases h)) ?_; intro K2 hK2) | refine od_last (fun c => by exact (fun h => by cases h)) ?_ | skip); (first
      
      
      
      | (refine on_box hF rfl rfl rfl rfl (fun B => ?_))
      | (refine on_store hF rfl rfl rfl rfl a_turn a_vof (by first | rfl | exact hsz.symm | exact hsz) ?_)
      | (refine on_storeE hF rfl rfl rfl rfl a_turn (by (first | omega | (simp only [List.length_append, List.length_cons, List.length_nil, List.length_map] at *; omega))) a_vof (by first | rfl | exact hsz) ?_)
      | (refine on_storeEF hF rfl rfl rfl rfl a_turn (by first | with_reducible assumption | rfl) (by decide) a_vof rfl ?_)
      | (refine on_storeF hF rfl rfl rfl rfl a_turn (by decide) a_vof rfl ?_)) <;> try (refine hK2 _ _ _ a_allK ?_; clear hK2 K2))) <;> (refine hK _ _ _ ?_; clear hK K))
    | with_reducible refine nx_seq ?_
        | with_reducible refine nx_region ?_
        | with_reducible refine nl_nil ?_
        | with_reducible refine nq_then_n ?_
        | with_reducible refine nx_block ?_
        | with_reducible refine nx_skip ?_
        | with_reducible refine nx_exit ?_
        | with_reducible refine nx_ret ?_
        | with_reducible refine nq_then_x ?_
        | with_reducible refine nq_then_r ?_
        | with_reducible refine nq_blk_n ?_
        | with_reducible refine nq_blk_r ?_
        | with_reducible refine nq_blk_hit ?_
        | with_reducible refine nq_blk_miss rfl ?_
        | with_reducible refine nd_nil ?_
    | refine nx_cond_t rfl ?_ | refine nx_cond_f rfl ?_
    | refine nl_pass hF rfl rfl rfl ?_
    | refine nd_pass rfl rfl rfl rfl rfl ?_
    | refine nd_pass2 rfl rfl rfl (fun c => by exact (fun h => by cases h)) a_allK rfl rfl ?_
    | refine nd_pass3 rfl rfl rfl (fun c => by exact (fun h => by cases h)) rfl rfl ?_
    | (with_reducible refine hQ1 _ _ _ ?_; clear hQ1 Q1)
    )
  refine nx_end [] rfl () (fun a w ha hw => res_tmp Try.results18 rfl ha) (by exact a_subR) (by exact a_holds2)
theorem first1_round (xs : List Value) (hxs : ∀ v ∈ xs, ∃ z, v = .int .i64 z) (b : Nat) (pre : List Value) (x : Value) (post : List Value) (hx : xs = pre ++ x :: post) (vs : List Value) (hvs : vs = [x]) :
    Ct Try.prog 18 (vs ++ [ptr b]) W0 X R ([] ++ ([BoxC b 3 (.int .i64 (lst pre))] ++ C)) ({ _i : Unit // True } ⊕ { _k : Unit // False }) (fun q => .bool q.isLeft) (fun _ => R) (fun q => eiC (fun _ => [BoxC b 3 (.int .i64 (lst (pre ++ [x])))]) (fun _ => []) q ++ C) := by
  subst hvs
  obtain ⟨z, rfl⟩ := hxs x (by rw [hx]; simp)
  rw [lst_snoc]
  intro w hw
  refine (first1_ct z (lst pre) b w hw).mono ?_
  rintro e w' ⟨_, rfl, h2⟩
  exact ⟨.inl ⟨(), trivial⟩, rfl, h2⟩
theorem iI (L : List Ext) (h : ∀ x ∈ L, x.a = 0 ∨ x.a = 1 ∨ x.a = 2 ∨ x.a = 5) (h2 : ∀ x ∈ L, x.n = 0 ∨ x.n = 1 ∨ x.n = 2 ∨ x.n = 3) : ∀ x ∈ L, I64 x.a ∧ I64 x.n := fun x hx => by
  have h1 := h x hx; have h3 := h2 x hx
  unfold I64; omega
set_option maxRecDepth 100000 in
set_option maxHeartbeats 4000000 in
theorem first_ct : Ct Try.prog 6 [] W0 X R C Unit (fun _ => .bool true) (fun _ => R) (fun _ => C) := by
  intro w hw
  have hF := isWide_wide
  have fc := fun (W0 : World) (X : Nat → Prop) (R C : List Ch) (s : Value) (hs : IsSl s) (h : SlC 2 s [Value.agg #[.int .i64 2, .int .i64 3]] ∈ R) => free_ct (W0 := W0) (X := X) (R := R) (C := C) s hs [⟨2, 3⟩] 0 8 h (by decide) (iI _ (by simp) (by simp))
  have t3 := fun (W0 : World) (X : Nat → Prop) (R C : List Ch) (s : Value) (hs : IsSl s) (h : SlC 2 s (F.map Ext.v) ∈ R) => take_ct (W0 := W0) (X := X) (R := R) (C := C) s hs F 3 ⟨by decide, by decide⟩ h (by decide) (iI _ (by simp [F]) (by simp [F]))
  have t6 := fun (W0 : World) (X : Nat → Prop) (R C : List Ch) (s : Value) (hs : IsSl s) (h : SlC 2 s (F.map Ext.v) ∈ R) => take_ct (W0 := W0) (X := X) (R := R) (C := C) s hs F 6 ⟨by decide, by decide⟩ h (by decide) (iI _ (by simp [F]) (by simp [F]))
  have tc := fun (W0 : World) (X : Nat → Prop) (R C : List Ch) (s : Value) (hs : IsSl s) (h : SlC 2 s (F.map Ext.v) ∈ R) => total_ct (W0 := W0) (X := X) (R := R) (C := C) s hs F h (by decide) (iI _ (by simp [F]) (by simp [F]))
  have aF := fun (W0 : World) (X : Nat → Prop) (R C : List Ch) (s : Value) (hs : IsSl s) (h : SlC 2 s (F.map Ext.v) ∈ R) => apart_ct (W0 := W0) (X := X) (R := R) (C := C) s hs F h (by decide) (iI _ (by simp [F]) (by simp [F]))
  have aN := fun (W0 : World) (X : Nat → Prop) (R C : List Ch) (s : Value) (hs : IsSl s) (h : SlC 2 s [Value.agg #[.int .i64 1, .int .i64 0]] ∈ R) => apart_ct (W0 := W0) (X := X) (R := R) (C := C) s hs [⟨1, 0⟩] h (by decide) (iI _ (by simp) (by simp))
  have sc := fun (W0 : World) (X : Nat → Prop) (R C : List Ch) (s : Value) (hs : IsSl s) (h : SlC 2 s (([⟨0, 2⟩, ⟨5, 1⟩] : List Ext).map Ext.v) ∈ R) => sectors_ct (W0 := W0) (X := X) (R := R) (C := C) s hs [⟨0, 2⟩, ⟨5, 1⟩] h (by decide)
  rw [free1] at fc
  rw [take3] at t3
  rw [take6] at t6
  rw [totF] at tc
  rw [apF] at aF
  rw [apN] at aN
  unfold F at fc t3 t6 tc aF
  simp only [List.map_cons, List.map_nil, if_true] at fc t3 t6 tc aF sc
  refine calls_nx Try.func6 rfl Try.ntmps6 rfl ?_ hw
  repeat' (first
    | ((first | with_reducible refine nl_op rfl ?_ | refine nd_go rfl rfl rfl ?_); intro K hK; (first
      | ((first | refine on_E hF rfl rfl ?_ | refine od_E rfl rfl ?_ | refine od_R rfl rfl ?_); (first | refine ⟨_, a_yl, ?_⟩ | refine ⟨_, yl_build (T := 39) (us := [(0, _), (1, _)]) rfl rfl rfl (fun w => by go_simp; all_goals rfl), ?_⟩ | refine ⟨_, yl_fieldB (T := 39) (f := 1) (q := 1) rfl rfl (by kernel_rfl), ?_⟩ | refine ⟨_, yl_fieldE (T := 39) (f := 1) (j := 1) rfl rfl a_sl (by (first | omega | (simp only [List.length_append, List.length_cons, List.length_nil, List.length_map] at *; omega))) (by kernel_rfl), ?_⟩))
      | ((first | refine on_Ec hF rfl rfl ?_ | refine od_Ec rfl rfl ?_); refine ⟨_, _, _, a_yc, ?_, ?_⟩ <;> (intro hc; try (exfalso; first | (omega; done) | exact absurd (by with_reducible rfl) hc | (simp at hc; done))))
      | ((first | (refine od_act (fun c => by exact (fun h => by cases h)) ?_; intro K2 hK2) | refine od_last (fun c => by exact (fun h => by cases h)) ?_ | skip); (first
      | (refine on_buildSlice (e := 39) (k := 2) (by_ := 16) hF rfl rfl rfl rfl rfl rfl (by kernel_rfl) a_cel (Nat.le_of_ble_eq_true rfl) (fun b => ?_); refine nx_frzRow Pick.here ?_)
      | (refine on_callG hF (enters_of Try.func14 (by kernel_rfl) rfl) rfl rfl rfl rfl (fc _ _ _ _ _ ⟨_, _, _, rfl⟩ (by exact a_mem)) (fun v => ?_); obtain ⟨⟨v, va, vn, vc, rfl⟩, vb⟩ := v; dsimp only; refine nx_len (e := 39) (k := 2) (by exact a_mem) (fun hlen => ?_); have hlen2 : vn = 2 := hlen; clear hlen; subst hlen2; refine nx_frzRow Pick.here ?_)
      | (refine on_buildSlice (T := 22) (e := 39) (k := 2) (by_ := 16) hF rfl rfl rfl rfl rfl rfl (by kernel_rfl) a_cel (Nat.le_of_ble_eq_true rfl) (fun b => ?_))
      | (refine on_alloc hF rfl Try.zeroValue3 rfl rfl (fun B => ?_))
      | (refine on_box hF rfl rfl rfl rfl (fun B => ?_))
      | (refine on_store hF rfl rfl rfl rfl a_turn a_vof (by first | rfl | exact hsz.symm | exact hsz) ?_)
      | (refine on_storeE hF rfl rfl rfl rfl a_turn (by (first | omega | (simp only [List.length_append, List.length_cons, List.length_nil, List.length_map] at *; omega))) a_vof (by first | rfl | exact hsz) ?_)
      | (refine on_storeEF hF rfl rfl rfl rfl a_turn (by first | with_reducible assumption | rfl) (by decide) a_vof rfl ?_)
      | (refine on_storeF hF rfl rfl rfl rfl a_turn (by decide) a_vof rfl ?_)) <;> try (refine hK2 _ _ _ a_allK ?_; clear hK2 K2))) <;> (refine hK _ _ _ ?_; clear hK K))
    | with_reducible refine nx_seq ?_
        | with_reducible refine nx_region ?_
        | with_reducible refine nl_nil ?_
        | with_reducible refine nq_then_n ?_
        | with_reducible refine nx_block ?_
        | with_reducible refine nx_skip ?_
        | with_reducible refine nx_exit ?_
        | with_reducible refine nx_ret ?_
        | with_reducible refine nq_then_x ?_
        | with_reducible refine nq_then_r ?_
        | with_reducible refine nq_blk_n ?_
        | with_reducible refine nq_blk_r ?_
        | with_reducible refine nq_blk_hit ?_
        | with_reducible refine nq_blk_miss rfl ?_
        | with_reducible refine nd_nil ?_
    | refine nx_cond_t rfl ?_ | refine nx_cond_f rfl ?_
    | refine nl_pass hF rfl rfl rfl ?_
    | refine nd_pass rfl rfl rfl rfl rfl ?_
    | refine nd_pass2 rfl rfl rfl (fun c => by exact (fun h => by cases h)) a_allK rfl rfl ?_
    | refine nd_pass3 rfl rfl rfl (fun c => by exact (fun h => by cases h)) rfl rfl ?_
    | (with_reducible refine hQ1 _ _ _ ?_; clear hQ1 Q1)
    )
  have hxs : ∀ v ∈ [Value.int .i64 0, Value.int .i64 1, Value.int .i64 5], ∃ z, v = .int .i64 z := fun v hv => by simp at hv; rcases hv with rfl | rfl | rfl <;> exact ⟨_, rfl⟩
  have sit := fun (B : Nat) (s : Value) (hs : IsSl s) => sectors_it B s hs [⟨0, 2⟩, ⟨5, 1⟩] (by decide) (iI _ (by simp) (by simp))
  rw [secT] at sit
  simp only [List.map_cons, List.map_nil] at sit
  repeat' (first
    | ((first | with_reducible refine nl_op rfl ?_ | refine nd_go rfl rfl rfl ?_); intro K hK; (first
      | ((first | refine on_E hF rfl rfl ?_ | refine od_E rfl rfl ?_ | refine od_R rfl rfl ?_); (first | refine ⟨_, a_yl, ?_⟩ | refine ⟨_, yl_build (T := 39) (us := [(0, _), (1, _)]) rfl rfl rfl (fun w => by go_simp; all_goals rfl), ?_⟩ | refine ⟨_, yl_fieldB (T := 39) (f := 1) (q := 1) rfl rfl (by kernel_rfl), ?_⟩ | refine ⟨_, yl_fieldE (T := 39) (f := 1) (j := 1) rfl rfl a_sl (by (first | omega | (simp only [List.length_append, List.length_cons, List.length_nil, List.length_map] at *; omega))) (by kernel_rfl), ?_⟩))
      | ((first | refine on_Ec hF rfl rfl ?_ | refine od_Ec rfl rfl ?_); refine ⟨_, _, _, a_yc, ?_, ?_⟩ <;> (intro hc; try (exfalso; first | (omega; done) | exact absurd (by with_reducible rfl) hc | (simp at hc; done))))
      | ((first | (refine od_act (fun c => by exact (fun h => by cases h)) ?_; intro K2 hK2) | refine od_last (fun c => by exact (fun h => by cases h)) ?_ | skip); (first
      | (refine on_callG (vs := [.slice va 2 vc, .int .i64 3]) hF (enters_of Try.func7 (by kernel_rfl) rfl) rfl rfl rfl rfl (t3 _ _ _ _ _ ⟨_, _, _, rfl⟩ (by exact a_mem)) (fun u => ?_); obtain ⟨u, ua, un, uc, rfl⟩ := u; dsimp only; refine nx_len (e := 39) (k := 2) (by exact a_mem) (fun hlen => ?_); have hlen2 : un = 2 := hlen; clear hlen; subst hlen2; refine nx_frzRow Pick.here ?_)
      | (refine on_callG (vs := [.slice va 2 vc, .int .i64 6]) hF (enters_of Try.func7 (by kernel_rfl) rfl) rfl rfl rfl rfl (t6 _ _ _ _ _ ⟨_, _, _, rfl⟩ (by exact a_mem)) (fun h => ?_))
      | (refine on_callG hF (enters_of Try.func16 (by kernel_rfl) rfl) rfl rfl rfl rfl (sc _ _ _ _ _ ⟨_, _, _, rfl⟩ (by exact a_mem)) (fun q => ?_))
      | (refine on_buildSlice (T := 22) (e := 39) (k := 2) (by_ := 16) hF rfl rfl rfl rfl rfl rfl (by kernel_rfl) a_cel (Nat.le_of_ble_eq_true rfl) (fun b => ?_))
      | (refine on_alloc hF rfl Try.zeroValue3 rfl rfl (fun B => ?_))
      | (refine on_box hF rfl rfl rfl rfl (fun B => ?_))
      | (refine on_store hF rfl rfl rfl rfl a_turn a_vof (by first | rfl | exact hsz.symm | exact hsz) ?_)
      | (refine on_storeE hF rfl rfl rfl rfl a_turn (by (first | omega | (simp only [List.length_append, List.length_cons, List.length_nil, List.length_map] at *; omega))) a_vof (by first | rfl | exact hsz) ?_)
      | (refine on_storeEF hF rfl rfl rfl rfl a_turn (by first | with_reducible assumption | rfl) (by decide) a_vof rfl ?_)
      | (refine on_storeF hF rfl rfl rfl rfl a_turn (by decide) a_vof rfl ?_)) <;> try (refine hK2 _ _ _ a_allK ?_; clear hK2 K2))) <;> (refine hK _ _ _ ?_; clear hK K))
    | with_reducible refine nx_seq ?_
        | with_reducible refine nx_region ?_
        | with_reducible refine nl_nil ?_
        | with_reducible refine nq_then_n ?_
        | with_reducible refine nx_block ?_
        | with_reducible refine nx_skip ?_
        | with_reducible refine nx_exit ?_
        | with_reducible refine nx_ret ?_
        | with_reducible refine nq_then_x ?_
        | with_reducible refine nq_then_r ?_
        | with_reducible refine nq_blk_n ?_
        | with_reducible refine nq_blk_r ?_
        | with_reducible refine nq_blk_hit ?_
        | with_reducible refine nq_blk_miss rfl ?_
        | with_reducible refine nd_nil ?_
    | refine nx_cond_t rfl ?_ | refine nx_cond_f rfl ?_
    | refine nl_pass hF rfl rfl rfl ?_
    | refine nd_pass rfl rfl rfl rfl rfl ?_
    | refine nd_pass2 rfl rfl rfl (fun c => by exact (fun h => by cases h)) a_allK rfl rfl ?_
    | refine nd_pass3 rfl rfl rfl (fun c => by exact (fun h => by cases h)) rfl rfl ?_
    | (with_reducible refine hQ1 _ _ _ ?_; clear hQ1 Q1)
    )
  obtain ⟨b7, hb7⟩ : ∃ b7, b7 = B := ⟨_, rfl⟩
  subst hb7
  repeat' (first
    | ((first | with_reducible refine nl_op rfl ?_ | refine nd_go rfl rfl rfl ?_); intro K hK; (first
      | ((first | refine on_E hF rfl rfl ?_ | refine od_E rfl rfl ?_ | refine od_R rfl rfl ?_); (first | refine ⟨_, a_yl, ?_⟩ | refine ⟨_, yl_build (T := 39) (us := [(0, _), (1, _)]) rfl rfl rfl (fun w => by go_simp; all_goals rfl), ?_⟩ | refine ⟨_, yl_fieldB (T := 39) (f := 1) (q := 1) rfl rfl (by kernel_rfl), ?_⟩ | refine ⟨_, yl_fieldE (T := 39) (f := 1) (j := 1) rfl rfl a_sl (by (first | omega | (simp only [List.length_append, List.length_cons, List.length_nil, List.length_map] at *; omega))) (by kernel_rfl), ?_⟩))
      | ((first | refine on_Ec hF rfl rfl ?_ | refine od_Ec rfl rfl ?_); refine ⟨_, _, _, a_yc, ?_, ?_⟩ <;> (intro hc; try (exfalso; first | (omega; done) | exact absurd (by with_reducible rfl) hc | (simp at hc; done))))
      | ((first | (refine od_act (fun c => by exact (fun h => by cases h)) ?_; intro K2 hK2) | refine od_last (fun c => by exact (fun h => by cases h)) ?_ | skip); (first
      | (refine on_iter (gy := 18) (lbY := [ptr b7]) hF (sit q.2 q.1.1 q.1.2) rfl rfl rfl rfl rfl (enters_of Try.func18 (by kernel_rfl) rfl) (by exact a_subR) [] (fun r hr => by cases hr) (fun _ (_ : Unit) => True) (fun pre _ => [BoxC b7 3 (.int .i64 (lst pre))]) (fun _ (_ : Unit) => False) (fun _ _ => []) () trivial (List.Perm.refl _) (fun pre x post hx vs hv i hp W0 X R2 E hR2 => first1_round _ hxs b7 pre x post hx vs hv) (fun _ hd => ?_) (fun pre x post hx _ hd => hd.elim); change Nx _ _ _ _ _ _ _ (BoxC b7 3 (.int .i64 5) :: _); refine nx_lk (l' := [(1, .slice va 2 vc), (2, .int .i64 0), (3, .slice ua 2 uc), (4, .int .i64 0), (6, .int .i64 31), (7, ptr b7)]) (by exact a_sub) ?_)
      | (refine on_buildSlice (e := 39) (k := 2) (by_ := 16) hF rfl rfl rfl rfl rfl rfl (by kernel_rfl) a_cel (Nat.le_of_ble_eq_true rfl) (fun b2 => ?_); refine nx_frzRow Pick.here ?_)
      | (refine on_callG hF (enters_of Try.func11 (by kernel_rfl) rfl) rfl rfl rfl rfl (tc _ _ _ _ _ ⟨_, _, _, rfl⟩ (by exact a_mem)) (fun _ => ?_))
      | (refine on_callG (vs := [.slice va 2 vc]) hF (enters_of Try.func9 (by kernel_rfl) rfl) rfl rfl rfl rfl (aF _ _ _ _ _ ⟨_, _, _, rfl⟩ (by exact a_mem)) (fun _ => ?_))
      | (refine on_callG hF (enters_of Try.func9 (by kernel_rfl) rfl) rfl rfl rfl rfl (aN _ _ _ _ _ ⟨_, _, _, rfl⟩ (by exact a_mem)) (fun _ => ?_))
      | ((first | refine on_E hF rfl rfl ?_ | refine od_E rfl rfl ?_); refine ⟨_, yl_eql_ext (r := ⟨5, 3⟩) (s := ⟨5, 3⟩) (e := true) rfl rfl rfl rfl, ?_⟩)
      | (refine on_buildSlice (T := 22) (e := 39) (k := 2) (by_ := 16) hF rfl rfl rfl rfl rfl rfl (by kernel_rfl) a_cel (Nat.le_of_ble_eq_true rfl) (fun b => ?_))
      | (refine on_alloc hF rfl Try.zeroValue3 rfl rfl (fun B => ?_))
      | (refine on_box hF rfl rfl rfl rfl (fun B => ?_))
      | (refine on_store hF rfl rfl rfl rfl a_turn a_vof (by first | rfl | exact hsz.symm | exact hsz) ?_)
      | (refine on_storeE hF rfl rfl rfl rfl a_turn (by (first | omega | (simp only [List.length_append, List.length_cons, List.length_nil, List.length_map] at *; omega))) a_vof (by first | rfl | exact hsz) ?_)
      | (refine on_storeEF hF rfl rfl rfl rfl a_turn (by first | with_reducible assumption | rfl) (by decide) a_vof rfl ?_)
      | (refine on_storeF hF rfl rfl rfl rfl a_turn (by decide) a_vof rfl ?_)) <;> try (refine hK2 _ _ _ a_allK ?_; clear hK2 K2))) <;> (refine hK _ _ _ ?_; clear hK K))
    | with_reducible refine nx_seq ?_
        | with_reducible refine nx_region ?_
        | with_reducible refine nl_nil ?_
        | with_reducible refine nq_then_n ?_
        | with_reducible refine nx_block ?_
        | with_reducible refine nx_skip ?_
        | with_reducible refine nx_exit ?_
        | with_reducible refine nx_ret ?_
        | with_reducible refine nq_then_x ?_
        | with_reducible refine nq_then_r ?_
        | with_reducible refine nq_blk_n ?_
        | with_reducible refine nq_blk_r ?_
        | with_reducible refine nq_blk_hit ?_
        | with_reducible refine nq_blk_miss rfl ?_
        | with_reducible refine nd_nil ?_
    | refine nx_cond_t rfl ?_ | refine nx_cond_f rfl ?_
    | refine nl_pass hF rfl rfl rfl ?_
    | refine nd_pass rfl rfl rfl rfl rfl ?_
    | refine nd_pass2 rfl rfl rfl (fun c => by exact (fun h => by cases h)) a_allK rfl rfl ?_
    | refine nd_pass3 rfl rfl rfl (fun c => by exact (fun h => by cases h)) rfl rfl ?_
    | (with_reducible refine hQ1 _ _ _ ?_; clear hQ1 Q1)
    )
  change Nx _ _ _ _ _ _ _ (BoxC b7 3 (.int .i64 5) :: RowC 39 2 h.1 [] :: C)
  refine nx_end [] rfl () (fun a w ha hw => res_tmp Try.results6 rfl ha) (by exact a_subR) (by exact a_holds2)
end Law15
end Go.Proofs.Ytmfphgkpnojppaa
