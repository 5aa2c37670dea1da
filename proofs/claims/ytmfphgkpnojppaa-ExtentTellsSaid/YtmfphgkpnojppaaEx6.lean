/- The contract of extent.Sectors. Condition: a list of extents. -/
import Derived.Test.YtmfphgkpnojppaaRs2
namespace Go.Proofs.Ytmfphgkpnojppaa
open Go.RowKit Go.Shelf
set_option linter.unusedSimpArgs false
set_option linter.unusedVariables false
namespace Ex
variable {W0 : World} {X : Nat → Prop} {R C : List Ch}
def sec (x : Ext) (j : Nat) : List Value := (List.range j).map (fun k : Nat => Value.int .i64 (x.a + (k : Int)))
def secs (L : List Ext) : List Value := (L.map fun x => sec x x.n.toNat).flatten
def secB (L : List Ext) : List Value := if apB L = true then secs L else []
theorem sec_succ (x : Ext) (j : Nat) : sec x (j + 1) = sec x j ++ [Value.int .i64 (x.a + (j : Int))] := by
  unfold sec; rw [List.range_succ, List.map_append]; rfl
theorem secs_snoc (L : List Ext) (i : Nat) (x : Ext) (hx : L[i]? = some x) : secs (L.take (i + 1)) = secs (L.take i) ++ sec x x.n.toNat := by
  rw [List.take_add_one, hx]; unfold secs; simp
theorem secs_at (L : List Ext) (i : Nat) (x : Ext) (hx : L[i]? = some x) (j : Nat) (hj : j < x.n.toNat) : ∃ rest, secs L = (secs (L.take i) ++ sec x j) ++ Value.int .i64 (x.a + (j : Int)) :: rest := by
  have h1 : secs L = secs (L.take (i + 1)) ++ secs (L.drop (i + 1)) := by
    unfold secs; rw [← List.flatten_append, ← List.map_append, List.take_append_drop]
  have h2 : ∃ r, sec x x.n.toNat = sec x (j + 1) ++ r := by
    obtain ⟨m, hm⟩ : ∃ m, x.n.toNat = j + 1 + m := ⟨x.n.toNat - (j + 1), by omega⟩
    rw [hm]
    refine ⟨(List.range m).map fun (k : Nat) => Value.int .i64 (x.a + ((j + 1 + k : Nat) : Int)), ?_⟩
    unfold sec
    rw [List.range_add, List.map_append, List.map_map]; rfl
  obtain ⟨r, hr⟩ := h2
  refine ⟨r ++ secs (L.drop (i + 1)), ?_⟩
  rw [h1, secs_snoc L i x hx, hr, sec_succ]
  simp
set_option maxRecDepth 100000 in
set_option maxHeartbeats 2000000 in
theorem sectors_it (B : Nat) (s : Value) (hs : IsSl s) (L : List Ext) (hm : L.length ≤ 100000) (hI : ∀ x ∈ L, I64 x.a ∧ I64 x.n) : It Try.prog (secB L) (.func (.func 25) #[] #[ptr B]) [BoxC B 22 s, SlC 2 s (L.map Ext.v)] := by
  have key : ∀ xs, (apB L = false → xs = []) → (apB L = true → xs = secs L) → It Try.prog xs (.func (.func 25) #[] #[ptr B]) [BoxC B 22 s, SlC 2 s (L.map Ext.v)] := ?_
  · refine key _ (fun h => by unfold secB; rw [h]; rfl) (fun h => by unfold secB; rw [h]; rfl)
  intro xs hx0 hx1
  refine ⟨25, [ptr B], rfl, (enters_of Try.func25 (by kernel_rfl) rfl), ?_⟩
  intro y RY J JX hY hy W0 X R E hRS hRY w hw
  have hF := isWide_wide
  have hb : BoxC B 22 s ∈ R := hRS _ (by simp)
  have hsl : SlC 2 s (L.map Ext.v) ∈ R := hRS _ (by simp)
  have hvs : VOf Try.prog 22 s := vof_slice (by kernel_rfl) hs
  have hyv : VOf Try.prog 40 y := vof_func (by kernel_rfl) (by obtain ⟨f, lb, h⟩ := hy; exact ⟨f, _, lb, h⟩)
  have ac := fun (W0 : World) (X : Nat → Prop) (R C : List Ch) h => apart_ct (W0 := W0) (X := X) (R := R) (C := C) s hs L h (by omega) hI
  cases hap : apB L with
  | false =>
    rw [hap] at ac
    obtain rfl := hx0 hap
    refine calls_nx Try.func25 rfl Try.ntmps25 rfl ?_ hw
    repeat' (first
    | ((first | with_reducible refine nl_op rfl ?_ | refine nd_go rfl rfl rfl ?_); intro K hK; (first
      | ((first | refine on_E hF rfl rfl ?_ | refine od_E rfl rfl ?_ | refine od_R rfl rfl ?_); (first | refine ⟨_, a_yl, ?_⟩ | refine ⟨_, yl_fieldB (T := 39) (f := 0) (q := 0) rfl rfl (by kernel_rfl), ?_⟩ | refine ⟨_, yl_fieldE (T := 39) (f := 0) (j := 0) rfl rfl a_sl (by (first | omega | (simp only [List.length_append, List.length_cons, List.length_nil, List.length_map] at *; omega))) (by kernel_rfl), ?_⟩ | refine ⟨_, yl_fieldB (T := 39) (f := 1) (q := 1) rfl rfl (by kernel_rfl), ?_⟩ | refine ⟨_, yl_fieldE (T := 39) (f := 1) (j := 1) rfl rfl a_sl (by (first | omega | (simp only [List.length_append, List.length_cons, List.length_nil, List.length_map] at *; omega))) (by kernel_rfl), ?_⟩))
      | ((first | refine on_Ec hF rfl rfl ?_ | refine od_Ec rfl rfl ?_); refine ⟨_, _, _, a_yc, ?_, ?_⟩ <;> (intro hc; try (exfalso; first | (omega; done) | exact absurd (by with_reducible rfl) hc | (simp at hc; done))))
      | ((first | (refine od_act (fun c => by exact (fun h => by cases h)) ?_; intro K2 hK2) | refine od_last (fun c => by exact (fun h => by cases h)) ?_ | skip); (first
      | (refine on_callG hF (enters_of Try.func9 (by kernel_rfl) rfl) rfl rfl rfl rfl (ac _ _ _ _ (by exact a_mem)) (fun _ => ?_))
      
      | (refine on_alloc hF rfl Try.zeroValue39 rfl rfl (fun B => ?_))
      | (refine on_box hF rfl rfl rfl rfl (fun B => ?_))
      | (refine on_store hF rfl rfl rfl rfl a_turn a_vof (by first | rfl | exact hsz.symm | exact hsz) ?_)
      | (refine on_storeE hF rfl rfl rfl rfl a_turn (by (first | omega | (simp only [List.length_append, List.length_cons, List.length_nil, List.length_map] at *; omega))) a_vof (by first | rfl | exact hsz) ?_)
      | (refine on_storeEF hF rfl rfl rfl rfl a_turn (by first | with_reducible assumption | rfl) (by decide) a_vof rfl ?_)
      | (refine on_storeF hF rfl rfl rfl rfl a_turn (by decide) a_vof rfl ?_)) <;> try (refine hK2 _ _ _ a_allK ?_; clear hK2 K2))) <;> (refine hK _ _ _ ?_; clear hK K))
    | with_reducible refine nx_seq ?_
        | with_reducible refine nx_region ?_
        | with_reducible refine nl_nil ?_
        | with_reducible refine nq_then_n ?_
        | with_reducible refine nx_block ?_
        | with_reducible refine nx_skip ?_
        | with_reducible refine nx_exit ?_
        | with_reducible refine nx_ret ?_
        | with_reducible refine nq_then_x ?_
        | with_reducible refine nq_then_r ?_
        | with_reducible refine nq_blk_n ?_
        | with_reducible refine nq_blk_r ?_
        | with_reducible refine nq_blk_hit ?_
        | with_reducible refine nq_blk_miss rfl ?_
        | with_reducible refine nd_nil ?_
    | refine nx_cond_t rfl ?_ | refine nx_cond_f rfl ?_
    | refine nl_pass hF rfl rfl rfl ?_
    | refine nd_pass rfl rfl rfl rfl rfl ?_
    | refine nd_pass2 rfl rfl rfl (fun c => by exact (fun h => by cases h)) a_allK rfl rfl ?_
    | refine nd_pass3 rfl rfl rfl (fun c => by exact (fun h => by cases h)) rfl rfl ?_
    | (with_reducible refine hQ1 _ _ _ ?_; clear hQ1 Q1)
    )
    refine nx_end [] rfl none (fun a w ha hw => res_none Try.results25) (by exact a_subR) (by exact a_holds2)
  | true =>
    rw [hap] at ac
    obtain rfl := hx1 hap
    clear hx0 hx1
    have hA := (apB_iff L).1 hap
    obtain ⟨sa, sn, sc, rfl⟩ := hs
    obtain rfl := slLen (hw.hasR hsl)
    have hlv : (L.map Ext.v).length = L.length := by simp
    refine calls_nx Try.func25 rfl Try.ntmps25 rfl ?_ hw
    repeat' (first
    | ((first | with_reducible refine nl_op rfl ?_ | refine nd_go rfl rfl rfl ?_); intro K hK; (first
      | ((first | refine on_E hF rfl rfl ?_ | refine od_E rfl rfl ?_ | refine od_R rfl rfl ?_); (first | refine ⟨_, a_yl, ?_⟩ | refine ⟨_, yl_fieldB (T := 39) (f := 0) (q := 0) rfl rfl (by kernel_rfl), ?_⟩ | refine ⟨_, yl_fieldE (T := 39) (f := 0) (j := 0) rfl rfl a_sl (by (first | omega | (simp only [List.length_append, List.length_cons, List.length_nil, List.length_map] at *; omega))) (by kernel_rfl), ?_⟩ | refine ⟨_, yl_fieldB (T := 39) (f := 1) (q := 1) rfl rfl (by kernel_rfl), ?_⟩ | refine ⟨_, yl_fieldE (T := 39) (f := 1) (j := 1) rfl rfl a_sl (by (first | omega | (simp only [List.length_append, List.length_cons, List.length_nil, List.length_map] at *; omega))) (by kernel_rfl), ?_⟩))
      | ((first | refine on_Ec hF rfl rfl ?_ | refine od_Ec rfl rfl ?_); refine ⟨_, _, _, a_yc, ?_, ?_⟩ <;> (intro hc; try (exfalso; first | (omega; done) | exact absurd (by with_reducible rfl) hc | (simp at hc; done))))
      | ((first | (refine od_act (fun c => by exact (fun h => by cases h)) ?_; intro K2 hK2) | refine od_last (fun c => by exact (fun h => by cases h)) ?_ | skip); (first
      | (refine on_callG hF (enters_of Try.func9 (by kernel_rfl) rfl) rfl rfl rfl rfl (ac _ _ _ _ (by exact a_mem)) (fun _ => ?_))
      
      | (refine on_alloc hF rfl Try.zeroValue39 rfl rfl (fun B => ?_))
      | (refine on_box hF rfl rfl rfl rfl (fun B => ?_))
      | (refine on_store hF rfl rfl rfl rfl a_turn a_vof (by first | rfl | exact hsz.symm | exact hsz) ?_)
      | (refine on_storeE hF rfl rfl rfl rfl a_turn (by (first | omega | (simp only [List.length_append, List.length_cons, List.length_nil, List.length_map] at *; omega))) a_vof (by first | rfl | exact hsz) ?_)
      | (refine on_storeEF hF rfl rfl rfl rfl a_turn (by first | with_reducible assumption | rfl) (by decide) a_vof rfl ?_)
      | (refine on_storeF hF rfl rfl rfl rfl a_turn (by decide) a_vof rfl ?_)) <;> try (refine hK2 _ _ _ a_allK ?_; clear hK2 K2))) <;> (refine hK _ _ _ ?_; clear hK K))
    | with_reducible refine nx_seq ?_
        | with_reducible refine nx_region ?_
        | with_reducible refine nl_nil ?_
        | with_reducible refine nq_then_n ?_
        | with_reducible refine nx_block ?_
        | with_reducible refine nx_skip ?_
        | with_reducible refine nx_exit ?_
        | with_reducible refine nx_ret ?_
        | with_reducible refine nq_then_x ?_
        | with_reducible refine nq_then_r ?_
        | with_reducible refine nq_blk_n ?_
        | with_reducible refine nq_blk_r ?_
        | with_reducible refine nq_blk_hit ?_
        | with_reducible refine nq_blk_miss rfl ?_
        | with_reducible refine nd_nil ?_
    | refine nx_cond_t rfl ?_ | refine nx_cond_f rfl ?_
    | refine nl_pass hF rfl rfl rfl ?_
    | refine nd_pass rfl rfl rfl rfl rfl ?_
    | refine nd_pass2 rfl rfl rfl (fun c => by exact (fun h => by cases h)) a_allK rfl rfl ?_
    | refine nd_pass3 rfl rfl rfl (fun c => by exact (fun h => by cases h)) rfl rfl ?_
    | (with_reducible refine hQ1 _ _ _ ?_; clear hQ1 Q1)
    )
    refine nx_loop (ι := { i : Nat // i ≤ L.length }) (fun i => [(0, y), (9, .slice sa (L.map Ext.v).length sc), (10, .int .i64 ((L.map Ext.v).length : Int)), (11, .int .i64 (i.1 : Int))]) (fun _ => R) (fun i => J (secs (L.take i.1)) :: E) (fun i => L.length - i.1) ⟨0, Nat.zero_le _⟩ (by exact a_sub) (by exact a_subR) (by exact a_holds) (fun i => ?_)
    obtain ⟨i, hi⟩ := i
    dsimp only
    by_cases hlt : i < L.length
    · obtain ⟨x, hx⟩ : ∃ x, L[i]? = some x := ⟨_, List.getElem?_eq_getElem hlt⟩
      have hxm : x ∈ L := List.mem_of_getElem? hx
      have hxv : (L.map Ext.v)[i]? = some x.v := by rw [List.getElem?_map, hx]; rfl
      have hvx := vof_ext x
      have h1 := (hA.ok x hxm).a0; have h2 := (hA.ok x hxm).n1; have h3 := (hA.ok x hxm).hi
      have hsn := secs_snoc L i x hx
      repeat' (first
    | ((first | with_reducible refine nl_op rfl ?_ | refine nd_go rfl rfl rfl ?_); intro K hK; (first
      | ((first | refine on_E hF rfl rfl ?_ | refine od_E rfl rfl ?_ | refine od_R rfl rfl ?_); (first | refine ⟨_, a_yl, ?_⟩ | refine ⟨_, yl_fieldB (T := 39) (f := 0) (q := 0) rfl rfl (by kernel_rfl), ?_⟩ | refine ⟨_, yl_fieldE (T := 39) (f := 0) (j := 0) rfl rfl a_sl (by (first | omega | (simp only [List.length_append, List.length_cons, List.length_nil, List.length_map] at *; omega))) (by kernel_rfl), ?_⟩ | refine ⟨_, yl_fieldB (T := 39) (f := 1) (q := 1) rfl rfl (by kernel_rfl), ?_⟩ | refine ⟨_, yl_fieldE (T := 39) (f := 1) (j := 1) rfl rfl a_sl (by (first | omega | (simp only [List.length_append, List.length_cons, List.length_nil, List.length_map] at *; omega))) (by kernel_rfl), ?_⟩))
      | ((first | refine on_Ec hF rfl rfl ?_ | refine od_Ec rfl rfl ?_); refine ⟨_, _, _, a_yc, ?_, ?_⟩ <;> (intro hc; try (exfalso; first | (omega; done) | exact absurd (by with_reducible rfl) hc | (simp at hc; done))))
      | ((first | (refine od_act (fun c => by exact (fun h => by cases h)) ?_; intro K2 hK2) | refine od_last (fun c => by exact (fun h => by cases h)) ?_ | skip); (first
      
      
      | (refine on_alloc hF rfl Try.zeroValue39 rfl rfl (fun B => ?_))
      | (refine on_box hF rfl rfl rfl rfl (fun B => ?_))
      | (refine on_store hF rfl rfl rfl rfl a_turn a_vof (by first | rfl | exact hsz.symm | exact hsz) ?_)
      | (refine on_storeE hF rfl rfl rfl rfl a_turn (by (first | omega | (simp only [List.length_append, List.length_cons, List.length_nil, List.length_map] at *; omega))) a_vof (by first | rfl | exact hsz) ?_)
      | (refine on_storeEF hF rfl rfl rfl rfl a_turn (by first | with_reducible assumption | rfl) (by decide) a_vof rfl ?_)
      | (refine on_storeF hF rfl rfl rfl rfl a_turn (by decide) a_vof rfl ?_)) <;> try (refine hK2 _ _ _ a_allK ?_; clear hK2 K2))) <;> (refine hK _ _ _ ?_; clear hK K))
    | with_reducible refine nx_seq ?_
        | with_reducible refine nx_region ?_
        | with_reducible refine nl_nil ?_
        | with_reducible refine nq_then_n ?_
        | with_reducible refine nx_block ?_
        | with_reducible refine nx_skip ?_
        | with_reducible refine nx_exit ?_
        | with_reducible refine nx_ret ?_
        | with_reducible refine nq_then_x ?_
        | with_reducible refine nq_then_r ?_
        | with_reducible refine nq_blk_n ?_
        | with_reducible refine nq_blk_r ?_
        | with_reducible refine nq_blk_hit ?_
        | with_reducible refine nq_blk_miss rfl ?_
        | with_reducible refine nd_nil ?_
    | refine nx_cond_t rfl ?_ | refine nx_cond_f rfl ?_
    | refine nl_pass hF rfl rfl rfl ?_
    | refine nd_pass rfl rfl rfl rfl rfl ?_
    | refine nd_pass2 rfl rfl rfl (fun c => by exact (fun h => by cases h)) a_allK rfl rfl ?_
    | refine nd_pass3 rfl rfl rfl (fun c => by exact (fun h => by cases h)) rfl rfl ?_
    | (with_reducible refine hQ1 _ _ _ ?_; clear hQ1 Q1)
    )
      obtain ⟨b4, hb4⟩ : ∃ b4, b4 = B := ⟨_, rfl⟩
      subst hb4
      rw [show secs (L.take i) = secs (L.take i) ++ sec x 0 by simp [sec]]
      refine nx_loop (ι := { j : Nat // j ≤ x.n.toNat }) (fun j => [(0, y), (4, ptr b4), (9, .slice sa (L.map Ext.v).length sc), (10, .int .i64 ((L.map Ext.v).length : Int)), (11, .int .i64 (i : Int)), (16, .int .i64 x.n), (17, .int .i64 (j.1 : Int))]) (fun _ => R) (fun j => BoxC b4 39 x.v :: J (secs (L.take i) ++ sec x j.1) :: E) (fun j => x.n.toNat - j.1) ⟨0, Nat.zero_le _⟩ (by exact a_sub) (by exact a_subR) (by exact a_holds) (fun j => ?_)
      obtain ⟨j, hj⟩ := j
      dsimp only
      by_cases hjt : j < x.n.toNat
      · obtain ⟨rest, hz⟩ := secs_at L i x hx j hjt
        have hss : secs (L.take i) ++ sec x (j + 1) = (secs (L.take i) ++ sec x j) ++ [Value.int .i64 (x.a + (j : Int))] := by rw [sec_succ, List.append_assoc]
        repeat' (first
    | ((first | with_reducible refine nl_op rfl ?_ | refine nd_go rfl rfl rfl ?_); intro K hK; (first
      | ((first | refine on_E hF rfl rfl ?_ | refine od_E rfl rfl ?_ | refine od_R rfl rfl ?_); (first | refine ⟨_, a_yl, ?_⟩ | refine ⟨_, yl_fieldB (T := 39) (f := 0) (q := 0) rfl rfl (by kernel_rfl), ?_⟩ | refine ⟨_, yl_fieldE (T := 39) (f := 0) (j := 0) rfl rfl a_sl (by (first | omega | (simp only [List.length_append, List.length_cons, List.length_nil, List.length_map] at *; omega))) (by kernel_rfl), ?_⟩ | refine ⟨_, yl_fieldB (T := 39) (f := 1) (q := 1) rfl rfl (by kernel_rfl), ?_⟩ | refine ⟨_, yl_fieldE (T := 39) (f := 1) (j := 1) rfl rfl a_sl (by (first | omega | (simp only [List.length_append, List.length_cons, List.length_nil, List.length_map] at *; omega))) (by kernel_rfl), ?_⟩))
      | ((first | refine on_Ec hF rfl rfl ?_ | refine od_Ec rfl rfl ?_); refine ⟨_, _, _, a_yc, ?_, ?_⟩ <;> (intro hc; try (exfalso; first | (omega; done) | exact absurd (by with_reducible rfl) hc | (simp at hc; done))))
      | ((first | (refine od_act (fun c => by exact (fun h => by cases h)) ?_; intro K2 hK2) | refine od_last (fun c => by exact (fun h => by cases h)) ?_ | skip); (first
      | (refine on_yield hF hY (secs (L.take i) ++ sec x j) (.int .i64 (x.a + (j : Int))) rest hz rfl rfl rfl rfl rfl rfl hRY rfl (by exact a_pick) ?_ ?_)
      
      | (refine on_alloc hF rfl Try.zeroValue39 rfl rfl (fun B => ?_))
      | (refine on_box hF rfl rfl rfl rfl (fun B => ?_))
      | (refine on_store hF rfl rfl rfl rfl a_turn a_vof (by first | rfl | exact hsz.symm | exact hsz) ?_)
      | (refine on_storeE hF rfl rfl rfl rfl a_turn (by (first | omega | (simp only [List.length_append, List.length_cons, List.length_nil, List.length_map] at *; omega))) a_vof (by first | rfl | exact hsz) ?_)
      | (refine on_storeEF hF rfl rfl rfl rfl a_turn (by first | with_reducible assumption | rfl) (by decide) a_vof rfl ?_)
      | (refine on_storeF hF rfl rfl rfl rfl a_turn (by decide) a_vof rfl ?_)) <;> try (refine hK2 _ _ _ a_allK ?_; clear hK2 K2))) <;> (refine hK _ _ _ ?_; clear hK K))
    | with_reducible refine nx_seq ?_
        | with_reducible refine nx_region ?_
        | with_reducible refine nl_nil ?_
        | with_reducible refine nq_then_n ?_
        | with_reducible refine nx_block ?_
        | with_reducible refine nx_skip ?_
        | with_reducible refine nx_exit ?_
        | with_reducible refine nx_ret ?_
        | with_reducible refine nq_then_x ?_
        | with_reducible refine nq_then_r ?_
        | with_reducible refine nq_blk_n ?_
        | with_reducible refine nq_blk_r ?_
        | with_reducible refine nq_blk_hit ?_
        | with_reducible refine nq_blk_miss rfl ?_
        | with_reducible refine nd_nil ?_
    | refine nx_cond_t rfl ?_ | refine nx_cond_f rfl ?_
    | refine nl_pass hF rfl rfl rfl ?_
    | refine nd_pass rfl rfl rfl rfl rfl ?_
    | refine nd_pass2 rfl rfl rfl (fun c => by exact (fun h => by cases h)) a_allK rfl rfl ?_
    | refine nd_pass3 rfl rfl rfl (fun c => by exact (fun h => by cases h)) rfl rfl ?_
    | (with_reducible refine hQ1 _ _ _ ?_; clear hQ1 Q1)
    )
        all_goals (try (exfalso; dsimp only at *; omega))
        · rw [← hss]
          refine nx_again ⟨j + 1, by omega⟩ (by dsimp only; omega) (by exact a_sub) (by exact a_subR) (by exact a_holds)
        · refine nx_end [] rfl (some ⟨(secs (L.take i) ++ sec x j) ++ [Value.int .i64 (x.a + (j : Int))], _, _, _, rfl, hz⟩) (fun a w ha hw => res_none Try.results25) (by exact a_subR) (by exact a_holds2)
      · rw [show j = x.n.toNat by omega, ← hsn]
        repeat' (first
    | ((first | with_reducible refine nl_op rfl ?_ | refine nd_go rfl rfl rfl ?_); intro K hK; (first
      | ((first | refine on_E hF rfl rfl ?_ | refine od_E rfl rfl ?_ | refine od_R rfl rfl ?_); (first | refine ⟨_, a_yl, ?_⟩ | refine ⟨_, yl_fieldB (T := 39) (f := 0) (q := 0) rfl rfl (by kernel_rfl), ?_⟩ | refine ⟨_, yl_fieldE (T := 39) (f := 0) (j := 0) rfl rfl a_sl (by (first | omega | (simp only [List.length_append, List.length_cons, List.length_nil, List.length_map] at *; omega))) (by kernel_rfl), ?_⟩ | refine ⟨_, yl_fieldB (T := 39) (f := 1) (q := 1) rfl rfl (by kernel_rfl), ?_⟩ | refine ⟨_, yl_fieldE (T := 39) (f := 1) (j := 1) rfl rfl a_sl (by (first | omega | (simp only [List.length_append, List.length_cons, List.length_nil, List.length_map] at *; omega))) (by kernel_rfl), ?_⟩))
      | ((first | refine on_Ec hF rfl rfl ?_ | refine od_Ec rfl rfl ?_); refine ⟨_, _, _, a_yc, ?_, ?_⟩ <;> (intro hc; try (exfalso; first | (omega; done) | exact absurd (by with_reducible rfl) hc | (simp at hc; done))))
      | ((first | (refine od_act (fun c => by exact (fun h => by cases h)) ?_; intro K2 hK2) | refine od_last (fun c => by exact (fun h => by cases h)) ?_ | skip); (first
      
      
      | (refine on_alloc hF rfl Try.zeroValue39 rfl rfl (fun B => ?_))
      | (refine on_box hF rfl rfl rfl rfl (fun B => ?_))
      | (refine on_store hF rfl rfl rfl rfl a_turn a_vof (by first | rfl | exact hsz.symm | exact hsz) ?_)
      | (refine on_storeE hF rfl rfl rfl rfl a_turn (by (first | omega | (simp only [List.length_append, List.length_cons, List.length_nil, List.length_map] at *; omega))) a_vof (by first | rfl | exact hsz) ?_)
      | (refine on_storeEF hF rfl rfl rfl rfl a_turn (by first | with_reducible assumption | rfl) (by decide) a_vof rfl ?_)
      | (refine on_storeF hF rfl rfl rfl rfl a_turn (by decide) a_vof rfl ?_)) <;> try (refine hK2 _ _ _ a_allK ?_; clear hK2 K2))) <;> (refine hK _ _ _ ?_; clear hK K))
    | with_reducible refine nx_seq ?_
        | with_reducible refine nx_region ?_
        | with_reducible refine nl_nil ?_
        | with_reducible refine nq_then_n ?_
        | with_reducible refine nx_block ?_
        | with_reducible refine nx_skip ?_
        | with_reducible refine nx_exit ?_
        | with_reducible refine nx_ret ?_
        | with_reducible refine nq_then_x ?_
        | with_reducible refine nq_then_r ?_
        | with_reducible refine nq_blk_n ?_
        | with_reducible refine nq_blk_r ?_
        | with_reducible refine nq_blk_hit ?_
        | with_reducible refine nq_blk_miss rfl ?_
        | with_reducible refine nd_nil ?_
    | refine nx_cond_t rfl ?_ | refine nx_cond_f rfl ?_
    | refine nl_pass hF rfl rfl rfl ?_
    | refine nd_pass rfl rfl rfl rfl rfl ?_
    | refine nd_pass2 rfl rfl rfl (fun c => by exact (fun h => by cases h)) a_allK rfl rfl ?_
    | refine nd_pass3 rfl rfl rfl (fun c => by exact (fun h => by cases h)) rfl rfl ?_
    | (with_reducible refine hQ1 _ _ _ ?_; clear hQ1 Q1)
    )
        all_goals (try (exfalso; dsimp only at *; omega))
        refine nx_again ⟨i + 1, by omega⟩ (by dsimp only; omega) (by exact a_sub) (by exact a_subR) (by exact a_holds)
    · rw [List.take_of_length_le (by omega)]
      repeat' (first
    | ((first | with_reducible refine nl_op rfl ?_ | refine nd_go rfl rfl rfl ?_); intro K hK; (first
      | ((first | refine on_E hF rfl rfl ?_ | refine od_E rfl rfl ?_ | refine od_R rfl rfl ?_); (first | refine ⟨_, a_yl, ?_⟩ | refine ⟨_, yl_fieldB (T := 39) (f := 0) (q := 0) rfl rfl (by kernel_rfl), ?_⟩ | refine ⟨_, yl_fieldE (T := 39) (f := 0) (j := 0) rfl rfl a_sl (by (first | omega | (simp only [List.length_append, List.length_cons, List.length_nil, List.length_map] at *; omega))) (by kernel_rfl), ?_⟩ | refine ⟨_, yl_fieldB (T := 39) (f := 1) (q := 1) rfl rfl (by kernel_rfl), ?_⟩ | refine ⟨_, yl_fieldE (T := 39) (f := 1) (j := 1) rfl rfl a_sl (by (first | omega | (simp only [List.length_append, List.length_cons, List.length_nil, List.length_map] at *; omega))) (by kernel_rfl), ?_⟩))
      | ((first | refine on_Ec hF rfl rfl ?_ | refine od_Ec rfl rfl ?_); refine ⟨_, _, _, a_yc, ?_, ?_⟩ <;> (intro hc; try (exfalso; first | (omega; done) | exact absurd (by with_reducible rfl) hc | (simp at hc; done))))
      | ((first | (refine od_act (fun c => by exact (fun h => by cases h)) ?_; intro K2 hK2) | refine od_last (fun c => by exact (fun h => by cases h)) ?_ | skip); (first
      
      
      | (refine on_alloc hF rfl Try.zeroValue39 rfl rfl (fun B => ?_))
      | (refine on_box hF rfl rfl rfl rfl (fun B => ?_))
      | (refine on_store hF rfl rfl rfl rfl a_turn a_vof (by first | rfl | exact hsz.symm | exact hsz) ?_)
      | (refine on_storeE hF rfl rfl rfl rfl a_turn (by (first | omega | (simp only [List.length_append, List.length_cons, List.length_nil, List.length_map] at *; omega))) a_vof (by first | rfl | exact hsz) ?_)
      | (refine on_storeEF hF rfl rfl rfl rfl a_turn (by first | with_reducible assumption | rfl) (by decide) a_vof rfl ?_)
      | (refine on_storeF hF rfl rfl rfl rfl a_turn (by decide) a_vof rfl ?_)) <;> try (refine hK2 _ _ _ a_allK ?_; clear hK2 K2))) <;> (refine hK _ _ _ ?_; clear hK K))
    | with_reducible refine nx_seq ?_
        | with_reducible refine nx_region ?_
        | with_reducible refine nl_nil ?_
        | with_reducible refine nq_then_n ?_
        | with_reducible refine nx_block ?_
        | with_reducible refine nx_skip ?_
        | with_reducible refine nx_exit ?_
        | with_reducible refine nx_ret ?_
        | with_reducible refine nq_then_x ?_
        | with_reducible refine nq_then_r ?_
        | with_reducible refine nq_blk_n ?_
        | with_reducible refine nq_blk_r ?_
        | with_reducible refine nq_blk_hit ?_
        | with_reducible refine nq_blk_miss rfl ?_
        | with_reducible refine nd_nil ?_
    | refine nx_cond_t rfl ?_ | refine nx_cond_f rfl ?_
    | refine nl_pass hF rfl rfl rfl ?_
    | refine nd_pass rfl rfl rfl rfl rfl ?_
    | refine nd_pass2 rfl rfl rfl (fun c => by exact (fun h => by cases h)) a_allK rfl rfl ?_
    | refine nd_pass3 rfl rfl rfl (fun c => by exact (fun h => by cases h)) rfl rfl ?_
    | (with_reducible refine hQ1 _ _ _ ?_; clear hQ1 Q1)
    )
      refine nx_end_n [] rfl none (fun a w ha hw => res_none Try.results25) (by exact a_subR) (by exact a_holds2)
set_option maxRecDepth 100000 in
theorem sectors_ct (s : Value) (hs : IsSl s) (L : List Ext) (hsl : SlC 2 s (L.map Ext.v) ∈ R) (hm : L.length ≤ 100000) :
    Ct Try.prog 16 [s] W0 X R C (SV × Nat) (fun i => .func (.func 25) #[] #[ptr i.2]) (fun i => BoxC i.2 22 i.1.1 :: SlC 2 i.1.1 (L.map Ext.v) :: R) (fun _ => C) := by
  intro w hw
  have hF := isWide_wide
  have hvs : VOf Try.prog 22 s := vof_slice (by kernel_rfl) hs
  have hml : (L.map Ext.v).length * 16 ≤ 140737488355328 := by simp; omega
  have hs0 := hs
  obtain ⟨sa, sn, sc, rfl⟩ := hs
  refine calls_nx Try.func16 rfl Try.ntmps16 rfl ?_ hw
  repeat' (first
    | ((first | with_reducible refine nl_op rfl ?_ | refine nd_go rfl rfl rfl ?_); intro K hK; (first
      | ((first | refine on_E hF rfl rfl ?_ | refine od_E rfl rfl ?_ | refine od_R rfl rfl ?_); (first | refine ⟨_, a_yl, ?_⟩))
      | ((first | refine on_Ec hF rfl rfl ?_ | refine od_Ec rfl rfl ?_); refine ⟨_, _, _, a_yc, ?_, ?_⟩ <;> (intro hc; try (exfalso; first | (omega; done) | exact absurd (by with_reducible rfl) hc | (simp at hc; done))))
      | ((first | (refine od_act (fun c => by exact (fun h => by cases h)) ?_; intro K2 hK2) | refine od_last (fun c => by exact (fun h => by cases h)) ?_ | skip); (first
      | (refine on_callG hF (enters_of Try.func24 (by kernel_rfl) rfl) rfl rfl rfl rfl (NExt.clone_ct _ (L.map Ext.v) (by exact a_mem) hs0 (vofs L) hml) (fun v => ?_); obtain ⟨v, va, vn, vc, rfl⟩ := v; dsimp only; refine nx_frzRow Pick.here ?_)
      
      
      | (refine on_box hF rfl rfl rfl rfl (fun B => ?_))
      | (refine on_store hF rfl rfl rfl rfl a_turn a_vof (by first | rfl | exact hsz.symm | exact hsz) ?_)
      | (refine on_storeE hF rfl rfl rfl rfl a_turn (by (first | omega | (simp only [List.length_append, List.length_cons, List.length_nil, List.length_map] at *; omega))) a_vof (by first | rfl | exact hsz) ?_)
      | (refine on_storeEF hF rfl rfl rfl rfl a_turn (by first | with_reducible assumption | rfl) (by decide) a_vof rfl ?_)
      | (refine on_storeF hF rfl rfl rfl rfl a_turn (by decide) a_vof rfl ?_)) <;> try (refine hK2 _ _ _ a_allK ?_; clear hK2 K2))) <;> (refine hK _ _ _ ?_; clear hK K))
    | with_reducible refine nx_seq ?_
        | with_reducible refine nx_region ?_
        | with_reducible refine nl_nil ?_
        | with_reducible refine nq_then_n ?_
        | with_reducible refine nx_block ?_
        | with_reducible refine nx_skip ?_
        | with_reducible refine nx_exit ?_
        | with_reducible refine nx_ret ?_
        | with_reducible refine nq_then_x ?_
        | with_reducible refine nq_then_r ?_
        | with_reducible refine nq_blk_n ?_
        | with_reducible refine nq_blk_r ?_
        | with_reducible refine nq_blk_hit ?_
        | with_reducible refine nq_blk_miss rfl ?_
        | with_reducible refine nd_nil ?_
    | refine nx_cond_t rfl ?_ | refine nx_cond_f rfl ?_
    | refine nl_pass hF rfl rfl rfl ?_
    | refine nd_pass rfl rfl rfl rfl rfl ?_
    | refine nd_pass2 rfl rfl rfl (fun c => by exact (fun h => by cases h)) a_allK rfl rfl ?_
    | refine nd_pass3 rfl rfl rfl (fun c => by exact (fun h => by cases h)) rfl rfl ?_
    | (with_reducible refine hQ1 _ _ _ ?_; clear hQ1 Q1)
    )
  refine nx_frz (BoxC B 22 (.slice va vn vc)) Pick.here ?_
  refine nx_end [] rfl (⟨.slice va vn vc, _, _, _, rfl⟩, B) (fun a w ha hw => res_tmp Try.results16 rfl ha) (by exact a_subR) (by exact a_holds2)
end Ex
end Go.Proofs.Ytmfphgkpnojppaa
