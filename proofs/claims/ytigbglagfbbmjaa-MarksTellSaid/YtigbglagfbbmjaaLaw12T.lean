/- The contract of breviarylaw12.MarksTell. Condition: lists of writes, and what a byte holds. -/
import Derived.Test.YtigbglagfbbmjaaLaw12
import Derived.Test.YtigbglagfbbmjaaRowWr
namespace Go.Proofs.Ytigbglagfbbmjaa
open Go.RowKit Go.Shelf
set_option linter.unusedSimpArgs false
set_option linter.unusedVariables false
namespace Law12
open Mk
variable {W0 : World} {X : Nat → Prop} {R C : List Ch}
theorem putAll_mem (n : Int) : ∀ (ws : List Wr) (xs : List Int) (x : Int), x ∈ putAll xs n ws → x = n ∨ x ∈ xs
  | [], xs, x, h => .inr h
  | w :: ws, xs, x, h => by
    unfold putAll at h
    rw [List.foldl_cons] at h
    rcases putAll_mem n ws _ x h with h | h
    · exact .inl h
    · rcases List.mem_or_eq_of_mem_set h with h | h
      · exact .inr h
      · exact .inl h
theorem note_ok (xs : List Int) (n : Int) (ws : List Wr) (hn : 0 ≤ n ∧ n ≤ 1099511627776) (h0 : xs ≠ []) (hx : ∀ x ∈ xs, x ≤ n) : noteE xs n ws = if ws.any (bad xs.length) then 41 else 0 := by
  have := (maxL_le h0 n).2 hx
  unfold noteE
  rw [if_neg (by omega), if_neg (by omega)]
/-- A map that tells what a list of numbers holds. -/
def Tells (f : Int → Option Value) (xs : List Int) : Prop := ∀ b : Nat, b < xs.length → (f b).getD (.int .i64 0) = .int .i64 (xs.getD b 0)
theorem Tells.upd {f : Int → Option Value} {xs : List Int} (h : Tells f xs) {z n : Int} (hz : 0 ≤ z ∧ z < xs.length) : Tells (updF f z (.int .i64 n)) (xs.set z.toNat n) := fun b hb => by
  rw [List.length_set] at hb
  unfold updF
  by_cases e : (b : Int) = z
  · rw [if_pos e]
    have : z.toNat = b := by omega
    rw [this]; simp [hb]
  · rw [if_neg e, h b hb]
    have : z.toNat ≠ b := by omega
    simp [List.getElem?_set, this]
theorem putAll_snoc (xs : List Int) (n : Int) (ws : List Wr) (j : Nat) (x : Wr) (hx : ws[j]? = some x) : putAll xs n (ws.take (j + 1)) = (putAll xs n (ws.take j)).set x.blk.toNat n := by
  rw [List.take_add_one, hx]
  unfold putAll
  rw [Option.toList_some, List.foldl_append]; rfl
def setB (g : Int → Option Value) (ys : List Int) : Prop := ∀ b : Int, (g b).getD (.bool false) = .bool (decide (b ∈ ys))
theorem setB.upd {g : Int → Option Value} {ys : List Int} (h : setB g ys) (z : Int) : setB (updF g z (.bool true)) (ys ++ [z]) := fun b => by
  unfold updF
  by_cases e : b = z
  · rw [if_pos e]; simp [e]
  · rw [if_neg e, h b]; simp [e]
theorem since_mem (xs : List Int) (n : Int) (b : Nat) (hb : b < xs.length) : (b : Int) ∈ sinceL xs n ↔ n < xs.getD b 0 := by
  unfold sinceL
  rw [List.mem_map]
  constructor
  · rintro ⟨i, hi, e⟩
    obtain rfl : i = b := by omega
    simpa using (List.mem_filter.1 hi).2
  · intro h
    exact ⟨b, List.mem_filter.2 ⟨List.mem_range.2 hb, by simpa using h⟩, rfl⟩
theorem since_rng (xs : List Int) (n y : Int) (h : y ∈ sinceL xs n) : 0 ≤ y ∧ y < xs.length := by
  unfold sinceL at h
  obtain ⟨i, hi, rfl⟩ := List.mem_map.1 h
  have := List.mem_range.1 (List.mem_filter.1 hi).1
  omega
structure TellI (L : List (Value × List Wr)) (p : Nat × List Int × (Int → Option Value) × Nat) : Prop where
  i1 : p.1 ≤ L.length
  i2 : p.1 ≤ 30
  len : p.2.1.length = 6
  num : ∀ x ∈ p.2.1, x ≤ p.1
  tell : Tells p.2.2.1 p.2.1
  q : p.2.2.2 ≤ 30 * p.1
structure TellJ (ws : List Wr) (xs : List Int) (n : Int) (q0 : Nat) (p : Nat × (Int → Option Value) × Nat) : Prop where
  j1 : p.1 ≤ ws.length
  tell : Tells p.2.1 (putAll xs n (ws.take p.1))
  q : p.2.2 ≤ q0 + p.1
set_option maxRecDepth 100000 in
set_option maxHeartbeats 4000000 in
theorem tell_ct (s : Value) (hs : IsSl s) (L : List (Value × List Wr)) (hL : ∀ p ∈ L, IsSl p.1 ∧ ∀ x ∈ p.2, x.wf) (fr : Int) (hf : 0 ≤ fr ∧ fr ≤ 255) (h0 : SlC 1 s (L.map (·.1)) ∈ R) (h1 : ∀ p ∈ L, SlC 2 p.1 (p.2.map Wr.v) ∈ R) (hm : L.length ≤ 10000000000000) :
    Ct Try.prog 9 [s, .int .u8 fr] W0 X R C Unit (fun _ => .bool true) (fun _ => R) (fun _ => C) := by
  intro w hw
  have hF := isWide_wide
  obtain ⟨sa, sn, sc, rfl⟩ := hs
  obtain rfl := slLen (hw.hasR h0)
  have hlv : (L.map (·.1)).length = L.length := by simp
  refine calls_nx Try.func9 rfl Try.ntmps9 rfl ?_ hw
  repeat' (first
    | ((first | with_reducible refine nl_op rfl ?_ | refine nd_go rfl rfl rfl ?_); intro K hK; (first
      | ((first | refine on_E hF rfl rfl ?_ | refine od_E rfl rfl ?_ | refine od_R rfl rfl ?_); (first | refine ⟨_, a_yl, ?_⟩ | refine ⟨_, yl_conv_i (S := 5) (T := 3) rfl rfl (by kernel_rfl) (by kernel_rfl) (by omega), ?_⟩ | refine ⟨_, yl_fieldB (T := 73) (f := 0) (q := 0) rfl rfl (by kernel_rfl), ?_⟩ | refine ⟨_, yl_fieldE (T := 73) (f := 0) (j := 0) rfl rfl a_sl (by (first | omega | (simp only [List.length_append, List.length_cons, List.length_nil, List.length_map] at *; omega))) (by kernel_rfl), ?_⟩))
      | ((first | refine on_Ec hF rfl rfl ?_ | refine od_Ec rfl rfl ?_); refine ⟨_, _, _, a_yc, ?_, ?_⟩ <;> (intro hc; try (exfalso; first | (omega; done) | exact absurd (by with_reducible rfl) hc | (simp at hc; done))))
      | ((first | (refine od_act (fun c => by exact (fun h => by cases h)) ?_; intro K2 hK2) | refine od_last (fun c => by exact (fun h => by cases h)) ?_ | skip); (first
      | (refine on_callG hF (enters_of Try.func42 (by kernel_rfl) rfl) rfl rfl rfl rfl first_ct (fun _ => ?_))
      | (refine on_callG hF (enters_of Try.func43 (by kernel_rfl) rfl) rfl rfl rfl rfl (newO_ct 6 0 (by omega)) (fun i => ?_); obtain ⟨m, v, va, vn, vc, rfl⟩ := i; dsimp only)
      | (refine on_makeMap hF 3 rfl rfl rfl (fun bm => ?_))
      
      | (refine on_alloc hF rfl Try.zeroValue73 rfl rfl (fun B => ?_))
      | (refine on_box hF rfl rfl rfl rfl (fun B => ?_))
      | (refine on_store hF rfl rfl rfl rfl a_turn a_vof (by first | rfl | exact hsz.symm | exact hsz) ?_)
      | (refine on_storeE hF rfl rfl rfl rfl a_turn (by (first | omega | (simp only [List.length_append, List.length_cons, List.length_nil, List.length_map] at *; omega))) a_vof (by first | rfl | exact hsz) ?_)
      | (refine on_storeEF hF rfl rfl rfl rfl a_turn (by first | with_reducible assumption | rfl) (by decide) a_vof rfl ?_)
      | (refine on_storeF hF rfl rfl rfl rfl a_turn (by decide) a_vof rfl ?_)) <;> try (refine hK2 _ _ _ a_allK ?_; clear hK2 K2))) <;> (refine hK _ _ _ ?_; clear hK K))
    | with_reducible refine nx_seq ?_
        | with_reducible refine nx_region ?_
        | with_reducible refine nl_nil ?_
        | with_reducible refine nq_then_n ?_
        | with_reducible refine nx_block ?_
        | with_reducible refine nx_skip ?_
        | with_reducible refine nx_exit ?_
        | with_reducible refine nx_ret ?_
        | with_reducible refine nq_then_x ?_
        | with_reducible refine nq_then_r ?_
        | with_reducible refine nq_blk_n ?_
        | with_reducible refine nq_blk_r ?_
        | with_reducible refine nq_blk_hit ?_
        | with_reducible refine nq_blk_miss rfl ?_
        | with_reducible refine nd_nil ?_
    | refine nx_cond_t rfl ?_ | refine nx_cond_f rfl ?_
    | refine nl_pass hF rfl rfl rfl ?_
    | refine nd_pass rfl rfl rfl rfl rfl ?_
    | refine nd_pass2 rfl rfl rfl (fun c => by exact (fun h => by cases h)) a_allK rfl rfl ?_
    | refine nd_pass3 rfl rfl rfl (fun c => by exact (fun h => by cases h)) rfl rfl ?_
    | (with_reducible refine hQ1 _ _ _ ?_; clear hQ1 Q1)
    )
  rename_i bt
  refine nx_loop (ι := { p : Nat × List Int × (Int → Option Value) × Nat // TellI L p }) (fun p => [(0, .slice sa (L.map (·.1)).length sc), (1, .int .u8 fr), (4, .bool false), (5, ptr m), (7, .map (some bt)), (8, .map (some bm)), (24, .slice sa (L.map (·.1)).length sc), (25, .int .i64 ((L.map (·.1)).length : Int)), (26, .int .i64 (p.1.1 : Int))]) (fun _ => R) (fun p => BoxC m 134 (.agg #[.slice va vn vc]) :: RowC 3 1 (.slice va vn vc) (p.1.2.1.map (.int .i64)) :: MapC Try.prog 3 bt 0 (fun _ => none) :: MapC Try.prog 3 bm p.1.2.2.2 p.1.2.2.1 :: C) (fun p => L.length - p.1.1) ⟨(0, [0, 0, 0, 0, 0, 0], (fun _ => none), 0), ⟨Nat.zero_le _, Nat.zero_le _, rfl, (by simp), (fun b hb => by simp at hb; match b, hb with | 0, _ => rfl | 1, _ => rfl | 2, _ => rfl | 3, _ => rfl | 4, _ => rfl | 5, _ => rfl), Nat.zero_le _⟩⟩ (by exact a_sub) (by exact a_subR) (by exact a_holds) (fun p => ?_)
  obtain ⟨⟨i, xs, f, q⟩, ⟨i1, i2, hlen, hnum, htel, hq⟩⟩ := p
  dsimp only at i1 i2 hlen hnum htel hq ⊢
  have hxs : xs ≠ [] := by intro e; rw [e] at hlen; cases hlen
  by_cases hlt : i < L.length
  · obtain ⟨p, hp⟩ : ∃ p, L[i]? = some p := ⟨L[i], by simp [hlt]⟩
    have hpm : p ∈ L := List.mem_of_getElem? hp
    have hx : (L.map (·.1))[i]? = some p.1 := by rw [List.getElem?_map, hp]; rfl
    have hsl2 := h1 p hpm
    obtain ⟨hps, hpw⟩ := hL p hpm
    obtain ⟨sv, ws⟩ := p
    dsimp only at hx hsl2 hps hpw
    obtain ⟨pa, pn, pc, rfl⟩ := hps
    obtain rfl := slLen (hw.hasR hsl2)
    have hok : ∀ x ∈ ws, x.ok := fun x hx => (hpw x hx).1
    have hlw : (ws.map Wr.v).length = ws.length := by simp
    by_cases h30 : 30 ≤ i
    · repeat' (first
    | ((first | with_reducible refine nl_op rfl ?_ | refine nd_go rfl rfl rfl ?_); intro K hK; (first
      | ((first | refine on_E hF rfl rfl ?_ | refine od_E rfl rfl ?_ | refine od_R rfl rfl ?_); (first | refine ⟨_, a_yl, ?_⟩ | refine ⟨_, yl_conv_i (S := 5) (T := 3) rfl rfl (by kernel_rfl) (by kernel_rfl) (by omega), ?_⟩ | refine ⟨_, yl_fieldB (T := 73) (f := 0) (q := 0) rfl rfl (by kernel_rfl), ?_⟩ | refine ⟨_, yl_fieldE (T := 73) (f := 0) (j := 0) rfl rfl a_sl (by (first | omega | (simp only [List.length_append, List.length_cons, List.length_nil, List.length_map] at *; omega))) (by kernel_rfl), ?_⟩))
      | ((first | refine on_Ec hF rfl rfl ?_ | refine od_Ec rfl rfl ?_); refine ⟨_, _, _, a_yc, ?_, ?_⟩ <;> (intro hc; try (exfalso; first | (omega; done) | exact absurd (by with_reducible rfl) hc | (simp at hc; done))))
      | ((first | (refine od_act (fun c => by exact (fun h => by cases h)) ?_; intro K2 hK2) | refine od_last (fun c => by exact (fun h => by cases h)) ?_ | skip); (first
      
      
      | (refine on_alloc hF rfl Try.zeroValue73 rfl rfl (fun B => ?_))
      | (refine on_box hF rfl rfl rfl rfl (fun B => ?_))
      | (refine on_store hF rfl rfl rfl rfl a_turn a_vof (by first | rfl | exact hsz.symm | exact hsz) ?_)
      | (refine on_storeE hF rfl rfl rfl rfl a_turn (by (first | omega | (simp only [List.length_append, List.length_cons, List.length_nil, List.length_map] at *; omega))) a_vof (by first | rfl | exact hsz) ?_)
      | (refine on_storeEF hF rfl rfl rfl rfl a_turn (by first | with_reducible assumption | rfl) (by decide) a_vof rfl ?_)
      | (refine on_storeF hF rfl rfl rfl rfl a_turn (by decide) a_vof rfl ?_)) <;> try (refine hK2 _ _ _ a_allK ?_; clear hK2 K2))) <;> (refine hK _ _ _ ?_; clear hK K))
    | with_reducible refine nx_seq ?_
        | with_reducible refine nx_region ?_
        | with_reducible refine nl_nil ?_
        | with_reducible refine nq_then_n ?_
        | with_reducible refine nx_block ?_
        | with_reducible refine nx_skip ?_
        | with_reducible refine nx_exit ?_
        | with_reducible refine nx_ret ?_
        | with_reducible refine nq_then_x ?_
        | with_reducible refine nq_then_r ?_
        | with_reducible refine nq_blk_n ?_
        | with_reducible refine nq_blk_r ?_
        | with_reducible refine nq_blk_hit ?_
        | with_reducible refine nq_blk_miss rfl ?_
        | with_reducible refine nd_nil ?_
    | refine nx_cond_t rfl ?_ | refine nx_cond_f rfl ?_
    | refine nl_pass hF rfl rfl rfl ?_
    | refine nd_pass rfl rfl rfl rfl rfl ?_
    | refine nd_pass2 rfl rfl rfl (fun c => by exact (fun h => by cases h)) a_allK rfl rfl ?_
    | refine nd_pass3 rfl rfl rfl (fun c => by exact (fun h => by cases h)) rfl rfl ?_
    | (with_reducible refine hQ1 _ _ _ ?_; clear hQ1 Q1)
    )
      refine nx_end [] rfl () (fun a w ha hw => res_tmp Try.results9 rfl ha) (by exact a_subR) (by exact a_holds2)
    by_cases hw30 : 30 < ws.length
    · repeat' (first
    | ((first | with_reducible refine nl_op rfl ?_ | refine nd_go rfl rfl rfl ?_); intro K hK; (first
      | ((first | refine on_E hF rfl rfl ?_ | refine od_E rfl rfl ?_ | refine od_R rfl rfl ?_); (first | refine ⟨_, a_yl, ?_⟩ | refine ⟨_, yl_conv_i (S := 5) (T := 3) rfl rfl (by kernel_rfl) (by kernel_rfl) (by omega), ?_⟩ | refine ⟨_, yl_fieldB (T := 73) (f := 0) (q := 0) rfl rfl (by kernel_rfl), ?_⟩ | refine ⟨_, yl_fieldE (T := 73) (f := 0) (j := 0) rfl rfl a_sl (by (first | omega | (simp only [List.length_append, List.length_cons, List.length_nil, List.length_map] at *; omega))) (by kernel_rfl), ?_⟩))
      | ((first | refine on_Ec hF rfl rfl ?_ | refine od_Ec rfl rfl ?_); refine ⟨_, _, _, a_yc, ?_, ?_⟩ <;> (intro hc; try (exfalso; first | (omega; done) | exact absurd (by with_reducible rfl) hc | (simp at hc; done))))
      | ((first | (refine od_act (fun c => by exact (fun h => by cases h)) ?_; intro K2 hK2) | refine od_last (fun c => by exact (fun h => by cases h)) ?_ | skip); (first
      
      
      | (refine on_alloc hF rfl Try.zeroValue73 rfl rfl (fun B => ?_))
      | (refine on_box hF rfl rfl rfl rfl (fun B => ?_))
      | (refine on_store hF rfl rfl rfl rfl a_turn a_vof (by first | rfl | exact hsz.symm | exact hsz) ?_)
      | (refine on_storeE hF rfl rfl rfl rfl a_turn (by (first | omega | (simp only [List.length_append, List.length_cons, List.length_nil, List.length_map] at *; omega))) a_vof (by first | rfl | exact hsz) ?_)
      | (refine on_storeEF hF rfl rfl rfl rfl a_turn (by first | with_reducible assumption | rfl) (by decide) a_vof rfl ?_)
      | (refine on_storeF hF rfl rfl rfl rfl a_turn (by decide) a_vof rfl ?_)) <;> try (refine hK2 _ _ _ a_allK ?_; clear hK2 K2))) <;> (refine hK _ _ _ ?_; clear hK K))
    | with_reducible refine nx_seq ?_
        | with_reducible refine nx_region ?_
        | with_reducible refine nl_nil ?_
        | with_reducible refine nq_then_n ?_
        | with_reducible refine nx_block ?_
        | with_reducible refine nx_skip ?_
        | with_reducible refine nx_exit ?_
        | with_reducible refine nx_ret ?_
        | with_reducible refine nq_then_x ?_
        | with_reducible refine nq_then_r ?_
        | with_reducible refine nq_blk_n ?_
        | with_reducible refine nq_blk_r ?_
        | with_reducible refine nq_blk_hit ?_
        | with_reducible refine nq_blk_miss rfl ?_
        | with_reducible refine nd_nil ?_
    | refine nx_cond_t rfl ?_ | refine nx_cond_f rfl ?_
    | refine nl_pass hF rfl rfl rfl ?_
    | refine nd_pass rfl rfl rfl rfl rfl ?_
    | refine nd_pass2 rfl rfl rfl (fun c => by exact (fun h => by cases h)) a_allK rfl rfl ?_
    | refine nd_pass3 rfl rfl rfl (fun c => by exact (fun h => by cases h)) rfl rfl ?_
    | (with_reducible refine hQ1 _ _ _ ?_; clear hQ1 Q1)
    )
      refine nx_end [] rfl () (fun a w ha hw => res_tmp Try.results9 rfl ha) (by exact a_subR) (by exact a_holds2)
    have hn1 : ∀ x ∈ xs, x ≤ (i : Int) + 1 := fun x hx => by have := hnum x hx; omega
    have hne := note_ok xs ((i : Int) + 1) ws (by omega) hxs hn1
    by_cases hbad : ws.any (bad xs.length) = true
    · rw [if_pos hbad] at hne
      have hnr : noteR xs ((i : Int) + 1) ws = xs := by unfold noteR; rw [hne]; rfl
      repeat' (first
    | ((first | with_reducible refine nl_op rfl ?_ | refine nd_go rfl rfl rfl ?_); intro K hK; (first
      | ((first | refine on_E hF rfl rfl ?_ | refine od_E rfl rfl ?_ | refine od_R rfl rfl ?_); (first | refine ⟨_, a_yl, ?_⟩ | refine ⟨_, yl_conv_i (S := 5) (T := 3) rfl rfl (by kernel_rfl) (by kernel_rfl) (by omega), ?_⟩ | refine ⟨_, yl_fieldB (T := 73) (f := 0) (q := 0) rfl rfl (by kernel_rfl), ?_⟩ | refine ⟨_, yl_fieldE (T := 73) (f := 0) (j := 0) rfl rfl a_sl (by (first | omega | (simp only [List.length_append, List.length_cons, List.length_nil, List.length_map] at *; omega))) (by kernel_rfl), ?_⟩))
      | ((first | refine on_Ec hF rfl rfl ?_ | refine od_Ec rfl rfl ?_); refine ⟨_, _, _, a_yc, ?_, ?_⟩ <;> (intro hc; try (exfalso; first | (omega; done) | exact absurd (by with_reducible rfl) hc | (simp at hc; done))))
      | ((first | (refine od_act (fun c => by exact (fun h => by cases h)) ?_; intro K2 hK2) | refine od_last (fun c => by exact (fun h => by cases h)) ?_ | skip); (first
      | (refine on_callG hF (enters_of Try.func44 (by kernel_rfl) rfl) rfl rfl rfl rfl ((noteX_ct m (.slice va vn vc) ⟨_, _, _, rfl⟩ xs xs ((i : Int) + 1) 41 _ ⟨_, _, _, rfl⟩ ws hok hxs (by omega) hsl2 (by omega) hne hnr).pre (perm2 (by exact a_pick) (by exact a_pick))) (fun _ => ?_))
      
      | (refine on_alloc hF rfl Try.zeroValue73 rfl rfl (fun B => ?_))
      | (refine on_box hF rfl rfl rfl rfl (fun B => ?_))
      | (refine on_store hF rfl rfl rfl rfl a_turn a_vof (by first | rfl | exact hsz.symm | exact hsz) ?_)
      | (refine on_storeE hF rfl rfl rfl rfl a_turn (by (first | omega | (simp only [List.length_append, List.length_cons, List.length_nil, List.length_map] at *; omega))) a_vof (by first | rfl | exact hsz) ?_)
      | (refine on_storeEF hF rfl rfl rfl rfl a_turn (by first | with_reducible assumption | rfl) (by decide) a_vof rfl ?_)
      | (refine on_storeF hF rfl rfl rfl rfl a_turn (by decide) a_vof rfl ?_)) <;> try (refine hK2 _ _ _ a_allK ?_; clear hK2 K2))) <;> (refine hK _ _ _ ?_; clear hK K))
    | with_reducible refine nx_seq ?_
        | with_reducible refine nx_region ?_
        | with_reducible refine nl_nil ?_
        | with_reducible refine nq_then_n ?_
        | with_reducible refine nx_block ?_
        | with_reducible refine nx_skip ?_
        | with_reducible refine nx_exit ?_
        | with_reducible refine nx_ret ?_
        | with_reducible refine nq_then_x ?_
        | with_reducible refine nq_then_r ?_
        | with_reducible refine nq_blk_n ?_
        | with_reducible refine nq_blk_r ?_
        | with_reducible refine nq_blk_hit ?_
        | with_reducible refine nq_blk_miss rfl ?_
        | with_reducible refine nd_nil ?_
    | refine nx_cond_t rfl ?_ | refine nx_cond_f rfl ?_
    | refine nl_pass hF rfl rfl rfl ?_
    | refine nd_pass rfl rfl rfl rfl rfl ?_
    | refine nd_pass2 rfl rfl rfl (fun c => by exact (fun h => by cases h)) a_allK rfl rfl ?_
    | refine nd_pass3 rfl rfl rfl (fun c => by exact (fun h => by cases h)) rfl rfl ?_
    | (with_reducible refine hQ1 _ _ _ ?_; clear hQ1 Q1)
    )
      refine nx_again ⟨(i + 1, xs, f, q), ⟨by dsimp only; omega, by dsimp only; omega, hlen, hn1, htel, by dsimp only; omega⟩⟩ (by dsimp only; omega) (by exact a_sub) (by exact a_subR) (by exact a_holds)
    · rw [if_neg hbad] at hne
      have hnr : noteR xs ((i : Int) + 1) ws = putAll xs ((i : Int) + 1) ws := by unfold noteR; rw [hne]; rfl
      have hgood : ∀ x ∈ ws, 0 ≤ x.blk ∧ x.blk < xs.length := fun x hx => by
        have := List.any_eq_false.1 (by simpa using hbad) x hx
        simp [bad] at this; omega
      repeat' (first
    | ((first | with_reducible refine nl_op rfl ?_ | refine nd_go rfl rfl rfl ?_); intro K hK; (first
      | ((first | refine on_E hF rfl rfl ?_ | refine od_E rfl rfl ?_ | refine od_R rfl rfl ?_); (first | refine ⟨_, a_yl, ?_⟩ | refine ⟨_, yl_conv_i (S := 5) (T := 3) rfl rfl (by kernel_rfl) (by kernel_rfl) (by omega), ?_⟩ | refine ⟨_, yl_fieldB (T := 73) (f := 0) (q := 0) rfl rfl (by kernel_rfl), ?_⟩ | refine ⟨_, yl_fieldE (T := 73) (f := 0) (j := 0) rfl rfl a_sl (by (first | omega | (simp only [List.length_append, List.length_cons, List.length_nil, List.length_map] at *; omega))) (by kernel_rfl), ?_⟩))
      | ((first | refine on_Ec hF rfl rfl ?_ | refine od_Ec rfl rfl ?_); refine ⟨_, _, _, a_yc, ?_, ?_⟩ <;> (intro hc; try (exfalso; first | (omega; done) | exact absurd (by with_reducible rfl) hc | (simp at hc; done))))
      | ((first | (refine od_act (fun c => by exact (fun h => by cases h)) ?_; intro K2 hK2) | refine od_last (fun c => by exact (fun h => by cases h)) ?_ | skip); (first
      | (refine on_callG hF (enters_of Try.func44 (by kernel_rfl) rfl) rfl rfl rfl rfl ((noteX_ct m (.slice va vn vc) ⟨_, _, _, rfl⟩ xs _ ((i : Int) + 1) 0 _ ⟨_, _, _, rfl⟩ ws hok hxs (by omega) hsl2 (by omega) hne hnr).pre (perm2 (by exact a_pick) (by exact a_pick))) (fun _ => ?_))
      
      | (refine on_alloc hF rfl Try.zeroValue73 rfl rfl (fun B => ?_))
      | (refine on_box hF rfl rfl rfl rfl (fun B => ?_))
      | (refine on_store hF rfl rfl rfl rfl a_turn a_vof (by first | rfl | exact hsz.symm | exact hsz) ?_)
      | (refine on_storeE hF rfl rfl rfl rfl a_turn (by (first | omega | (simp only [List.length_append, List.length_cons, List.length_nil, List.length_map] at *; omega))) a_vof (by first | rfl | exact hsz) ?_)
      | (refine on_storeEF hF rfl rfl rfl rfl a_turn (by first | with_reducible assumption | rfl) (by decide) a_vof rfl ?_)
      | (refine on_storeF hF rfl rfl rfl rfl a_turn (by decide) a_vof rfl ?_)) <;> try (refine hK2 _ _ _ a_allK ?_; clear hK2 K2))) <;> (refine hK _ _ _ ?_; clear hK K))
    | with_reducible refine nx_seq ?_
        | with_reducible refine nx_region ?_
        | with_reducible refine nl_nil ?_
        | with_reducible refine nq_then_n ?_
        | with_reducible refine nx_block ?_
        | with_reducible refine nx_skip ?_
        | with_reducible refine nx_exit ?_
        | with_reducible refine nx_ret ?_
        | with_reducible refine nq_then_x ?_
        | with_reducible refine nq_then_r ?_
        | with_reducible refine nq_blk_n ?_
        | with_reducible refine nq_blk_r ?_
        | with_reducible refine nq_blk_hit ?_
        | with_reducible refine nq_blk_miss rfl ?_
        | with_reducible refine nd_nil ?_
    | refine nx_cond_t rfl ?_ | refine nx_cond_f rfl ?_
    | refine nl_pass hF rfl rfl rfl ?_
    | refine nd_pass rfl rfl rfl rfl rfl ?_
    | refine nd_pass2 rfl rfl rfl (fun c => by exact (fun h => by cases h)) a_allK rfl rfl ?_
    | refine nd_pass3 rfl rfl rfl (fun c => by exact (fun h => by cases h)) rfl rfl ?_
    | (with_reducible refine hQ1 _ _ _ ?_; clear hQ1 Q1)
    )
      refine nx_loop (ι := { p : Nat × (Int → Option Value) × Nat // TellJ ws xs ((i : Int) + 1) q p }) (fun p => [(0, .slice sa (L.map (·.1)).length sc), (1, .int .u8 fr), (4, .bool false), (5, ptr m), (7, .map (some bt)), (8, .map (some bm)), (24, .slice sa (L.map (·.1)).length sc), (25, .int .i64 ((L.map (·.1)).length : Int)), (26, .int .i64 (i : Int)), (9, .int .i64 (i : Int)), (44, .slice pa (ws.map Wr.v).length pc), (45, .int .i64 ((ws.map Wr.v).length : Int)), (46, .int .i64 (p.1.1 : Int))]) (fun _ => R) (fun p => BoxC m 134 (.agg #[.slice va vn vc]) :: RowC 3 1 (.slice va vn vc) ((putAll xs ((i : Int) + 1) ws).map (.int .i64)) :: MapC Try.prog 3 bt 0 (fun _ => none) :: MapC Try.prog 3 bm p.1.2.2 p.1.2.1 :: C) (fun p => ws.length - p.1.1) ⟨(0, f, q), ⟨Nat.zero_le _, htel, Nat.le_refl _⟩⟩ (by exact a_sub) (by exact a_subR) (by exact a_holds) (fun p => ?_)
      obtain ⟨⟨j, f2, q2⟩, ⟨j1, htel2, hq2⟩⟩ := p
      dsimp only at j1 htel2 hq2 ⊢
      have hpl := putAll_len ((i : Int) + 1) (ws.take j) xs
      by_cases hjt : j < ws.length
      · obtain ⟨x, hxj⟩ : ∃ x, ws[j]? = some x := ⟨ws[j], by simp [hjt]⟩
        have hxm : x ∈ ws := List.mem_of_getElem? hxj
        have hxv : (ws.map Wr.v)[j]? = some x.v := by rw [List.getElem?_map, hxj]; rfl
        have hg := hgood x hxm
        have hsn := putAll_snoc xs ((i : Int) + 1) ws j x hxj
        have htel3 := htel2.upd (z := x.blk) (n := (i : Int) + 1) (by rw [hpl]; exact hg)
        rw [← hsn] at htel3
        have hvx := x.vof (hok x hxm)
        obtain ⟨blk, xb⟩ := x
        obtain ⟨ba, bn, bc, rfl⟩ : IsSl xb := hok _ hxm
        dsimp only at hg htel3
        repeat' (first
    | ((first | with_reducible refine nl_op rfl ?_ | refine nd_go rfl rfl rfl ?_); intro K hK; (first
      | ((first | refine on_E hF rfl rfl ?_ | refine od_E rfl rfl ?_ | refine od_R rfl rfl ?_); (first | refine ⟨_, a_yl, ?_⟩ | refine ⟨_, yl_conv_i (S := 5) (T := 3) rfl rfl (by kernel_rfl) (by kernel_rfl) (by omega), ?_⟩ | refine ⟨_, yl_fieldB (T := 73) (f := 0) (q := 0) rfl rfl (by kernel_rfl), ?_⟩ | refine ⟨_, yl_fieldE (T := 73) (f := 0) (j := 0) rfl rfl a_sl (by (first | omega | (simp only [List.length_append, List.length_cons, List.length_nil, List.length_map] at *; omega))) (by kernel_rfl), ?_⟩))
      | ((first | refine on_Ec hF rfl rfl ?_ | refine od_Ec rfl rfl ?_); refine ⟨_, _, _, a_yc, ?_, ?_⟩ <;> (intro hc; try (exfalso; first | (omega; done) | exact absurd (by with_reducible rfl) hc | (simp at hc; done))))
      | ((first | (refine od_act (fun c => by exact (fun h => by cases h)) ?_; intro K2 hK2) | refine od_last (fun c => by exact (fun h => by cases h)) ?_ | skip); (first
      | (refine on_mapUpdate (k := 3) (e := 3) hF rfl rfl rfl rfl rfl (by kernel_rfl) (by exact a_turn) (wf_of_i64 (by first | omega | (dsimp only; omega))) (by unfold maxLen; omega) ?_)
      
      | (refine on_alloc hF rfl Try.zeroValue73 rfl rfl (fun B => ?_))
      | (refine on_box hF rfl rfl rfl rfl (fun B => ?_))
      | (refine on_store hF rfl rfl rfl rfl a_turn a_vof (by first | rfl | exact hsz.symm | exact hsz) ?_)
      | (refine on_storeE hF rfl rfl rfl rfl a_turn (by (first | omega | (simp only [List.length_append, List.length_cons, List.length_nil, List.length_map] at *; omega))) a_vof (by first | rfl | exact hsz) ?_)
      | (refine on_storeEF hF rfl rfl rfl rfl a_turn (by first | with_reducible assumption | rfl) (by decide) a_vof rfl ?_)
      | (refine on_storeF hF rfl rfl rfl rfl a_turn (by decide) a_vof rfl ?_)) <;> try (refine hK2 _ _ _ a_allK ?_; clear hK2 K2))) <;> (refine hK _ _ _ ?_; clear hK K))
    | with_reducible refine nx_seq ?_
        | with_reducible refine nx_region ?_
        | with_reducible refine nl_nil ?_
        | with_reducible refine nq_then_n ?_
        | with_reducible refine nx_block ?_
        | with_reducible refine nx_skip ?_
        | with_reducible refine nx_exit ?_
        | with_reducible refine nx_ret ?_
        | with_reducible refine nq_then_x ?_
        | with_reducible refine nq_then_r ?_
        | with_reducible refine nq_blk_n ?_
        | with_reducible refine nq_blk_r ?_
        | with_reducible refine nq_blk_hit ?_
        | with_reducible refine nq_blk_miss rfl ?_
        | with_reducible refine nd_nil ?_
    | refine nx_cond_t rfl ?_ | refine nx_cond_f rfl ?_
    | refine nl_pass hF rfl rfl rfl ?_
    | refine nd_pass rfl rfl rfl rfl rfl ?_
    | refine nd_pass2 rfl rfl rfl (fun c => by exact (fun h => by cases h)) a_allK rfl rfl ?_
    | refine nd_pass3 rfl rfl rfl (fun c => by exact (fun h => by cases h)) rfl rfl ?_
    | (with_reducible refine hQ1 _ _ _ ?_; clear hQ1 Q1)
    )
        refine nx_again ⟨(j + 1, _, q2 + 1), ⟨by dsimp only; omega, htel3, by dsimp only; omega⟩⟩ (by dsimp only; omega) (by exact a_sub) (by exact a_subR) (by exact a_holds)
      · have hj : j = ws.length := by omega
        subst hj
        rw [List.take_length] at htel2 hpl
        have hn2 : ∀ x ∈ putAll xs ((i : Int) + 1) ws, x ≤ ((i + 1 : Nat) : Int) := fun x hx => by
          rcases putAll_mem _ ws xs x hx with h | h
          · omega
          · have := hnum x h; omega
        repeat' (first
    | ((first | with_reducible refine nl_op rfl ?_ | refine nd_go rfl rfl rfl ?_); intro K hK; (first
      | ((first | refine on_E hF rfl rfl ?_ | refine od_E rfl rfl ?_ | refine od_R rfl rfl ?_); (first | refine ⟨_, a_yl, ?_⟩ | refine ⟨_, yl_conv_i (S := 5) (T := 3) rfl rfl (by kernel_rfl) (by kernel_rfl) (by omega), ?_⟩ | refine ⟨_, yl_fieldB (T := 73) (f := 0) (q := 0) rfl rfl (by kernel_rfl), ?_⟩ | refine ⟨_, yl_fieldE (T := 73) (f := 0) (j := 0) rfl rfl a_sl (by (first | omega | (simp only [List.length_append, List.length_cons, List.length_nil, List.length_map] at *; omega))) (by kernel_rfl), ?_⟩))
      | ((first | refine on_Ec hF rfl rfl ?_ | refine od_Ec rfl rfl ?_); refine ⟨_, _, _, a_yc, ?_, ?_⟩ <;> (intro hc; try (exfalso; first | (omega; done) | exact absurd (by with_reducible rfl) hc | (simp at hc; done))))
      | ((first | (refine od_act (fun c => by exact (fun h => by cases h)) ?_; intro K2 hK2) | refine od_last (fun c => by exact (fun h => by cases h)) ?_ | skip); (first
      
      
      | (refine on_alloc hF rfl Try.zeroValue73 rfl rfl (fun B => ?_))
      | (refine on_box hF rfl rfl rfl rfl (fun B => ?_))
      | (refine on_store hF rfl rfl rfl rfl a_turn a_vof (by first | rfl | exact hsz.symm | exact hsz) ?_)
      | (refine on_storeE hF rfl rfl rfl rfl a_turn (by (first | omega | (simp only [List.length_append, List.length_cons, List.length_nil, List.length_map] at *; omega))) a_vof (by first | rfl | exact hsz) ?_)
      | (refine on_storeEF hF rfl rfl rfl rfl a_turn (by first | with_reducible assumption | rfl) (by decide) a_vof rfl ?_)
      | (refine on_storeF hF rfl rfl rfl rfl a_turn (by decide) a_vof rfl ?_)) <;> try (refine hK2 _ _ _ a_allK ?_; clear hK2 K2))) <;> (refine hK _ _ _ ?_; clear hK K))
    | with_reducible refine nx_seq ?_
        | with_reducible refine nx_region ?_
        | with_reducible refine nl_nil ?_
        | with_reducible refine nq_then_n ?_
        | with_reducible refine nx_block ?_
        | with_reducible refine nx_skip ?_
        | with_reducible refine nx_exit ?_
        | with_reducible refine nx_ret ?_
        | with_reducible refine nq_then_x ?_
        | with_reducible refine nq_then_r ?_
        | with_reducible refine nq_blk_n ?_
        | with_reducible refine nq_blk_r ?_
        | with_reducible refine nq_blk_hit ?_
        | with_reducible refine nq_blk_miss rfl ?_
        | with_reducible refine nd_nil ?_
    | refine nx_cond_t rfl ?_ | refine nx_cond_f rfl ?_
    | refine nl_pass hF rfl rfl rfl ?_
    | refine nd_pass rfl rfl rfl rfl rfl ?_
    | refine nd_pass2 rfl rfl rfl (fun c => by exact (fun h => by cases h)) a_allK rfl rfl ?_
    | refine nd_pass3 rfl rfl rfl (fun c => by exact (fun h => by cases h)) rfl rfl ?_
    | (with_reducible refine hQ1 _ _ _ ?_; clear hQ1 Q1)
    )
        refine nx_again ⟨(i + 1, putAll xs ((i : Int) + 1) ws, f2, q2), ⟨by dsimp only; omega, by dsimp only; omega, by rw [hpl]; exact hlen, hn2, htel2, by dsimp only; omega⟩⟩ (by dsimp only; omega) (by exact a_sub) (by exact a_subR) (by exact a_holds)
  · obtain ⟨ys, hys⟩ : ∃ ys, ys = sinceL xs fr := ⟨_, rfl⟩
    have hyl : ys.length ≤ 6 := by rw [hys, ← hlen]; exact since_len xs fr
    repeat' (first
    | ((first | with_reducible refine nl_op rfl ?_ | refine nd_go rfl rfl rfl ?_); intro K hK; (first
      | ((first | refine on_E hF rfl rfl ?_ | refine od_E rfl rfl ?_ | refine od_R rfl rfl ?_); (first | refine ⟨_, a_yl, ?_⟩ | refine ⟨_, yl_conv_i (S := 5) (T := 3) rfl rfl (by kernel_rfl) (by kernel_rfl) (by omega), ?_⟩ | refine ⟨_, yl_fieldB (T := 73) (f := 0) (q := 0) rfl rfl (by kernel_rfl), ?_⟩ | refine ⟨_, yl_fieldE (T := 73) (f := 0) (j := 0) rfl rfl a_sl (by (first | omega | (simp only [List.length_append, List.length_cons, List.length_nil, List.length_map] at *; omega))) (by kernel_rfl), ?_⟩))
      | ((first | refine on_Ec hF rfl rfl ?_ | refine od_Ec rfl rfl ?_); refine ⟨_, _, _, a_yc, ?_, ?_⟩ <;> (intro hc; try (exfalso; first | (omega; done) | exact absurd (by with_reducible rfl) hc | (simp at hc; done))))
      | ((first | (refine od_act (fun c => by exact (fun h => by cases h)) ?_; intro K2 hK2) | refine od_last (fun c => by exact (fun h => by cases h)) ?_ | skip); (first
      | (refine on_callG hF (enters_of Try.func45 (by kernel_rfl) rfl) rfl rfl rfl rfl ((sinceX_ct m (.slice va vn vc) ⟨_, _, _, rfl⟩ xs ys fr (by omega) hys.symm).pre (perm2 (by exact a_pick) (by exact a_pick))) (fun u => ?_); obtain ⟨u, ua, un, uc, rfl⟩ := u; dsimp only; refine nx_len (e := 3) (k := 1) (xs := ys.map (.int .i64)) (by exact a_mem) (fun hlen2 => ?_); rw [List.length_map] at hlen2; subst hlen2)
      
      | (refine on_alloc hF rfl Try.zeroValue73 rfl rfl (fun B => ?_))
      | (refine on_box hF rfl rfl rfl rfl (fun B => ?_))
      | (refine on_store hF rfl rfl rfl rfl a_turn a_vof (by first | rfl | exact hsz.symm | exact hsz) ?_)
      | (refine on_storeE hF rfl rfl rfl rfl a_turn (by (first | omega | (simp only [List.length_append, List.length_cons, List.length_nil, List.length_map] at *; omega))) a_vof (by first | rfl | exact hsz) ?_)
      | (refine on_storeEF hF rfl rfl rfl rfl a_turn (by first | with_reducible assumption | rfl) (by decide) a_vof rfl ?_)
      | (refine on_storeF hF rfl rfl rfl rfl a_turn (by decide) a_vof rfl ?_)) <;> try (refine hK2 _ _ _ a_allK ?_; clear hK2 K2))) <;> (refine hK _ _ _ ?_; clear hK K))
    | with_reducible refine nx_seq ?_
        | with_reducible refine nx_region ?_
        | with_reducible refine nl_nil ?_
        | with_reducible refine nq_then_n ?_
        | with_reducible refine nx_block ?_
        | with_reducible refine nx_skip ?_
        | with_reducible refine nx_exit ?_
        | with_reducible refine nx_ret ?_
        | with_reducible refine nq_then_x ?_
        | with_reducible refine nq_then_r ?_
        | with_reducible refine nq_blk_n ?_
        | with_reducible refine nq_blk_r ?_
        | with_reducible refine nq_blk_hit ?_
        | with_reducible refine nq_blk_miss rfl ?_
        | with_reducible refine nd_nil ?_
    | refine nx_cond_t rfl ?_ | refine nx_cond_f rfl ?_
    | refine nl_pass hF rfl rfl rfl ?_
    | refine nd_pass rfl rfl rfl rfl rfl ?_
    | refine nd_pass2 rfl rfl rfl (fun c => by exact (fun h => by cases h)) a_allK rfl rfl ?_
    | refine nd_pass3 rfl rfl rfl (fun c => by exact (fun h => by cases h)) rfl rfl ?_
    | (with_reducible refine hQ1 _ _ _ ?_; clear hQ1 Q1)
    )
    have hyl2 : (ys.map (Value.int .i64)).length = ys.length := by simp
    have hyr : ∀ y ∈ ys, 0 ≤ y ∧ y < 6 := fun y hy => by rw [hys] at hy; have := since_rng xs fr y hy; omega
    refine nx_loop (ι := { p : Nat × (Int → Option Value) × Nat // p.1 ≤ ys.length ∧ setB p.2.1 (ys.take p.1) ∧ p.2.2 ≤ p.1 }) (fun p => [(1, .int .u8 fr), (4, .bool false), (7, .map (some bt)), (8, .map (some bm)), (60, .slice ua ys.length uc), (61, .int .i64 (ys.length : Int)), (62, .int .i64 (p.1.1 : Int))]) (fun _ => R) (fun p => RowC 3 1 (.slice ua ys.length uc) (ys.map (.int .i64)) :: MapC Try.prog 3 bt p.1.2.2 p.1.2.1 :: MapC Try.prog 3 bm q f :: C) (fun p => ys.length - p.1.1) ⟨(0, (fun _ => none), 0), Nat.zero_le _, (fun b => by simp), Nat.le_refl _⟩ (by exact a_sub) (by exact a_subR) (by exact a_holds) (fun p => ?_)
    obtain ⟨⟨j, g, q2⟩, j1, hset, hq2⟩ := p
    dsimp only at j1 hset hq2 ⊢
    by_cases hjt : j < ys.length
    · obtain ⟨y, hy⟩ : ∃ y, ys[j]? = some y := ⟨ys[j], by simp [hjt]⟩
      have hyv : (ys.map (Value.int .i64))[j]? = some (.int .i64 y) := by rw [List.getElem?_map, hy]; rfl
      have hr := hyr y (List.mem_of_getElem? hy)
      have hset2 := hset.upd y
      rw [show ys.take j ++ [y] = ys.take (j + 1) by rw [List.take_add_one, hy]; rfl] at hset2
      repeat' (first
    | ((first | with_reducible refine nl_op rfl ?_ | refine nd_go rfl rfl rfl ?_); intro K hK; (first
      | ((first | refine on_E hF rfl rfl ?_ | refine od_E rfl rfl ?_ | refine od_R rfl rfl ?_); (first | refine ⟨_, a_yl, ?_⟩ | refine ⟨_, yl_conv_i (S := 5) (T := 3) rfl rfl (by kernel_rfl) (by kernel_rfl) (by omega), ?_⟩ | refine ⟨_, yl_fieldB (T := 73) (f := 0) (q := 0) rfl rfl (by kernel_rfl), ?_⟩ | refine ⟨_, yl_fieldE (T := 73) (f := 0) (j := 0) rfl rfl a_sl (by (first | omega | (simp only [List.length_append, List.length_cons, List.length_nil, List.length_map] at *; omega))) (by kernel_rfl), ?_⟩))
      | ((first | refine on_Ec hF rfl rfl ?_ | refine od_Ec rfl rfl ?_); refine ⟨_, _, _, a_yc, ?_, ?_⟩ <;> (intro hc; try (exfalso; first | (omega; done) | exact absurd (by with_reducible rfl) hc | (simp at hc; done))))
      | ((first | (refine od_act (fun c => by exact (fun h => by cases h)) ?_; intro K2 hK2) | refine od_last (fun c => by exact (fun h => by cases h)) ?_ | skip); (first
      | (refine on_mapUpdate (k := 3) (e := 4) hF rfl rfl rfl rfl rfl (by kernel_rfl) (by exact a_turn) (wf_of_i64 (by first | omega | (dsimp only; omega))) (by unfold maxLen; omega) ?_)
      
      | (refine on_alloc hF rfl Try.zeroValue73 rfl rfl (fun B => ?_))
      | (refine on_box hF rfl rfl rfl rfl (fun B => ?_))
      | (refine on_store hF rfl rfl rfl rfl a_turn a_vof (by first | rfl | exact hsz.symm | exact hsz) ?_)
      | (refine on_storeE hF rfl rfl rfl rfl a_turn (by (first | omega | (simp only [List.length_append, List.length_cons, List.length_nil, List.length_map] at *; omega))) a_vof (by first | rfl | exact hsz) ?_)
      | (refine on_storeEF hF rfl rfl rfl rfl a_turn (by first | with_reducible assumption | rfl) (by decide) a_vof rfl ?_)
      | (refine on_storeF hF rfl rfl rfl rfl a_turn (by decide) a_vof rfl ?_)) <;> try (refine hK2 _ _ _ a_allK ?_; clear hK2 K2))) <;> (refine hK _ _ _ ?_; clear hK K))
    | with_reducible refine nx_seq ?_
        | with_reducible refine nx_region ?_
        | with_reducible refine nl_nil ?_
        | with_reducible refine nq_then_n ?_
        | with_reducible refine nx_block ?_
        | with_reducible refine nx_skip ?_
        | with_reducible refine nx_exit ?_
        | with_reducible refine nx_ret ?_
        | with_reducible refine nq_then_x ?_
        | with_reducible refine nq_then_r ?_
        | with_reducible refine nq_blk_n ?_
        | with_reducible refine nq_blk_r ?_
        | with_reducible refine nq_blk_hit ?_
        | with_reducible refine nq_blk_miss rfl ?_
        | with_reducible refine nd_nil ?_
    | refine nx_cond_t rfl ?_ | refine nx_cond_f rfl ?_
    | refine nl_pass hF rfl rfl rfl ?_
    | refine nd_pass rfl rfl rfl rfl rfl ?_
    | refine nd_pass2 rfl rfl rfl (fun c => by exact (fun h => by cases h)) a_allK rfl rfl ?_
    | refine nd_pass3 rfl rfl rfl (fun c => by exact (fun h => by cases h)) rfl rfl ?_
    | (with_reducible refine hQ1 _ _ _ ?_; clear hQ1 Q1)
    )
      refine nx_again ⟨(j + 1, _, q2 + 1), by dsimp only; omega, hset2, by dsimp only; omega⟩ (by dsimp only; omega) (by exact a_sub) (by exact a_subR) (by exact a_holds)
    · have hj : j = ys.length := by omega
      subst hj
      rw [List.take_length] at hset
      repeat' (first
    | ((first | with_reducible refine nl_op rfl ?_ | refine nd_go rfl rfl rfl ?_); intro K hK; (first
      | ((first | refine on_E hF rfl rfl ?_ | refine od_E rfl rfl ?_ | refine od_R rfl rfl ?_); (first | refine ⟨_, a_yl, ?_⟩ | refine ⟨_, yl_conv_i (S := 5) (T := 3) rfl rfl (by kernel_rfl) (by kernel_rfl) (by omega), ?_⟩ | refine ⟨_, yl_fieldB (T := 73) (f := 0) (q := 0) rfl rfl (by kernel_rfl), ?_⟩ | refine ⟨_, yl_fieldE (T := 73) (f := 0) (j := 0) rfl rfl a_sl (by (first | omega | (simp only [List.length_append, List.length_cons, List.length_nil, List.length_map] at *; omega))) (by kernel_rfl), ?_⟩))
      | ((first | refine on_Ec hF rfl rfl ?_ | refine od_Ec rfl rfl ?_); refine ⟨_, _, _, a_yc, ?_, ?_⟩ <;> (intro hc; try (exfalso; first | (omega; done) | exact absurd (by with_reducible rfl) hc | (simp at hc; done))))
      | ((first | (refine od_act (fun c => by exact (fun h => by cases h)) ?_; intro K2 hK2) | refine od_last (fun c => by exact (fun h => by cases h)) ?_ | skip); (first
      
      
      | (refine on_alloc hF rfl Try.zeroValue73 rfl rfl (fun B => ?_))
      | (refine on_box hF rfl rfl rfl rfl (fun B => ?_))
      | (refine on_store hF rfl rfl rfl rfl a_turn a_vof (by first | rfl | exact hsz.symm | exact hsz) ?_)
      | (refine on_storeE hF rfl rfl rfl rfl a_turn (by (first | omega | (simp only [List.length_append, List.length_cons, List.length_nil, List.length_map] at *; omega))) a_vof (by first | rfl | exact hsz) ?_)
      | (refine on_storeEF hF rfl rfl rfl rfl a_turn (by first | with_reducible assumption | rfl) (by decide) a_vof rfl ?_)
      | (refine on_storeF hF rfl rfl rfl rfl a_turn (by decide) a_vof rfl ?_)) <;> try (refine hK2 _ _ _ a_allK ?_; clear hK2 K2))) <;> (refine hK _ _ _ ?_; clear hK K))
    | with_reducible refine nx_seq ?_
        | with_reducible refine nx_region ?_
        | with_reducible refine nl_nil ?_
        | with_reducible refine nq_then_n ?_
        | with_reducible refine nx_block ?_
        | with_reducible refine nx_skip ?_
        | with_reducible refine nx_exit ?_
        | with_reducible refine nx_ret ?_
        | with_reducible refine nq_then_x ?_
        | with_reducible refine nq_then_r ?_
        | with_reducible refine nq_blk_n ?_
        | with_reducible refine nq_blk_r ?_
        | with_reducible refine nq_blk_hit ?_
        | with_reducible refine nq_blk_miss rfl ?_
        | with_reducible refine nd_nil ?_
    | refine nx_cond_t rfl ?_ | refine nx_cond_f rfl ?_
    | refine nl_pass hF rfl rfl rfl ?_
    | refine nd_pass rfl rfl rfl rfl rfl ?_
    | refine nd_pass2 rfl rfl rfl (fun c => by exact (fun h => by cases h)) a_allK rfl rfl ?_
    | refine nd_pass3 rfl rfl rfl (fun c => by exact (fun h => by cases h)) rfl rfl ?_
    | (with_reducible refine hQ1 _ _ _ ?_; clear hQ1 Q1)
    )
      refine nx_loop (ι := { b : Nat // b ≤ 6 }) (fun b => [(1, .int .u8 fr), (4, .bool false), (7, .map (some bt)), (8, .map (some bm)), (69, .int .i64 (b.1 : Int))]) (fun _ => R) (fun _ => MapC Try.prog 3 bt q2 g :: MapC Try.prog 3 bm q f :: C) (fun b => 6 - b.1) ⟨0, Nat.zero_le _⟩ (by exact a_sub) (by exact a_subR) (by exact a_holds) (fun b => ?_)
      obtain ⟨b, hb6⟩ := b
      dsimp only
      by_cases hb : b < 6
      · have hgb := hset (b : Int)
        have hfb := htel b (by omega)
        have hmem := since_mem xs fr b (by omega)
        by_cases hin : fr < xs.getD b 0
        · have hgt : (g (b : Int)).getD (.bool false) = .bool true := by rw [hgb, decide_eq_true]; rw [hys]; exact hmem.2 hin
          repeat' (first
    | ((first | with_reducible refine nl_op rfl ?_ | refine nd_go rfl rfl rfl ?_); intro K hK; (first
      | ((first | refine on_E hF rfl rfl ?_ | refine od_E rfl rfl ?_ | refine od_R rfl rfl ?_); (first | refine ⟨_, a_yl, ?_⟩ | refine ⟨_, yl_conv_i (S := 5) (T := 3) rfl rfl (by kernel_rfl) (by kernel_rfl) (by omega), ?_⟩ | refine ⟨_, yl_fieldB (T := 73) (f := 0) (q := 0) rfl rfl (by kernel_rfl), ?_⟩ | refine ⟨_, yl_fieldE (T := 73) (f := 0) (j := 0) rfl rfl a_sl (by (first | omega | (simp only [List.length_append, List.length_cons, List.length_nil, List.length_map] at *; omega))) (by kernel_rfl), ?_⟩))
      | ((first | refine on_Ec hF rfl rfl ?_ | refine od_Ec rfl rfl ?_); refine ⟨_, _, _, a_yc, ?_, ?_⟩ <;> (intro hc; try (exfalso; first | (omega; done) | exact absurd (by with_reducible rfl) hc | (simp at hc; done))))
      | ((first | (refine od_act (fun c => by exact (fun h => by cases h)) ?_; intro K2 hK2) | refine od_last (fun c => by exact (fun h => by cases h)) ?_ | skip); (first
      | ((first | refine on_E hF rfl rfl ?_ | refine od_E rfl rfl ?_ | refine od_R rfl rfl ?_); (first | refine ⟨_, yl_lookupX (k := 3) (e := 4) hgt rfl rfl rfl (by kernel_rfl) Try.zeroValue4 (wf_of_i64 (by omega)) a_has, ?_⟩ | refine ⟨_, yl_lookupX (k := 3) (e := 3) hfb rfl rfl rfl (by kernel_rfl) Try.zeroValue3 (wf_of_i64 (by omega)) a_has, ?_⟩))
      
      | (refine on_alloc hF rfl Try.zeroValue73 rfl rfl (fun B => ?_))
      | (refine on_box hF rfl rfl rfl rfl (fun B => ?_))
      | (refine on_store hF rfl rfl rfl rfl a_turn a_vof (by first | rfl | exact hsz.symm | exact hsz) ?_)
      | (refine on_storeE hF rfl rfl rfl rfl a_turn (by (first | omega | (simp only [List.length_append, List.length_cons, List.length_nil, List.length_map] at *; omega))) a_vof (by first | rfl | exact hsz) ?_)
      | (refine on_storeEF hF rfl rfl rfl rfl a_turn (by first | with_reducible assumption | rfl) (by decide) a_vof rfl ?_)
      | (refine on_storeF hF rfl rfl rfl rfl a_turn (by decide) a_vof rfl ?_)) <;> try (refine hK2 _ _ _ a_allK ?_; clear hK2 K2))) <;> (refine hK _ _ _ ?_; clear hK K))
    | with_reducible refine nx_seq ?_
        | with_reducible refine nx_region ?_
        | with_reducible refine nl_nil ?_
        | with_reducible refine nq_then_n ?_
        | with_reducible refine nx_block ?_
        | with_reducible refine nx_skip ?_
        | with_reducible refine nx_exit ?_
        | with_reducible refine nx_ret ?_
        | with_reducible refine nq_then_x ?_
        | with_reducible refine nq_then_r ?_
        | with_reducible refine nq_blk_n ?_
        | with_reducible refine nq_blk_r ?_
        | with_reducible refine nq_blk_hit ?_
        | with_reducible refine nq_blk_miss rfl ?_
        | with_reducible refine nd_nil ?_
    | refine nx_cond_t rfl ?_ | refine nx_cond_f rfl ?_
    | refine nl_pass hF rfl rfl rfl ?_
    | refine nd_pass rfl rfl rfl rfl rfl ?_
    | refine nd_pass2 rfl rfl rfl (fun c => by exact (fun h => by cases h)) a_allK rfl rfl ?_
    | refine nd_pass3 rfl rfl rfl (fun c => by exact (fun h => by cases h)) rfl rfl ?_
    | (with_reducible refine hQ1 _ _ _ ?_; clear hQ1 Q1)
    )
          refine nx_again ⟨b + 1, by omega⟩ (by dsimp only; omega) (by exact a_sub) (by exact a_subR) (by exact a_holds)
        · have hgt : (g (b : Int)).getD (.bool false) = .bool false := by rw [hgb, decide_eq_false]; rw [hys]; exact fun h => hin (hmem.1 h)
          repeat' (first
    | ((first | with_reducible refine nl_op rfl ?_ | refine nd_go rfl rfl rfl ?_); intro K hK; (first
      | ((first | refine on_E hF rfl rfl ?_ | refine od_E rfl rfl ?_ | refine od_R rfl rfl ?_); (first | refine ⟨_, a_yl, ?_⟩ | refine ⟨_, yl_conv_i (S := 5) (T := 3) rfl rfl (by kernel_rfl) (by kernel_rfl) (by omega), ?_⟩ | refine ⟨_, yl_fieldB (T := 73) (f := 0) (q := 0) rfl rfl (by kernel_rfl), ?_⟩ | refine ⟨_, yl_fieldE (T := 73) (f := 0) (j := 0) rfl rfl a_sl (by (first | omega | (simp only [List.length_append, List.length_cons, List.length_nil, List.length_map] at *; omega))) (by kernel_rfl), ?_⟩))
      | ((first | refine on_Ec hF rfl rfl ?_ | refine od_Ec rfl rfl ?_); refine ⟨_, _, _, a_yc, ?_, ?_⟩ <;> (intro hc; try (exfalso; first | (omega; done) | exact absurd (by with_reducible rfl) hc | (simp at hc; done))))
      | ((first | (refine od_act (fun c => by exact (fun h => by cases h)) ?_; intro K2 hK2) | refine od_last (fun c => by exact (fun h => by cases h)) ?_ | skip); (first
      | ((first | refine on_E hF rfl rfl ?_ | refine od_E rfl rfl ?_ | refine od_R rfl rfl ?_); (first | refine ⟨_, yl_lookupX (k := 3) (e := 4) hgt rfl rfl rfl (by kernel_rfl) Try.zeroValue4 (wf_of_i64 (by omega)) a_has, ?_⟩ | refine ⟨_, yl_lookupX (k := 3) (e := 3) hfb rfl rfl rfl (by kernel_rfl) Try.zeroValue3 (wf_of_i64 (by omega)) a_has, ?_⟩))
      
      | (refine on_alloc hF rfl Try.zeroValue73 rfl rfl (fun B => ?_))
      | (refine on_box hF rfl rfl rfl rfl (fun B => ?_))
      | (refine on_store hF rfl rfl rfl rfl a_turn a_vof (by first | rfl | exact hsz.symm | exact hsz) ?_)
      | (refine on_storeE hF rfl rfl rfl rfl a_turn (by (first | omega | (simp only [List.length_append, List.length_cons, List.length_nil, List.length_map] at *; omega))) a_vof (by first | rfl | exact hsz) ?_)
      | (refine on_storeEF hF rfl rfl rfl rfl a_turn (by first | with_reducible assumption | rfl) (by decide) a_vof rfl ?_)
      | (refine on_storeF hF rfl rfl rfl rfl a_turn (by decide) a_vof rfl ?_)) <;> try (refine hK2 _ _ _ a_allK ?_; clear hK2 K2))) <;> (refine hK _ _ _ ?_; clear hK K))
    | with_reducible refine nx_seq ?_
        | with_reducible refine nx_region ?_
        | with_reducible refine nl_nil ?_
        | with_reducible refine nq_then_n ?_
        | with_reducible refine nx_block ?_
        | with_reducible refine nx_skip ?_
        | with_reducible refine nx_exit ?_
        | with_reducible refine nx_ret ?_
        | with_reducible refine nq_then_x ?_
        | with_reducible refine nq_then_r ?_
        | with_reducible refine nq_blk_n ?_
        | with_reducible refine nq_blk_r ?_
        | with_reducible refine nq_blk_hit ?_
        | with_reducible refine nq_blk_miss rfl ?_
        | with_reducible refine nd_nil ?_
    | refine nx_cond_t rfl ?_ | refine nx_cond_f rfl ?_
    | refine nl_pass hF rfl rfl rfl ?_
    | refine nd_pass rfl rfl rfl rfl rfl ?_
    | refine nd_pass2 rfl rfl rfl (fun c => by exact (fun h => by cases h)) a_allK rfl rfl ?_
    | refine nd_pass3 rfl rfl rfl (fun c => by exact (fun h => by cases h)) rfl rfl ?_
    | (with_reducible refine hQ1 _ _ _ ?_; clear hQ1 Q1)
    )
          refine nx_again ⟨b + 1, by omega⟩ (by dsimp only; omega) (by exact a_sub) (by exact a_subR) (by exact a_holds)
      · repeat' (first
    | ((first | with_reducible refine nl_op rfl ?_ | refine nd_go rfl rfl rfl ?_); intro K hK; (first
      | ((first | refine on_E hF rfl rfl ?_ | refine od_E rfl rfl ?_ | refine od_R rfl rfl ?_); (first | refine ⟨_, a_yl, ?_⟩ | refine ⟨_, yl_conv_i (S := 5) (T := 3) rfl rfl (by kernel_rfl) (by kernel_rfl) (by omega), ?_⟩ | refine ⟨_, yl_fieldB (T := 73) (f := 0) (q := 0) rfl rfl (by kernel_rfl), ?_⟩ | refine ⟨_, yl_fieldE (T := 73) (f := 0) (j := 0) rfl rfl a_sl (by (first | omega | (simp only [List.length_append, List.length_cons, List.length_nil, List.length_map] at *; omega))) (by kernel_rfl), ?_⟩))
      | ((first | refine on_Ec hF rfl rfl ?_ | refine od_Ec rfl rfl ?_); refine ⟨_, _, _, a_yc, ?_, ?_⟩ <;> (intro hc; try (exfalso; first | (omega; done) | exact absurd (by with_reducible rfl) hc | (simp at hc; done))))
      | ((first | (refine od_act (fun c => by exact (fun h => by cases h)) ?_; intro K2 hK2) | refine od_last (fun c => by exact (fun h => by cases h)) ?_ | skip); (first
      
      
      | (refine on_alloc hF rfl Try.zeroValue73 rfl rfl (fun B => ?_))
      | (refine on_box hF rfl rfl rfl rfl (fun B => ?_))
      | (refine on_store hF rfl rfl rfl rfl a_turn a_vof (by first | rfl | exact hsz.symm | exact hsz) ?_)
      | (refine on_storeE hF rfl rfl rfl rfl a_turn (by (first | omega | (simp only [List.length_append, List.length_cons, List.length_nil, List.length_map] at *; omega))) a_vof (by first | rfl | exact hsz) ?_)
      | (refine on_storeEF hF rfl rfl rfl rfl a_turn (by first | with_reducible assumption | rfl) (by decide) a_vof rfl ?_)
      | (refine on_storeF hF rfl rfl rfl rfl a_turn (by decide) a_vof rfl ?_)) <;> try (refine hK2 _ _ _ a_allK ?_; clear hK2 K2))) <;> (refine hK _ _ _ ?_; clear hK K))
    | with_reducible refine nx_seq ?_
        | with_reducible refine nx_region ?_
        | with_reducible refine nl_nil ?_
        | with_reducible refine nq_then_n ?_
        | with_reducible refine nx_block ?_
        | with_reducible refine nx_skip ?_
        | with_reducible refine nx_exit ?_
        | with_reducible refine nx_ret ?_
        | with_reducible refine nq_then_x ?_
        | with_reducible refine nq_then_r ?_
        | with_reducible refine nq_blk_n ?_
        | with_reducible refine nq_blk_r ?_
        | with_reducible refine nq_blk_hit ?_
        | with_reducible refine nq_blk_miss rfl ?_
        | with_reducible refine nd_nil ?_
    | refine nx_cond_t rfl ?_ | refine nx_cond_f rfl ?_
    | refine nl_pass hF rfl rfl rfl ?_
    | refine nd_pass rfl rfl rfl rfl rfl ?_
    | refine nd_pass2 rfl rfl rfl (fun c => by exact (fun h => by cases h)) a_allK rfl rfl ?_
    | refine nd_pass3 rfl rfl rfl (fun c => by exact (fun h => by cases h)) rfl rfl ?_
    | (with_reducible refine hQ1 _ _ _ ?_; clear hQ1 Q1)
    )
        refine nx_end [] rfl () (fun a w ha hw => res_tmp Try.results9 rfl ha) (by exact a_subR) (by exact a_holds2)
end Law12
end Go.Proofs.Ytigbglagfbbmjaa
