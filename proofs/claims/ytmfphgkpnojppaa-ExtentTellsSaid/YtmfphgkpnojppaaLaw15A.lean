/- The contract of breviarylaw15.ExtentApart. Condition: a list of extents, and what two bytes hold. -/
import Derived.Test.YtmfphgkpnojppaaLaw15
namespace Go.Proofs.Ytmfphgkpnojppaa
open Go.RowKit Go.Shelf
set_option linter.unusedSimpArgs false
set_option linter.unusedVariables false
namespace Law15
open Ex
variable {W0 : World} {X : Nat → Prop} {R C : List Ch}
/-- What is known of a list that Free tells. -/
structure FreeK (L : List Ext) (fr to : Int) (G : List Ext) : Prop where
  ap : Ex.Apart L
  nf : Nf G (fr - 1)
  has : ∀ k, Ex.has G k ↔ fr ≤ k ∧ k < to ∧ ¬ Ex.has L k
theorem freeK (L : List Ext) (fr to : Int) (h : apB L = true) (h0 : 0 ≤ fr) (h1 : fr ≤ to) (h2 : to ≤ 1099511627776) : (freeP L fr to).2 = 0 ∧ FreeK L fr to (freeP L fr to).1 := by
  have hA := (apB_iff L).1 h
  have hr : Ris (risL L) 0 := (ris_iff (ris_perm L) (ris_sorted L)).2 hA
  unfold freeP
  rw [if_neg (by rw [h]; simp; omega)]
  obtain ⟨g1, g2⟩ := gaps_ok to (risL L) 0 fr hr (fun _ _ => .inr trivial) h0
  exact ⟨rfl, hA, g1, fun k => by rw [g2 k, has_perm (ris_perm L)]⟩
theorem FreeK.bnd {L G : List Ext} {fr to : Int} (h : FreeK L fr to G) : ∀ x ∈ G, fr ≤ x.a ∧ 1 ≤ x.n ∧ x.a + x.n ≤ to := fun x hx => by
  have h1 := run_in h.nf (fun k hk => ⟨((h.has k).1 hk).1, ((h.has k).1 hk).2.1⟩) x hx
  exact ⟨h1.1, nf_n1 G _ h.nf x hx, h1.2⟩
theorem FreeK.len {L G : List Ext} {fr to : Int} (h : FreeK L fr to G) (h0 : fr ≤ to) : (G.length : Int) ≤ to - fr :=
  ScI.len ⟨h.nf, h.has, fun x hx => (h.bnd x hx).2.2⟩ h0
theorem FreeK.apart {L G : List Ext} {fr to : Int} (h : FreeK L fr to G) (h0 : 0 ≤ fr) (h2 : to ≤ 1099511627776) : Ex.Apart G := nf_apart G _ h.nf (by omega) (fun x hx => by have := h.bnd x hx; omega)
theorem takeL_len : ∀ (xs : List Ext) (n : Int), (takeL xs n).length ≤ xs.length
  | [], _ => by simp [takeL]
  | x :: xs, n => by
    rw [takeL]
    split
    · simp
    · have := takeL_len xs (n - min x.n n); simp; omega
theorem cel_ext (L : List Ext) : Cel 2 (L.map Ext.v) := fun y hy => by
  obtain ⟨r, _, rfl⟩ := List.mem_map.1 hy
  refine ⟨rfl, fun u hu => ?_⟩
  have hu2 : u ∈ [Value.int .i64 r.a, Value.int .i64 r.n] := hu
  simp at hu2
  rcases hu2 with rfl | rfl <;> rfl
set_option maxRecDepth 100000 in
set_option maxHeartbeats 8000000 in
theorem law_ct (s : Value) (hs : IsSl s) (L : List Ext) (to n : Int) (hto : 0 ≤ to ∧ to ≤ 65535) (hn : 0 ≤ n ∧ n ≤ 65535) (hsl : SlC 2 s (L.map Ext.v) ∈ R) (hm : L.length ≤ 10000000000000) (hI : ∀ x ∈ L, I64 x.a ∧ I64 x.n) :
    Ct Try.prog 4 [s, .int .u16 to, .int .u16 n] W0 X R C Unit (fun _ => .bool true) (fun _ => R) (fun _ => C) := by
  intro w hw
  have hF := isWide_wide
  have hs0 := hs
  obtain ⟨sa, sn, sc, rfl⟩ := hs
  obtain rfl := slLen (hw.hasR hsl)
  have hlv : (L.map Ext.v).length = L.length := by simp
  by_cases h40 : 40 < L.length
  · refine calls_nx Try.func4 rfl Try.ntmps4 rfl ?_ hw
    repeat' (first
    | ((first | with_reducible refine nl_op rfl ?_ | refine nd_go rfl rfl rfl ?_); intro K hK; (first
      | ((first | refine on_E hF rfl rfl ?_ | refine od_E rfl rfl ?_ | refine od_R rfl rfl ?_); (first | refine ⟨_, a_yl, ?_⟩ | refine ⟨_, yl_conv_i (S := 42) (T := 3) rfl rfl (by kernel_rfl) (by kernel_rfl) (by omega), ?_⟩ | refine ⟨_, yl_fieldB (T := 39) (f := 0) (q := 0) rfl rfl (by kernel_rfl), ?_⟩ | refine ⟨_, yl_fieldE (T := 39) (f := 0) (j := 0) rfl rfl a_sl (by (first | omega | (simp only [List.length_append, List.length_cons, List.length_nil, List.length_map] at *; omega))) (by kernel_rfl), ?_⟩ | refine ⟨_, yl_fieldB (T := 39) (f := 1) (q := 1) rfl rfl (by kernel_rfl), ?_⟩ | refine ⟨_, yl_fieldE (T := 39) (f := 1) (j := 1) rfl rfl a_sl (by (first | omega | (simp only [List.length_append, List.length_cons, List.length_nil, List.length_map] at *; omega))) (by kernel_rfl), ?_⟩))
      | ((first | refine on_Ec hF rfl rfl ?_ | refine od_Ec rfl rfl ?_); refine ⟨_, _, _, a_yc, ?_, ?_⟩ <;> (intro hc; try (exfalso; first | (omega; done) | exact absurd (by with_reducible rfl) hc | (simp at hc; done))))
      | ((first | (refine od_act (fun c => by exact (fun h => by cases h)) ?_; intro K2 hK2) | refine od_last (fun c => by exact (fun h => by cases h)) ?_ | skip); (first
      | (refine on_callG hF (enters_of Try.func6 (by kernel_rfl) rfl) rfl rfl rfl rfl first_ct (fun _ => ?_))
      | (refine on_buildSlice (T := 22) (e := 39) (k := 2) (by_ := 16) hF rfl rfl rfl rfl rfl rfl (by kernel_rfl) a_cel (Nat.le_of_ble_eq_true rfl) (fun b => ?_))
      | (refine on_append (T := 22) (e := 39) (k := 2) (by_ := 16) hF rfl rfl rfl rfl rfl a_pick (by kernel_rfl) a_sl a_cel (by first | omega | (unfold maxLen; simp only [List.length_map, List.length_append, List.length_cons, List.length_nil, List.length_replicate]; omega) | (simp only [List.length_map, List.length_append, List.length_cons, List.length_nil, List.length_replicate]; omega)) (by first | omega | (unfold maxLen; simp only [List.length_map, List.length_append, List.length_cons, List.length_nil, List.length_replicate]; omega) | (simp only [List.length_map, List.length_append, List.length_cons, List.length_nil, List.length_replicate]; omega)) (fun v => ?_))
      | (refine on_alloc hF rfl Try.zeroValue39 rfl rfl (fun B => ?_))
      | (refine on_box hF rfl rfl rfl rfl (fun B => ?_))
      | (refine on_store hF rfl rfl rfl rfl a_turn a_vof (by first | rfl | exact hsz.symm | exact hsz) ?_)
      | (refine on_storeE hF rfl rfl rfl rfl a_turn (by (first | omega | (simp only [List.length_append, List.length_cons, List.length_nil, List.length_map] at *; omega))) a_vof (by first | rfl | exact hsz) ?_)
      | (refine on_storeEF hF rfl rfl rfl rfl a_turn (by first | with_reducible assumption | rfl) (by decide) a_vof rfl ?_)
      | (refine on_storeF hF rfl rfl rfl rfl a_turn (by decide) a_vof rfl ?_)) <;> try (refine hK2 _ _ _ a_allK ?_; clear hK2 K2))) <;> (refine hK _ _ _ ?_; clear hK K))
    | with_reducible refine nx_seq ?_
        | with_reducible refine nx_region ?_
        | with_reducible refine nl_nil ?_
        | with_reducible refine nq_then_n ?_
        | with_reducible refine nx_block ?_
        | with_reducible refine nx_skip ?_
        | with_reducible refine nx_exit ?_
        | with_reducible refine nx_ret ?_
        | with_reducible refine nq_then_x ?_
        | with_reducible refine nq_then_r ?_
        | with_reducible refine nq_blk_n ?_
        | with_reducible refine nq_blk_r ?_
        | with_reducible refine nq_blk_hit ?_
        | with_reducible refine nq_blk_miss rfl ?_
        | with_reducible refine nd_nil ?_
    | refine nx_cond_t rfl ?_ | refine nx_cond_f rfl ?_
    | refine nl_pass hF rfl rfl rfl ?_
    | refine nd_pass rfl rfl rfl rfl rfl ?_
    | refine nd_pass2 rfl rfl rfl (fun c => by exact (fun h => by cases h)) a_allK rfl rfl ?_
    | refine nd_pass3 rfl rfl rfl (fun c => by exact (fun h => by cases h)) rfl rfl ?_
    | (with_reducible refine hQ1 _ _ _ ?_; clear hQ1 Q1)
    )
    refine nx_end [] rfl () (fun a w ha hw => res_tmp Try.results4 rfl ha) (by exact a_subR) (by exact a_holds2)
  have hm2 : L.length ≤ 40 := by omega
  have fc := fun (W0 : World) (X : Nat → Prop) (R C : List Ch) h => free_ct (W0 := W0) (X := X) (R := R) (C := C) _ hs0 L 3 (3 + to) h (by omega) hI
  have ac := fun (W0 : World) (X : Nat → Prop) (R C : List Ch) h => apart_ct (W0 := W0) (X := X) (R := R) (C := C) _ hs0 L h (by omega) hI
  cases hap : apB L with
  | false =>
    rw [hap] at ac
    rw [show freeP L 3 (3 + to) = ([], 2) by unfold freeP; rw [if_pos (.inl hap)]] at fc
    simp only [show ¬ (2 : Int) = 0 by omega, if_false, List.map_nil] at fc
    refine calls_nx Try.func4 rfl Try.ntmps4 rfl ?_ hw
    repeat' (first
    | ((first | with_reducible refine nl_op rfl ?_ | refine nd_go rfl rfl rfl ?_); intro K hK; (first
      | ((first | refine on_E hF rfl rfl ?_ | refine od_E rfl rfl ?_ | refine od_R rfl rfl ?_); (first | refine ⟨_, a_yl, ?_⟩ | refine ⟨_, yl_conv_i (S := 42) (T := 3) rfl rfl (by kernel_rfl) (by kernel_rfl) (by omega), ?_⟩ | refine ⟨_, yl_fieldB (T := 39) (f := 0) (q := 0) rfl rfl (by kernel_rfl), ?_⟩ | refine ⟨_, yl_fieldE (T := 39) (f := 0) (j := 0) rfl rfl a_sl (by (first | omega | (simp only [List.length_append, List.length_cons, List.length_nil, List.length_map] at *; omega))) (by kernel_rfl), ?_⟩ | refine ⟨_, yl_fieldB (T := 39) (f := 1) (q := 1) rfl rfl (by kernel_rfl), ?_⟩ | refine ⟨_, yl_fieldE (T := 39) (f := 1) (j := 1) rfl rfl a_sl (by (first | omega | (simp only [List.length_append, List.length_cons, List.length_nil, List.length_map] at *; omega))) (by kernel_rfl), ?_⟩))
      | ((first | refine on_Ec hF rfl rfl ?_ | refine od_Ec rfl rfl ?_); refine ⟨_, _, _, a_yc, ?_, ?_⟩ <;> (intro hc; try (exfalso; first | (omega; done) | exact absurd (by with_reducible rfl) hc | (simp at hc; done))))
      | ((first | (refine od_act (fun c => by exact (fun h => by cases h)) ?_; intro K2 hK2) | refine od_last (fun c => by exact (fun h => by cases h)) ?_ | skip); (first
      | (refine on_callG hF (enters_of Try.func6 (by kernel_rfl) rfl) rfl rfl rfl rfl first_ct (fun _ => ?_))
      | (refine on_callG hF (enters_of Try.func14 (by kernel_rfl) rfl) rfl rfl rfl rfl (fc _ _ _ _ (by exact a_mem)) (fun v => ?_))
      | (refine on_callG hF (enters_of Try.func9 (by kernel_rfl) rfl) rfl rfl rfl rfl (ac _ _ _ _ (by exact a_mem)) (fun _ => ?_))
      | (refine on_buildSlice (T := 22) (e := 39) (k := 2) (by_ := 16) hF rfl rfl rfl rfl rfl rfl (by kernel_rfl) a_cel (Nat.le_of_ble_eq_true rfl) (fun b => ?_))
      | (refine on_append (T := 22) (e := 39) (k := 2) (by_ := 16) hF rfl rfl rfl rfl rfl a_pick (by kernel_rfl) a_sl a_cel (by first | omega | (unfold maxLen; simp only [List.length_map, List.length_append, List.length_cons, List.length_nil, List.length_replicate]; omega) | (simp only [List.length_map, List.length_append, List.length_cons, List.length_nil, List.length_replicate]; omega)) (by first | omega | (unfold maxLen; simp only [List.length_map, List.length_append, List.length_cons, List.length_nil, List.length_replicate]; omega) | (simp only [List.length_map, List.length_append, List.length_cons, List.length_nil, List.length_replicate]; omega)) (fun v => ?_))
      | (refine on_alloc hF rfl Try.zeroValue39 rfl rfl (fun B => ?_))
      | (refine on_box hF rfl rfl rfl rfl (fun B => ?_))
      | (refine on_store hF rfl rfl rfl rfl a_turn a_vof (by first | rfl | exact hsz.symm | exact hsz) ?_)
      | (refine on_storeE hF rfl rfl rfl rfl a_turn (by (first | omega | (simp only [List.length_append, List.length_cons, List.length_nil, List.length_map] at *; omega))) a_vof (by first | rfl | exact hsz) ?_)
      | (refine on_storeEF hF rfl rfl rfl rfl a_turn (by first | with_reducible assumption | rfl) (by decide) a_vof rfl ?_)
      | (refine on_storeF hF rfl rfl rfl rfl a_turn (by decide) a_vof rfl ?_)) <;> try (refine hK2 _ _ _ a_allK ?_; clear hK2 K2))) <;> (refine hK _ _ _ ?_; clear hK K))
    | with_reducible refine nx_seq ?_
        | with_reducible refine nx_region ?_
        | with_reducible refine nl_nil ?_
        | with_reducible refine nq_then_n ?_
        | with_reducible refine nx_block ?_
        | with_reducible refine nx_skip ?_
        | with_reducible refine nx_exit ?_
        | with_reducible refine nx_ret ?_
        | with_reducible refine nq_then_x ?_
        | with_reducible refine nq_then_r ?_
        | with_reducible refine nq_blk_n ?_
        | with_reducible refine nq_blk_r ?_
        | with_reducible refine nq_blk_hit ?_
        | with_reducible refine nq_blk_miss rfl ?_
        | with_reducible refine nd_nil ?_
    | refine nx_cond_t rfl ?_ | refine nx_cond_f rfl ?_
    | refine nl_pass hF rfl rfl rfl ?_
    | refine nd_pass rfl rfl rfl rfl rfl ?_
    | refine nd_pass2 rfl rfl rfl (fun c => by exact (fun h => by cases h)) a_allK rfl rfl ?_
    | refine nd_pass3 rfl rfl rfl (fun c => by exact (fun h => by cases h)) rfl rfl ?_
    | (with_reducible refine hQ1 _ _ _ ?_; clear hQ1 Q1)
    )
    all_goals (first
      | (exfalso; dsimp only at *; omega)
      | refine nx_end [] rfl () (fun a w ha hw => res_tmp Try.results4 rfl ha) (by exact a_subR) (by exact a_holds2))
  | true =>
    obtain ⟨hf0, hK⟩ := freeK L 3 (3 + to) hap (by omega) (by omega) (by omega)
    have hA := hK.ap
    obtain ⟨G, hG⟩ : ∃ G, (freeP L 3 (3 + to)).1 = G := ⟨_, rfl⟩
    rw [hG] at hK
    rw [show freeP L 3 (3 + to) = (G, 0) by rw [← hG, ← hf0]] at fc
    simp only [if_true] at fc
    have hGl := hK.len (by omega)
    have hGA := hK.apart (by omega) (by omega)
    have hGb := hK.bnd
    have hGI : ∀ x ∈ G, I64 x.a ∧ I64 x.n := fun x hx => by have := hGb x hx; unfold I64; omega
    have hG1 : ∀ x ∈ G, 1 ≤ x.n := fun x hx => (hGb x hx).2.1
    have hGm : G.length ≤ 65535 := by omega
    have kc := fun (W0 : World) (X : Nat → Prop) (R C : List Ch) (s : Value) hs h => take_ct (W0 := W0) (X := X) (R := R) (C := C) s hs G n (by unfold I64; omega) h (by omega) hGI
    have tc := fun (W0 : World) (X : Nat → Prop) (R C : List Ch) (s : Value) hs h => total_ct (W0 := W0) (X := X) (R := R) (C := C) s hs G h (by omega) hGI
    have hapG : apB G = true := (apB_iff G).2 hGA
    rw [show totB G = tot G by unfold totB; rw [if_pos hapG]] at tc
    have hkp : takeP G n = if tot G < n then ([], 31) else (takeL G n, 0) := by unfold takeP; rw [if_neg (by rw [hapG]; simp; omega)]
    by_cases htn : tot G < n
    · rw [if_pos htn] at hkp
      rw [hkp] at kc
      simp only [List.map_nil] at kc
      obtain ⟨tg, htg⟩ : ∃ tg, tot G = tg := ⟨_, rfl⟩
      rw [htg] at tc htn
      clear hkp htg
      refine calls_nx Try.func4 rfl Try.ntmps4 rfl ?_ hw
      repeat' (first
    | ((first | with_reducible refine nl_op rfl ?_ | refine nd_go rfl rfl rfl ?_); intro K hK; (first
      | ((first | refine on_E hF rfl rfl ?_ | refine od_E rfl rfl ?_ | refine od_R rfl rfl ?_); (first | refine ⟨_, a_yl, ?_⟩ | refine ⟨_, yl_conv_i (S := 42) (T := 3) rfl rfl (by kernel_rfl) (by kernel_rfl) (by omega), ?_⟩ | refine ⟨_, yl_fieldB (T := 39) (f := 0) (q := 0) rfl rfl (by kernel_rfl), ?_⟩ | refine ⟨_, yl_fieldE (T := 39) (f := 0) (j := 0) rfl rfl a_sl (by (first | omega | (simp only [List.length_append, List.length_cons, List.length_nil, List.length_map] at *; omega))) (by kernel_rfl), ?_⟩ | refine ⟨_, yl_fieldB (T := 39) (f := 1) (q := 1) rfl rfl (by kernel_rfl), ?_⟩ | refine ⟨_, yl_fieldE (T := 39) (f := 1) (j := 1) rfl rfl a_sl (by (first | omega | (simp only [List.length_append, List.length_cons, List.length_nil, List.length_map] at *; omega))) (by kernel_rfl), ?_⟩))
      | ((first | refine on_Ec hF rfl rfl ?_ | refine od_Ec rfl rfl ?_); refine ⟨_, _, _, a_yc, ?_, ?_⟩ <;> (intro hc; try (exfalso; first | (omega; done) | exact absurd (by with_reducible rfl) hc | (simp at hc; done))))
      | ((first | (refine od_act (fun c => by exact (fun h => by cases h)) ?_; intro K2 hK2) | refine od_last (fun c => by exact (fun h => by cases h)) ?_ | skip); (first
      | (refine on_callG hF (enters_of Try.func6 (by kernel_rfl) rfl) rfl rfl rfl rfl first_ct (fun _ => ?_))
      | (refine on_callG hF (enters_of Try.func14 (by kernel_rfl) rfl) rfl rfl rfl rfl (fc _ _ _ _ (by exact a_mem)) (fun v => ?_); obtain ⟨⟨v, va, vn, vc, rfl⟩, vb⟩ := v; dsimp only; refine nx_frzRow Pick.here ?_)
      | (refine on_callG hF (enters_of Try.func7 (by kernel_rfl) rfl) rfl rfl rfl rfl (kc _ _ _ _ _ ⟨_, _, _, rfl⟩ (by exact a_mem)) (fun u => ?_))
      | (refine on_callG hF (enters_of Try.func11 (by kernel_rfl) rfl) rfl rfl rfl rfl (tc _ _ _ _ _ ⟨_, _, _, rfl⟩ (by exact a_mem)) (fun u => ?_))
      | (refine on_buildSlice (T := 22) (e := 39) (k := 2) (by_ := 16) hF rfl rfl rfl rfl rfl rfl (by kernel_rfl) a_cel (Nat.le_of_ble_eq_true rfl) (fun b => ?_))
      | (refine on_append (T := 22) (e := 39) (k := 2) (by_ := 16) hF rfl rfl rfl rfl rfl a_pick (by kernel_rfl) a_sl a_cel (by first | omega | (unfold maxLen; simp only [List.length_map, List.length_append, List.length_cons, List.length_nil, List.length_replicate]; omega) | (simp only [List.length_map, List.length_append, List.length_cons, List.length_nil, List.length_replicate]; omega)) (by first | omega | (unfold maxLen; simp only [List.length_map, List.length_append, List.length_cons, List.length_nil, List.length_replicate]; omega) | (simp only [List.length_map, List.length_append, List.length_cons, List.length_nil, List.length_replicate]; omega)) (fun v => ?_))
      | (refine on_alloc hF rfl Try.zeroValue39 rfl rfl (fun B => ?_))
      | (refine on_box hF rfl rfl rfl rfl (fun B => ?_))
      | (refine on_store hF rfl rfl rfl rfl a_turn a_vof (by first | rfl | exact hsz.symm | exact hsz) ?_)
      | (refine on_storeE hF rfl rfl rfl rfl a_turn (by (first | omega | (simp only [List.length_append, List.length_cons, List.length_nil, List.length_map] at *; omega))) a_vof (by first | rfl | exact hsz) ?_)
      | (refine on_storeEF hF rfl rfl rfl rfl a_turn (by first | with_reducible assumption | rfl) (by decide) a_vof rfl ?_)
      | (refine on_storeF hF rfl rfl rfl rfl a_turn (by decide) a_vof rfl ?_)) <;> try (refine hK2 _ _ _ a_allK ?_; clear hK2 K2))) <;> (refine hK _ _ _ ?_; clear hK K))
    | with_reducible refine nx_seq ?_
        | with_reducible refine nx_region ?_
        | with_reducible refine nl_nil ?_
        | with_reducible refine nq_then_n ?_
        | with_reducible refine nx_block ?_
        | with_reducible refine nx_skip ?_
        | with_reducible refine nx_exit ?_
        | with_reducible refine nx_ret ?_
        | with_reducible refine nq_then_x ?_
        | with_reducible refine nq_then_r ?_
        | with_reducible refine nq_blk_n ?_
        | with_reducible refine nq_blk_r ?_
        | with_reducible refine nq_blk_hit ?_
        | with_reducible refine nq_blk_miss rfl ?_
        | with_reducible refine nd_nil ?_
    | refine nx_cond_t rfl ?_ | refine nx_cond_f rfl ?_
    | refine nl_pass hF rfl rfl rfl ?_
    | refine nd_pass rfl rfl rfl rfl rfl ?_
    | refine nd_pass2 rfl rfl rfl (fun c => by exact (fun h => by cases h)) a_allK rfl rfl ?_
    | refine nd_pass3 rfl rfl rfl (fun c => by exact (fun h => by cases h)) rfl rfl ?_
    | (with_reducible refine hQ1 _ _ _ ?_; clear hQ1 Q1)
    )
      all_goals (first
        | (exfalso; dsimp only at *; omega)
        | refine nx_end [] rfl () (fun a w ha hw => res_tmp Try.results4 rfl ha) (by exact a_subR) (by exact a_holds2))
    · rw [if_neg htn] at hkp
      rw [hkp] at kc
      dsimp only at kc
      have hTin := take_in G n hG1 hn.1
      have hTt := tot_take G n hG1 hn.1
      have hLT := apart_taken hA hK.nf (by omega) (by omega) hK.has hn.1
      have hTl := takeL_len G n
      obtain ⟨T, hT⟩ : ∃ T, takeL G n = T := ⟨_, rfl⟩
      rw [hT] at kc hTin hTt hLT hTl
      have hTb : ∀ x ∈ T, 3 ≤ x.a ∧ 1 ≤ x.n ∧ x.a + x.n ≤ 3 + to := fun x hx => by
        obtain ⟨z, hz, q1, q2, q3⟩ := hTin x hx
        have := hGb z hz; omega
      have hTI : ∀ x ∈ T, I64 x.a ∧ I64 x.n := fun x hx => by have := hTb x hx; unfold I64; omega
      have hTm : T.length ≤ 65535 := by omega
      have hTA : Ex.Apart T := ⟨fun x hx => hLT.ok x (by simp [hx]), (List.pairwise_append.1 hLT.off).2.1⟩
      have hapT : apB T = true := (apB_iff T).2 hTA
      have hapLT : apB (L ++ T) = true := (apB_iff _).2 hLT
      have tt := fun (W0 : World) (X : Nat → Prop) (R C : List Ch) (s : Value) hs h => total_ct (W0 := W0) (X := X) (R := R) (C := C) s hs T h (by omega) hTI
      rw [show totB T = n by unfold totB; rw [if_pos hapT, hTt]; omega] at tt
      have al := fun (W0 : World) (X : Nat → Prop) (R C : List Ch) (s : Value) hs h => apart_ct (W0 := W0) (X := X) (R := R) (C := C) s hs (L ++ T) h (by simp; omega) (fun x hx => (List.mem_append.1 hx).elim (hI x) (hTI x))
      rw [hapLT, List.map_append] at al
      have hcL := cel_ext L
      have hcT := cel_ext T
      clear hkp hT hTin hTt hLT hTl hTA hapT hapLT hapG hGA hGb hGI hG1 hG hf0 hA tc htn
      refine calls_nx Try.func4 rfl Try.ntmps4 rfl ?_ hw
      repeat' (first
    | ((first | with_reducible refine nl_op rfl ?_ | refine nd_go rfl rfl rfl ?_); intro K hK; (first
      | ((first | refine on_E hF rfl rfl ?_ | refine od_E rfl rfl ?_ | refine od_R rfl rfl ?_); (first | refine ⟨_, a_yl, ?_⟩ | refine ⟨_, yl_conv_i (S := 42) (T := 3) rfl rfl (by kernel_rfl) (by kernel_rfl) (by omega), ?_⟩ | refine ⟨_, yl_fieldB (T := 39) (f := 0) (q := 0) rfl rfl (by kernel_rfl), ?_⟩ | refine ⟨_, yl_fieldE (T := 39) (f := 0) (j := 0) rfl rfl a_sl (by (first | omega | (simp only [List.length_append, List.length_cons, List.length_nil, List.length_map] at *; omega))) (by kernel_rfl), ?_⟩ | refine ⟨_, yl_fieldB (T := 39) (f := 1) (q := 1) rfl rfl (by kernel_rfl), ?_⟩ | refine ⟨_, yl_fieldE (T := 39) (f := 1) (j := 1) rfl rfl a_sl (by (first | omega | (simp only [List.length_append, List.length_cons, List.length_nil, List.length_map] at *; omega))) (by kernel_rfl), ?_⟩))
      | ((first | refine on_Ec hF rfl rfl ?_ | refine od_Ec rfl rfl ?_); refine ⟨_, _, _, a_yc, ?_, ?_⟩ <;> (intro hc; try (exfalso; first | (omega; done) | exact absurd (by with_reducible rfl) hc | (simp at hc; done))))
      | ((first | (refine od_act (fun c => by exact (fun h => by cases h)) ?_; intro K2 hK2) | refine od_last (fun c => by exact (fun h => by cases h)) ?_ | skip); (first
      | (refine on_callG hF (enters_of Try.func6 (by kernel_rfl) rfl) rfl rfl rfl rfl first_ct (fun _ => ?_))
      | (refine on_callG hF (enters_of Try.func14 (by kernel_rfl) rfl) rfl rfl rfl rfl (fc _ _ _ _ (by exact a_mem)) (fun v => ?_); obtain ⟨⟨v, va, vn, vc, rfl⟩, vb⟩ := v; dsimp only; refine nx_frzRow Pick.here ?_)
      | (refine on_callG hF (enters_of Try.func7 (by kernel_rfl) rfl) rfl rfl rfl rfl (kc _ _ _ _ _ ⟨_, _, _, rfl⟩ (by exact a_mem)) (fun u => ?_); obtain ⟨u, ua, un, uc, rfl⟩ := u; dsimp only; refine nx_len (e := 39) (k := 2) (xs := T.map Ext.v) (by exact a_mem) (fun hlen => ?_); rw [List.length_map] at hlen; subst hlen; refine nx_frzRow Pick.here ?_)
      | (refine on_buildSlice (T := 22) (e := 39) (k := 2) (by_ := 16) hF rfl rfl rfl rfl rfl rfl (by kernel_rfl) a_cel (Nat.le_of_ble_eq_true rfl) (fun b => ?_))
      | (refine on_append (T := 22) (e := 39) (k := 2) (by_ := 16) hF rfl rfl rfl rfl rfl a_pick (by kernel_rfl) a_sl a_cel (by first | omega | (unfold maxLen; simp only [List.length_map, List.length_append, List.length_cons, List.length_nil, List.length_replicate]; omega) | (simp only [List.length_map, List.length_append, List.length_cons, List.length_nil, List.length_replicate]; omega)) (by first | omega | (unfold maxLen; simp only [List.length_map, List.length_append, List.length_cons, List.length_nil, List.length_replicate]; omega) | (simp only [List.length_map, List.length_append, List.length_cons, List.length_nil, List.length_replicate]; omega)) (fun v => ?_))
      | (refine on_alloc hF rfl Try.zeroValue39 rfl rfl (fun B => ?_))
      | (refine on_box hF rfl rfl rfl rfl (fun B => ?_))
      | (refine on_store hF rfl rfl rfl rfl a_turn a_vof (by first | rfl | exact hsz.symm | exact hsz) ?_)
      | (refine on_storeE hF rfl rfl rfl rfl a_turn (by (first | omega | (simp only [List.length_append, List.length_cons, List.length_nil, List.length_map] at *; omega))) a_vof (by first | rfl | exact hsz) ?_)
      | (refine on_storeEF hF rfl rfl rfl rfl a_turn (by first | with_reducible assumption | rfl) (by decide) a_vof rfl ?_)
      | (refine on_storeF hF rfl rfl rfl rfl a_turn (by decide) a_vof rfl ?_)) <;> try (refine hK2 _ _ _ a_allK ?_; clear hK2 K2))) <;> (refine hK _ _ _ ?_; clear hK K))
    | with_reducible refine nx_seq ?_
        | with_reducible refine nx_region ?_
        | with_reducible refine nl_nil ?_
        | with_reducible refine nq_then_n ?_
        | with_reducible refine nx_block ?_
        | with_reducible refine nx_skip ?_
        | with_reducible refine nx_exit ?_
        | with_reducible refine nx_ret ?_
        | with_reducible refine nq_then_x ?_
        | with_reducible refine nq_then_r ?_
        | with_reducible refine nq_blk_n ?_
        | with_reducible refine nq_blk_r ?_
        | with_reducible refine nq_blk_hit ?_
        | with_reducible refine nq_blk_miss rfl ?_
        | with_reducible refine nd_nil ?_
    | refine nx_cond_t rfl ?_ | refine nx_cond_f rfl ?_
    | refine nl_pass hF rfl rfl rfl ?_
    | refine nd_pass rfl rfl rfl rfl rfl ?_
    | refine nd_pass2 rfl rfl rfl (fun c => by exact (fun h => by cases h)) a_allK rfl rfl ?_
    | refine nd_pass3 rfl rfl rfl (fun c => by exact (fun h => by cases h)) rfl rfl ?_
    | (with_reducible refine hQ1 _ _ _ ?_; clear hQ1 Q1)
    )
      have hTv : (T.map Ext.v).length = T.length := by simp
      have hb1 : ([] : List Value).length + (L.map Ext.v).length ≤ maxLen := by unfold maxLen; simp; omega
      have hb2 : (([] : List Value).length + (L.map Ext.v).length) * 16 ≤ 140737488355328 := by simp; omega
      have hb3 : (L.map Ext.v).length + (T.map Ext.v).length ≤ maxLen := by unfold maxLen; simp; omega
      have hb4 : ((L.map Ext.v).length + (T.map Ext.v).length) * 16 ≤ 140737488355328 := by simp; omega
      refine nx_loop (ι := { i : Nat // i ≤ T.length }) (fun i => [(0, .slice sa (L.map Ext.v).length sc), (1, .int .u16 to), (2, .int .u16 n), (9, .slice ua T.length uc), (48, .slice ua T.length uc), (49, .int .i64 (T.length : Int)), (50, .int .i64 (i.1 : Int))]) (fun _ => SlC 2 (.slice ua T.length uc) (T.map Ext.v) :: R) (fun _ => C) (fun i => T.length - i.1) ⟨0, Nat.zero_le _⟩ (by exact a_sub) (by exact a_subR) (by exact a_holds) (fun i => ?_)
      obtain ⟨i, hi⟩ := i
      dsimp only
      by_cases hlt : i < T.length
      · obtain ⟨x, hx⟩ : ∃ x, T[i]? = some x := ⟨_, List.getElem?_eq_getElem hlt⟩
        have hxm : x ∈ T := List.mem_of_getElem? hx
        have hxv : (T.map Ext.v)[i]? = some x.v := by rw [List.getElem?_map, hx]; rfl
        have hvx := vof_ext x
        obtain ⟨h1, h2, h3⟩ := hTb x hxm
        clear hb1 hb2 hb3 hb4
        repeat' (first
    | ((first | with_reducible refine nl_op rfl ?_ | refine nd_go rfl rfl rfl ?_); intro K hK; (first
      | ((first | refine on_E hF rfl rfl ?_ | refine od_E rfl rfl ?_ | refine od_R rfl rfl ?_); (first | refine ⟨_, a_yl, ?_⟩ | refine ⟨_, yl_conv_i (S := 42) (T := 3) rfl rfl (by kernel_rfl) (by kernel_rfl) (by omega), ?_⟩ | refine ⟨_, yl_fieldB (T := 39) (f := 0) (q := 0) rfl rfl (by kernel_rfl), ?_⟩ | refine ⟨_, yl_fieldE (T := 39) (f := 0) (j := 0) rfl rfl a_sl (by (first | omega | (simp only [List.length_append, List.length_cons, List.length_nil, List.length_map] at *; omega))) (by kernel_rfl), ?_⟩ | refine ⟨_, yl_fieldB (T := 39) (f := 1) (q := 1) rfl rfl (by kernel_rfl), ?_⟩ | refine ⟨_, yl_fieldE (T := 39) (f := 1) (j := 1) rfl rfl a_sl (by (first | omega | (simp only [List.length_append, List.length_cons, List.length_nil, List.length_map] at *; omega))) (by kernel_rfl), ?_⟩))
      | ((first | refine on_Ec hF rfl rfl ?_ | refine od_Ec rfl rfl ?_); refine ⟨_, _, _, a_yc, ?_, ?_⟩ <;> (intro hc; try (exfalso; first | (omega; done) | exact absurd (by with_reducible rfl) hc | (simp at hc; done))))
      | ((first | (refine od_act (fun c => by exact (fun h => by cases h)) ?_; intro K2 hK2) | refine od_last (fun c => by exact (fun h => by cases h)) ?_ | skip); (first
      
      | (refine on_buildSlice (T := 22) (e := 39) (k := 2) (by_ := 16) hF rfl rfl rfl rfl rfl rfl (by kernel_rfl) a_cel (Nat.le_of_ble_eq_true rfl) (fun b => ?_))
      | (refine on_append (T := 22) (e := 39) (k := 2) (by_ := 16) hF rfl rfl rfl rfl rfl a_pick (by kernel_rfl) a_sl a_cel (by first | omega | (unfold maxLen; simp only [List.length_map, List.length_append, List.length_cons, List.length_nil, List.length_replicate]; omega) | (simp only [List.length_map, List.length_append, List.length_cons, List.length_nil, List.length_replicate]; omega)) (by first | omega | (unfold maxLen; simp only [List.length_map, List.length_append, List.length_cons, List.length_nil, List.length_replicate]; omega) | (simp only [List.length_map, List.length_append, List.length_cons, List.length_nil, List.length_replicate]; omega)) (fun v => ?_))
      | (refine on_alloc hF rfl Try.zeroValue39 rfl rfl (fun B => ?_))
      | (refine on_box hF rfl rfl rfl rfl (fun B => ?_))
      | (refine on_store hF rfl rfl rfl rfl a_turn a_vof (by first | rfl | exact hsz.symm | exact hsz) ?_)
      | (refine on_storeE hF rfl rfl rfl rfl a_turn (by (first | omega | (simp only [List.length_append, List.length_cons, List.length_nil, List.length_map] at *; omega))) a_vof (by first | rfl | exact hsz) ?_)
      | (refine on_storeEF hF rfl rfl rfl rfl a_turn (by first | with_reducible assumption | rfl) (by decide) a_vof rfl ?_)
      | (refine on_storeF hF rfl rfl rfl rfl a_turn (by decide) a_vof rfl ?_)) <;> try (refine hK2 _ _ _ a_allK ?_; clear hK2 K2))) <;> (refine hK _ _ _ ?_; clear hK K))
    | with_reducible refine nx_seq ?_
        | with_reducible refine nx_region ?_
        | with_reducible refine nl_nil ?_
        | with_reducible refine nq_then_n ?_
        | with_reducible refine nx_block ?_
        | with_reducible refine nx_skip ?_
        | with_reducible refine nx_exit ?_
        | with_reducible refine nx_ret ?_
        | with_reducible refine nq_then_x ?_
        | with_reducible refine nq_then_r ?_
        | with_reducible refine nq_blk_n ?_
        | with_reducible refine nq_blk_r ?_
        | with_reducible refine nq_blk_hit ?_
        | with_reducible refine nq_blk_miss rfl ?_
        | with_reducible refine nd_nil ?_
    | refine nx_cond_t rfl ?_ | refine nx_cond_f rfl ?_
    | refine nl_pass hF rfl rfl rfl ?_
    | refine nd_pass rfl rfl rfl rfl rfl ?_
    | refine nd_pass2 rfl rfl rfl (fun c => by exact (fun h => by cases h)) a_allK rfl rfl ?_
    | refine nd_pass3 rfl rfl rfl (fun c => by exact (fun h => by cases h)) rfl rfl ?_
    | (with_reducible refine hQ1 _ _ _ ?_; clear hQ1 Q1)
    )
        all_goals (first
          | (exfalso; dsimp only at *; omega)
          | refine nx_again ⟨i + 1, by omega⟩ (by dsimp only; omega) (by exact a_sub) (by exact a_subR) (by exact a_holds))
      · repeat' (first
    | ((first | with_reducible refine nl_op rfl ?_ | refine nd_go rfl rfl rfl ?_); intro K hK; (first
      | ((first | refine on_E hF rfl rfl ?_ | refine od_E rfl rfl ?_ | refine od_R rfl rfl ?_); (first | refine ⟨_, a_yl, ?_⟩ | refine ⟨_, yl_conv_i (S := 42) (T := 3) rfl rfl (by kernel_rfl) (by kernel_rfl) (by omega), ?_⟩ | refine ⟨_, yl_fieldB (T := 39) (f := 0) (q := 0) rfl rfl (by kernel_rfl), ?_⟩ | refine ⟨_, yl_fieldE (T := 39) (f := 0) (j := 0) rfl rfl a_sl (by (first | omega | (simp only [List.length_append, List.length_cons, List.length_nil, List.length_map] at *; omega))) (by kernel_rfl), ?_⟩ | refine ⟨_, yl_fieldB (T := 39) (f := 1) (q := 1) rfl rfl (by kernel_rfl), ?_⟩ | refine ⟨_, yl_fieldE (T := 39) (f := 1) (j := 1) rfl rfl a_sl (by (first | omega | (simp only [List.length_append, List.length_cons, List.length_nil, List.length_map] at *; omega))) (by kernel_rfl), ?_⟩))
      | ((first | refine on_Ec hF rfl rfl ?_ | refine od_Ec rfl rfl ?_); refine ⟨_, _, _, a_yc, ?_, ?_⟩ <;> (intro hc; try (exfalso; first | (omega; done) | exact absurd (by with_reducible rfl) hc | (simp at hc; done))))
      | ((first | (refine od_act (fun c => by exact (fun h => by cases h)) ?_; intro K2 hK2) | refine od_last (fun c => by exact (fun h => by cases h)) ?_ | skip); (first
      | (refine on_callG hF (enters_of Try.func11 (by kernel_rfl) rfl) rfl rfl rfl rfl (tt _ _ _ _ _ ⟨_, _, _, rfl⟩ (by exact a_mem)) (fun _ => ?_))
      | (refine on_append (e := 39) (k := 2) (by_ := 16) (xs := []) (ys := L.map Ext.v) hF rfl rfl rfl rfl rfl a_pick (by kernel_rfl) a_sl hcL hb1 hb2 (fun v1 => ?_); rw [List.nil_append])
      | (refine on_append (e := 39) (k := 2) (by_ := 16) (xs := L.map Ext.v) (ys := T.map Ext.v) hF rfl rfl rfl rfl rfl a_pick (by kernel_rfl) a_sl hcT hb3 hb4 (fun v2 => ?_); refine nx_frzRow Pick.here ?_)
      | (refine on_callG hF (enters_of Try.func9 (by kernel_rfl) rfl) rfl rfl rfl rfl (al _ _ _ _ _ v2.2 (by exact a_mem)) (fun _ => ?_))
      | (refine on_buildSlice (T := 22) (e := 39) (k := 2) (by_ := 16) hF rfl rfl rfl rfl rfl rfl (by kernel_rfl) a_cel (Nat.le_of_ble_eq_true rfl) (fun b => ?_))
      | (refine on_append (T := 22) (e := 39) (k := 2) (by_ := 16) hF rfl rfl rfl rfl rfl a_pick (by kernel_rfl) a_sl a_cel (by first | omega | (unfold maxLen; simp only [List.length_map, List.length_append, List.length_cons, List.length_nil, List.length_replicate]; omega) | (simp only [List.length_map, List.length_append, List.length_cons, List.length_nil, List.length_replicate]; omega)) (by first | omega | (unfold maxLen; simp only [List.length_map, List.length_append, List.length_cons, List.length_nil, List.length_replicate]; omega) | (simp only [List.length_map, List.length_append, List.length_cons, List.length_nil, List.length_replicate]; omega)) (fun v => ?_))
      | (refine on_alloc hF rfl Try.zeroValue39 rfl rfl (fun B => ?_))
      | (refine on_box hF rfl rfl rfl rfl (fun B => ?_))
      | (refine on_store hF rfl rfl rfl rfl a_turn a_vof (by first | rfl | exact hsz.symm | exact hsz) ?_)
      | (refine on_storeE hF rfl rfl rfl rfl a_turn (by (first | omega | (simp only [List.length_append, List.length_cons, List.length_nil, List.length_map] at *; omega))) a_vof (by first | rfl | exact hsz) ?_)
      | (refine on_storeEF hF rfl rfl rfl rfl a_turn (by first | with_reducible assumption | rfl) (by decide) a_vof rfl ?_)
      | (refine on_storeF hF rfl rfl rfl rfl a_turn (by decide) a_vof rfl ?_)) <;> try (refine hK2 _ _ _ a_allK ?_; clear hK2 K2))) <;> (refine hK _ _ _ ?_; clear hK K))
    | with_reducible refine nx_seq ?_
        | with_reducible refine nx_region ?_
        | with_reducible refine nl_nil ?_
        | with_reducible refine nq_then_n ?_
        | with_reducible refine nx_block ?_
        | with_reducible refine nx_skip ?_
        | with_reducible refine nx_exit ?_
        | with_reducible refine nx_ret ?_
        | with_reducible refine nq_then_x ?_
        | with_reducible refine nq_then_r ?_
        | with_reducible refine nq_blk_n ?_
        | with_reducible refine nq_blk_r ?_
        | with_reducible refine nq_blk_hit ?_
        | with_reducible refine nq_blk_miss rfl ?_
        | with_reducible refine nd_nil ?_
    | refine nx_cond_t rfl ?_ | refine nx_cond_f rfl ?_
    | refine nl_pass hF rfl rfl rfl ?_
    | refine nd_pass rfl rfl rfl rfl rfl ?_
    | refine nd_pass2 rfl rfl rfl (fun c => by exact (fun h => by cases h)) a_allK rfl rfl ?_
    | refine nd_pass3 rfl rfl rfl (fun c => by exact (fun h => by cases h)) rfl rfl ?_
    | (with_reducible refine hQ1 _ _ _ ?_; clear hQ1 Q1)
    )
        all_goals (first
          | (exfalso; dsimp only at *; omega)
          | refine nx_end [] rfl () (fun a w ha hw => res_tmp Try.results4 rfl ha) (by exact a_subR) (by exact a_holds2))
end Law15
end Go.Proofs.Ytmfphgkpnojppaa
