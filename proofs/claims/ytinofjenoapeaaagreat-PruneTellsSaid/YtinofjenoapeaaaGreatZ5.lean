/- Plain laws of the known timelines: the next one. No condition. -/
import Derived.Test.YtinofjenoapeaaaGreatZ2
import Derived.Test.YtinofjenoapeaaaGreatZ3
import Derived.Test.YtinofjenoapeaaaGreatZ4
section
namespace Go.Proofs.YtinofjenoapeaaaGreat
open Go.RowKit Go.Shelf
set_option linter.unusedSimpArgs false
set_option linter.unusedVariables false
namespace Rf20
open Re
variable {W0 : World} {X : Nat → Prop} {R C : List Ch}
def hitB (t n : Int) (x : It2) : Bool := segB t x && nextB n x
theorem next_find (L : List It2) (t n : Int) : nextSeg L t n = L.find? (hitB t n) := by
  unfold nextSeg hitB; rw [List.find?_filter]; congr 1; funext a; simp
/-- Where the next segment lies. -/
def AtS (L : List It2) (t n r : Int) : Prop := (r = -1 ∧ nextSeg L t n = none) ∨ ∃ (i : Nat) (x : It2), r = (i : Int) ∧ L[i]? = some x ∧ nextSeg L t n = some x
theorem find_first {α : Type} {p : α → Bool} {L : List α} {i : Nat} {x : α} (hx : L[i]? = some x) (hno : ∀ y ∈ L.take i, p y = false) (h : p x = true) : L.find? p = some x := by
  obtain ⟨hi, hxe⟩ := List.getElem?_eq_some_iff.1 hx
  have h1 : L = L.take i ++ x :: L.drop (i + 1) := by rw [← hxe, ← List.drop_eq_getElem_cons hi, List.take_append_drop]
  have h2 : (L.take i).find? p = none := by
    rw [List.find?_eq_none]
    intro y hy
    simpa using hno y hy
  have h3 : (L.take i ++ x :: L.drop (i + 1)).find? p = some x := by rw [List.find?_append, h2]; simp [h]
  rwa [← h1] at h3
theorem take_no {α : Type} {p : α → Bool} {L : List α} {i : Nat} {x : α} (hx : L[i]? = some x) (hno : ∀ y ∈ L.take i, p y = false) (h : p x = false) : ∀ y ∈ L.take (i + 1), p y = false := fun y hy => by
  rw [List.take_add_one, hx] at hy
  rcases List.mem_append.1 hy with hy | hy
  · exact hno y hy
  · simp at hy; rw [hy]; exact h
set_option maxRecDepth 100000 in
set_option maxHeartbeats 2000000 in
theorem at_ct (s : Value) (hs : IsSl s) (L : List It2) (hok : ∀ x ∈ L, x.ok) (t n : Int) (hsl : SlC 9 s (L.map It2.v) ∈ R) (hm : L.length * 88 ≤ 140737488355328) :
    Ct Tryz.prog 84 [s, .int .i64 t, .int .i64 n] W0 X R C { r : Int // AtS L t n r } (fun r => .int .i64 r.1) (fun _ => R) (fun _ => C) := by
  intro w hw
  have hF := isWide_wide
  obtain ⟨sa, sn, sc, rfl⟩ := hs
  obtain rfl := slLen (hw.hasR hsl)
  have hlv : (L.map It2.v).length = L.length := by simp
  refine calls_nx Tryz.func84 rfl Tryz.ntmps84 rfl ?_ hw
  repeat' (first | ((first | with_reducible refine nl_op rfl ?_ | refine nd_go rfl rfl rfl ?_); intro K hK; (first | ((first | refine on_E hF rfl rfl ?_ | refine od_E rfl rfl ?_ | refine od_R rfl rfl ?_); (first | refine ⟨_, a_yl, ?_⟩ | refine ⟨_, (by first | exact yl_fieldB (T := 33) (f := 1) (q := 1) rfl rfl (by kernel_rfl) | exact yl_fieldE (T := 33) (f := 1) (j := 1) rfl rfl a_sl a_om (by kernel_rfl) | exact yl_fieldB (T := 33) (f := 2) (q := 2) rfl rfl (by kernel_rfl) | exact yl_fieldE (T := 33) (f := 2) (j := 2) rfl rfl a_sl a_om (by kernel_rfl) | exact yl_fieldB (T := 33) (f := 4) (q := 4) rfl rfl (by kernel_rfl) | exact yl_fieldE (T := 33) (f := 4) (j := 4) rfl rfl a_sl a_om (by kernel_rfl) | exact yl_fieldB (T := 33) (f := 5) (q := 5) rfl rfl (by kernel_rfl) | exact yl_fieldE (T := 33) (f := 5) (j := 5) rfl rfl a_sl a_om (by kernel_rfl)), ?_⟩)) | ((first | refine on_Ec hF rfl rfl ?_ | refine od_Ec rfl rfl ?_); refine ⟨_, _, _, a_yc, ?_, ?_⟩ <;> (intro hc; try exact a_cut hc)) | ((first | (refine od_act a_nd ?_; intro K2 hK2) | refine od_last a_nd ?_ | skip); (first | (refine on_alloc hF rfl Tryz.zeroValue33 rfl rfl (fun B => ?_)) | (refine on_box hF rfl rfl rfl rfl (fun B => ?_)) | (refine on_store hF rfl rfl rfl rfl a_turn a_vof a_sz ?_) | (refine on_storeE hF rfl rfl rfl rfl a_turn a_om a_vof a_sz ?_) | (refine on_storeEF hF rfl rfl rfl rfl a_turn a_as (by decide) a_vof rfl ?_) | (refine on_storeF hF rfl rfl rfl rfl a_turn (by decide) a_vof rfl ?_)) <;> try (refine hK2 _ _ _ a_allK ?_; clear hK2 K2))) <;> (refine hK _ _ _ ?_; clear hK K)) | with_reducible (first | refine nx_seq ?_ | refine nx_region ?_ | refine nl_nil ?_ | refine nq_then_n ?_ | refine nx_block ?_ | refine nx_skip ?_ | refine nx_exit ?_ | refine nx_ret ?_ | refine nq_then_x ?_ | refine nq_then_r ?_ | refine nq_blk_n ?_ | refine nq_blk_r ?_ | refine nq_blk_hit ?_ | refine nq_blk_miss rfl ?_ | refine nd_nil ?_) | refine nx_cond_t rfl ?_ | refine nx_cond_f rfl ?_ | refine nl_pass hF rfl rfl rfl ?_ | refine nd_pass rfl rfl rfl rfl rfl ?_ | refine nd_pass2 rfl rfl rfl a_nd a_allK rfl rfl ?_ | refine nd_pass3 rfl rfl rfl a_nd rfl rfl ?_ | (with_reducible refine hQ1 _ _ _ ?_; clear hQ1 Q1) )
  refine nx_loop (ι := { i : Nat // i ≤ L.length ∧ ∀ y ∈ L.take i, hitB t n y = false }) (fun i => [(1, .int .i64 t), (2, .int .i64 n), (9, .slice sa (L.map It2.v).length sc), (10, .int .i64 ((L.map It2.v).length : Int)), (11, .int .i64 (i.1 : Int))]) (fun _ => R) (fun _ => C) (fun i => L.length - i.1) ⟨0, Nat.zero_le _, fun y hy => by simp at hy⟩ (by exact a_sub) (by exact a_subR) (by exact a_holds) (fun i => ?_)
  obtain ⟨i, hi, hno⟩ := i
  dsimp only
  by_cases hlt : i < L.length
  · obtain ⟨x, hx⟩ : ∃ x, L[i]? = some x := ⟨_, List.getElem?_eq_getElem hlt⟩
    have hxm : x ∈ L := List.mem_of_getElem? hx
    have hxv : (L.map It2.v)[i]? = some x.v := by rw [List.getElem?_map, hx]; rfl
    have hvx := x.vof (hok x hxm)
    by_cases hh : x.kind = 1 ∧ x.tl = t ∧ x.a ≤ n ∧ n < x.b
    · have hf : AtS L t n (i : Int) := .inr ⟨i, x, rfl, hx, by rw [next_find]; exact find_first hx hno (by unfold hitB segB nextB; simp [hh])⟩
      clear hno
      obtain ⟨h1, h2, h3, h4⟩ := hh
      repeat' (first | ((first | with_reducible refine nl_op rfl ?_ | refine nd_go rfl rfl rfl ?_); intro K hK; (first | ((first | refine on_E hF rfl rfl ?_ | refine od_E rfl rfl ?_ | refine od_R rfl rfl ?_); (first | refine ⟨_, a_yl, ?_⟩ | refine ⟨_, (by first | exact yl_fieldB (T := 33) (f := 1) (q := 1) rfl rfl (by kernel_rfl) | exact yl_fieldE (T := 33) (f := 1) (j := 1) rfl rfl a_sl a_om (by kernel_rfl) | exact yl_fieldB (T := 33) (f := 2) (q := 2) rfl rfl (by kernel_rfl) | exact yl_fieldE (T := 33) (f := 2) (j := 2) rfl rfl a_sl a_om (by kernel_rfl) | exact yl_fieldB (T := 33) (f := 4) (q := 4) rfl rfl (by kernel_rfl) | exact yl_fieldE (T := 33) (f := 4) (j := 4) rfl rfl a_sl a_om (by kernel_rfl) | exact yl_fieldB (T := 33) (f := 5) (q := 5) rfl rfl (by kernel_rfl) | exact yl_fieldE (T := 33) (f := 5) (j := 5) rfl rfl a_sl a_om (by kernel_rfl)), ?_⟩)) | ((first | refine on_Ec hF rfl rfl ?_ | refine od_Ec rfl rfl ?_); refine ⟨_, _, _, a_yc, ?_, ?_⟩ <;> (intro hc; try exact a_cut hc)) | ((first | (refine od_act a_nd ?_; intro K2 hK2) | refine od_last a_nd ?_ | skip); (first | (refine on_alloc hF rfl Tryz.zeroValue33 rfl rfl (fun B => ?_)) | (refine on_box hF rfl rfl rfl rfl (fun B => ?_)) | (refine on_store hF rfl rfl rfl rfl a_turn a_vof a_sz ?_) | (refine on_storeE hF rfl rfl rfl rfl a_turn a_om a_vof a_sz ?_) | (refine on_storeEF hF rfl rfl rfl rfl a_turn a_as (by decide) a_vof rfl ?_) | (refine on_storeF hF rfl rfl rfl rfl a_turn (by decide) a_vof rfl ?_)) <;> try (refine hK2 _ _ _ a_allK ?_; clear hK2 K2))) <;> (refine hK _ _ _ ?_; clear hK K)) | with_reducible (first | refine nx_seq ?_ | refine nx_region ?_ | refine nl_nil ?_ | refine nq_then_n ?_ | refine nx_block ?_ | refine nx_skip ?_ | refine nx_exit ?_ | refine nx_ret ?_ | refine nq_then_x ?_ | refine nq_then_r ?_ | refine nq_blk_n ?_ | refine nq_blk_r ?_ | refine nq_blk_hit ?_ | refine nq_blk_miss rfl ?_ | refine nd_nil ?_) | refine nx_cond_t rfl ?_ | refine nx_cond_f rfl ?_ | refine nl_pass hF rfl rfl rfl ?_ | refine nd_pass rfl rfl rfl rfl rfl ?_ | refine nd_pass2 rfl rfl rfl a_nd a_allK rfl rfl ?_ | refine nd_pass3 rfl rfl rfl a_nd rfl rfl ?_ | (with_reducible refine hQ1 _ _ _ ?_; clear hQ1 Q1) )
      all_goals (try (exfalso; dsimp only at *; omega))
      refine nx_end [] rfl ((⟨(i : Int), hf⟩ : { r : Int // AtS L t n r })) (fun a w ha hw => res_tmp Tryz.results84 rfl ha) (by exact a_subR) (by exact a_holds2)
    · have hn2 := take_no hx hno (by unfold hitB segB nextB; simp; omega)
      clear hno
      repeat' (first | ((first | with_reducible refine nl_op rfl ?_ | refine nd_go rfl rfl rfl ?_); intro K hK; (first | ((first | refine on_E hF rfl rfl ?_ | refine od_E rfl rfl ?_ | refine od_R rfl rfl ?_); (first | refine ⟨_, a_yl, ?_⟩ | refine ⟨_, (by first | exact yl_fieldB (T := 33) (f := 1) (q := 1) rfl rfl (by kernel_rfl) | exact yl_fieldE (T := 33) (f := 1) (j := 1) rfl rfl a_sl a_om (by kernel_rfl) | exact yl_fieldB (T := 33) (f := 2) (q := 2) rfl rfl (by kernel_rfl) | exact yl_fieldE (T := 33) (f := 2) (j := 2) rfl rfl a_sl a_om (by kernel_rfl) | exact yl_fieldB (T := 33) (f := 4) (q := 4) rfl rfl (by kernel_rfl) | exact yl_fieldE (T := 33) (f := 4) (j := 4) rfl rfl a_sl a_om (by kernel_rfl) | exact yl_fieldB (T := 33) (f := 5) (q := 5) rfl rfl (by kernel_rfl) | exact yl_fieldE (T := 33) (f := 5) (j := 5) rfl rfl a_sl a_om (by kernel_rfl)), ?_⟩)) | ((first | refine on_Ec hF rfl rfl ?_ | refine od_Ec rfl rfl ?_); refine ⟨_, _, _, a_yc, ?_, ?_⟩ <;> (intro hc; try exact a_cut hc)) | ((first | (refine od_act a_nd ?_; intro K2 hK2) | refine od_last a_nd ?_ | skip); (first | (refine on_alloc hF rfl Tryz.zeroValue33 rfl rfl (fun B => ?_)) | (refine on_box hF rfl rfl rfl rfl (fun B => ?_)) | (refine on_store hF rfl rfl rfl rfl a_turn a_vof a_sz ?_) | (refine on_storeE hF rfl rfl rfl rfl a_turn a_om a_vof a_sz ?_) | (refine on_storeEF hF rfl rfl rfl rfl a_turn a_as (by decide) a_vof rfl ?_) | (refine on_storeF hF rfl rfl rfl rfl a_turn (by decide) a_vof rfl ?_)) <;> try (refine hK2 _ _ _ a_allK ?_; clear hK2 K2))) <;> (refine hK _ _ _ ?_; clear hK K)) | with_reducible (first | refine nx_seq ?_ | refine nx_region ?_ | refine nl_nil ?_ | refine nq_then_n ?_ | refine nx_block ?_ | refine nx_skip ?_ | refine nx_exit ?_ | refine nx_ret ?_ | refine nq_then_x ?_ | refine nq_then_r ?_ | refine nq_blk_n ?_ | refine nq_blk_r ?_ | refine nq_blk_hit ?_ | refine nq_blk_miss rfl ?_ | refine nd_nil ?_) | refine nx_cond_t rfl ?_ | refine nx_cond_f rfl ?_ | refine nl_pass hF rfl rfl rfl ?_ | refine nd_pass rfl rfl rfl rfl rfl ?_ | refine nd_pass2 rfl rfl rfl a_nd a_allK rfl rfl ?_ | refine nd_pass3 rfl rfl rfl a_nd rfl rfl ?_ | (with_reducible refine hQ1 _ _ _ ?_; clear hQ1 Q1) )
      all_goals (first
        | (exfalso; dsimp only at *; omega)
        | refine nx_again ⟨i + 1, by omega, hn2⟩ (by dsimp only; omega) (by exact a_sub) (by exact a_subR) (by exact a_holds))
  · have hf : AtS L t n (-1) := .inl ⟨rfl, by
      rw [next_find, List.find?_eq_none]
      intro y hy
      have := hno y (by rw [List.take_of_length_le (by omega)]; exact hy)
      simp [this]⟩
    clear hno
    repeat' (first | ((first | with_reducible refine nl_op rfl ?_ | refine nd_go rfl rfl rfl ?_); intro K hK; (first | ((first | refine on_E hF rfl rfl ?_ | refine od_E rfl rfl ?_ | refine od_R rfl rfl ?_); (first | refine ⟨_, a_yl, ?_⟩ | refine ⟨_, (by first | exact yl_fieldB (T := 33) (f := 1) (q := 1) rfl rfl (by kernel_rfl) | exact yl_fieldE (T := 33) (f := 1) (j := 1) rfl rfl a_sl a_om (by kernel_rfl) | exact yl_fieldB (T := 33) (f := 2) (q := 2) rfl rfl (by kernel_rfl) | exact yl_fieldE (T := 33) (f := 2) (j := 2) rfl rfl a_sl a_om (by kernel_rfl) | exact yl_fieldB (T := 33) (f := 4) (q := 4) rfl rfl (by kernel_rfl) | exact yl_fieldE (T := 33) (f := 4) (j := 4) rfl rfl a_sl a_om (by kernel_rfl) | exact yl_fieldB (T := 33) (f := 5) (q := 5) rfl rfl (by kernel_rfl) | exact yl_fieldE (T := 33) (f := 5) (j := 5) rfl rfl a_sl a_om (by kernel_rfl)), ?_⟩)) | ((first | refine on_Ec hF rfl rfl ?_ | refine od_Ec rfl rfl ?_); refine ⟨_, _, _, a_yc, ?_, ?_⟩ <;> (intro hc; try exact a_cut hc)) | ((first | (refine od_act a_nd ?_; intro K2 hK2) | refine od_last a_nd ?_ | skip); (first | (refine on_alloc hF rfl Tryz.zeroValue33 rfl rfl (fun B => ?_)) | (refine on_box hF rfl rfl rfl rfl (fun B => ?_)) | (refine on_store hF rfl rfl rfl rfl a_turn a_vof a_sz ?_) | (refine on_storeE hF rfl rfl rfl rfl a_turn a_om a_vof a_sz ?_) | (refine on_storeEF hF rfl rfl rfl rfl a_turn a_as (by decide) a_vof rfl ?_) | (refine on_storeF hF rfl rfl rfl rfl a_turn (by decide) a_vof rfl ?_)) <;> try (refine hK2 _ _ _ a_allK ?_; clear hK2 K2))) <;> (refine hK _ _ _ ?_; clear hK K)) | with_reducible (first | refine nx_seq ?_ | refine nx_region ?_ | refine nl_nil ?_ | refine nq_then_n ?_ | refine nx_block ?_ | refine nx_skip ?_ | refine nx_exit ?_ | refine nx_ret ?_ | refine nq_then_x ?_ | refine nq_then_r ?_ | refine nq_blk_n ?_ | refine nq_blk_r ?_ | refine nq_blk_hit ?_ | refine nq_blk_miss rfl ?_ | refine nd_nil ?_) | refine nx_cond_t rfl ?_ | refine nx_cond_f rfl ?_ | refine nl_pass hF rfl rfl rfl ?_ | refine nd_pass rfl rfl rfl rfl rfl ?_ | refine nd_pass2 rfl rfl rfl a_nd a_allK rfl rfl ?_ | refine nd_pass3 rfl rfl rfl a_nd rfl rfl ?_ | (with_reducible refine hQ1 _ _ _ ?_; clear hQ1 Q1) )
    all_goals (try (exfalso; dsimp only at *; omega))
    refine nx_end [] rfl ((⟨-1, hf⟩ : { r : Int // AtS L t n r })) (fun a w ha hw => res_tmp Tryz.results84 rfl ha) (by exact a_subR) (by exact a_holds2)
theorem at_some {L : List It2} {t n r : Int} {x : It2} (h : AtS L t n r) (hn : nextSeg L t n = some x) : ∃ i : Nat, r = (i : Int) ∧ i < L.length ∧ (L.map It2.v)[i]? = some x.v := by
  rcases h with ⟨_, h⟩ | ⟨i, y, h1, h2, h3⟩
  · rw [hn] at h; cases h
  · rw [hn] at h3
    injection h3 with h3
    subst h3
    exact ⟨i, h1, (List.getElem?_eq_some_iff.1 h2).1, by rw [List.getElem?_map, h2]; rfl⟩
theorem at_none {L : List It2} {t n r : Int} (h : AtS L t n r) (hn : nextSeg L t n = none) : r = -1 := by
  rcases h with ⟨h, _⟩ | ⟨i, y, h1, h2, h3⟩
  · exact h
  · rw [hn] at h3; cases h3
theorem celI1 (zs : List Int) : Cel 1 (zs.map (Value.int .i64)) := Cel.of (P := Tryz.prog) (T := 3) (fun y hy => by obtain ⟨i, _, rfl⟩ := List.mem_map.1 hy; exact vof1 (by kernel_rfl) rfl rfl) (by kernel_rfl)
set_option maxRecDepth 100000 in
set_option maxHeartbeats 2000000 in
theorem cover_ct (s : Value) (hs : IsSl s) (L : List It2) (hok : ∀ x ∈ L, x.ok) (hm : L.length ≤ 1000) (t to : Int) : ∀ (m : Nat) (fr : Int), above L fr < m → ∀ (W0 : World) (X : Nat → Prop) (R C : List Ch), SlC 9 s (L.map It2.v) ∈ R →
    Ct Tryz.prog 61 [s, .int .i64 t, .int .i64 fr, .int .i64 to] W0 X R C SV (fun v => .tuple #[v.1, .bool (Re.cover L t fr to).isSome]) (fun _ => R) (fun v => RowC 3 1 v.1 (((Re.cover L t fr to).getD []).map (.int .i64)) :: C) := by
  have hs0 := hs
  have hlv : (L.map It2.v).length = L.length := by simp
  intro m
  induction m with
  | zero => intro fr h; omega
  | succ m ih =>
    intro fr hlt W0 X R C hsl w hw
    have hF := isWide_wide
    have hm88 : L.length * 88 ≤ 140737488355328 := by omega
    have ac := fun (W0 : World) (X : Nat → Prop) (R C : List Ch) h => at_ct (W0 := W0) (X := X) (R := R) (C := C) s hs0 L hok t fr h hm88
    by_cases h : fr < to
    · cases hn : nextSeg L t fr with
      | none =>
        rw [cover_none h hn]
        simp only [Option.isSome_none, Option.getD_none, List.map_nil]
        refine calls_nx Tryz.func61 rfl Tryz.ntmps61 rfl ?_ hw
        repeat' (first | ((first | with_reducible refine nl_op rfl ?_ | refine nd_go rfl rfl rfl ?_); intro K hK; (first | ((first | refine on_E hF rfl rfl ?_ | refine od_E rfl rfl ?_ | refine od_R rfl rfl ?_); (first | refine ⟨_, a_yl, ?_⟩ | refine ⟨_, (by first | exact yl_fieldB (T := 33) (f := 0) (q := 0) rfl rfl (by kernel_rfl) | exact yl_fieldE (T := 33) (f := 0) (j := 0) rfl rfl a_sl a_om (by kernel_rfl) | exact yl_fieldB (T := 33) (f := 5) (q := 5) rfl rfl (by kernel_rfl) | exact yl_fieldE (T := 33) (f := 5) (j := 5) rfl rfl a_sl a_om (by kernel_rfl)), ?_⟩)) | ((first | refine on_Ec hF rfl rfl ?_ | refine od_Ec rfl rfl ?_); refine ⟨_, _, _, a_yc, ?_, ?_⟩ <;> (intro hc; try exact a_cut hc)) | ((first | (refine od_act a_nd ?_; intro K2 hK2) | refine od_last a_nd ?_ | skip); (first | (refine on_callG hF (enters_of Tryz.func84 (by kernel_rfl) rfl) rfl rfl rfl rfl (ac _ _ _ _ (by exact a_mem)) (fun r => ?_); obtain ⟨r, hr⟩ := r; dsimp only; obtain rfl := at_none hr hn) | (refine on_buildSlice (T := 25) (e := 3) (k := 1) (by_ := 8) hF rfl rfl rfl rfl rfl rfl (by kernel_rfl) a_cel (Nat.le_of_ble_eq_true rfl) (fun b => ?_)) | (refine on_append (T := 25) (e := 3) (k := 1) (by_ := 8) hF rfl rfl rfl rfl rfl a_pick (by kernel_rfl) a_sl a_cel a_bnd a_bnd (fun v => ?_)) | (refine on_box hF rfl rfl rfl rfl (fun B => ?_)) | (refine on_store hF rfl rfl rfl rfl a_turn a_vof a_sz ?_) | (refine on_storeE hF rfl rfl rfl rfl a_turn a_om a_vof a_sz ?_) | (refine on_storeEF hF rfl rfl rfl rfl a_turn a_as (by decide) a_vof rfl ?_) | (refine on_storeF hF rfl rfl rfl rfl a_turn (by decide) a_vof rfl ?_)) <;> try (refine hK2 _ _ _ a_allK ?_; clear hK2 K2))) <;> (refine hK _ _ _ ?_; clear hK K)) | with_reducible (first | refine nx_seq ?_ | refine nx_region ?_ | refine nl_nil ?_ | refine nq_then_n ?_ | refine nx_block ?_ | refine nx_skip ?_ | refine nx_exit ?_ | refine nx_ret ?_ | refine nq_then_x ?_ | refine nq_then_r ?_ | refine nq_blk_n ?_ | refine nq_blk_r ?_ | refine nq_blk_hit ?_ | refine nq_blk_miss rfl ?_ | refine nd_nil ?_) | refine nx_cond_t rfl ?_ | refine nx_cond_f rfl ?_ | refine nl_pass hF rfl rfl rfl ?_ | refine nd_pass rfl rfl rfl rfl rfl ?_ | refine nd_pass2 rfl rfl rfl a_nd a_allK rfl rfl ?_ | refine nd_pass3 rfl rfl rfl a_nd rfl rfl ?_ | (with_reducible refine hQ1 _ _ _ ?_; clear hQ1 Q1) )
        all_goals (try (exfalso; dsimp only at *; omega))
        refine nx_nilRow 3 1 ?_
        refine nx_end [] rfl ((⟨.slice none 0 0, _, _, _, rfl⟩ : SV)) (fun a w ha hw => res_tmp2 Tryz.results61 rfl rfl ha) (by exact a_subR) (by exact a_holds2)
      | some x =>
        have hsp := nextSeg_spec hn
        have hvx := x.vof (hok x hsp.1)
        have hal := above_lt (m := x.b) hsp.1 hsp.2.2.2.2 rfl
        have ic := fun (W0 : World) (X : Nat → Prop) (R C : List Ch) h => ih x.b (by omega) W0 X R C h
        rw [cover_some h hn]
        have hzl : ((Re.cover L t x.b to).getD []).length ≤ 1000 := by
          have h1 := Re.above_le L x.b
          cases hc : Re.cover L t x.b to with
          | none => simp
          | some zs => have h2 := Re.cover_len L t _ x.b to zs (Nat.le_refl _) hc; simp only [Option.getD_some]; omega
        have hcx := celI1 [x.id]
        clear ih hsp hal
        cases hc : Re.cover L t x.b to with
        | none =>
          rw [hc] at ic
          simp only [Option.isSome_none, Option.getD_none, List.map_nil] at ic
          simp only [Option.map_none, Option.isSome_none, Option.getD_none, List.map_nil]
          refine calls_nx Tryz.func61 rfl Tryz.ntmps61 rfl ?_ hw
          repeat' (first | ((first | with_reducible refine nl_op rfl ?_ | refine nd_go rfl rfl rfl ?_); intro K hK; (first | ((first | refine on_E hF rfl rfl ?_ | refine od_E rfl rfl ?_ | refine od_R rfl rfl ?_); (first | refine ⟨_, a_yl, ?_⟩ | refine ⟨_, (by first | exact yl_fieldB (T := 33) (f := 0) (q := 0) rfl rfl (by kernel_rfl) | exact yl_fieldE (T := 33) (f := 0) (j := 0) rfl rfl a_sl a_om (by kernel_rfl) | exact yl_fieldB (T := 33) (f := 5) (q := 5) rfl rfl (by kernel_rfl) | exact yl_fieldE (T := 33) (f := 5) (j := 5) rfl rfl a_sl a_om (by kernel_rfl)), ?_⟩)) | ((first | refine on_Ec hF rfl rfl ?_ | refine od_Ec rfl rfl ?_); refine ⟨_, _, _, a_yc, ?_, ?_⟩ <;> (intro hc; try exact a_cut hc)) | ((first | (refine od_act a_nd ?_; intro K2 hK2) | refine od_last a_nd ?_ | skip); (first | (refine on_callG hF (enters_of Tryz.func84 (by kernel_rfl) rfl) rfl rfl rfl rfl (ac _ _ _ _ (by exact a_mem)) (fun r => ?_); obtain ⟨r, hr⟩ := r; dsimp only; obtain ⟨i, hri, hil, hxv⟩ := at_some hr hn; subst hri) | (refine on_callG hF (enters_of Tryz.func61 (by kernel_rfl) rfl) rfl rfl rfl rfl (ic _ _ _ _ (by exact a_mem)) (fun v => ?_)) | (refine on_buildSlice (T := 25) (e := 3) (k := 1) (by_ := 8) hF rfl rfl rfl rfl rfl rfl (by kernel_rfl) a_cel (Nat.le_of_ble_eq_true rfl) (fun b => ?_)) | (refine on_append (T := 25) (e := 3) (k := 1) (by_ := 8) hF rfl rfl rfl rfl rfl a_pick (by kernel_rfl) a_sl a_cel a_bnd a_bnd (fun v => ?_)) | (refine on_box hF rfl rfl rfl rfl (fun B => ?_)) | (refine on_store hF rfl rfl rfl rfl a_turn a_vof a_sz ?_) | (refine on_storeE hF rfl rfl rfl rfl a_turn a_om a_vof a_sz ?_) | (refine on_storeEF hF rfl rfl rfl rfl a_turn a_as (by decide) a_vof rfl ?_) | (refine on_storeF hF rfl rfl rfl rfl a_turn (by decide) a_vof rfl ?_)) <;> try (refine hK2 _ _ _ a_allK ?_; clear hK2 K2))) <;> (refine hK _ _ _ ?_; clear hK K)) | with_reducible (first | refine nx_seq ?_ | refine nx_region ?_ | refine nl_nil ?_ | refine nq_then_n ?_ | refine nx_block ?_ | refine nx_skip ?_ | refine nx_exit ?_ | refine nx_ret ?_ | refine nq_then_x ?_ | refine nq_then_r ?_ | refine nq_blk_n ?_ | refine nq_blk_r ?_ | refine nq_blk_hit ?_ | refine nq_blk_miss rfl ?_ | refine nd_nil ?_) | refine nx_cond_t rfl ?_ | refine nx_cond_f rfl ?_ | refine nl_pass hF rfl rfl rfl ?_ | refine nd_pass rfl rfl rfl rfl rfl ?_ | refine nd_pass2 rfl rfl rfl a_nd a_allK rfl rfl ?_ | refine nd_pass3 rfl rfl rfl a_nd rfl rfl ?_ | (with_reducible refine hQ1 _ _ _ ?_; clear hQ1 Q1) )
          all_goals (try (exfalso; dsimp only at *; omega))
          refine nx_nilRow 3 1 ?_
          refine nx_end [] rfl ((⟨.slice none 0 0, _, _, _, rfl⟩ : SV)) (fun a w ha hw => res_tmp2 Tryz.results61 rfl rfl ha) (by exact a_subR) (by exact a_holds2)
        | some zs =>
          rw [hc] at ic hzl
          simp only [Option.isSome_some, Option.getD_some] at ic hzl
          simp only [Option.map_some, Option.isSome_some, Option.getD_some, List.map_cons]
          have hcz := celI1 zs
          have hl1 : [Value.int .i64 x.id].length + (zs.map (Value.int .i64)).length ≤ maxLen := by unfold maxLen; simp; omega
          have hl2 : ([Value.int .i64 x.id].length + (zs.map (Value.int .i64)).length) * 8 ≤ 140737488355328 := by simp; omega
          refine calls_nx Tryz.func61 rfl Tryz.ntmps61 rfl ?_ hw
          repeat' (first | ((first | with_reducible refine nl_op rfl ?_ | refine nd_go rfl rfl rfl ?_); intro K hK; (first | ((first | refine on_E hF rfl rfl ?_ | refine od_E rfl rfl ?_ | refine od_R rfl rfl ?_); (first | refine ⟨_, a_yl, ?_⟩ | refine ⟨_, (by first | exact yl_fieldB (T := 33) (f := 0) (q := 0) rfl rfl (by kernel_rfl) | exact yl_fieldE (T := 33) (f := 0) (j := 0) rfl rfl a_sl a_om (by kernel_rfl) | exact yl_fieldB (T := 33) (f := 5) (q := 5) rfl rfl (by kernel_rfl) | exact yl_fieldE (T := 33) (f := 5) (j := 5) rfl rfl a_sl a_om (by kernel_rfl)), ?_⟩)) | ((first | refine on_Ec hF rfl rfl ?_ | refine od_Ec rfl rfl ?_); refine ⟨_, _, _, a_yc, ?_, ?_⟩ <;> (intro hc; try exact a_cut hc)) | ((first | (refine od_act a_nd ?_; intro K2 hK2) | refine od_last a_nd ?_ | skip); (first | (refine on_callG hF (enters_of Tryz.func84 (by kernel_rfl) rfl) rfl rfl rfl rfl (ac _ _ _ _ (by exact a_mem)) (fun r => ?_); obtain ⟨r, hr⟩ := r; dsimp only; obtain ⟨i, hri, hil, hxv⟩ := at_some hr hn; subst hri) | (refine on_callG hF (enters_of Tryz.func61 (by kernel_rfl) rfl) rfl rfl rfl rfl (ic _ _ _ _ (by exact a_mem)) (fun v => ?_)) | (refine on_buildSlice (e := 3) (k := 1) (by_ := 8) hF rfl rfl rfl rfl rfl rfl (by kernel_rfl) hcx (Nat.le_of_ble_eq_true rfl) (fun bq => ?_)) | (refine on_append (e := 3) (k := 1) (by_ := 8) (xs := [.int .i64 x.id]) (ys := zs.map (.int .i64)) hF rfl rfl rfl rfl rfl a_pick (by kernel_rfl) a_sl hcz hl1 hl2 (fun v2 => ?_)) | (refine on_buildSlice (T := 25) (e := 3) (k := 1) (by_ := 8) hF rfl rfl rfl rfl rfl rfl (by kernel_rfl) a_cel (Nat.le_of_ble_eq_true rfl) (fun b => ?_)) | (refine on_append (T := 25) (e := 3) (k := 1) (by_ := 8) hF rfl rfl rfl rfl rfl a_pick (by kernel_rfl) a_sl a_cel a_bnd a_bnd (fun v => ?_)) | (refine on_box hF rfl rfl rfl rfl (fun B => ?_)) | (refine on_store hF rfl rfl rfl rfl a_turn a_vof a_sz ?_) | (refine on_storeE hF rfl rfl rfl rfl a_turn a_om a_vof a_sz ?_) | (refine on_storeEF hF rfl rfl rfl rfl a_turn a_as (by decide) a_vof rfl ?_) | (refine on_storeF hF rfl rfl rfl rfl a_turn (by decide) a_vof rfl ?_)) <;> try (refine hK2 _ _ _ a_allK ?_; clear hK2 K2))) <;> (refine hK _ _ _ ?_; clear hK K)) | with_reducible (first | refine nx_seq ?_ | refine nx_region ?_ | refine nl_nil ?_ | refine nq_then_n ?_ | refine nx_block ?_ | refine nx_skip ?_ | refine nx_exit ?_ | refine nx_ret ?_ | refine nq_then_x ?_ | refine nq_then_r ?_ | refine nq_blk_n ?_ | refine nq_blk_r ?_ | refine nq_blk_hit ?_ | refine nq_blk_miss rfl ?_ | refine nd_nil ?_) | refine nx_cond_t rfl ?_ | refine nx_cond_f rfl ?_ | refine nl_pass hF rfl rfl rfl ?_ | refine nd_pass rfl rfl rfl rfl rfl ?_ | refine nd_pass2 rfl rfl rfl a_nd a_allK rfl rfl ?_ | refine nd_pass3 rfl rfl rfl a_nd rfl rfl ?_ | (with_reducible refine hQ1 _ _ _ ?_; clear hQ1 Q1) )
          all_goals (try (exfalso; dsimp only at *; omega))
          refine nx_end [] rfl v2 (fun a w ha hw => res_tmp2 Tryz.results61 rfl rfl ha) (by exact a_subR) (by exact a_holds2)
    · rw [cover_done h]
      simp only [Option.isSome_some, Option.getD_some, List.map_nil]
      refine calls_nx Tryz.func61 rfl Tryz.ntmps61 rfl ?_ hw
      repeat' (first | ((first | with_reducible refine nl_op rfl ?_ | refine nd_go rfl rfl rfl ?_); intro K hK; (first | ((first | refine on_E hF rfl rfl ?_ | refine od_E rfl rfl ?_ | refine od_R rfl rfl ?_); (first | refine ⟨_, a_yl, ?_⟩ | refine ⟨_, (by first | exact yl_fieldB (T := 33) (f := 0) (q := 0) rfl rfl (by kernel_rfl) | exact yl_fieldE (T := 33) (f := 0) (j := 0) rfl rfl a_sl a_om (by kernel_rfl) | exact yl_fieldB (T := 33) (f := 5) (q := 5) rfl rfl (by kernel_rfl) | exact yl_fieldE (T := 33) (f := 5) (j := 5) rfl rfl a_sl a_om (by kernel_rfl)), ?_⟩)) | ((first | refine on_Ec hF rfl rfl ?_ | refine od_Ec rfl rfl ?_); refine ⟨_, _, _, a_yc, ?_, ?_⟩ <;> (intro hc; try exact a_cut hc)) | ((first | (refine od_act a_nd ?_; intro K2 hK2) | refine od_last a_nd ?_ | skip); (first | (refine on_buildSlice (T := 25) (e := 3) (k := 1) (by_ := 8) hF rfl rfl rfl rfl rfl rfl (by kernel_rfl) a_cel (Nat.le_of_ble_eq_true rfl) (fun b => ?_)) | (refine on_append (T := 25) (e := 3) (k := 1) (by_ := 8) hF rfl rfl rfl rfl rfl a_pick (by kernel_rfl) a_sl a_cel a_bnd a_bnd (fun v => ?_)) | (refine on_box hF rfl rfl rfl rfl (fun B => ?_)) | (refine on_store hF rfl rfl rfl rfl a_turn a_vof a_sz ?_) | (refine on_storeE hF rfl rfl rfl rfl a_turn a_om a_vof a_sz ?_) | (refine on_storeEF hF rfl rfl rfl rfl a_turn a_as (by decide) a_vof rfl ?_) | (refine on_storeF hF rfl rfl rfl rfl a_turn (by decide) a_vof rfl ?_)) <;> try (refine hK2 _ _ _ a_allK ?_; clear hK2 K2))) <;> (refine hK _ _ _ ?_; clear hK K)) | with_reducible (first | refine nx_seq ?_ | refine nx_region ?_ | refine nl_nil ?_ | refine nq_then_n ?_ | refine nx_block ?_ | refine nx_skip ?_ | refine nx_exit ?_ | refine nx_ret ?_ | refine nq_then_x ?_ | refine nq_then_r ?_ | refine nq_blk_n ?_ | refine nq_blk_r ?_ | refine nq_blk_hit ?_ | refine nq_blk_miss rfl ?_ | refine nd_nil ?_) | refine nx_cond_t rfl ?_ | refine nx_cond_f rfl ?_ | refine nl_pass hF rfl rfl rfl ?_ | refine nd_pass rfl rfl rfl rfl rfl ?_ | refine nd_pass2 rfl rfl rfl a_nd a_allK rfl rfl ?_ | refine nd_pass3 rfl rfl rfl a_nd rfl rfl ?_ | (with_reducible refine hQ1 _ _ _ ?_; clear hQ1 Q1) )
      all_goals (try (exfalso; dsimp only at *; omega))
      refine nx_nilRow 3 1 ?_
      refine nx_end [] rfl ((⟨.slice none 0 0, _, _, _, rfl⟩ : SV)) (fun a w ha hw => res_tmp2 Tryz.results61 rfl rfl ha) (by exact a_subR) (by exact a_holds2)
end Rf20
end Go.Proofs.YtinofjenoapeaaaGreat
end
section
namespace Go.Proofs.YtinofjenoapeaaaGreat
open Go.RowKit Go.Shelf
set_option linter.unusedSimpArgs false
set_option linter.unusedVariables false
namespace Rf21
open Chn
variable {W0 : World} {X : Nat → Prop} {R C : List Ch}
/-- Where the item of an Id lies, if it is a backup. -/
def AtB (L : List It2) (id r : Int) : Prop := (r = -1 ∧ atOk L id = false) ∨ ∃ (i : Nat) (x : It2), r = (i : Int) ∧ L[i]? = some x ∧ byId L id = some x ∧ backB x = true
set_option maxRecDepth 100000 in
set_option maxHeartbeats 2000000 in
theorem at_ct (s : Value) (hs : IsSl s) (L : List It2) (hok : ∀ x ∈ L, x.ok) (id : Int) (hsl : SlC 9 s (L.map It2.v) ∈ R) (hm : L.length * 88 ≤ 140737488355328) :
    Ct Tryz.prog 83 [s, .int .i64 id] W0 X R C { r : Int // AtB L id r } (fun r => .int .i64 r.1) (fun _ => R) (fun _ => C) := by
  intro w hw
  have hF := isWide_wide
  obtain ⟨sa, sn, sc, rfl⟩ := hs
  obtain rfl := slLen (hw.hasR hsl)
  have hlv : (L.map It2.v).length = L.length := by simp
  refine calls_nx Tryz.func83 rfl Tryz.ntmps83 rfl ?_ hw
  repeat' (first | ((first | with_reducible refine nl_op rfl ?_ | refine nd_go rfl rfl rfl ?_); intro K hK; (first | ((first | refine on_E hF rfl rfl ?_ | refine od_E rfl rfl ?_ | refine od_R rfl rfl ?_); (first | refine ⟨_, a_yl, ?_⟩ | refine ⟨_, (by first | exact yl_fieldB (T := 33) (f := 0) (q := 0) rfl rfl (by kernel_rfl) | exact yl_fieldE (T := 33) (f := 0) (j := 0) rfl rfl a_sl a_om (by kernel_rfl) | exact yl_fieldB (T := 33) (f := 1) (q := 1) rfl rfl (by kernel_rfl) | exact yl_fieldE (T := 33) (f := 1) (j := 1) rfl rfl a_sl a_om (by kernel_rfl) | exact yl_fieldB (T := 33) (f := 4) (q := 4) rfl rfl (by kernel_rfl) | exact yl_fieldE (T := 33) (f := 4) (j := 4) rfl rfl a_sl a_om (by kernel_rfl) | exact yl_fieldB (T := 33) (f := 5) (q := 5) rfl rfl (by kernel_rfl) | exact yl_fieldE (T := 33) (f := 5) (j := 5) rfl rfl a_sl a_om (by kernel_rfl)), ?_⟩)) | ((first | refine on_Ec hF rfl rfl ?_ | refine od_Ec rfl rfl ?_); refine ⟨_, _, _, a_yc, ?_, ?_⟩ <;> (intro hc; try exact a_cut hc)) | ((first | (refine od_act a_nd ?_; intro K2 hK2) | refine od_last a_nd ?_ | skip); (first | (refine on_alloc hF rfl Tryz.zeroValue33 rfl rfl (fun B => ?_)) | (refine on_box hF rfl rfl rfl rfl (fun B => ?_)) | (refine on_store hF rfl rfl rfl rfl a_turn a_vof a_sz ?_) | (refine on_storeE hF rfl rfl rfl rfl a_turn a_om a_vof a_sz ?_) | (refine on_storeEF hF rfl rfl rfl rfl a_turn a_as (by decide) a_vof rfl ?_) | (refine on_storeF hF rfl rfl rfl rfl a_turn (by decide) a_vof rfl ?_)) <;> try (refine hK2 _ _ _ a_allK ?_; clear hK2 K2))) <;> (refine hK _ _ _ ?_; clear hK K)) | with_reducible (first | refine nx_seq ?_ | refine nx_region ?_ | refine nl_nil ?_ | refine nq_then_n ?_ | refine nx_block ?_ | refine nx_skip ?_ | refine nx_exit ?_ | refine nx_ret ?_ | refine nq_then_x ?_ | refine nq_then_r ?_ | refine nq_blk_n ?_ | refine nq_blk_r ?_ | refine nq_blk_hit ?_ | refine nq_blk_miss rfl ?_ | refine nd_nil ?_) | refine nx_cond_t rfl ?_ | refine nx_cond_f rfl ?_ | refine nl_pass hF rfl rfl rfl ?_ | refine nd_pass rfl rfl rfl rfl rfl ?_ | refine nd_pass2 rfl rfl rfl a_nd a_allK rfl rfl ?_ | refine nd_pass3 rfl rfl rfl a_nd rfl rfl ?_ | (with_reducible refine hQ1 _ _ _ ?_; clear hQ1 Q1) )
  refine nx_loop (ι := { i : Nat // i ≤ L.length ∧ ∀ y ∈ L.take i, (fun y : It2 => decide (y.id = id)) y = false }) (fun i => [(1, .int .i64 id), (7, .slice sa (L.map It2.v).length sc), (8, .int .i64 ((L.map It2.v).length : Int)), (9, .int .i64 (i.1 : Int))]) (fun _ => R) (fun _ => C) (fun i => L.length - i.1) ⟨0, Nat.zero_le _, fun y hy => by simp at hy⟩ (by exact a_sub) (by exact a_subR) (by exact a_holds) (fun i => ?_)
  obtain ⟨i, hi, hno⟩ := i
  dsimp only
  by_cases hlt : i < L.length
  · obtain ⟨x, hx⟩ : ∃ x, L[i]? = some x := ⟨_, List.getElem?_eq_getElem hlt⟩
    have hxm : x ∈ L := List.mem_of_getElem? hx
    have hxv : (L.map It2.v)[i]? = some x.v := by rw [List.getElem?_map, hx]; rfl
    have hvx := x.vof (hok x hxm)
    by_cases hh : x.id = id
    · have hby : byId L id = some x := Rf20.find_first hx hno (by simpa using hh)
      have hat : atOk L id = backB x := by unfold atOk atX; rw [hby]; simp
      clear hno
      by_cases hbk : (x.kind = 2 ∨ x.kind = 3) ∧ x.a ≤ x.b
      · have hf : AtB L id (i : Int) := .inr ⟨i, x, rfl, hx, hby, by unfold backB; simpa using hbk⟩
        clear hat
        repeat' (first | ((first | with_reducible refine nl_op rfl ?_ | refine nd_go rfl rfl rfl ?_); intro K hK; (first | ((first | refine on_E hF rfl rfl ?_ | refine od_E rfl rfl ?_ | refine od_R rfl rfl ?_); (first | refine ⟨_, a_yl, ?_⟩ | refine ⟨_, (by first | exact yl_fieldB (T := 33) (f := 0) (q := 0) rfl rfl (by kernel_rfl) | exact yl_fieldE (T := 33) (f := 0) (j := 0) rfl rfl a_sl a_om (by kernel_rfl) | exact yl_fieldB (T := 33) (f := 1) (q := 1) rfl rfl (by kernel_rfl) | exact yl_fieldE (T := 33) (f := 1) (j := 1) rfl rfl a_sl a_om (by kernel_rfl) | exact yl_fieldB (T := 33) (f := 4) (q := 4) rfl rfl (by kernel_rfl) | exact yl_fieldE (T := 33) (f := 4) (j := 4) rfl rfl a_sl a_om (by kernel_rfl) | exact yl_fieldB (T := 33) (f := 5) (q := 5) rfl rfl (by kernel_rfl) | exact yl_fieldE (T := 33) (f := 5) (j := 5) rfl rfl a_sl a_om (by kernel_rfl)), ?_⟩)) | ((first | refine on_Ec hF rfl rfl ?_ | refine od_Ec rfl rfl ?_); refine ⟨_, _, _, a_yc, ?_, ?_⟩ <;> (intro hc; try exact a_cut hc)) | ((first | (refine od_act a_nd ?_; intro K2 hK2) | refine od_last a_nd ?_ | skip); (first | (refine on_alloc hF rfl Tryz.zeroValue33 rfl rfl (fun B => ?_)) | (refine on_box hF rfl rfl rfl rfl (fun B => ?_)) | (refine on_store hF rfl rfl rfl rfl a_turn a_vof a_sz ?_) | (refine on_storeE hF rfl rfl rfl rfl a_turn a_om a_vof a_sz ?_) | (refine on_storeEF hF rfl rfl rfl rfl a_turn a_as (by decide) a_vof rfl ?_) | (refine on_storeF hF rfl rfl rfl rfl a_turn (by decide) a_vof rfl ?_)) <;> try (refine hK2 _ _ _ a_allK ?_; clear hK2 K2))) <;> (refine hK _ _ _ ?_; clear hK K)) | with_reducible (first | refine nx_seq ?_ | refine nx_region ?_ | refine nl_nil ?_ | refine nq_then_n ?_ | refine nx_block ?_ | refine nx_skip ?_ | refine nx_exit ?_ | refine nx_ret ?_ | refine nq_then_x ?_ | refine nq_then_r ?_ | refine nq_blk_n ?_ | refine nq_blk_r ?_ | refine nq_blk_hit ?_ | refine nq_blk_miss rfl ?_ | refine nd_nil ?_) | refine nx_cond_t rfl ?_ | refine nx_cond_f rfl ?_ | refine nl_pass hF rfl rfl rfl ?_ | refine nd_pass rfl rfl rfl rfl rfl ?_ | refine nd_pass2 rfl rfl rfl a_nd a_allK rfl rfl ?_ | refine nd_pass3 rfl rfl rfl a_nd rfl rfl ?_ | (with_reducible refine hQ1 _ _ _ ?_; clear hQ1 Q1) )
        all_goals (first
          | (exfalso; dsimp only at *; omega)
          | refine nx_end [] rfl ((⟨(i : Int), hf⟩ : { r : Int // AtB L id r })) (fun a w ha hw => res_tmp Tryz.results83 rfl ha) (by exact a_subR) (by exact a_holds2))
      · have hf : AtB L id (-1) := .inl ⟨rfl, by rw [hat]; unfold backB; simp; omega⟩
        clear hat
        repeat' (first | ((first | with_reducible refine nl_op rfl ?_ | refine nd_go rfl rfl rfl ?_); intro K hK; (first | ((first | refine on_E hF rfl rfl ?_ | refine od_E rfl rfl ?_ | refine od_R rfl rfl ?_); (first | refine ⟨_, a_yl, ?_⟩ | refine ⟨_, (by first | exact yl_fieldB (T := 33) (f := 0) (q := 0) rfl rfl (by kernel_rfl) | exact yl_fieldE (T := 33) (f := 0) (j := 0) rfl rfl a_sl a_om (by kernel_rfl) | exact yl_fieldB (T := 33) (f := 1) (q := 1) rfl rfl (by kernel_rfl) | exact yl_fieldE (T := 33) (f := 1) (j := 1) rfl rfl a_sl a_om (by kernel_rfl) | exact yl_fieldB (T := 33) (f := 4) (q := 4) rfl rfl (by kernel_rfl) | exact yl_fieldE (T := 33) (f := 4) (j := 4) rfl rfl a_sl a_om (by kernel_rfl) | exact yl_fieldB (T := 33) (f := 5) (q := 5) rfl rfl (by kernel_rfl) | exact yl_fieldE (T := 33) (f := 5) (j := 5) rfl rfl a_sl a_om (by kernel_rfl)), ?_⟩)) | ((first | refine on_Ec hF rfl rfl ?_ | refine od_Ec rfl rfl ?_); refine ⟨_, _, _, a_yc, ?_, ?_⟩ <;> (intro hc; try exact a_cut hc)) | ((first | (refine od_act a_nd ?_; intro K2 hK2) | refine od_last a_nd ?_ | skip); (first | (refine on_alloc hF rfl Tryz.zeroValue33 rfl rfl (fun B => ?_)) | (refine on_box hF rfl rfl rfl rfl (fun B => ?_)) | (refine on_store hF rfl rfl rfl rfl a_turn a_vof a_sz ?_) | (refine on_storeE hF rfl rfl rfl rfl a_turn a_om a_vof a_sz ?_) | (refine on_storeEF hF rfl rfl rfl rfl a_turn a_as (by decide) a_vof rfl ?_) | (refine on_storeF hF rfl rfl rfl rfl a_turn (by decide) a_vof rfl ?_)) <;> try (refine hK2 _ _ _ a_allK ?_; clear hK2 K2))) <;> (refine hK _ _ _ ?_; clear hK K)) | with_reducible (first | refine nx_seq ?_ | refine nx_region ?_ | refine nl_nil ?_ | refine nq_then_n ?_ | refine nx_block ?_ | refine nx_skip ?_ | refine nx_exit ?_ | refine nx_ret ?_ | refine nq_then_x ?_ | refine nq_then_r ?_ | refine nq_blk_n ?_ | refine nq_blk_r ?_ | refine nq_blk_hit ?_ | refine nq_blk_miss rfl ?_ | refine nd_nil ?_) | refine nx_cond_t rfl ?_ | refine nx_cond_f rfl ?_ | refine nl_pass hF rfl rfl rfl ?_ | refine nd_pass rfl rfl rfl rfl rfl ?_ | refine nd_pass2 rfl rfl rfl a_nd a_allK rfl rfl ?_ | refine nd_pass3 rfl rfl rfl a_nd rfl rfl ?_ | (with_reducible refine hQ1 _ _ _ ?_; clear hQ1 Q1) )
        all_goals (first
          | (exfalso; dsimp only at *; omega)
          | refine nx_end [] rfl ((⟨-1, hf⟩ : { r : Int // AtB L id r })) (fun a w ha hw => res_tmp Tryz.results83 rfl ha) (by exact a_subR) (by exact a_holds2))
    · have hn2 := Rf20.take_no hx hno (by simpa using hh)
      clear hno
      repeat' (first | ((first | with_reducible refine nl_op rfl ?_ | refine nd_go rfl rfl rfl ?_); intro K hK; (first | ((first | refine on_E hF rfl rfl ?_ | refine od_E rfl rfl ?_ | refine od_R rfl rfl ?_); (first | refine ⟨_, a_yl, ?_⟩ | refine ⟨_, (by first | exact yl_fieldB (T := 33) (f := 0) (q := 0) rfl rfl (by kernel_rfl) | exact yl_fieldE (T := 33) (f := 0) (j := 0) rfl rfl a_sl a_om (by kernel_rfl) | exact yl_fieldB (T := 33) (f := 1) (q := 1) rfl rfl (by kernel_rfl) | exact yl_fieldE (T := 33) (f := 1) (j := 1) rfl rfl a_sl a_om (by kernel_rfl) | exact yl_fieldB (T := 33) (f := 4) (q := 4) rfl rfl (by kernel_rfl) | exact yl_fieldE (T := 33) (f := 4) (j := 4) rfl rfl a_sl a_om (by kernel_rfl) | exact yl_fieldB (T := 33) (f := 5) (q := 5) rfl rfl (by kernel_rfl) | exact yl_fieldE (T := 33) (f := 5) (j := 5) rfl rfl a_sl a_om (by kernel_rfl)), ?_⟩)) | ((first | refine on_Ec hF rfl rfl ?_ | refine od_Ec rfl rfl ?_); refine ⟨_, _, _, a_yc, ?_, ?_⟩ <;> (intro hc; try exact a_cut hc)) | ((first | (refine od_act a_nd ?_; intro K2 hK2) | refine od_last a_nd ?_ | skip); (first | (refine on_alloc hF rfl Tryz.zeroValue33 rfl rfl (fun B => ?_)) | (refine on_box hF rfl rfl rfl rfl (fun B => ?_)) | (refine on_store hF rfl rfl rfl rfl a_turn a_vof a_sz ?_) | (refine on_storeE hF rfl rfl rfl rfl a_turn a_om a_vof a_sz ?_) | (refine on_storeEF hF rfl rfl rfl rfl a_turn a_as (by decide) a_vof rfl ?_) | (refine on_storeF hF rfl rfl rfl rfl a_turn (by decide) a_vof rfl ?_)) <;> try (refine hK2 _ _ _ a_allK ?_; clear hK2 K2))) <;> (refine hK _ _ _ ?_; clear hK K)) | with_reducible (first | refine nx_seq ?_ | refine nx_region ?_ | refine nl_nil ?_ | refine nq_then_n ?_ | refine nx_block ?_ | refine nx_skip ?_ | refine nx_exit ?_ | refine nx_ret ?_ | refine nq_then_x ?_ | refine nq_then_r ?_ | refine nq_blk_n ?_ | refine nq_blk_r ?_ | refine nq_blk_hit ?_ | refine nq_blk_miss rfl ?_ | refine nd_nil ?_) | refine nx_cond_t rfl ?_ | refine nx_cond_f rfl ?_ | refine nl_pass hF rfl rfl rfl ?_ | refine nd_pass rfl rfl rfl rfl rfl ?_ | refine nd_pass2 rfl rfl rfl a_nd a_allK rfl rfl ?_ | refine nd_pass3 rfl rfl rfl a_nd rfl rfl ?_ | (with_reducible refine hQ1 _ _ _ ?_; clear hQ1 Q1) )
      all_goals (try (exfalso; dsimp only at *; omega))
      refine nx_again ⟨i + 1, by omega, hn2⟩ (by dsimp only; omega) (by exact a_sub) (by exact a_subR) (by exact a_holds)
  · have hf : AtB L id (-1) := .inl ⟨rfl, by
      have hby : byId L id = none := by
        unfold byId
        rw [List.find?_eq_none]
        intro y hy
        have := hno y (by rw [List.take_of_length_le (by omega)]; exact hy)
        simpa using this
      unfold atOk; rw [hby]; rfl⟩
    clear hno
    repeat' (first | ((first | with_reducible refine nl_op rfl ?_ | refine nd_go rfl rfl rfl ?_); intro K hK; (first | ((first | refine on_E hF rfl rfl ?_ | refine od_E rfl rfl ?_ | refine od_R rfl rfl ?_); (first | refine ⟨_, a_yl, ?_⟩ | refine ⟨_, (by first | exact yl_fieldB (T := 33) (f := 0) (q := 0) rfl rfl (by kernel_rfl) | exact yl_fieldE (T := 33) (f := 0) (j := 0) rfl rfl a_sl a_om (by kernel_rfl) | exact yl_fieldB (T := 33) (f := 1) (q := 1) rfl rfl (by kernel_rfl) | exact yl_fieldE (T := 33) (f := 1) (j := 1) rfl rfl a_sl a_om (by kernel_rfl) | exact yl_fieldB (T := 33) (f := 4) (q := 4) rfl rfl (by kernel_rfl) | exact yl_fieldE (T := 33) (f := 4) (j := 4) rfl rfl a_sl a_om (by kernel_rfl) | exact yl_fieldB (T := 33) (f := 5) (q := 5) rfl rfl (by kernel_rfl) | exact yl_fieldE (T := 33) (f := 5) (j := 5) rfl rfl a_sl a_om (by kernel_rfl)), ?_⟩)) | ((first | refine on_Ec hF rfl rfl ?_ | refine od_Ec rfl rfl ?_); refine ⟨_, _, _, a_yc, ?_, ?_⟩ <;> (intro hc; try exact a_cut hc)) | ((first | (refine od_act a_nd ?_; intro K2 hK2) | refine od_last a_nd ?_ | skip); (first | (refine on_alloc hF rfl Tryz.zeroValue33 rfl rfl (fun B => ?_)) | (refine on_box hF rfl rfl rfl rfl (fun B => ?_)) | (refine on_store hF rfl rfl rfl rfl a_turn a_vof a_sz ?_) | (refine on_storeE hF rfl rfl rfl rfl a_turn a_om a_vof a_sz ?_) | (refine on_storeEF hF rfl rfl rfl rfl a_turn a_as (by decide) a_vof rfl ?_) | (refine on_storeF hF rfl rfl rfl rfl a_turn (by decide) a_vof rfl ?_)) <;> try (refine hK2 _ _ _ a_allK ?_; clear hK2 K2))) <;> (refine hK _ _ _ ?_; clear hK K)) | with_reducible (first | refine nx_seq ?_ | refine nx_region ?_ | refine nl_nil ?_ | refine nq_then_n ?_ | refine nx_block ?_ | refine nx_skip ?_ | refine nx_exit ?_ | refine nx_ret ?_ | refine nq_then_x ?_ | refine nq_then_r ?_ | refine nq_blk_n ?_ | refine nq_blk_r ?_ | refine nq_blk_hit ?_ | refine nq_blk_miss rfl ?_ | refine nd_nil ?_) | refine nx_cond_t rfl ?_ | refine nx_cond_f rfl ?_ | refine nl_pass hF rfl rfl rfl ?_ | refine nd_pass rfl rfl rfl rfl rfl ?_ | refine nd_pass2 rfl rfl rfl a_nd a_allK rfl rfl ?_ | refine nd_pass3 rfl rfl rfl a_nd rfl rfl ?_ | (with_reducible refine hQ1 _ _ _ ?_; clear hQ1 Q1) )
    all_goals (try (exfalso; dsimp only at *; omega))
    refine nx_end [] rfl ((⟨-1, hf⟩ : { r : Int // AtB L id r })) (fun a w ha hw => res_tmp Tryz.results83 rfl ha) (by exact a_subR) (by exact a_holds2)
theorem at_bad {L : List It2} {id r : Int} (h : AtB L id r) (hn : atOk L id = false) : r = -1 := by
  rcases h with ⟨h, _⟩ | ⟨i, y, h1, h2, h3, h4⟩
  · exact h
  · unfold atOk atX at hn; rw [h3] at hn; simp [h4] at hn
theorem at_good {L : List It2} {id r : Int} (h : AtB L id r) (hn : atOk L id = true) : ∃ i : Nat, r = (i : Int) ∧ i < L.length ∧ (L.map It2.v)[i]? = some (atX L id).v ∧ (atX L id).id = id ∧ atX L id ∈ L := by
  rcases h with ⟨_, h⟩ | ⟨i, y, h1, h2, h3, h4⟩
  · rw [hn] at h; cases h
  · have hx : atX L id = y := by unfold atX; rw [h3]; rfl
    rw [hx]
    exact ⟨i, h1, (List.getElem?_eq_some_iff.1 h2).1, by rw [List.getElem?_map, h2]; rfl, (byId_spec h3).2, (byId_spec h3).1⟩
theorem at_is {L : List It2} {id : Int} (h : atOk L id = true) : (atX L id).id = id ∧ atX L id ∈ L := by
  unfold atOk at h
  cases hq : byId L id with
  | none => rw [hq] at h; simp at h
  | some y =>
    have hx : atX L id = y := by unfold atX; rw [hq]; rfl
    rw [hx]; exact ⟨(byId_spec hq).2, (byId_spec hq).1⟩
theorem chainUp_len1 (L : List It2) : ∀ (m : Nat) (x : It2) (xs : List It2), under L x.id ≤ m → chainUp L x = some xs → xs.length ≤ m + 1 := by
  intro m
  induction m with
  | zero =>
    intro x xs hm h
    by_cases hk : x.kind = 2
    · rw [chainUp_full hk] at h; injection h with h; subst h; simp
    · cases hu : upOk L x with
      | false => rw [chainUp_none hk hu] at h; cases h
      | true => have := under_lt (upOk_mem hu).2.1 (upOk_mem hu).2.2 rfl; omega
  | succ m ih =>
    intro x xs hm h
    by_cases hk : x.kind = 2
    · rw [chainUp_full hk] at h; injection h with h; subst h; simp
    · cases hu : upOk L x with
      | false => rw [chainUp_none hk hu] at h; cases h
      | true =>
        have hlt := under_lt (upOk_mem hu).2.1 (upOk_mem hu).2.2 rfl
        rw [chainUp_up hk hu] at h
        cases hy : chainUp L (atX L x.par) with
        | none => rw [hy] at h; cases h
        | some ys =>
          rw [hy] at h
          simp at h
          subst h
          have := ih _ ys (by omega) hy
          simp; omega
theorem chain_len1 (L : List It2) (id : Int) : (chainIds L id).length ≤ L.length + 1 := by
  unfold chainIds
  rw [List.length_map, List.length_reverse]
  cases hc : chainOf L id with
  | none => simp
  | some xs =>
    unfold chainOf at hc
    split at hc
    · have h1 := chainUp_len1 L _ _ xs (Nat.le_refl _) hc
      have h2 : under L (atX L id).id ≤ L.length := List.length_filter_le _ _
      simp only [Option.getD_some]; omega
    · cases hc
theorem chain_none {L : List It2} {id : Int} (h : chainOf L id = none) : chainIds L id = [] := by unfold chainIds; rw [h]; rfl
set_option maxRecDepth 100000 in
set_option maxHeartbeats 4000000 in
theorem of_ct (s : Value) (hs : IsSl s) (L : List It2) (hok : ∀ x ∈ L, x.ok) (hm : L.length ≤ 1000) : ∀ (m : Nat) (id : Int), under L id < m → ∀ (W0 : World) (X : Nat → Prop) (R C : List Ch), SlC 9 s (L.map It2.v) ∈ R →
    Ct Tryz.prog 60 [s, .int .i64 id] W0 X R C SV (fun v => .tuple #[v.1, .bool (chainOf L id).isSome]) (fun _ => R) (fun v => RowC 3 1 v.1 ((chainIds L id).map (.int .i64)) :: C) := by
  have hs0 := hs
  have hlv : (L.map It2.v).length = L.length := by simp
  have hm88 : L.length * 88 ≤ 140737488355328 := by omega
  have hvz := zIt2.vof zIt2_ok
  intro m
  induction m with
  | zero => intro id h; omega
  | succ m ih =>
    intro id hlt W0 X R C hsl w hw
    have hF := isWide_wide
    have ac := fun (W0 : World) (X : Nat → Prop) (R C : List Ch) h => at_ct (W0 := W0) (X := X) (R := R) (C := C) s hs0 L hok id h hm88
    cases hat : atOk L id with
    | false =>
      have hc : chainOf L id = none := by unfold chainOf; rw [if_neg (by rw [hat]; simp)]
      rw [hc, chain_none hc]
      simp only [Option.isSome_none, List.map_nil]
      refine calls_nx Tryz.func60 rfl Tryz.ntmps60 rfl ?_ hw
      repeat' (first | ((first | with_reducible refine nl_op rfl ?_ | refine nd_go rfl rfl rfl ?_); intro K hK; (first | ((first | refine on_E hF rfl rfl ?_ | refine od_E rfl rfl ?_ | refine od_R rfl rfl ?_); (first | refine ⟨_, a_yl, ?_⟩ | refine ⟨_, (by first | exact yl_fieldB (T := 33) (f := 0) (q := 0) rfl rfl (by kernel_rfl) | exact yl_fieldE (T := 33) (f := 0) (j := 0) rfl rfl a_sl a_om (by kernel_rfl) | exact yl_fieldB (T := 33) (f := 1) (q := 1) rfl rfl (by kernel_rfl) | exact yl_fieldE (T := 33) (f := 1) (j := 1) rfl rfl a_sl a_om (by kernel_rfl) | exact yl_fieldB (T := 33) (f := 2) (q := 2) rfl rfl (by kernel_rfl) | exact yl_fieldE (T := 33) (f := 2) (j := 2) rfl rfl a_sl a_om (by kernel_rfl) | exact yl_fieldB (T := 33) (f := 4) (q := 4) rfl rfl (by kernel_rfl) | exact yl_fieldE (T := 33) (f := 4) (j := 4) rfl rfl a_sl a_om (by kernel_rfl) | exact yl_fieldB (T := 33) (f := 5) (q := 5) rfl rfl (by kernel_rfl) | exact yl_fieldE (T := 33) (f := 5) (j := 5) rfl rfl a_sl a_om (by kernel_rfl) | exact yl_fieldB (T := 33) (f := 6) (q := 6) rfl rfl (by kernel_rfl) | exact yl_fieldE (T := 33) (f := 6) (j := 6) rfl rfl a_sl a_om (by kernel_rfl)), ?_⟩)) | ((first | refine on_Ec hF rfl rfl ?_ | refine od_Ec rfl rfl ?_); refine ⟨_, _, _, a_yc, ?_, ?_⟩ <;> (intro hc; try exact a_cut hc)) | ((first | (refine od_act a_nd ?_; intro K2 hK2) | refine od_last a_nd ?_ | skip); (first | (refine on_callG hF (enters_of Tryz.func83 (by kernel_rfl) rfl) rfl rfl rfl rfl (ac _ _ _ _ (by exact a_mem)) (fun r => ?_); obtain ⟨r, hr⟩ := r; dsimp only; obtain rfl := at_bad hr hat) | (refine on_buildSlice (T := 25) (e := 3) (k := 1) (by_ := 8) hF rfl rfl rfl rfl rfl rfl (by kernel_rfl) a_cel (Nat.le_of_ble_eq_true rfl) (fun b => ?_)) | (refine on_append (T := 25) (e := 3) (k := 1) (by_ := 8) hF rfl rfl rfl rfl rfl a_pick (by kernel_rfl) a_sl a_cel a_bnd a_bnd (fun v => ?_)) | (refine on_alloc hF rfl Tryz.zeroValue33 rfl rfl (fun B => ?_)) | (refine on_box hF rfl rfl rfl rfl (fun B => ?_)) | (refine on_store hF rfl rfl rfl rfl a_turn a_vof a_sz ?_) | (refine on_storeE hF rfl rfl rfl rfl a_turn a_om a_vof a_sz ?_) | (refine on_storeEF hF rfl rfl rfl rfl a_turn a_as (by decide) a_vof rfl ?_) | (refine on_storeF hF rfl rfl rfl rfl a_turn (by decide) a_vof rfl ?_)) <;> try (refine hK2 _ _ _ a_allK ?_; clear hK2 K2))) <;> (refine hK _ _ _ ?_; clear hK K)) | with_reducible (first | refine nx_seq ?_ | refine nx_region ?_ | refine nl_nil ?_ | refine nq_then_n ?_ | refine nx_block ?_ | refine nx_skip ?_ | refine nx_exit ?_ | refine nx_ret ?_ | refine nq_then_x ?_ | refine nq_then_r ?_ | refine nq_blk_n ?_ | refine nq_blk_r ?_ | refine nq_blk_hit ?_ | refine nq_blk_miss rfl ?_ | refine nd_nil ?_) | refine nx_cond_t rfl ?_ | refine nx_cond_f rfl ?_ | refine nl_pass hF rfl rfl rfl ?_ | refine nd_pass rfl rfl rfl rfl rfl ?_ | refine nd_pass2 rfl rfl rfl a_nd a_allK rfl rfl ?_ | refine nd_pass3 rfl rfl rfl a_nd rfl rfl ?_ | (with_reducible refine hQ1 _ _ _ ?_; clear hQ1 Q1) | (refine nd_region (id := 8) hF [0, 0, 0, 0, 0, 1, 1, 1, 0, 1, 0, 0, 0, 0, 0, 1, 1, 1, 0, 0, 0, 0, 0, 0, 1, 1, 1, 0, 1, 0, 0] [0, 1, 2, 3, 4, 5, 6, 7, 8, 9, 10, 11, 12, 13, 14, 15, 16, 17, 18, 19, 20, 21, 22, 23, 24, 25, 26, 27, 28, 29, 30] _ _ (by kernel_rfl) (by kernel_rfl) sub2_same ?_; intro Q1 hQ1))
      all_goals (try (exfalso; dsimp only at *; omega))
      refine nx_nilRow 3 1 ?_
      refine nx_end [] rfl ((⟨.slice none 0 0, _, _, _, rfl⟩ : SV)) (fun a w ha hw => res_tmp2 Tryz.results60 rfl rfl ha) (by exact a_subR) (by exact a_holds2)
    | true =>
      obtain ⟨hid, hxL⟩ := at_is hat
      have hc : chainOf L id = chainUp L (atX L id) := by unfold chainOf; rw [if_pos hat]
      have hg := fun r h => at_good (r := r) h hat
      obtain ⟨x, hx⟩ : ∃ x, atX L id = x := ⟨_, rfl⟩
      rw [hx] at hid hxL hc hg
      have hvx := x.vof (hok x hxL)
      have hcid : Cel 1 [Value.int .i64 id] := Rf20.celI1 [id]
      clear hx
      by_cases hk : x.kind = 2
      · rw [chainUp_full hk] at hc
        have hci : chainIds L id = [id] := by unfold chainIds; rw [hc]; simp [hid]
        rw [hc, hci]
        simp only [Option.isSome_some, List.map_cons, List.map_nil]
        clear ih hok
        refine calls_nx Tryz.func60 rfl Tryz.ntmps60 rfl ?_ hw
        repeat' (first | ((first | with_reducible refine nl_op rfl ?_ | refine nd_go rfl rfl rfl ?_); intro K hK; (first | ((first | refine on_E hF rfl rfl ?_ | refine od_E rfl rfl ?_ | refine od_R rfl rfl ?_); (first | refine ⟨_, a_yl, ?_⟩ | refine ⟨_, (by first | exact yl_fieldB (T := 33) (f := 0) (q := 0) rfl rfl (by kernel_rfl) | exact yl_fieldE (T := 33) (f := 0) (j := 0) rfl rfl a_sl a_om (by kernel_rfl) | exact yl_fieldB (T := 33) (f := 1) (q := 1) rfl rfl (by kernel_rfl) | exact yl_fieldE (T := 33) (f := 1) (j := 1) rfl rfl a_sl a_om (by kernel_rfl) | exact yl_fieldB (T := 33) (f := 2) (q := 2) rfl rfl (by kernel_rfl) | exact yl_fieldE (T := 33) (f := 2) (j := 2) rfl rfl a_sl a_om (by kernel_rfl) | exact yl_fieldB (T := 33) (f := 4) (q := 4) rfl rfl (by kernel_rfl) | exact yl_fieldE (T := 33) (f := 4) (j := 4) rfl rfl a_sl a_om (by kernel_rfl) | exact yl_fieldB (T := 33) (f := 5) (q := 5) rfl rfl (by kernel_rfl) | exact yl_fieldE (T := 33) (f := 5) (j := 5) rfl rfl a_sl a_om (by kernel_rfl) | exact yl_fieldB (T := 33) (f := 6) (q := 6) rfl rfl (by kernel_rfl) | exact yl_fieldE (T := 33) (f := 6) (j := 6) rfl rfl a_sl a_om (by kernel_rfl)), ?_⟩)) | ((first | refine on_Ec hF rfl rfl ?_ | refine od_Ec rfl rfl ?_); refine ⟨_, _, _, a_yc, ?_, ?_⟩ <;> (intro hc; try exact a_cut hc)) | ((first | (refine od_act a_nd ?_; intro K2 hK2) | refine od_last a_nd ?_ | skip); (first | (refine on_callG hF (enters_of Tryz.func83 (by kernel_rfl) rfl) rfl rfl rfl rfl (ac _ _ _ _ (by exact a_mem)) (fun r => ?_); obtain ⟨r, hr⟩ := r; dsimp only; obtain ⟨i, hri, hil, hxv, _⟩ := hg r hr; subst hri) | (refine on_buildSlice (e := 3) (k := 1) (by_ := 8) hF rfl rfl rfl rfl rfl rfl (by kernel_rfl) hcid (Nat.le_of_ble_eq_true rfl) (fun bq => ?_)) | (refine on_buildSlice (T := 25) (e := 3) (k := 1) (by_ := 8) hF rfl rfl rfl rfl rfl rfl (by kernel_rfl) a_cel (Nat.le_of_ble_eq_true rfl) (fun b => ?_)) | (refine on_append (T := 25) (e := 3) (k := 1) (by_ := 8) hF rfl rfl rfl rfl rfl a_pick (by kernel_rfl) a_sl a_cel a_bnd a_bnd (fun v => ?_)) | (refine on_alloc hF rfl Tryz.zeroValue33 rfl rfl (fun B => ?_)) | (refine on_box hF rfl rfl rfl rfl (fun B => ?_)) | (refine on_store hF rfl rfl rfl rfl a_turn a_vof a_sz ?_) | (refine on_storeE hF rfl rfl rfl rfl a_turn a_om a_vof a_sz ?_) | (refine on_storeEF hF rfl rfl rfl rfl a_turn a_as (by decide) a_vof rfl ?_) | (refine on_storeF hF rfl rfl rfl rfl a_turn (by decide) a_vof rfl ?_)) <;> try (refine hK2 _ _ _ a_allK ?_; clear hK2 K2))) <;> (refine hK _ _ _ ?_; clear hK K)) | with_reducible (first | refine nx_seq ?_ | refine nx_region ?_ | refine nl_nil ?_ | refine nq_then_n ?_ | refine nx_block ?_ | refine nx_skip ?_ | refine nx_exit ?_ | refine nx_ret ?_ | refine nq_then_x ?_ | refine nq_then_r ?_ | refine nq_blk_n ?_ | refine nq_blk_r ?_ | refine nq_blk_hit ?_ | refine nq_blk_miss rfl ?_ | refine nd_nil ?_) | refine nx_cond_t rfl ?_ | refine nx_cond_f rfl ?_ | refine nl_pass hF rfl rfl rfl ?_ | refine nd_pass rfl rfl rfl rfl rfl ?_ | refine nd_pass2 rfl rfl rfl a_nd a_allK rfl rfl ?_ | refine nd_pass3 rfl rfl rfl a_nd rfl rfl ?_ | (with_reducible refine hQ1 _ _ _ ?_; clear hQ1 Q1) | (refine nd_region (id := 8) hF [0, 0, 0, 0, 0, 1, 1, 1, 0, 1, 0, 0, 0, 0, 0, 1, 1, 1, 0, 0, 0, 0, 0, 0, 1, 1, 1, 0, 1, 0, 0] [0, 1, 2, 3, 4, 5, 6, 7, 8, 9, 10, 11, 12, 13, 14, 15, 16, 17, 18, 19, 20, 21, 22, 23, 24, 25, 26, 27, 28, 29, 30] _ _ (by kernel_rfl) (by kernel_rfl) sub2_same ?_; intro Q1 hQ1))
        all_goals (try (exfalso; dsimp only at *; omega))
        refine nx_end [] rfl ((⟨.slice (some ⟨bq, 0, none⟩) 1 1, _, _, _, rfl⟩ : SV)) (fun a w ha hw => res_tmp2 Tryz.results60 rfl rfl ha) (by exact a_subR) (by exact a_holds2)
      · have ap := fun (W0 : World) (X : Nat → Prop) (R C : List Ch) h => at_ct (W0 := W0) (X := X) (R := R) (C := C) s hs0 L hok x.par h hm88
        cases hpo : atOk L x.par with
        | false =>
          have hu : upOk L x = false := by unfold upOk; rw [hpo]; rfl
          rw [chainUp_none hk hu] at hc
          rw [hc, chain_none hc]
          simp only [Option.isSome_none, List.map_nil]
          clear ih hok
          refine calls_nx Tryz.func60 rfl Tryz.ntmps60 rfl ?_ hw
          repeat' (first | ((first | with_reducible refine nl_op rfl ?_ | refine nd_go rfl rfl rfl ?_); intro K hK; (first | ((first | refine on_E hF rfl rfl ?_ | refine od_E rfl rfl ?_ | refine od_R rfl rfl ?_); (first | refine ⟨_, a_yl, ?_⟩ | refine ⟨_, (by first | exact yl_fieldB (T := 33) (f := 0) (q := 0) rfl rfl (by kernel_rfl) | exact yl_fieldE (T := 33) (f := 0) (j := 0) rfl rfl a_sl a_om (by kernel_rfl) | exact yl_fieldB (T := 33) (f := 1) (q := 1) rfl rfl (by kernel_rfl) | exact yl_fieldE (T := 33) (f := 1) (j := 1) rfl rfl a_sl a_om (by kernel_rfl) | exact yl_fieldB (T := 33) (f := 2) (q := 2) rfl rfl (by kernel_rfl) | exact yl_fieldE (T := 33) (f := 2) (j := 2) rfl rfl a_sl a_om (by kernel_rfl) | exact yl_fieldB (T := 33) (f := 4) (q := 4) rfl rfl (by kernel_rfl) | exact yl_fieldE (T := 33) (f := 4) (j := 4) rfl rfl a_sl a_om (by kernel_rfl) | exact yl_fieldB (T := 33) (f := 5) (q := 5) rfl rfl (by kernel_rfl) | exact yl_fieldE (T := 33) (f := 5) (j := 5) rfl rfl a_sl a_om (by kernel_rfl) | exact yl_fieldB (T := 33) (f := 6) (q := 6) rfl rfl (by kernel_rfl) | exact yl_fieldE (T := 33) (f := 6) (j := 6) rfl rfl a_sl a_om (by kernel_rfl)), ?_⟩)) | ((first | refine on_Ec hF rfl rfl ?_ | refine od_Ec rfl rfl ?_); refine ⟨_, _, _, a_yc, ?_, ?_⟩ <;> (intro hc; try exact a_cut hc)) | ((first | (refine od_act a_nd ?_; intro K2 hK2) | refine od_last a_nd ?_ | skip); (first | (refine on_callG (vs := [s, .int .i64 id]) hF (enters_of Tryz.func83 (by kernel_rfl) rfl) rfl rfl rfl rfl (ac _ _ _ _ (by exact a_mem)) (fun r => ?_); obtain ⟨r, hr⟩ := r; dsimp only; obtain ⟨i, hri, hil, hxv, _⟩ := hg r hr; subst hri) | (refine on_callG (vs := [s, .int .i64 x.par]) hF (enters_of Tryz.func83 (by kernel_rfl) rfl) rfl rfl rfl rfl (ap _ _ _ _ (by exact a_mem)) (fun r2 => ?_); obtain ⟨r2, hr2⟩ := r2; dsimp only; obtain rfl := at_bad hr2 hpo) | (refine on_buildSlice (T := 25) (e := 3) (k := 1) (by_ := 8) hF rfl rfl rfl rfl rfl rfl (by kernel_rfl) a_cel (Nat.le_of_ble_eq_true rfl) (fun b => ?_)) | (refine on_append (T := 25) (e := 3) (k := 1) (by_ := 8) hF rfl rfl rfl rfl rfl a_pick (by kernel_rfl) a_sl a_cel a_bnd a_bnd (fun v => ?_)) | (refine on_alloc hF rfl Tryz.zeroValue33 rfl rfl (fun B => ?_)) | (refine on_box hF rfl rfl rfl rfl (fun B => ?_)) | (refine on_store hF rfl rfl rfl rfl a_turn a_vof a_sz ?_) | (refine on_storeE hF rfl rfl rfl rfl a_turn a_om a_vof a_sz ?_) | (refine on_storeEF hF rfl rfl rfl rfl a_turn a_as (by decide) a_vof rfl ?_) | (refine on_storeF hF rfl rfl rfl rfl a_turn (by decide) a_vof rfl ?_)) <;> try (refine hK2 _ _ _ a_allK ?_; clear hK2 K2))) <;> (refine hK _ _ _ ?_; clear hK K)) | with_reducible (first | refine nx_seq ?_ | refine nx_region ?_ | refine nl_nil ?_ | refine nq_then_n ?_ | refine nx_block ?_ | refine nx_skip ?_ | refine nx_exit ?_ | refine nx_ret ?_ | refine nq_then_x ?_ | refine nq_then_r ?_ | refine nq_blk_n ?_ | refine nq_blk_r ?_ | refine nq_blk_hit ?_ | refine nq_blk_miss rfl ?_ | refine nd_nil ?_) | refine nx_cond_t rfl ?_ | refine nx_cond_f rfl ?_ | refine nl_pass hF rfl rfl rfl ?_ | refine nd_pass rfl rfl rfl rfl rfl ?_ | refine nd_pass2 rfl rfl rfl a_nd a_allK rfl rfl ?_ | refine nd_pass3 rfl rfl rfl a_nd rfl rfl ?_ | (with_reducible refine hQ1 _ _ _ ?_; clear hQ1 Q1) | (refine nd_region (id := 8) hF [0, 0, 0, 0, 0, 1, 1, 1, 0, 1, 0, 0, 0, 0, 0, 1, 1, 1, 0, 0, 0, 0, 0, 0, 1, 1, 1, 0, 1, 0, 0] [0, 1, 2, 3, 4, 5, 6, 7, 8, 9, 10, 11, 12, 13, 14, 15, 16, 17, 18, 19, 20, 21, 22, 23, 24, 25, 26, 27, 28, 29, 30] _ _ (by kernel_rfl) (by kernel_rfl) sub2_same ?_; intro Q1 hQ1))
          all_goals (try (exfalso; dsimp only at *; omega))
          refine nx_nilRow 3 1 ?_
          refine nx_end [] rfl ((⟨.slice none 0 0, _, _, _, rfl⟩ : SV)) (fun a w ha hw => res_tmp2 Tryz.results60 rfl rfl ha) (by exact a_subR) (by exact a_holds2)
        | true =>
          obtain ⟨hyid, hyL⟩ := at_is hpo
          have hg2 := fun r h => at_good (r := r) h hpo
          have hcp : chainOf L x.par = chainUp L (atX L x.par) := by unfold chainOf; rw [if_pos hpo]
          have huu : upOk L x = (decide ((atX L x.par).tl = x.tl) && decide ((atX L x.par).id < x.id) && decide ((atX L x.par).b ≤ x.a)) := by unfold upOk upB; rw [hpo]; rfl
          have hup := chainUp_up (L := L) (x := x) hk
          have hun := chainUp_none (L := L) (x := x) hk
          obtain ⟨y, hy⟩ : ∃ y, atX L x.par = y := ⟨_, rfl⟩
          rw [hy] at hyid hyL hg2 hcp huu hup
          have hvy := y.vof (hok y hyL)
          clear hy
          by_cases hcond : y.tl = x.tl ∧ y.id < x.id ∧ y.b ≤ x.a
          · obtain ⟨h1, h2, h3⟩ := hcond
            have hu : upOk L x = true := by rw [huu]; simp [h1, h2, h3]
            have hul := under_lt (L := L) (n := id) (m := x.par) hyL (by omega) hyid.symm
            have ic := fun (W0 : World) (X : Nat → Prop) (R C : List Ch) h => ih x.par (by omega) W0 X R C h
            rw [hup hu, ← hcp] at hc
            clear ih hok huu hup hun hcp
            have hpl : (chainIds L x.par).length ≤ L.length + 1 := chain_len1 L x.par
            cases hcc : chainOf L x.par with
            | none =>
              rw [hcc] at hc ic
              rw [chain_none hcc] at ic
              simp only [Option.map_none] at hc
              rw [hc, chain_none hc]
              simp only [Option.isSome_none, List.map_nil] at ic ⊢
              refine calls_nx Tryz.func60 rfl Tryz.ntmps60 rfl ?_ hw
              repeat' (first | ((first | with_reducible refine nl_op rfl ?_ | refine nd_go rfl rfl rfl ?_); intro K hK; (first | ((first | refine on_E hF rfl rfl ?_ | refine od_E rfl rfl ?_ | refine od_R rfl rfl ?_); (first | refine ⟨_, a_yl, ?_⟩ | refine ⟨_, (by first | exact yl_fieldB (T := 33) (f := 0) (q := 0) rfl rfl (by kernel_rfl) | exact yl_fieldE (T := 33) (f := 0) (j := 0) rfl rfl a_sl a_om (by kernel_rfl) | exact yl_fieldB (T := 33) (f := 1) (q := 1) rfl rfl (by kernel_rfl) | exact yl_fieldE (T := 33) (f := 1) (j := 1) rfl rfl a_sl a_om (by kernel_rfl) | exact yl_fieldB (T := 33) (f := 2) (q := 2) rfl rfl (by kernel_rfl) | exact yl_fieldE (T := 33) (f := 2) (j := 2) rfl rfl a_sl a_om (by kernel_rfl) | exact yl_fieldB (T := 33) (f := 4) (q := 4) rfl rfl (by kernel_rfl) | exact yl_fieldE (T := 33) (f := 4) (j := 4) rfl rfl a_sl a_om (by kernel_rfl) | exact yl_fieldB (T := 33) (f := 5) (q := 5) rfl rfl (by kernel_rfl) | exact yl_fieldE (T := 33) (f := 5) (j := 5) rfl rfl a_sl a_om (by kernel_rfl) | exact yl_fieldB (T := 33) (f := 6) (q := 6) rfl rfl (by kernel_rfl) | exact yl_fieldE (T := 33) (f := 6) (j := 6) rfl rfl a_sl a_om (by kernel_rfl)), ?_⟩)) | ((first | refine on_Ec hF rfl rfl ?_ | refine od_Ec rfl rfl ?_); refine ⟨_, _, _, a_yc, ?_, ?_⟩ <;> (intro hc; try exact a_cut hc)) | ((first | (refine od_act a_nd ?_; intro K2 hK2) | refine od_last a_nd ?_ | skip); (first | (refine on_callG (vs := [s, .int .i64 id]) hF (enters_of Tryz.func83 (by kernel_rfl) rfl) rfl rfl rfl rfl (ac _ _ _ _ (by exact a_mem)) (fun r => ?_); obtain ⟨r, hr⟩ := r; dsimp only; obtain ⟨i, hri, hil, hxv, _⟩ := hg r hr; subst hri) | (refine on_callG (vs := [s, .int .i64 x.par]) hF (enters_of Tryz.func83 (by kernel_rfl) rfl) rfl rfl rfl rfl (ap _ _ _ _ (by exact a_mem)) (fun r2 => ?_); obtain ⟨r2, hr2⟩ := r2; dsimp only; obtain ⟨i2, hri2, hil2, hyv, _⟩ := hg2 r2 hr2; subst hri2) | (refine on_callG hF (enters_of Tryz.func60 (by kernel_rfl) rfl) rfl rfl rfl rfl (ic _ _ _ _ (by exact a_mem)) (fun v => ?_)) | (refine on_buildSlice (T := 25) (e := 3) (k := 1) (by_ := 8) hF rfl rfl rfl rfl rfl rfl (by kernel_rfl) a_cel (Nat.le_of_ble_eq_true rfl) (fun b => ?_)) | (refine on_append (T := 25) (e := 3) (k := 1) (by_ := 8) hF rfl rfl rfl rfl rfl a_pick (by kernel_rfl) a_sl a_cel a_bnd a_bnd (fun v => ?_)) | (refine on_alloc hF rfl Tryz.zeroValue33 rfl rfl (fun B => ?_)) | (refine on_box hF rfl rfl rfl rfl (fun B => ?_)) | (refine on_store hF rfl rfl rfl rfl a_turn a_vof a_sz ?_) | (refine on_storeE hF rfl rfl rfl rfl a_turn a_om a_vof a_sz ?_) | (refine on_storeEF hF rfl rfl rfl rfl a_turn a_as (by decide) a_vof rfl ?_) | (refine on_storeF hF rfl rfl rfl rfl a_turn (by decide) a_vof rfl ?_)) <;> try (refine hK2 _ _ _ a_allK ?_; clear hK2 K2))) <;> (refine hK _ _ _ ?_; clear hK K)) | with_reducible (first | refine nx_seq ?_ | refine nx_region ?_ | refine nl_nil ?_ | refine nq_then_n ?_ | refine nx_block ?_ | refine nx_skip ?_ | refine nx_exit ?_ | refine nx_ret ?_ | refine nq_then_x ?_ | refine nq_then_r ?_ | refine nq_blk_n ?_ | refine nq_blk_r ?_ | refine nq_blk_hit ?_ | refine nq_blk_miss rfl ?_ | refine nd_nil ?_) | refine nx_cond_t rfl ?_ | refine nx_cond_f rfl ?_ | refine nl_pass hF rfl rfl rfl ?_ | refine nd_pass rfl rfl rfl rfl rfl ?_ | refine nd_pass2 rfl rfl rfl a_nd a_allK rfl rfl ?_ | refine nd_pass3 rfl rfl rfl a_nd rfl rfl ?_ | (with_reducible refine hQ1 _ _ _ ?_; clear hQ1 Q1) | (refine nd_region (id := 8) hF [0, 0, 0, 0, 0, 1, 1, 1, 0, 1, 0, 0, 0, 0, 0, 1, 1, 1, 0, 0, 0, 0, 0, 0, 1, 1, 1, 0, 1, 0, 0] [0, 1, 2, 3, 4, 5, 6, 7, 8, 9, 10, 11, 12, 13, 14, 15, 16, 17, 18, 19, 20, 21, 22, 23, 24, 25, 26, 27, 28, 29, 30] _ _ (by kernel_rfl) (by kernel_rfl) sub2_same ?_; intro Q1 hQ1))
              all_goals (try (exfalso; dsimp only at *; omega))
              refine nx_nilRow 3 1 ?_
              refine nx_end [] rfl ((⟨.slice none 0 0, _, _, _, rfl⟩ : SV)) (fun a w ha hw => res_tmp2 Tryz.results60 rfl rfl ha) (by exact a_subR) (by exact a_holds2)
            | some ys =>
              have hci : chainIds L id = chainIds L x.par ++ [id] := by unfold chainIds; rw [hc, hcc]; simp [hid]
              rw [hci]
              rw [hcc] at hc ic
              rw [hc]
              obtain ⟨zs, hzs⟩ : ∃ zs, chainIds L x.par = zs := ⟨_, rfl⟩
              rw [hzs] at ic hpl ⊢
              simp only [Option.isSome_some, Option.map_some, List.map_append, List.map_cons, List.map_nil] at ic ⊢
              have hcz := Rf20.celI1 zs
              have hl1 : ([] : List Value).length + (zs.map (Value.int .i64)).length ≤ maxLen := by unfold maxLen; simp; omega
              have hl2 : (([] : List Value).length + (zs.map (Value.int .i64)).length) * 8 ≤ 140737488355328 := by simp; omega
              have hl3 : (zs.map (Value.int .i64)).length + [Value.int .i64 id].length ≤ maxLen := by unfold maxLen; simp; omega
              have hl4 : ((zs.map (Value.int .i64)).length + [Value.int .i64 id].length) * 8 ≤ 140737488355328 := by simp; omega
              clear hc hcc hci hzs
              refine calls_nx Tryz.func60 rfl Tryz.ntmps60 rfl ?_ hw
              repeat' (first | ((first | with_reducible refine nl_op rfl ?_ | refine nd_go rfl rfl rfl ?_); intro K hK; (first | ((first | refine on_E hF rfl rfl ?_ | refine od_E rfl rfl ?_ | refine od_R rfl rfl ?_); (first | refine ⟨_, a_yl, ?_⟩ | refine ⟨_, (by first | exact yl_fieldB (T := 33) (f := 0) (q := 0) rfl rfl (by kernel_rfl) | exact yl_fieldE (T := 33) (f := 0) (j := 0) rfl rfl a_sl a_om (by kernel_rfl) | exact yl_fieldB (T := 33) (f := 1) (q := 1) rfl rfl (by kernel_rfl) | exact yl_fieldE (T := 33) (f := 1) (j := 1) rfl rfl a_sl a_om (by kernel_rfl) | exact yl_fieldB (T := 33) (f := 2) (q := 2) rfl rfl (by kernel_rfl) | exact yl_fieldE (T := 33) (f := 2) (j := 2) rfl rfl a_sl a_om (by kernel_rfl) | exact yl_fieldB (T := 33) (f := 4) (q := 4) rfl rfl (by kernel_rfl) | exact yl_fieldE (T := 33) (f := 4) (j := 4) rfl rfl a_sl a_om (by kernel_rfl) | exact yl_fieldB (T := 33) (f := 5) (q := 5) rfl rfl (by kernel_rfl) | exact yl_fieldE (T := 33) (f := 5) (j := 5) rfl rfl a_sl a_om (by kernel_rfl) | exact yl_fieldB (T := 33) (f := 6) (q := 6) rfl rfl (by kernel_rfl) | exact yl_fieldE (T := 33) (f := 6) (j := 6) rfl rfl a_sl a_om (by kernel_rfl)), ?_⟩)) | ((first | refine on_Ec hF rfl rfl ?_ | refine od_Ec rfl rfl ?_); refine ⟨_, _, _, a_yc, ?_, ?_⟩ <;> (intro hc; try exact a_cut hc)) | ((first | (refine od_act a_nd ?_; intro K2 hK2) | refine od_last a_nd ?_ | skip); (first | (refine on_callG (vs := [s, .int .i64 id]) hF (enters_of Tryz.func83 (by kernel_rfl) rfl) rfl rfl rfl rfl (ac _ _ _ _ (by exact a_mem)) (fun r => ?_); obtain ⟨r, hr⟩ := r; dsimp only; obtain ⟨i, hri, hil, hxv, _⟩ := hg r hr; subst hri) | (refine on_callG (vs := [s, .int .i64 x.par]) hF (enters_of Tryz.func83 (by kernel_rfl) rfl) rfl rfl rfl rfl (ap _ _ _ _ (by exact a_mem)) (fun r2 => ?_); obtain ⟨r2, hr2⟩ := r2; dsimp only; obtain ⟨i2, hri2, hil2, hyv, _⟩ := hg2 r2 hr2; subst hri2) | (refine on_callG hF (enters_of Tryz.func60 (by kernel_rfl) rfl) rfl rfl rfl rfl (ic _ _ _ _ (by exact a_mem)) (fun v => ?_)) | (refine on_buildSlice (e := 3) (k := 1) (by_ := 8) (vs := []) hF rfl rfl rfl rfl rfl rfl (by kernel_rfl) Cel.nil (Nat.le_of_ble_eq_true rfl) (fun bq => ?_)) | (refine on_buildSlice (e := 3) (k := 1) (by_ := 8) (vs := [_]) hF rfl rfl rfl rfl rfl rfl (by kernel_rfl) hcid (Nat.le_of_ble_eq_true rfl) (fun bq2 => ?_)) | (refine on_append (e := 3) (k := 1) (by_ := 8) (xs := []) (ys := zs.map (.int .i64)) hF rfl rfl rfl rfl rfl a_pick (by kernel_rfl) a_sl hcz hl1 hl2 (fun v2 => ?_); rw [List.nil_append]) | (refine on_append (e := 3) (k := 1) (by_ := 8) (xs := zs.map (.int .i64)) (ys := [.int .i64 id]) hF rfl rfl rfl rfl rfl a_pick (by kernel_rfl) a_sl hcid hl3 hl4 (fun v3 => ?_)) | (refine on_buildSlice (T := 25) (e := 3) (k := 1) (by_ := 8) hF rfl rfl rfl rfl rfl rfl (by kernel_rfl) a_cel (Nat.le_of_ble_eq_true rfl) (fun b => ?_)) | (refine on_append (T := 25) (e := 3) (k := 1) (by_ := 8) hF rfl rfl rfl rfl rfl a_pick (by kernel_rfl) a_sl a_cel a_bnd a_bnd (fun v => ?_)) | (refine on_alloc hF rfl Tryz.zeroValue33 rfl rfl (fun B => ?_)) | (refine on_box hF rfl rfl rfl rfl (fun B => ?_)) | (refine on_store hF rfl rfl rfl rfl a_turn a_vof a_sz ?_) | (refine on_storeE hF rfl rfl rfl rfl a_turn a_om a_vof a_sz ?_) | (refine on_storeEF hF rfl rfl rfl rfl a_turn a_as (by decide) a_vof rfl ?_) | (refine on_storeF hF rfl rfl rfl rfl a_turn (by decide) a_vof rfl ?_)) <;> try (refine hK2 _ _ _ a_allK ?_; clear hK2 K2))) <;> (refine hK _ _ _ ?_; clear hK K)) | with_reducible (first | refine nx_seq ?_ | refine nx_region ?_ | refine nl_nil ?_ | refine nq_then_n ?_ | refine nx_block ?_ | refine nx_skip ?_ | refine nx_exit ?_ | refine nx_ret ?_ | refine nq_then_x ?_ | refine nq_then_r ?_ | refine nq_blk_n ?_ | refine nq_blk_r ?_ | refine nq_blk_hit ?_ | refine nq_blk_miss rfl ?_ | refine nd_nil ?_) | refine nx_cond_t rfl ?_ | refine nx_cond_f rfl ?_ | refine nl_pass hF rfl rfl rfl ?_ | refine nd_pass rfl rfl rfl rfl rfl ?_ | refine nd_pass2 rfl rfl rfl a_nd a_allK rfl rfl ?_ | refine nd_pass3 rfl rfl rfl a_nd rfl rfl ?_ | (with_reducible refine hQ1 _ _ _ ?_; clear hQ1 Q1) | (refine nd_region (id := 8) hF [0, 0, 0, 0, 0, 1, 1, 1, 0, 1, 0, 0, 0, 0, 0, 1, 1, 1, 0, 0, 0, 0, 0, 0, 1, 1, 1, 0, 1, 0, 0] [0, 1, 2, 3, 4, 5, 6, 7, 8, 9, 10, 11, 12, 13, 14, 15, 16, 17, 18, 19, 20, 21, 22, 23, 24, 25, 26, 27, 28, 29, 30] _ _ (by kernel_rfl) (by kernel_rfl) sub2_same ?_; intro Q1 hQ1))
              all_goals (try (exfalso; dsimp only at *; omega))
              refine nx_end [] rfl v3 (fun a w ha hw => res_tmp2 Tryz.results60 rfl rfl ha) (by exact a_subR) (by exact a_holds2)
          · have hu : upOk L x = false := by rw [huu]; simp; omega
            rw [hun hu] at hc
            rw [hc, chain_none hc]
            simp only [Option.isSome_none, List.map_nil]
            clear ih hok huu hup hun hcp
            refine calls_nx Tryz.func60 rfl Tryz.ntmps60 rfl ?_ hw
            repeat' (first | ((first | with_reducible refine nl_op rfl ?_ | refine nd_go rfl rfl rfl ?_); intro K hK; (first | ((first | refine on_E hF rfl rfl ?_ | refine od_E rfl rfl ?_ | refine od_R rfl rfl ?_); (first | refine ⟨_, a_yl, ?_⟩ | refine ⟨_, (by first | exact yl_fieldB (T := 33) (f := 0) (q := 0) rfl rfl (by kernel_rfl) | exact yl_fieldE (T := 33) (f := 0) (j := 0) rfl rfl a_sl a_om (by kernel_rfl) | exact yl_fieldB (T := 33) (f := 1) (q := 1) rfl rfl (by kernel_rfl) | exact yl_fieldE (T := 33) (f := 1) (j := 1) rfl rfl a_sl a_om (by kernel_rfl) | exact yl_fieldB (T := 33) (f := 2) (q := 2) rfl rfl (by kernel_rfl) | exact yl_fieldE (T := 33) (f := 2) (j := 2) rfl rfl a_sl a_om (by kernel_rfl) | exact yl_fieldB (T := 33) (f := 4) (q := 4) rfl rfl (by kernel_rfl) | exact yl_fieldE (T := 33) (f := 4) (j := 4) rfl rfl a_sl a_om (by kernel_rfl) | exact yl_fieldB (T := 33) (f := 5) (q := 5) rfl rfl (by kernel_rfl) | exact yl_fieldE (T := 33) (f := 5) (j := 5) rfl rfl a_sl a_om (by kernel_rfl) | exact yl_fieldB (T := 33) (f := 6) (q := 6) rfl rfl (by kernel_rfl) | exact yl_fieldE (T := 33) (f := 6) (j := 6) rfl rfl a_sl a_om (by kernel_rfl)), ?_⟩)) | ((first | refine on_Ec hF rfl rfl ?_ | refine od_Ec rfl rfl ?_); refine ⟨_, _, _, a_yc, ?_, ?_⟩ <;> (intro hc; try exact a_cut hc)) | ((first | (refine od_act a_nd ?_; intro K2 hK2) | refine od_last a_nd ?_ | skip); (first | (refine on_callG (vs := [s, .int .i64 id]) hF (enters_of Tryz.func83 (by kernel_rfl) rfl) rfl rfl rfl rfl (ac _ _ _ _ (by exact a_mem)) (fun r => ?_); obtain ⟨r, hr⟩ := r; dsimp only; obtain ⟨i, hri, hil, hxv, _⟩ := hg r hr; subst hri) | (refine on_callG (vs := [s, .int .i64 x.par]) hF (enters_of Tryz.func83 (by kernel_rfl) rfl) rfl rfl rfl rfl (ap _ _ _ _ (by exact a_mem)) (fun r2 => ?_); obtain ⟨r2, hr2⟩ := r2; dsimp only; obtain ⟨i2, hri2, hil2, hyv, _⟩ := hg2 r2 hr2; subst hri2) | (refine on_buildSlice (T := 25) (e := 3) (k := 1) (by_ := 8) hF rfl rfl rfl rfl rfl rfl (by kernel_rfl) a_cel (Nat.le_of_ble_eq_true rfl) (fun b => ?_)) | (refine on_append (T := 25) (e := 3) (k := 1) (by_ := 8) hF rfl rfl rfl rfl rfl a_pick (by kernel_rfl) a_sl a_cel a_bnd a_bnd (fun v => ?_)) | (refine on_alloc hF rfl Tryz.zeroValue33 rfl rfl (fun B => ?_)) | (refine on_box hF rfl rfl rfl rfl (fun B => ?_)) | (refine on_store hF rfl rfl rfl rfl a_turn a_vof a_sz ?_) | (refine on_storeE hF rfl rfl rfl rfl a_turn a_om a_vof a_sz ?_) | (refine on_storeEF hF rfl rfl rfl rfl a_turn a_as (by decide) a_vof rfl ?_) | (refine on_storeF hF rfl rfl rfl rfl a_turn (by decide) a_vof rfl ?_)) <;> try (refine hK2 _ _ _ a_allK ?_; clear hK2 K2))) <;> (refine hK _ _ _ ?_; clear hK K)) | with_reducible (first | refine nx_seq ?_ | refine nx_region ?_ | refine nl_nil ?_ | refine nq_then_n ?_ | refine nx_block ?_ | refine nx_skip ?_ | refine nx_exit ?_ | refine nx_ret ?_ | refine nq_then_x ?_ | refine nq_then_r ?_ | refine nq_blk_n ?_ | refine nq_blk_r ?_ | refine nq_blk_hit ?_ | refine nq_blk_miss rfl ?_ | refine nd_nil ?_) | refine nx_cond_t rfl ?_ | refine nx_cond_f rfl ?_ | refine nl_pass hF rfl rfl rfl ?_ | refine nd_pass rfl rfl rfl rfl rfl ?_ | refine nd_pass2 rfl rfl rfl a_nd a_allK rfl rfl ?_ | refine nd_pass3 rfl rfl rfl a_nd rfl rfl ?_ | (with_reducible refine hQ1 _ _ _ ?_; clear hQ1 Q1) | (refine nd_region (id := 8) hF [0, 0, 0, 0, 0, 1, 1, 1, 0, 1, 0, 0, 0, 0, 0, 1, 1, 1, 0, 0, 0, 0, 0, 0, 1, 1, 1, 0, 1, 0, 0] [0, 1, 2, 3, 4, 5, 6, 7, 8, 9, 10, 11, 12, 13, 14, 15, 16, 17, 18, 19, 20, 21, 22, 23, 24, 25, 26, 27, 28, 29, 30] _ _ (by kernel_rfl) (by kernel_rfl) sub2_same ?_; intro Q1 hQ1))
            all_goals (first
              | (exfalso; dsimp only at *; omega)
              | (refine nx_nilRow 3 1 ?_
                 refine nx_end [] rfl ((⟨.slice none 0 0, _, _, _, rfl⟩ : SV)) (fun a w ha hw => res_tmp2 Tryz.results60 rfl rfl ha) (by exact a_subR) (by exact a_holds2)))
end Rf21
end Go.Proofs.YtinofjenoapeaaaGreat
end
section
namespace Go.Proofs.YtinofjenoapeaaaGreat
open Go.RowKit Go.Shelf
set_option linter.unusedSimpArgs false
set_option linter.unusedVariables false
namespace Rf21
open Chn
variable {W0 : World} {X : Nat → Prop} {R C : List Ch}
theorem celIt2 (L : List It2) (hok : ∀ x ∈ L, x.ok) : Cel 9 (L.map It2.v) := Cel.of (P := Tryz.prog) (T := 33) (vofs_it2 L hok) (by kernel_rfl)
set_option maxRecDepth 100000 in
set_option maxHeartbeats 4000000 in
theorem backups_ct (s : Value) (hs : IsSl s) (L : List It2) (hok : ∀ x ∈ L, x.ok) (hm : L.length ≤ 1000) (t most : Int) (hsl : SlC 9 s (L.map It2.v) ∈ R) :
    Ct Tryz.prog 82 [s, .int .i64 t, .int .i64 most] W0 X R C SV (fun v => v.1) (fun _ => R) (fun v => RowC 33 9 v.1 ((L.filter (backupsB L t most)).map It2.v) :: C) := by
  intro w hw
  have hF := isWide_wide
  have hs0 := hs
  obtain ⟨sa, sn, sc, rfl⟩ := hs
  obtain rfl := slLen (hw.hasR hsl)
  have hlv : (L.map It2.v).length = L.length := by simp
  have oc := fun (W0 : World) (X : Nat → Prop) (R C : List Ch) id h => of_ct _ hs0 L hok hm (under L id + 1) id (Nat.lt_succ_self _) W0 X R C h
  refine calls_nx Tryz.func82 rfl Tryz.ntmps82 rfl ?_ hw
  refine nx_nilRow 33 9 ?_
  repeat' (first | ((first | with_reducible refine nl_op rfl ?_ | refine nd_go rfl rfl rfl ?_); intro K hK; (first | ((first | refine on_E hF rfl rfl ?_ | refine od_E rfl rfl ?_ | refine od_R rfl rfl ?_); (first | refine ⟨_, a_yl, ?_⟩ | refine ⟨_, (by first | exact yl_fieldB (T := 33) (f := 0) (q := 0) rfl rfl (by kernel_rfl) | exact yl_fieldE (T := 33) (f := 0) (j := 0) rfl rfl a_sl a_om (by kernel_rfl) | exact yl_fieldB (T := 33) (f := 1) (q := 1) rfl rfl (by kernel_rfl) | exact yl_fieldE (T := 33) (f := 1) (j := 1) rfl rfl a_sl a_om (by kernel_rfl) | exact yl_fieldB (T := 33) (f := 2) (q := 2) rfl rfl (by kernel_rfl) | exact yl_fieldE (T := 33) (f := 2) (j := 2) rfl rfl a_sl a_om (by kernel_rfl) | exact yl_fieldB (T := 33) (f := 4) (q := 4) rfl rfl (by kernel_rfl) | exact yl_fieldE (T := 33) (f := 4) (j := 4) rfl rfl a_sl a_om (by kernel_rfl) | exact yl_fieldB (T := 33) (f := 5) (q := 5) rfl rfl (by kernel_rfl) | exact yl_fieldE (T := 33) (f := 5) (j := 5) rfl rfl a_sl a_om (by kernel_rfl)), ?_⟩)) | ((first | refine on_Ec hF rfl rfl ?_ | refine od_Ec rfl rfl ?_); refine ⟨_, _, _, a_yc, ?_, ?_⟩ <;> (intro hc; try exact a_cut hc)) | ((first | (refine od_act a_nd ?_; intro K2 hK2) | refine od_last a_nd ?_ | skip); (first | (refine on_buildSlice (T := 22) (e := 33) (k := 9) (by_ := 88) hF rfl rfl rfl rfl rfl rfl (by kernel_rfl) a_cel (Nat.le_of_ble_eq_true rfl) (fun b => ?_)) | (refine on_append (T := 22) (e := 33) (k := 9) (by_ := 88) hF rfl rfl rfl rfl rfl a_pick (by kernel_rfl) a_sl a_cel a_bnd a_bnd (fun v => ?_)) | (refine on_alloc hF rfl Tryz.zeroValue33 rfl rfl (fun B => ?_)) | (refine on_box hF rfl rfl rfl rfl (fun B => ?_)) | (refine on_store hF rfl rfl rfl rfl a_turn a_vof a_sz ?_) | (refine on_storeE hF rfl rfl rfl rfl a_turn a_om a_vof a_sz ?_) | (refine on_storeEF hF rfl rfl rfl rfl a_turn a_as (by decide) a_vof rfl ?_) | (refine on_storeF hF rfl rfl rfl rfl a_turn (by decide) a_vof rfl ?_)) <;> try (refine hK2 _ _ _ a_allK ?_; clear hK2 K2))) <;> (refine hK _ _ _ ?_; clear hK K)) | with_reducible (first | refine nx_seq ?_ | refine nx_region ?_ | refine nl_nil ?_ | refine nq_then_n ?_ | refine nx_block ?_ | refine nx_skip ?_ | refine nx_exit ?_ | refine nx_ret ?_ | refine nq_then_x ?_ | refine nq_then_r ?_ | refine nq_blk_n ?_ | refine nq_blk_r ?_ | refine nq_blk_hit ?_ | refine nq_blk_miss rfl ?_ | refine nd_nil ?_) | refine nx_cond_t rfl ?_ | refine nx_cond_f rfl ?_ | refine nl_pass hF rfl rfl rfl ?_ | refine nd_pass rfl rfl rfl rfl rfl ?_ | refine nd_pass2 rfl rfl rfl a_nd a_allK rfl rfl ?_ | refine nd_pass3 rfl rfl rfl a_nd rfl rfl ?_ | (with_reducible refine hQ1 _ _ _ ?_; clear hQ1 Q1) )
  refine nx_loop (ι := { i : Nat // i ≤ L.length } × SV) (fun p => [(0, .slice sa (L.map It2.v).length sc), (1, .int .i64 t), (2, .int .i64 most), (7, p.2.1), (12, .slice sa (L.map It2.v).length sc), (13, .int .i64 ((L.map It2.v).length : Int)), (14, .int .i64 (p.1.1 : Int))]) (fun _ => R) (fun p => RowC 33 9 p.2.1 (((L.take p.1.1).filter (backupsB L t most)).map It2.v) :: C) (fun p => L.length - p.1.1) (⟨0, Nat.zero_le _⟩, ⟨.slice none 0 0, _, _, _, rfl⟩) (by exact a_sub) (by exact a_subR) (by exact a_holds) (fun p => ?_)
  obtain ⟨⟨i, hi⟩, u⟩ := p
  dsimp only
  by_cases hlt : i < L.length
  · obtain ⟨x, hx⟩ : ∃ x, L[i]? = some x := ⟨_, List.getElem?_eq_getElem hlt⟩
    have hxm : x ∈ L := List.mem_of_getElem? hx
    have hxv : (L.map It2.v)[i]? = some x.v := by rw [List.getElem?_map, hx]; rfl
    have hvx := x.vof (hok x hxm)
    have ox := fun (W0 : World) (X : Nat → Prop) (R C : List Ch) h => oc W0 X R C x.id h
    have hft : (L.take (i + 1)).filter (backupsB L t most) = (L.take i).filter (backupsB L t most) ++ if backupsB L t most x then [x] else [] := by
      rw [List.take_add_one, hx]; simp [List.filter_cons]
    have hfl : ((L.take i).filter (backupsB L t most)).length ≤ 1000 := by
      have h1 := List.length_filter_le (backupsB L t most) (L.take i)
      rw [List.length_take] at h1; omega
    have hcx : Cel 9 [x.v] := celIt2 [x] (fun y hy => by rw [List.mem_singleton.1 hy]; exact hok x hxm)
    obtain ⟨q, hq⟩ : ∃ q, (L.take i).filter (backupsB L t most) = q := ⟨_, rfl⟩
    rw [hq] at hft hfl ⊢
    have hl1 : (q.map It2.v).length + 1 ≤ maxLen := by unfold maxLen; rw [List.length_map]; omega
    have hl2 : ((q.map It2.v).length + 1) * 88 ≤ 140737488355328 := by rw [List.length_map]; omega
    have hbb : backupsB L t most x = ((decide (x.kind = 2) || decide (x.kind = 3)) && decide (x.a ≤ x.b) && decide (x.tl = t) && decide (x.b ≤ most) && (chainOf L x.id).isSome) := rfl
    clear oc hok hq
    by_cases hb : backupsB L t most x = true
    · rw [if_pos hb] at hft
      rw [hbb] at hb
      simp only [Bool.and_eq_true, Bool.or_eq_true, decide_eq_true_eq] at hb
      obtain ⟨⟨⟨⟨h1, h2⟩, h3⟩, h4⟩, h5⟩ := hb
      rw [h5] at ox
      clear hbb
      repeat' (first | ((first | with_reducible refine nl_op rfl ?_ | refine nd_go rfl rfl rfl ?_); intro K hK; (first | ((first | refine on_E hF rfl rfl ?_ | refine od_E rfl rfl ?_ | refine od_R rfl rfl ?_); (first | refine ⟨_, a_yl, ?_⟩ | refine ⟨_, (by first | exact yl_fieldB (T := 33) (f := 0) (q := 0) rfl rfl (by kernel_rfl) | exact yl_fieldE (T := 33) (f := 0) (j := 0) rfl rfl a_sl a_om (by kernel_rfl) | exact yl_fieldB (T := 33) (f := 1) (q := 1) rfl rfl (by kernel_rfl) | exact yl_fieldE (T := 33) (f := 1) (j := 1) rfl rfl a_sl a_om (by kernel_rfl) | exact yl_fieldB (T := 33) (f := 2) (q := 2) rfl rfl (by kernel_rfl) | exact yl_fieldE (T := 33) (f := 2) (j := 2) rfl rfl a_sl a_om (by kernel_rfl) | exact yl_fieldB (T := 33) (f := 4) (q := 4) rfl rfl (by kernel_rfl) | exact yl_fieldE (T := 33) (f := 4) (j := 4) rfl rfl a_sl a_om (by kernel_rfl) | exact yl_fieldB (T := 33) (f := 5) (q := 5) rfl rfl (by kernel_rfl) | exact yl_fieldE (T := 33) (f := 5) (j := 5) rfl rfl a_sl a_om (by kernel_rfl)), ?_⟩)) | ((first | refine on_Ec hF rfl rfl ?_ | refine od_Ec rfl rfl ?_); refine ⟨_, _, _, a_yc, ?_, ?_⟩ <;> (intro hc; try exact a_cut hc)) | ((first | (refine od_act a_nd ?_; intro K2 hK2) | refine od_last a_nd ?_ | skip); (first | (refine on_callG hF (enters_of Tryz.func60 (by kernel_rfl) rfl) rfl rfl rfl rfl (ox _ _ _ _ (by exact a_mem)) (fun v => ?_)) | (refine on_buildSlice (e := 33) (k := 9) (by_ := 88) (vs := [x.v]) hF rfl rfl rfl rfl rfl rfl (by kernel_rfl) hcx (Nat.le_of_ble_eq_true rfl) (fun bq => ?_)) | (refine on_append (e := 33) (k := 9) (by_ := 88) (xs := q.map It2.v) (ys := [x.v]) hF rfl rfl rfl rfl rfl a_pick (by kernel_rfl) a_sl hcx hl1 hl2 (fun v2 => ?_); rw [show q.map It2.v ++ [x.v] = ((L.take (i + 1)).filter (backupsB L t most)).map It2.v by rw [hft]; simp]) | (refine on_buildSlice (T := 22) (e := 33) (k := 9) (by_ := 88) hF rfl rfl rfl rfl rfl rfl (by kernel_rfl) a_cel (Nat.le_of_ble_eq_true rfl) (fun b => ?_)) | (refine on_append (T := 22) (e := 33) (k := 9) (by_ := 88) hF rfl rfl rfl rfl rfl a_pick (by kernel_rfl) a_sl a_cel a_bnd a_bnd (fun v => ?_)) | (refine on_alloc hF rfl Tryz.zeroValue33 rfl rfl (fun B => ?_)) | (refine on_box hF rfl rfl rfl rfl (fun B => ?_)) | (refine on_store hF rfl rfl rfl rfl a_turn a_vof a_sz ?_) | (refine on_storeE hF rfl rfl rfl rfl a_turn a_om a_vof a_sz ?_) | (refine on_storeEF hF rfl rfl rfl rfl a_turn a_as (by decide) a_vof rfl ?_) | (refine on_storeF hF rfl rfl rfl rfl a_turn (by decide) a_vof rfl ?_)) <;> try (refine hK2 _ _ _ a_allK ?_; clear hK2 K2))) <;> (refine hK _ _ _ ?_; clear hK K)) | with_reducible (first | refine nx_seq ?_ | refine nx_region ?_ | refine nl_nil ?_ | refine nq_then_n ?_ | refine nx_block ?_ | refine nx_skip ?_ | refine nx_exit ?_ | refine nx_ret ?_ | refine nq_then_x ?_ | refine nq_then_r ?_ | refine nq_blk_n ?_ | refine nq_blk_r ?_ | refine nq_blk_hit ?_ | refine nq_blk_miss rfl ?_ | refine nd_nil ?_) | refine nx_cond_t rfl ?_ | refine nx_cond_f rfl ?_ | refine nl_pass hF rfl rfl rfl ?_ | refine nd_pass rfl rfl rfl rfl rfl ?_ | refine nd_pass2 rfl rfl rfl a_nd a_allK rfl rfl ?_ | refine nd_pass3 rfl rfl rfl a_nd rfl rfl ?_ | (with_reducible refine hQ1 _ _ _ ?_; clear hQ1 Q1) )
      all_goals (first
        | (exfalso; dsimp only at *; omega)
        | refine nx_again (⟨i + 1, by omega⟩, v2) (by dsimp only; omega) (by exact a_sub) (by exact a_subR) (by exact a_holds))
    · rw [if_neg hb, List.append_nil] at hft
      rw [← hft]
      obtain ⟨ok, hk⟩ : ∃ ok, (chainOf L x.id).isSome = ok := ⟨_, rfl⟩
      rw [hk] at ox hbb
      rw [hbb] at hb
      clear hk hbb hft
      cases ok with
      | false =>
        repeat' (first | ((first | with_reducible refine nl_op rfl ?_ | refine nd_go rfl rfl rfl ?_); intro K hK; (first | ((first | refine on_E hF rfl rfl ?_ | refine od_E rfl rfl ?_ | refine od_R rfl rfl ?_); (first | refine ⟨_, a_yl, ?_⟩ | refine ⟨_, (by first | exact yl_fieldB (T := 33) (f := 0) (q := 0) rfl rfl (by kernel_rfl) | exact yl_fieldE (T := 33) (f := 0) (j := 0) rfl rfl a_sl a_om (by kernel_rfl) | exact yl_fieldB (T := 33) (f := 1) (q := 1) rfl rfl (by kernel_rfl) | exact yl_fieldE (T := 33) (f := 1) (j := 1) rfl rfl a_sl a_om (by kernel_rfl) | exact yl_fieldB (T := 33) (f := 2) (q := 2) rfl rfl (by kernel_rfl) | exact yl_fieldE (T := 33) (f := 2) (j := 2) rfl rfl a_sl a_om (by kernel_rfl) | exact yl_fieldB (T := 33) (f := 4) (q := 4) rfl rfl (by kernel_rfl) | exact yl_fieldE (T := 33) (f := 4) (j := 4) rfl rfl a_sl a_om (by kernel_rfl) | exact yl_fieldB (T := 33) (f := 5) (q := 5) rfl rfl (by kernel_rfl) | exact yl_fieldE (T := 33) (f := 5) (j := 5) rfl rfl a_sl a_om (by kernel_rfl)), ?_⟩)) | ((first | refine on_Ec hF rfl rfl ?_ | refine od_Ec rfl rfl ?_); refine ⟨_, _, _, a_yc, ?_, ?_⟩ <;> (intro hc; try exact a_cut hc)) | ((first | (refine od_act a_nd ?_; intro K2 hK2) | refine od_last a_nd ?_ | skip); (first | (refine on_callG hF (enters_of Tryz.func60 (by kernel_rfl) rfl) rfl rfl rfl rfl (ox _ _ _ _ (by exact a_mem)) (fun v => ?_)) | (refine on_buildSlice (T := 22) (e := 33) (k := 9) (by_ := 88) hF rfl rfl rfl rfl rfl rfl (by kernel_rfl) a_cel (Nat.le_of_ble_eq_true rfl) (fun b => ?_)) | (refine on_append (T := 22) (e := 33) (k := 9) (by_ := 88) hF rfl rfl rfl rfl rfl a_pick (by kernel_rfl) a_sl a_cel a_bnd a_bnd (fun v => ?_)) | (refine on_alloc hF rfl Tryz.zeroValue33 rfl rfl (fun B => ?_)) | (refine on_box hF rfl rfl rfl rfl (fun B => ?_)) | (refine on_store hF rfl rfl rfl rfl a_turn a_vof a_sz ?_) | (refine on_storeE hF rfl rfl rfl rfl a_turn a_om a_vof a_sz ?_) | (refine on_storeEF hF rfl rfl rfl rfl a_turn a_as (by decide) a_vof rfl ?_) | (refine on_storeF hF rfl rfl rfl rfl a_turn (by decide) a_vof rfl ?_)) <;> try (refine hK2 _ _ _ a_allK ?_; clear hK2 K2))) <;> (refine hK _ _ _ ?_; clear hK K)) | with_reducible (first | refine nx_seq ?_ | refine nx_region ?_ | refine nl_nil ?_ | refine nq_then_n ?_ | refine nx_block ?_ | refine nx_skip ?_ | refine nx_exit ?_ | refine nx_ret ?_ | refine nq_then_x ?_ | refine nq_then_r ?_ | refine nq_blk_n ?_ | refine nq_blk_r ?_ | refine nq_blk_hit ?_ | refine nq_blk_miss rfl ?_ | refine nd_nil ?_) | refine nx_cond_t rfl ?_ | refine nx_cond_f rfl ?_ | refine nl_pass hF rfl rfl rfl ?_ | refine nd_pass rfl rfl rfl rfl rfl ?_ | refine nd_pass2 rfl rfl rfl a_nd a_allK rfl rfl ?_ | refine nd_pass3 rfl rfl rfl a_nd rfl rfl ?_ | (with_reducible refine hQ1 _ _ _ ?_; clear hQ1 Q1) )
        all_goals (try (exfalso; dsimp only at *; omega))
        refine nx_again (⟨i + 1, by omega⟩, u) (by dsimp only; omega) (by exact a_sub) (by exact a_subR) (by exact a_holds)
      | true =>
        have hb2 : ¬ (((((x.kind = 2 ∨ x.kind = 3) ∧ x.a ≤ x.b) ∧ x.tl = t) ∧ x.b ≤ most)) := fun h => hb (by simp [h])
        clear hb
        repeat' (first | ((first | with_reducible refine nl_op rfl ?_ | refine nd_go rfl rfl rfl ?_); intro K hK; (first | ((first | refine on_E hF rfl rfl ?_ | refine od_E rfl rfl ?_ | refine od_R rfl rfl ?_); (first | refine ⟨_, a_yl, ?_⟩ | refine ⟨_, (by first | exact yl_fieldB (T := 33) (f := 0) (q := 0) rfl rfl (by kernel_rfl) | exact yl_fieldE (T := 33) (f := 0) (j := 0) rfl rfl a_sl a_om (by kernel_rfl) | exact yl_fieldB (T := 33) (f := 1) (q := 1) rfl rfl (by kernel_rfl) | exact yl_fieldE (T := 33) (f := 1) (j := 1) rfl rfl a_sl a_om (by kernel_rfl) | exact yl_fieldB (T := 33) (f := 2) (q := 2) rfl rfl (by kernel_rfl) | exact yl_fieldE (T := 33) (f := 2) (j := 2) rfl rfl a_sl a_om (by kernel_rfl) | exact yl_fieldB (T := 33) (f := 4) (q := 4) rfl rfl (by kernel_rfl) | exact yl_fieldE (T := 33) (f := 4) (j := 4) rfl rfl a_sl a_om (by kernel_rfl) | exact yl_fieldB (T := 33) (f := 5) (q := 5) rfl rfl (by kernel_rfl) | exact yl_fieldE (T := 33) (f := 5) (j := 5) rfl rfl a_sl a_om (by kernel_rfl)), ?_⟩)) | ((first | refine on_Ec hF rfl rfl ?_ | refine od_Ec rfl rfl ?_); refine ⟨_, _, _, a_yc, ?_, ?_⟩ <;> (intro hc; try exact a_cut hc)) | ((first | (refine od_act a_nd ?_; intro K2 hK2) | refine od_last a_nd ?_ | skip); (first | (refine on_callG hF (enters_of Tryz.func60 (by kernel_rfl) rfl) rfl rfl rfl rfl (ox _ _ _ _ (by exact a_mem)) (fun v => ?_)) | (refine on_buildSlice (T := 22) (e := 33) (k := 9) (by_ := 88) hF rfl rfl rfl rfl rfl rfl (by kernel_rfl) a_cel (Nat.le_of_ble_eq_true rfl) (fun b => ?_)) | (refine on_append (T := 22) (e := 33) (k := 9) (by_ := 88) hF rfl rfl rfl rfl rfl a_pick (by kernel_rfl) a_sl a_cel a_bnd a_bnd (fun v => ?_)) | (refine on_alloc hF rfl Tryz.zeroValue33 rfl rfl (fun B => ?_)) | (refine on_box hF rfl rfl rfl rfl (fun B => ?_)) | (refine on_store hF rfl rfl rfl rfl a_turn a_vof a_sz ?_) | (refine on_storeE hF rfl rfl rfl rfl a_turn a_om a_vof a_sz ?_) | (refine on_storeEF hF rfl rfl rfl rfl a_turn a_as (by decide) a_vof rfl ?_) | (refine on_storeF hF rfl rfl rfl rfl a_turn (by decide) a_vof rfl ?_)) <;> try (refine hK2 _ _ _ a_allK ?_; clear hK2 K2))) <;> (refine hK _ _ _ ?_; clear hK K)) | with_reducible (first | refine nx_seq ?_ | refine nx_region ?_ | refine nl_nil ?_ | refine nq_then_n ?_ | refine nx_block ?_ | refine nx_skip ?_ | refine nx_exit ?_ | refine nx_ret ?_ | refine nq_then_x ?_ | refine nq_then_r ?_ | refine nq_blk_n ?_ | refine nq_blk_r ?_ | refine nq_blk_hit ?_ | refine nq_blk_miss rfl ?_ | refine nd_nil ?_) | refine nx_cond_t rfl ?_ | refine nx_cond_f rfl ?_ | refine nl_pass hF rfl rfl rfl ?_ | refine nd_pass rfl rfl rfl rfl rfl ?_ | refine nd_pass2 rfl rfl rfl a_nd a_allK rfl rfl ?_ | refine nd_pass3 rfl rfl rfl a_nd rfl rfl ?_ | (with_reducible refine hQ1 _ _ _ ?_; clear hQ1 Q1) )
        all_goals (first
          | (exfalso; dsimp only at *; omega)
          | refine nx_again (⟨i + 1, by omega⟩, u) (by dsimp only; omega) (by exact a_sub) (by exact a_subR) (by exact a_holds))
  · rw [List.take_of_length_le (by omega)]
    repeat' (first | ((first | with_reducible refine nl_op rfl ?_ | refine nd_go rfl rfl rfl ?_); intro K hK; (first | ((first | refine on_E hF rfl rfl ?_ | refine od_E rfl rfl ?_ | refine od_R rfl rfl ?_); (first | refine ⟨_, a_yl, ?_⟩ | refine ⟨_, (by first | exact yl_fieldB (T := 33) (f := 0) (q := 0) rfl rfl (by kernel_rfl) | exact yl_fieldE (T := 33) (f := 0) (j := 0) rfl rfl a_sl a_om (by kernel_rfl) | exact yl_fieldB (T := 33) (f := 1) (q := 1) rfl rfl (by kernel_rfl) | exact yl_fieldE (T := 33) (f := 1) (j := 1) rfl rfl a_sl a_om (by kernel_rfl) | exact yl_fieldB (T := 33) (f := 2) (q := 2) rfl rfl (by kernel_rfl) | exact yl_fieldE (T := 33) (f := 2) (j := 2) rfl rfl a_sl a_om (by kernel_rfl) | exact yl_fieldB (T := 33) (f := 4) (q := 4) rfl rfl (by kernel_rfl) | exact yl_fieldE (T := 33) (f := 4) (j := 4) rfl rfl a_sl a_om (by kernel_rfl) | exact yl_fieldB (T := 33) (f := 5) (q := 5) rfl rfl (by kernel_rfl) | exact yl_fieldE (T := 33) (f := 5) (j := 5) rfl rfl a_sl a_om (by kernel_rfl)), ?_⟩)) | ((first | refine on_Ec hF rfl rfl ?_ | refine od_Ec rfl rfl ?_); refine ⟨_, _, _, a_yc, ?_, ?_⟩ <;> (intro hc; try exact a_cut hc)) | ((first | (refine od_act a_nd ?_; intro K2 hK2) | refine od_last a_nd ?_ | skip); (first | (refine on_buildSlice (T := 22) (e := 33) (k := 9) (by_ := 88) hF rfl rfl rfl rfl rfl rfl (by kernel_rfl) a_cel (Nat.le_of_ble_eq_true rfl) (fun b => ?_)) | (refine on_append (T := 22) (e := 33) (k := 9) (by_ := 88) hF rfl rfl rfl rfl rfl a_pick (by kernel_rfl) a_sl a_cel a_bnd a_bnd (fun v => ?_)) | (refine on_alloc hF rfl Tryz.zeroValue33 rfl rfl (fun B => ?_)) | (refine on_box hF rfl rfl rfl rfl (fun B => ?_)) | (refine on_store hF rfl rfl rfl rfl a_turn a_vof a_sz ?_) | (refine on_storeE hF rfl rfl rfl rfl a_turn a_om a_vof a_sz ?_) | (refine on_storeEF hF rfl rfl rfl rfl a_turn a_as (by decide) a_vof rfl ?_) | (refine on_storeF hF rfl rfl rfl rfl a_turn (by decide) a_vof rfl ?_)) <;> try (refine hK2 _ _ _ a_allK ?_; clear hK2 K2))) <;> (refine hK _ _ _ ?_; clear hK K)) | with_reducible (first | refine nx_seq ?_ | refine nx_region ?_ | refine nl_nil ?_ | refine nq_then_n ?_ | refine nx_block ?_ | refine nx_skip ?_ | refine nx_exit ?_ | refine nx_ret ?_ | refine nq_then_x ?_ | refine nq_then_r ?_ | refine nq_blk_n ?_ | refine nq_blk_r ?_ | refine nq_blk_hit ?_ | refine nq_blk_miss rfl ?_ | refine nd_nil ?_) | refine nx_cond_t rfl ?_ | refine nx_cond_f rfl ?_ | refine nl_pass hF rfl rfl rfl ?_ | refine nd_pass rfl rfl rfl rfl rfl ?_ | refine nd_pass2 rfl rfl rfl a_nd a_allK rfl rfl ?_ | refine nd_pass3 rfl rfl rfl a_nd rfl rfl ?_ | (with_reducible refine hQ1 _ _ _ ?_; clear hQ1 Q1) )
    all_goals (try (exfalso; dsimp only at *; omega))
    refine nx_end [] rfl u (fun a w ha hw => res_tmp Tryz.results82 rfl ha) (by exact a_subR) (by exact a_holds2)
end Rf21
end Go.Proofs.YtinofjenoapeaaaGreat
end
section
namespace Go.Proofs.YtinofjenoapeaaaGreat
open Go.RowKit Go.Shelf
set_option linter.unusedSimpArgs false
set_option linter.unusedVariables false
namespace Rf21
open Chn
variable {W0 : World} {X : Nat → Prop} {R C : List Ch}
set_option maxRecDepth 100000 in
set_option maxHeartbeats 4000000 in
theorem best_ct (s : Value) (hs : IsSl s) (L : List It2) (hok : ∀ x ∈ L, x.ok) (hm : L.length ≤ 1000) (t least most : Int) (hsl : SlC 9 s (L.map It2.v) ∈ R) :
    Ct Tryz.prog 59 [s, .int .i64 t, .int .i64 least, .int .i64 most] W0 X R C Unit (fun _ => .tuple #[(bestOf L t least most).1.v, .bool (bestOf L t least most).2]) (fun _ => R) (fun _ => C) := by
  intro w hw
  have hF := isWide_wide
  have bc := fun (W0 : World) (X : Nat → Prop) (R C : List Ch) h => backups_ct (W0 := W0) (X := X) (R := R) (C := C) s hs L hok hm t most h
  have hfl := List.length_filter_le (backupsB L t most) L
  have hMok : ∀ x ∈ L.filter (backupsB L t most), x.ok := fun x hx => hok x (List.mem_filter.1 hx).1
  have hres : bestOf L t least most = (L.filter (backupsB L t most)).foldl (bestStep least) (zIt2, false) := rfl
  obtain ⟨M, hM⟩ : ∃ M, L.filter (backupsB L t most) = M := ⟨_, rfl⟩
  rw [hM] at bc hfl hMok hres
  rw [hres]
  have hso : ∀ i, ((M.take i).foldl (bestStep least) (zIt2, false)).1.ok := fun i => by
    rcases best_spec least (M.take i) (zIt2, false) with ⟨h1, _⟩ | ⟨_, h2, _⟩
    · rw [h1]; exact zIt2_ok
    · exact hMok _ (List.mem_of_mem_take h2)
  clear hres hM
  refine calls_nx Tryz.func59 rfl Tryz.ntmps59 rfl ?_ hw
  repeat' (first | ((first | with_reducible refine nl_op rfl ?_ | refine nd_go rfl rfl rfl ?_); intro K hK; (first | ((first | refine on_E hF rfl rfl ?_ | refine od_E rfl rfl ?_ | refine od_R rfl rfl ?_); (first | refine ⟨_, a_yl, ?_⟩ | refine ⟨_, (by first | exact yl_fieldB (T := 33) (f := 0) (q := 0) rfl rfl (by kernel_rfl) | exact yl_fieldE (T := 33) (f := 0) (j := 0) rfl rfl a_sl a_om (by kernel_rfl) | exact yl_fieldB (T := 33) (f := 4) (q := 4) rfl rfl (by kernel_rfl) | exact yl_fieldE (T := 33) (f := 4) (j := 4) rfl rfl a_sl a_om (by kernel_rfl)), ?_⟩)) | ((first | refine on_Ec hF rfl rfl ?_ | refine od_Ec rfl rfl ?_); refine ⟨_, _, _, a_yc, ?_, ?_⟩ <;> (intro hc; try exact a_cut hc)) | ((first | (refine od_act a_nd ?_; intro K2 hK2) | refine od_last a_nd ?_ | skip); (first | (refine on_callG hF (enters_of Tryz.func82 (by kernel_rfl) rfl) rfl rfl rfl rfl (bc _ _ _ _ (by exact a_mem)) (fun v => ?_); obtain ⟨v, va, vn, vc, rfl⟩ := v; dsimp only; refine nx_len (e := 33) (k := 9) (xs := M.map It2.v) (i := vn) (by exact a_mem) (fun hlen => ?_); subst hlen; refine nx_frzRow Pick.here ?_) | (refine on_alloc hF rfl Tryz.zeroValue33 rfl rfl (fun B => ?_)) | (refine on_box hF rfl rfl rfl rfl (fun B => ?_)) | (refine on_store hF rfl rfl rfl rfl a_turn a_vof a_sz ?_) | (refine on_storeE hF rfl rfl rfl rfl a_turn a_om a_vof a_sz ?_) | (refine on_storeEF hF rfl rfl rfl rfl a_turn a_as (by decide) a_vof rfl ?_) | (refine on_storeF hF rfl rfl rfl rfl a_turn (by decide) a_vof rfl ?_)) <;> try (refine hK2 _ _ _ a_allK ?_; clear hK2 K2))) <;> (refine hK _ _ _ ?_; clear hK K)) | with_reducible (first | refine nx_seq ?_ | refine nx_region ?_ | refine nl_nil ?_ | refine nq_then_n ?_ | refine nx_block ?_ | refine nx_skip ?_ | refine nx_exit ?_ | refine nx_ret ?_ | refine nq_then_x ?_ | refine nq_then_r ?_ | refine nq_blk_n ?_ | refine nq_blk_r ?_ | refine nq_blk_hit ?_ | refine nq_blk_miss rfl ?_ | refine nd_nil ?_) | refine nx_cond_t rfl ?_ | refine nx_cond_f rfl ?_ | refine nl_pass hF rfl rfl rfl ?_ | refine nd_pass rfl rfl rfl rfl rfl ?_ | refine nd_pass2 rfl rfl rfl a_nd a_allK rfl rfl ?_ | refine nd_pass3 rfl rfl rfl a_nd rfl rfl ?_ | (with_reducible refine hQ1 _ _ _ ?_; clear hQ1 Q1) )
  have hlM : (M.map It2.v).length = M.length := by simp
  have hvzz := zIt2.vof zIt2_ok
  rename_i b8
  obtain ⟨b10, hb10⟩ : ∃ b10, b10 = B := ⟨_, rfl⟩
  subst hb10
  refine nx_loop (ι := { i : Nat // i ≤ M.length }) (fun i => [(2, .int .i64 least), (8, ptr b8), (10, ptr b10), (11, .bool ((M.take i.1).foldl (bestStep least) (zIt2, false)).2), (17, .slice va (M.map It2.v).length vc), (18, .int .i64 ((M.map It2.v).length : Int)), (19, .int .i64 (i.1 : Int))]) (fun _ => SlC 9 (.slice va (M.map It2.v).length vc) (M.map It2.v) :: R) (fun i => BoxC b10 33 ((M.take i.1).foldl (bestStep least) (zIt2, false)).1.v :: BoxC b8 33 zIt2.v :: C) (fun i => M.length - i.1) ⟨0, Nat.zero_le _⟩ (by exact a_sub) (by exact a_subR) (by exact a_holds) (fun i => ?_)
  obtain ⟨i, hi⟩ := i
  dsimp only
  have hsoi := hso i
  by_cases hlt : i < M.length
  · obtain ⟨x, hx⟩ : ∃ x, M[i]? = some x := ⟨_, List.getElem?_eq_getElem hlt⟩
    have hxm : x ∈ M := List.mem_of_getElem? hx
    have hxv : (M.map It2.v)[i]? = some x.v := by rw [List.getElem?_map, hx]; rfl
    have hvx := x.vof (hMok x hxm)
    have hsn : (M.take (i + 1)).foldl (bestStep least) (zIt2, false) = bestStep least ((M.take i).foldl (bestStep least) (zIt2, false)) x := by
      rw [List.take_add_one, hx, List.foldl_append]; rfl
    obtain ⟨⟨sb, sf⟩, hst⟩ : ∃ p, (M.take i).foldl (bestStep least) (zIt2, false) = p := ⟨_, rfl⟩
    rw [hst] at hsn hsoi ⊢
    dsimp only at hsoi ⊢
    have hvb := sb.vof hsoi
    have hup : least ≤ x.a → (sf = false ∨ (x.a > sb.a ∨ (x.a = sb.a ∧ x.id > sb.id))) → bestStep least (sb, sf) x = (x, true) := fun h1 h2 => by
      unfold bestStep betterB
      rcases h2 with h2 | h2 | h2
      · simp [h1, h2]
      · simp [h1, h2]
      · refine if_pos ?_
        simp only [Bool.and_eq_true, Bool.or_eq_true, decide_eq_true_eq]
        exact ⟨h1, .inr (.inr h2)⟩
    have hno : (¬ least ≤ x.a ∨ (sf = true ∧ ¬ (x.a > sb.a ∨ (x.a = sb.a ∧ x.id > sb.id)))) → bestStep least (sb, sf) x = (sb, sf) := fun h => by
      unfold bestStep betterB
      refine if_neg ?_
      rcases h with h | ⟨h, h2⟩
      · simp [h]
      · subst h; simp; omega
    clear hso hMok hst bc
    by_cases h1 : least ≤ x.a
    · cases sf with
      | false =>
        rw [hup h1 (.inl rfl)] at hsn
        repeat' (first | ((first | with_reducible refine nl_op rfl ?_ | refine nd_go rfl rfl rfl ?_); intro K hK; (first | ((first | refine on_E hF rfl rfl ?_ | refine od_E rfl rfl ?_ | refine od_R rfl rfl ?_); (first | refine ⟨_, a_yl, ?_⟩ | refine ⟨_, (by first | exact yl_fieldB (T := 33) (f := 0) (q := 0) rfl rfl (by kernel_rfl) | exact yl_fieldE (T := 33) (f := 0) (j := 0) rfl rfl a_sl a_om (by kernel_rfl) | exact yl_fieldB (T := 33) (f := 4) (q := 4) rfl rfl (by kernel_rfl) | exact yl_fieldE (T := 33) (f := 4) (j := 4) rfl rfl a_sl a_om (by kernel_rfl)), ?_⟩)) | ((first | refine on_Ec hF rfl rfl ?_ | refine od_Ec rfl rfl ?_); refine ⟨_, _, _, a_yc, ?_, ?_⟩ <;> (intro hc; try exact a_cut hc)) | ((first | (refine od_act a_nd ?_; intro K2 hK2) | refine od_last a_nd ?_ | skip); (first | (refine on_alloc hF rfl Tryz.zeroValue33 rfl rfl (fun B => ?_)) | (refine on_box hF rfl rfl rfl rfl (fun B => ?_)) | (refine on_store hF rfl rfl rfl rfl a_turn a_vof a_sz ?_) | (refine on_storeE hF rfl rfl rfl rfl a_turn a_om a_vof a_sz ?_) | (refine on_storeEF hF rfl rfl rfl rfl a_turn a_as (by decide) a_vof rfl ?_) | (refine on_storeF hF rfl rfl rfl rfl a_turn (by decide) a_vof rfl ?_)) <;> try (refine hK2 _ _ _ a_allK ?_; clear hK2 K2))) <;> (refine hK _ _ _ ?_; clear hK K)) | with_reducible (first | refine nx_seq ?_ | refine nx_region ?_ | refine nl_nil ?_ | refine nq_then_n ?_ | refine nx_block ?_ | refine nx_skip ?_ | refine nx_exit ?_ | refine nx_ret ?_ | refine nq_then_x ?_ | refine nq_then_r ?_ | refine nq_blk_n ?_ | refine nq_blk_r ?_ | refine nq_blk_hit ?_ | refine nq_blk_miss rfl ?_ | refine nd_nil ?_) | refine nx_cond_t rfl ?_ | refine nx_cond_f rfl ?_ | refine nl_pass hF rfl rfl rfl ?_ | refine nd_pass rfl rfl rfl rfl rfl ?_ | refine nd_pass2 rfl rfl rfl a_nd a_allK rfl rfl ?_ | refine nd_pass3 rfl rfl rfl a_nd rfl rfl ?_ | (with_reducible refine hQ1 _ _ _ ?_; clear hQ1 Q1) )
        all_goals (try (exfalso; dsimp only at *; omega))
        refine nx_again ⟨i + 1, by omega⟩ (by dsimp only; omega) (by dsimp only; rw [hsn]; exact a_sub) (by exact a_subR) (by dsimp only; rw [hsn]; exact a_holds)
      | true =>
        by_cases h2 : x.a > sb.a ∨ (x.a = sb.a ∧ x.id > sb.id)
        · rw [hup h1 (.inr h2)] at hsn
          repeat' (first | ((first | with_reducible refine nl_op rfl ?_ | refine nd_go rfl rfl rfl ?_); intro K hK; (first | ((first | refine on_E hF rfl rfl ?_ | refine od_E rfl rfl ?_ | refine od_R rfl rfl ?_); (first | refine ⟨_, a_yl, ?_⟩ | refine ⟨_, (by first | exact yl_fieldB (T := 33) (f := 0) (q := 0) rfl rfl (by kernel_rfl) | exact yl_fieldE (T := 33) (f := 0) (j := 0) rfl rfl a_sl a_om (by kernel_rfl) | exact yl_fieldB (T := 33) (f := 4) (q := 4) rfl rfl (by kernel_rfl) | exact yl_fieldE (T := 33) (f := 4) (j := 4) rfl rfl a_sl a_om (by kernel_rfl)), ?_⟩)) | ((first | refine on_Ec hF rfl rfl ?_ | refine od_Ec rfl rfl ?_); refine ⟨_, _, _, a_yc, ?_, ?_⟩ <;> (intro hc; try exact a_cut hc)) | ((first | (refine od_act a_nd ?_; intro K2 hK2) | refine od_last a_nd ?_ | skip); (first | (refine on_alloc hF rfl Tryz.zeroValue33 rfl rfl (fun B => ?_)) | (refine on_box hF rfl rfl rfl rfl (fun B => ?_)) | (refine on_store hF rfl rfl rfl rfl a_turn a_vof a_sz ?_) | (refine on_storeE hF rfl rfl rfl rfl a_turn a_om a_vof a_sz ?_) | (refine on_storeEF hF rfl rfl rfl rfl a_turn a_as (by decide) a_vof rfl ?_) | (refine on_storeF hF rfl rfl rfl rfl a_turn (by decide) a_vof rfl ?_)) <;> try (refine hK2 _ _ _ a_allK ?_; clear hK2 K2))) <;> (refine hK _ _ _ ?_; clear hK K)) | with_reducible (first | refine nx_seq ?_ | refine nx_region ?_ | refine nl_nil ?_ | refine nq_then_n ?_ | refine nx_block ?_ | refine nx_skip ?_ | refine nx_exit ?_ | refine nx_ret ?_ | refine nq_then_x ?_ | refine nq_then_r ?_ | refine nq_blk_n ?_ | refine nq_blk_r ?_ | refine nq_blk_hit ?_ | refine nq_blk_miss rfl ?_ | refine nd_nil ?_) | refine nx_cond_t rfl ?_ | refine nx_cond_f rfl ?_ | refine nl_pass hF rfl rfl rfl ?_ | refine nd_pass rfl rfl rfl rfl rfl ?_ | refine nd_pass2 rfl rfl rfl a_nd a_allK rfl rfl ?_ | refine nd_pass3 rfl rfl rfl a_nd rfl rfl ?_ | (with_reducible refine hQ1 _ _ _ ?_; clear hQ1 Q1) )
          all_goals (first
            | (exfalso; dsimp only at *; omega)
            | refine nx_again ⟨i + 1, by omega⟩ (by dsimp only; omega) (by dsimp only; rw [hsn]; exact a_sub) (by exact a_subR) (by dsimp only; rw [hsn]; exact a_holds))
        · rw [hno (.inr ⟨rfl, h2⟩)] at hsn
          repeat' (first | ((first | with_reducible refine nl_op rfl ?_ | refine nd_go rfl rfl rfl ?_); intro K hK; (first | ((first | refine on_E hF rfl rfl ?_ | refine od_E rfl rfl ?_ | refine od_R rfl rfl ?_); (first | refine ⟨_, a_yl, ?_⟩ | refine ⟨_, (by first | exact yl_fieldB (T := 33) (f := 0) (q := 0) rfl rfl (by kernel_rfl) | exact yl_fieldE (T := 33) (f := 0) (j := 0) rfl rfl a_sl a_om (by kernel_rfl) | exact yl_fieldB (T := 33) (f := 4) (q := 4) rfl rfl (by kernel_rfl) | exact yl_fieldE (T := 33) (f := 4) (j := 4) rfl rfl a_sl a_om (by kernel_rfl)), ?_⟩)) | ((first | refine on_Ec hF rfl rfl ?_ | refine od_Ec rfl rfl ?_); refine ⟨_, _, _, a_yc, ?_, ?_⟩ <;> (intro hc; try exact a_cut hc)) | ((first | (refine od_act a_nd ?_; intro K2 hK2) | refine od_last a_nd ?_ | skip); (first | (refine on_alloc hF rfl Tryz.zeroValue33 rfl rfl (fun B => ?_)) | (refine on_box hF rfl rfl rfl rfl (fun B => ?_)) | (refine on_store hF rfl rfl rfl rfl a_turn a_vof a_sz ?_) | (refine on_storeE hF rfl rfl rfl rfl a_turn a_om a_vof a_sz ?_) | (refine on_storeEF hF rfl rfl rfl rfl a_turn a_as (by decide) a_vof rfl ?_) | (refine on_storeF hF rfl rfl rfl rfl a_turn (by decide) a_vof rfl ?_)) <;> try (refine hK2 _ _ _ a_allK ?_; clear hK2 K2))) <;> (refine hK _ _ _ ?_; clear hK K)) | with_reducible (first | refine nx_seq ?_ | refine nx_region ?_ | refine nl_nil ?_ | refine nq_then_n ?_ | refine nx_block ?_ | refine nx_skip ?_ | refine nx_exit ?_ | refine nx_ret ?_ | refine nq_then_x ?_ | refine nq_then_r ?_ | refine nq_blk_n ?_ | refine nq_blk_r ?_ | refine nq_blk_hit ?_ | refine nq_blk_miss rfl ?_ | refine nd_nil ?_) | refine nx_cond_t rfl ?_ | refine nx_cond_f rfl ?_ | refine nl_pass hF rfl rfl rfl ?_ | refine nd_pass rfl rfl rfl rfl rfl ?_ | refine nd_pass2 rfl rfl rfl a_nd a_allK rfl rfl ?_ | refine nd_pass3 rfl rfl rfl a_nd rfl rfl ?_ | (with_reducible refine hQ1 _ _ _ ?_; clear hQ1 Q1) )
          all_goals (first
            | (exfalso; dsimp only at *; omega)
            | refine nx_again ⟨i + 1, by omega⟩ (by dsimp only; omega) (by dsimp only; rw [hsn]; exact a_sub) (by exact a_subR) (by dsimp only; rw [hsn]; exact a_holds))
    · rw [hno (.inl h1)] at hsn
      repeat' (first | ((first | with_reducible refine nl_op rfl ?_ | refine nd_go rfl rfl rfl ?_); intro K hK; (first | ((first | refine on_E hF rfl rfl ?_ | refine od_E rfl rfl ?_ | refine od_R rfl rfl ?_); (first | refine ⟨_, a_yl, ?_⟩ | refine ⟨_, (by first | exact yl_fieldB (T := 33) (f := 0) (q := 0) rfl rfl (by kernel_rfl) | exact yl_fieldE (T := 33) (f := 0) (j := 0) rfl rfl a_sl a_om (by kernel_rfl) | exact yl_fieldB (T := 33) (f := 4) (q := 4) rfl rfl (by kernel_rfl) | exact yl_fieldE (T := 33) (f := 4) (j := 4) rfl rfl a_sl a_om (by kernel_rfl)), ?_⟩)) | ((first | refine on_Ec hF rfl rfl ?_ | refine od_Ec rfl rfl ?_); refine ⟨_, _, _, a_yc, ?_, ?_⟩ <;> (intro hc; try exact a_cut hc)) | ((first | (refine od_act a_nd ?_; intro K2 hK2) | refine od_last a_nd ?_ | skip); (first | (refine on_alloc hF rfl Tryz.zeroValue33 rfl rfl (fun B => ?_)) | (refine on_box hF rfl rfl rfl rfl (fun B => ?_)) | (refine on_store hF rfl rfl rfl rfl a_turn a_vof a_sz ?_) | (refine on_storeE hF rfl rfl rfl rfl a_turn a_om a_vof a_sz ?_) | (refine on_storeEF hF rfl rfl rfl rfl a_turn a_as (by decide) a_vof rfl ?_) | (refine on_storeF hF rfl rfl rfl rfl a_turn (by decide) a_vof rfl ?_)) <;> try (refine hK2 _ _ _ a_allK ?_; clear hK2 K2))) <;> (refine hK _ _ _ ?_; clear hK K)) | with_reducible (first | refine nx_seq ?_ | refine nx_region ?_ | refine nl_nil ?_ | refine nq_then_n ?_ | refine nx_block ?_ | refine nx_skip ?_ | refine nx_exit ?_ | refine nx_ret ?_ | refine nq_then_x ?_ | refine nq_then_r ?_ | refine nq_blk_n ?_ | refine nq_blk_r ?_ | refine nq_blk_hit ?_ | refine nq_blk_miss rfl ?_ | refine nd_nil ?_) | refine nx_cond_t rfl ?_ | refine nx_cond_f rfl ?_ | refine nl_pass hF rfl rfl rfl ?_ | refine nd_pass rfl rfl rfl rfl rfl ?_ | refine nd_pass2 rfl rfl rfl a_nd a_allK rfl rfl ?_ | refine nd_pass3 rfl rfl rfl a_nd rfl rfl ?_ | (with_reducible refine hQ1 _ _ _ ?_; clear hQ1 Q1) )
      all_goals (try (exfalso; dsimp only at *; omega))
      refine nx_again ⟨i + 1, by omega⟩ (by dsimp only; omega) (by dsimp only; rw [hsn]; exact a_sub) (by exact a_subR) (by dsimp only; rw [hsn]; exact a_holds)
  · rw [List.take_of_length_le (by omega)] at hsoi ⊢
    obtain ⟨⟨sb, sf⟩, hst⟩ : ∃ p, M.foldl (bestStep least) (zIt2, false) = p := ⟨_, rfl⟩
    rw [hst] at hsoi ⊢
    dsimp only at hsoi ⊢
    have hvb := sb.vof hsoi
    clear hso hMok bc hst
    repeat' (first | ((first | with_reducible refine nl_op rfl ?_ | refine nd_go rfl rfl rfl ?_); intro K hK; (first | ((first | refine on_E hF rfl rfl ?_ | refine od_E rfl rfl ?_ | refine od_R rfl rfl ?_); (first | refine ⟨_, a_yl, ?_⟩ | refine ⟨_, (by first | exact yl_fieldB (T := 33) (f := 0) (q := 0) rfl rfl (by kernel_rfl) | exact yl_fieldE (T := 33) (f := 0) (j := 0) rfl rfl a_sl a_om (by kernel_rfl) | exact yl_fieldB (T := 33) (f := 4) (q := 4) rfl rfl (by kernel_rfl) | exact yl_fieldE (T := 33) (f := 4) (j := 4) rfl rfl a_sl a_om (by kernel_rfl)), ?_⟩)) | ((first | refine on_Ec hF rfl rfl ?_ | refine od_Ec rfl rfl ?_); refine ⟨_, _, _, a_yc, ?_, ?_⟩ <;> (intro hc; try exact a_cut hc)) | ((first | (refine od_act a_nd ?_; intro K2 hK2) | refine od_last a_nd ?_ | skip); (first | (refine on_alloc hF rfl Tryz.zeroValue33 rfl rfl (fun B => ?_)) | (refine on_box hF rfl rfl rfl rfl (fun B => ?_)) | (refine on_store hF rfl rfl rfl rfl a_turn a_vof a_sz ?_) | (refine on_storeE hF rfl rfl rfl rfl a_turn a_om a_vof a_sz ?_) | (refine on_storeEF hF rfl rfl rfl rfl a_turn a_as (by decide) a_vof rfl ?_) | (refine on_storeF hF rfl rfl rfl rfl a_turn (by decide) a_vof rfl ?_)) <;> try (refine hK2 _ _ _ a_allK ?_; clear hK2 K2))) <;> (refine hK _ _ _ ?_; clear hK K)) | with_reducible (first | refine nx_seq ?_ | refine nx_region ?_ | refine nl_nil ?_ | refine nq_then_n ?_ | refine nx_block ?_ | refine nx_skip ?_ | refine nx_exit ?_ | refine nx_ret ?_ | refine nq_then_x ?_ | refine nq_then_r ?_ | refine nq_blk_n ?_ | refine nq_blk_r ?_ | refine nq_blk_hit ?_ | refine nq_blk_miss rfl ?_ | refine nd_nil ?_) | refine nx_cond_t rfl ?_ | refine nx_cond_f rfl ?_ | refine nl_pass hF rfl rfl rfl ?_ | refine nd_pass rfl rfl rfl rfl rfl ?_ | refine nd_pass2 rfl rfl rfl a_nd a_allK rfl rfl ?_ | refine nd_pass3 rfl rfl rfl a_nd rfl rfl ?_ | (with_reducible refine hQ1 _ _ _ ?_; clear hQ1 Q1) )
    all_goals (try (exfalso; dsimp only at *; omega))
    refine nx_endc [] (BoxC b8 33 sb.v :: C) rfl () (fun a w ha hw => res_cell_tmp (T' := 33) Tryz.results59 rfl rfl (by exact a_mem) hvb ha hw) (by exact a_subR) (by exact a_holds2) (by exact a_holds2)
end Rf21
end Go.Proofs.YtinofjenoapeaaaGreat
end
section
namespace Go.Proofs.YtinofjenoapeaaaGreat
open Go.RowKit Go.Shelf
set_option linter.unusedSimpArgs false
set_option linter.unusedVariables false
namespace Ref18
open Li
variable {W0 : World} {X : Nat → Prop} {R C : List Ch}
def refLine (L : List It2) (t : Int) : Int × Int × Bool := match lineP L t with
  | none => (0, 0, false)
  | some x => (x.par, x.a, decide (x.par < t))
theorem lineP_at {L : List It2} {t : Int} {i : Nat} {x : It2} (hno : ∀ y ∈ L.take i, isLine t y = false) (hx : L[i]? = some x) (h : isLine t x = true) : lineP L t = some x := by
  obtain ⟨hi, he⟩ := List.getElem?_eq_some_iff.1 hx
  have e : L = L.take i ++ x :: L.drop (i + 1) := by rw [← he]; simp
  unfold lineP
  rw [e, List.find?_append, List.find?_eq_none.2 (fun y hy => by rw [hno y hy]; simp), List.find?_cons, h]; rfl
set_option maxRecDepth 100000 in
set_option maxHeartbeats 2000000 in
theorem line_ct (s : Value) (hs : IsSl s) (L : List It2) (hok : ∀ x ∈ L, x.ok) (t : Int) (hsl : SlC 9 s (L.map It2.v) ∈ R) (hm : L.length * 88 ≤ 140737488355328) :
    Ct Tryz.prog 58 [s, .int .i64 t] W0 X R C Unit (fun _ => .tuple #[.int .i64 (refLine L t).1, .int .i64 (refLine L t).2.1, .bool (refLine L t).2.2]) (fun _ => R) (fun _ => C) := by
  intro w hw
  have hF := isWide_wide
  obtain ⟨sa, sn, sc, rfl⟩ := hs
  obtain rfl := slLen (hw.hasR hsl)
  have hlv : (L.map It2.v).length = L.length := by simp
  refine calls_nx Tryz.func58 rfl Tryz.ntmps58 rfl ?_ hw
  repeat' (first | ((first | with_reducible refine nl_op rfl ?_ | refine nd_go rfl rfl rfl ?_); intro K hK; (first | ((first | refine on_E hF rfl rfl ?_ | refine od_E rfl rfl ?_ | refine od_R rfl rfl ?_); (first | refine ⟨_, a_yl, ?_⟩ | refine ⟨_, (by first | exact yl_fieldB (T := 33) (f := 1) (q := 1) rfl rfl (by kernel_rfl) | exact yl_fieldE (T := 33) (f := 1) (j := 1) rfl rfl a_sl a_om (by kernel_rfl) | exact yl_fieldB (T := 33) (f := 2) (q := 2) rfl rfl (by kernel_rfl) | exact yl_fieldE (T := 33) (f := 2) (j := 2) rfl rfl a_sl a_om (by kernel_rfl) | exact yl_fieldB (T := 33) (f := 4) (q := 4) rfl rfl (by kernel_rfl) | exact yl_fieldE (T := 33) (f := 4) (j := 4) rfl rfl a_sl a_om (by kernel_rfl) | exact yl_fieldB (T := 33) (f := 6) (q := 6) rfl rfl (by kernel_rfl) | exact yl_fieldE (T := 33) (f := 6) (j := 6) rfl rfl a_sl a_om (by kernel_rfl)), ?_⟩)) | ((first | refine on_Ec hF rfl rfl ?_ | refine od_Ec rfl rfl ?_); refine ⟨_, _, _, a_yc, ?_, ?_⟩ <;> (intro hc; try exact a_cut hc)) | ((first | (refine od_act a_nd ?_; intro K2 hK2) | refine od_last a_nd ?_ | skip); (first | (refine on_alloc hF rfl Tryz.zeroValue33 rfl rfl (fun B => ?_)) | (refine on_box hF rfl rfl rfl rfl (fun B => ?_)) | (refine on_store hF rfl rfl rfl rfl a_turn a_vof a_sz ?_) | (refine on_storeE hF rfl rfl rfl rfl a_turn a_om a_vof a_sz ?_) | (refine on_storeEF hF rfl rfl rfl rfl a_turn a_as (by decide) a_vof rfl ?_) | (refine on_storeF hF rfl rfl rfl rfl a_turn (by decide) a_vof rfl ?_)) <;> try (refine hK2 _ _ _ a_allK ?_; clear hK2 K2))) <;> (refine hK _ _ _ ?_; clear hK K)) | with_reducible (first | refine nx_seq ?_ | refine nx_region ?_ | refine nl_nil ?_ | refine nq_then_n ?_ | refine nx_block ?_ | refine nx_skip ?_ | refine nx_exit ?_ | refine nx_ret ?_ | refine nq_then_x ?_ | refine nq_then_r ?_ | refine nq_blk_n ?_ | refine nq_blk_r ?_ | refine nq_blk_hit ?_ | refine nq_blk_miss rfl ?_ | refine nd_nil ?_) | refine nx_cond_t rfl ?_ | refine nx_cond_f rfl ?_ | refine nl_pass hF rfl rfl rfl ?_ | refine nd_pass rfl rfl rfl rfl rfl ?_ | refine nd_pass2 rfl rfl rfl a_nd a_allK rfl rfl ?_ | refine nd_pass3 rfl rfl rfl a_nd rfl rfl ?_ | (with_reducible refine hQ1 _ _ _ ?_; clear hQ1 Q1) | (refine nd_region (id := 5) hF [0, 1, 0, 1, 0, 1, 0, 0, 0, 0, 0] [0, 1, 2, 3, 4, 5, 6, 7, 8, 9, 10] _ _ (by kernel_rfl) (by kernel_rfl) sub2_same ?_; intro Q1 hQ1))
  refine nx_loop (ι := { i : Nat // i ≤ L.length ∧ ∀ y ∈ L.take i, isLine t y = false }) (fun i => [(1, .int .i64 t), (9, .slice sa (L.map It2.v).length sc), (10, .int .i64 ((L.map It2.v).length : Int)), (11, .int .i64 (i.1 : Int))]) (fun _ => R) (fun _ => C) (fun i => L.length - i.1) ⟨0, Nat.zero_le _, fun y hy => by cases hy⟩ (by exact a_sub) (by exact a_subR) (by exact a_holds) (fun i => ?_)
  obtain ⟨i, hi, hno⟩ := i
  dsimp only
  by_cases hlt : i < L.length
  · obtain ⟨x, hx⟩ : ∃ x, L[i]? = some x := ⟨L[i], by simp [hlt]⟩
    have hxm : x ∈ L := List.mem_of_getElem? hx
    have hxv : (L.map It2.v)[i]? = some x.v := by rw [List.getElem?_map, hx]; rfl
    have hvx := x.vof (hok x hxm)
    have hlx := fun h => lineP_at hno hx (t := t) h
    have hil : isLine t x = (decide (x.kind = 4) && decide (x.tl = t)) := rfl
    have hno2 : isLine t x = false → ∀ y ∈ L.take (i + 1), isLine t y = false := fun h y hy => by
      rw [List.take_add_one, hx] at hy
      rcases List.mem_append.1 hy with hy | hy
      · exact hno y hy
      · simp at hy; rw [hy]; exact h
    have hxo := hok x hxm
    obtain ⟨d1, kind, tl, d4, a, d6, par, d8, e⟩ := x
    obtain ⟨ea, en, ec, rfl⟩ : IsSl e := hxo
    dsimp only at hil
    by_cases h : kind = 4 ∧ tl = t
    · have h2 := hlx (by rw [hil]; simp [h])
      have hr : refLine L t = (par, a, decide (par < t)) := by unfold refLine; rw [h2]
      rw [hr]
      repeat' (first | ((first | with_reducible refine nl_op rfl ?_ | refine nd_go rfl rfl rfl ?_); intro K hK; (first | ((first | refine on_E hF rfl rfl ?_ | refine od_E rfl rfl ?_ | refine od_R rfl rfl ?_); (first | refine ⟨_, a_yl, ?_⟩ | refine ⟨_, (by first | exact yl_fieldB (T := 33) (f := 1) (q := 1) rfl rfl (by kernel_rfl) | exact yl_fieldE (T := 33) (f := 1) (j := 1) rfl rfl a_sl a_om (by kernel_rfl) | exact yl_fieldB (T := 33) (f := 2) (q := 2) rfl rfl (by kernel_rfl) | exact yl_fieldE (T := 33) (f := 2) (j := 2) rfl rfl a_sl a_om (by kernel_rfl) | exact yl_fieldB (T := 33) (f := 4) (q := 4) rfl rfl (by kernel_rfl) | exact yl_fieldE (T := 33) (f := 4) (j := 4) rfl rfl a_sl a_om (by kernel_rfl) | exact yl_fieldB (T := 33) (f := 6) (q := 6) rfl rfl (by kernel_rfl) | exact yl_fieldE (T := 33) (f := 6) (j := 6) rfl rfl a_sl a_om (by kernel_rfl)), ?_⟩)) | ((first | refine on_Ec hF rfl rfl ?_ | refine od_Ec rfl rfl ?_); refine ⟨_, _, _, a_yc, ?_, ?_⟩ <;> (intro hc; try exact a_cut hc)) | ((first | (refine od_act a_nd ?_; intro K2 hK2) | refine od_last a_nd ?_ | skip); (first | (refine on_alloc hF rfl Tryz.zeroValue33 rfl rfl (fun B => ?_)) | (refine on_box hF rfl rfl rfl rfl (fun B => ?_)) | (refine on_store hF rfl rfl rfl rfl a_turn a_vof a_sz ?_) | (refine on_storeE hF rfl rfl rfl rfl a_turn a_om a_vof a_sz ?_) | (refine on_storeEF hF rfl rfl rfl rfl a_turn a_as (by decide) a_vof rfl ?_) | (refine on_storeF hF rfl rfl rfl rfl a_turn (by decide) a_vof rfl ?_)) <;> try (refine hK2 _ _ _ a_allK ?_; clear hK2 K2))) <;> (refine hK _ _ _ ?_; clear hK K)) | with_reducible (first | refine nx_seq ?_ | refine nx_region ?_ | refine nl_nil ?_ | refine nq_then_n ?_ | refine nx_block ?_ | refine nx_skip ?_ | refine nx_exit ?_ | refine nx_ret ?_ | refine nq_then_x ?_ | refine nq_then_r ?_ | refine nq_blk_n ?_ | refine nq_blk_r ?_ | refine nq_blk_hit ?_ | refine nq_blk_miss rfl ?_ | refine nd_nil ?_) | refine nx_cond_t rfl ?_ | refine nx_cond_f rfl ?_ | refine nl_pass hF rfl rfl rfl ?_ | refine nd_pass rfl rfl rfl rfl rfl ?_ | refine nd_pass2 rfl rfl rfl a_nd a_allK rfl rfl ?_ | refine nd_pass3 rfl rfl rfl a_nd rfl rfl ?_ | (with_reducible refine hQ1 _ _ _ ?_; clear hQ1 Q1) | (refine nd_region (id := 5) hF [0, 1, 0, 1, 0, 1, 0, 0, 0, 0, 0] [0, 1, 2, 3, 4, 5, 6, 7, 8, 9, 10] _ _ (by kernel_rfl) (by kernel_rfl) sub2_same ?_; intro Q1 hQ1))
      all_goals (first
        | (exfalso; dsimp only at *; omega)
        | (have h3 : par < t := hc
           rw [decide_eq_true h3]
           refine nx_end [] rfl () (fun a w ha hw => res_tmp3 Tryz.results58 rfl rfl rfl ha) (by exact a_subR) (by exact a_holds2))
        | (have h3 : ¬ par < t := hc
           rw [decide_eq_false h3]
           refine nx_end [] rfl () (fun a w ha hw => res_tmp3 Tryz.results58 rfl rfl rfl ha) (by exact a_subR) (by exact a_holds2)))
    · have hn := hno2 (by rw [hil]; simp; omega)
      repeat' (first | ((first | with_reducible refine nl_op rfl ?_ | refine nd_go rfl rfl rfl ?_); intro K hK; (first | ((first | refine on_E hF rfl rfl ?_ | refine od_E rfl rfl ?_ | refine od_R rfl rfl ?_); (first | refine ⟨_, a_yl, ?_⟩ | refine ⟨_, (by first | exact yl_fieldB (T := 33) (f := 1) (q := 1) rfl rfl (by kernel_rfl) | exact yl_fieldE (T := 33) (f := 1) (j := 1) rfl rfl a_sl a_om (by kernel_rfl) | exact yl_fieldB (T := 33) (f := 2) (q := 2) rfl rfl (by kernel_rfl) | exact yl_fieldE (T := 33) (f := 2) (j := 2) rfl rfl a_sl a_om (by kernel_rfl) | exact yl_fieldB (T := 33) (f := 4) (q := 4) rfl rfl (by kernel_rfl) | exact yl_fieldE (T := 33) (f := 4) (j := 4) rfl rfl a_sl a_om (by kernel_rfl) | exact yl_fieldB (T := 33) (f := 6) (q := 6) rfl rfl (by kernel_rfl) | exact yl_fieldE (T := 33) (f := 6) (j := 6) rfl rfl a_sl a_om (by kernel_rfl)), ?_⟩)) | ((first | refine on_Ec hF rfl rfl ?_ | refine od_Ec rfl rfl ?_); refine ⟨_, _, _, a_yc, ?_, ?_⟩ <;> (intro hc; try exact a_cut hc)) | ((first | (refine od_act a_nd ?_; intro K2 hK2) | refine od_last a_nd ?_ | skip); (first | (refine on_alloc hF rfl Tryz.zeroValue33 rfl rfl (fun B => ?_)) | (refine on_box hF rfl rfl rfl rfl (fun B => ?_)) | (refine on_store hF rfl rfl rfl rfl a_turn a_vof a_sz ?_) | (refine on_storeE hF rfl rfl rfl rfl a_turn a_om a_vof a_sz ?_) | (refine on_storeEF hF rfl rfl rfl rfl a_turn a_as (by decide) a_vof rfl ?_) | (refine on_storeF hF rfl rfl rfl rfl a_turn (by decide) a_vof rfl ?_)) <;> try (refine hK2 _ _ _ a_allK ?_; clear hK2 K2))) <;> (refine hK _ _ _ ?_; clear hK K)) | with_reducible (first | refine nx_seq ?_ | refine nx_region ?_ | refine nl_nil ?_ | refine nq_then_n ?_ | refine nx_block ?_ | refine nx_skip ?_ | refine nx_exit ?_ | refine nx_ret ?_ | refine nq_then_x ?_ | refine nq_then_r ?_ | refine nq_blk_n ?_ | refine nq_blk_r ?_ | refine nq_blk_hit ?_ | refine nq_blk_miss rfl ?_ | refine nd_nil ?_) | refine nx_cond_t rfl ?_ | refine nx_cond_f rfl ?_ | refine nl_pass hF rfl rfl rfl ?_ | refine nd_pass rfl rfl rfl rfl rfl ?_ | refine nd_pass2 rfl rfl rfl a_nd a_allK rfl rfl ?_ | refine nd_pass3 rfl rfl rfl a_nd rfl rfl ?_ | (with_reducible refine hQ1 _ _ _ ?_; clear hQ1 Q1) | (refine nd_region (id := 5) hF [0, 1, 0, 1, 0, 1, 0, 0, 0, 0, 0] [0, 1, 2, 3, 4, 5, 6, 7, 8, 9, 10] _ _ (by kernel_rfl) (by kernel_rfl) sub2_same ?_; intro Q1 hQ1))
      all_goals (first
        | (exfalso; dsimp only at *; omega)
        | refine nx_again ⟨i + 1, by omega, hn⟩ (by dsimp only; omega) (by exact a_sub) (by exact a_subR) (by exact a_holds))
  · have he : lineP L t = none := by
      unfold lineP
      refine List.find?_eq_none.2 (fun y hy => ?_)
      rw [hno y (by rw [List.take_of_length_le (by omega)]; exact hy)]; simp
    have hr : refLine L t = (0, 0, false) := by unfold refLine; rw [he]
    rw [hr]
    repeat' (first | ((first | with_reducible refine nl_op rfl ?_ | refine nd_go rfl rfl rfl ?_); intro K hK; (first | ((first | refine on_E hF rfl rfl ?_ | refine od_E rfl rfl ?_ | refine od_R rfl rfl ?_); (first | refine ⟨_, a_yl, ?_⟩ | refine ⟨_, (by first | exact yl_fieldB (T := 33) (f := 1) (q := 1) rfl rfl (by kernel_rfl) | exact yl_fieldE (T := 33) (f := 1) (j := 1) rfl rfl a_sl a_om (by kernel_rfl) | exact yl_fieldB (T := 33) (f := 2) (q := 2) rfl rfl (by kernel_rfl) | exact yl_fieldE (T := 33) (f := 2) (j := 2) rfl rfl a_sl a_om (by kernel_rfl) | exact yl_fieldB (T := 33) (f := 4) (q := 4) rfl rfl (by kernel_rfl) | exact yl_fieldE (T := 33) (f := 4) (j := 4) rfl rfl a_sl a_om (by kernel_rfl) | exact yl_fieldB (T := 33) (f := 6) (q := 6) rfl rfl (by kernel_rfl) | exact yl_fieldE (T := 33) (f := 6) (j := 6) rfl rfl a_sl a_om (by kernel_rfl)), ?_⟩)) | ((first | refine on_Ec hF rfl rfl ?_ | refine od_Ec rfl rfl ?_); refine ⟨_, _, _, a_yc, ?_, ?_⟩ <;> (intro hc; try exact a_cut hc)) | ((first | (refine od_act a_nd ?_; intro K2 hK2) | refine od_last a_nd ?_ | skip); (first | (refine on_alloc hF rfl Tryz.zeroValue33 rfl rfl (fun B => ?_)) | (refine on_box hF rfl rfl rfl rfl (fun B => ?_)) | (refine on_store hF rfl rfl rfl rfl a_turn a_vof a_sz ?_) | (refine on_storeE hF rfl rfl rfl rfl a_turn a_om a_vof a_sz ?_) | (refine on_storeEF hF rfl rfl rfl rfl a_turn a_as (by decide) a_vof rfl ?_) | (refine on_storeF hF rfl rfl rfl rfl a_turn (by decide) a_vof rfl ?_)) <;> try (refine hK2 _ _ _ a_allK ?_; clear hK2 K2))) <;> (refine hK _ _ _ ?_; clear hK K)) | with_reducible (first | refine nx_seq ?_ | refine nx_region ?_ | refine nl_nil ?_ | refine nq_then_n ?_ | refine nx_block ?_ | refine nx_skip ?_ | refine nx_exit ?_ | refine nx_ret ?_ | refine nq_then_x ?_ | refine nq_then_r ?_ | refine nq_blk_n ?_ | refine nq_blk_r ?_ | refine nq_blk_hit ?_ | refine nq_blk_miss rfl ?_ | refine nd_nil ?_) | refine nx_cond_t rfl ?_ | refine nx_cond_f rfl ?_ | refine nl_pass hF rfl rfl rfl ?_ | refine nd_pass rfl rfl rfl rfl rfl ?_ | refine nd_pass2 rfl rfl rfl a_nd a_allK rfl rfl ?_ | refine nd_pass3 rfl rfl rfl a_nd rfl rfl ?_ | (with_reducible refine hQ1 _ _ _ ?_; clear hQ1 Q1) | (refine nd_region (id := 5) hF [0, 1, 0, 1, 0, 1, 0, 0, 0, 0, 0] [0, 1, 2, 3, 4, 5, 6, 7, 8, 9, 10] _ _ (by kernel_rfl) (by kernel_rfl) sub2_same ?_; intro Q1 hQ1))
    refine nx_end [] rfl () (fun a w ha hw => res_tmp3 Tryz.results58 rfl rfl rfl ha) (by exact a_subR) (by exact a_holds2)
set_option maxRecDepth 100000 in
set_option maxHeartbeats 2000000 in
theorem known_ct (L : List It2) (hok : ∀ x ∈ L, x.ok) (hm : L.length * 88 ≤ 140737488355328) : ∀ (k : Nat) (t : Int), t.toNat ≤ k → ∀ (W0 : World) (X : Nat → Prop) (R C : List Ch) (s : Value) (hs : IsSl s) (hsl : SlC 9 s (L.map It2.v) ∈ R),
    Ct Tryz.prog 34 [s, .int .i64 t] W0 X R C Unit (fun _ => .bool (knownL L t)) (fun _ => R) (fun _ => C) := by
  intro k
  induction k with
  | zero =>
    intro t ht W0 X R C s hs hsl w hw
    have hF := isWide_wide
    have h1 : ¬ 1 < t := by omega
    rw [knownL_le h1]
    refine calls_nx Tryz.func34 rfl Tryz.ntmps34 rfl ?_ hw
    repeat' (first | ((first | with_reducible refine nl_op rfl ?_ | refine nd_go rfl rfl rfl ?_); intro K hK; (first | ((first | refine on_E hF rfl rfl ?_ | refine od_E rfl rfl ?_ | refine od_R rfl rfl ?_); (first | refine ⟨_, a_yl, ?_⟩)) | ((first | refine on_Ec hF rfl rfl ?_ | refine od_Ec rfl rfl ?_); refine ⟨_, _, _, a_yc, ?_, ?_⟩ <;> (intro hc; try exact a_cut hc)) | ((first | (refine od_act a_nd ?_; intro K2 hK2) | refine od_last a_nd ?_ | skip); (first  | (refine on_box hF rfl rfl rfl rfl (fun B => ?_)) | (refine on_store hF rfl rfl rfl rfl a_turn a_vof a_sz ?_) | (refine on_storeE hF rfl rfl rfl rfl a_turn a_om a_vof a_sz ?_) | (refine on_storeEF hF rfl rfl rfl rfl a_turn a_as (by decide) a_vof rfl ?_) | (refine on_storeF hF rfl rfl rfl rfl a_turn (by decide) a_vof rfl ?_)) <;> try (refine hK2 _ _ _ a_allK ?_; clear hK2 K2))) <;> (refine hK _ _ _ ?_; clear hK K)) | with_reducible (first | refine nx_seq ?_ | refine nx_region ?_ | refine nl_nil ?_ | refine nq_then_n ?_ | refine nx_block ?_ | refine nx_skip ?_ | refine nx_exit ?_ | refine nx_ret ?_ | refine nq_then_x ?_ | refine nq_then_r ?_ | refine nq_blk_n ?_ | refine nq_blk_r ?_ | refine nq_blk_hit ?_ | refine nq_blk_miss rfl ?_ | refine nd_nil ?_) | refine nx_cond_t rfl ?_ | refine nx_cond_f rfl ?_ | refine nl_pass hF rfl rfl rfl ?_ | refine nd_pass rfl rfl rfl rfl rfl ?_ | refine nd_pass2 rfl rfl rfl a_nd a_allK rfl rfl ?_ | refine nd_pass3 rfl rfl rfl a_nd rfl rfl ?_ | (with_reducible refine hQ1 _ _ _ ?_; clear hQ1 Q1) )
    rw [decide_eq_false hc]
    refine nx_end [] rfl () (fun a w ha hw => res_tmp Tryz.results34 rfl ha) (by exact a_subR) (by exact a_holds2)
  | succ k ih =>
    intro t ht W0 X R C s hs hsl w hw
    have hF := isWide_wide
    by_cases h1 : 1 < t
    · have lc := fun (W0 : World) (X : Nat → Prop) (R C : List Ch) h => line_ct (W0 := W0) (X := X) (R := R) (C := C) s hs L hok t h hm
      cases hl : lineP L t with
      | none =>
        rw [show refLine L t = (0, 0, false) by unfold refLine; rw [hl]] at lc
        rw [knownL_none h1 hl]
        dsimp only at lc
        refine calls_nx Tryz.func34 rfl Tryz.ntmps34 rfl ?_ hw
        repeat' (first | ((first | with_reducible refine nl_op rfl ?_ | refine nd_go rfl rfl rfl ?_); intro K hK; (first | ((first | refine on_E hF rfl rfl ?_ | refine od_E rfl rfl ?_ | refine od_R rfl rfl ?_); (first | refine ⟨_, a_yl, ?_⟩)) | ((first | refine on_Ec hF rfl rfl ?_ | refine od_Ec rfl rfl ?_); refine ⟨_, _, _, a_yc, ?_, ?_⟩ <;> (intro hc; try exact a_cut hc)) | ((first | (refine od_act a_nd ?_; intro K2 hK2) | refine od_last a_nd ?_ | skip); (first | (refine on_callG hF (enters_of Tryz.func58 (by kernel_rfl) rfl) rfl rfl rfl rfl (lc _ _ _ _ (by exact a_mem)) (fun _ => ?_)) | (refine on_box hF rfl rfl rfl rfl (fun B => ?_)) | (refine on_store hF rfl rfl rfl rfl a_turn a_vof a_sz ?_) | (refine on_storeE hF rfl rfl rfl rfl a_turn a_om a_vof a_sz ?_) | (refine on_storeEF hF rfl rfl rfl rfl a_turn a_as (by decide) a_vof rfl ?_) | (refine on_storeF hF rfl rfl rfl rfl a_turn (by decide) a_vof rfl ?_)) <;> try (refine hK2 _ _ _ a_allK ?_; clear hK2 K2))) <;> (refine hK _ _ _ ?_; clear hK K)) | with_reducible (first | refine nx_seq ?_ | refine nx_region ?_ | refine nl_nil ?_ | refine nq_then_n ?_ | refine nx_block ?_ | refine nx_skip ?_ | refine nx_exit ?_ | refine nx_ret ?_ | refine nq_then_x ?_ | refine nq_then_r ?_ | refine nq_blk_n ?_ | refine nq_blk_r ?_ | refine nq_blk_hit ?_ | refine nq_blk_miss rfl ?_ | refine nd_nil ?_) | refine nx_cond_t rfl ?_ | refine nx_cond_f rfl ?_ | refine nl_pass hF rfl rfl rfl ?_ | refine nd_pass rfl rfl rfl rfl rfl ?_ | refine nd_pass2 rfl rfl rfl a_nd a_allK rfl rfl ?_ | refine nd_pass3 rfl rfl rfl a_nd rfl rfl ?_ | (with_reducible refine hQ1 _ _ _ ?_; clear hQ1 Q1) )
        refine nx_end [] rfl () (fun a w ha hw => res_tmp Tryz.results34 rfl ha) (by exact a_subR) (by exact a_holds2)
      | some x =>
        rw [show refLine L t = (x.par, x.a, decide (x.par < t)) by unfold refLine; rw [hl]] at lc
        dsimp only at lc
        have hks := knownL_some h1 hl
        by_cases h2 : x.par < t
        · rw [if_pos h2] at hks
          rw [hks]
          simp only [decide_eq_true h2] at lc
          have rc := ih x.par (by omega)
          refine calls_nx Tryz.func34 rfl Tryz.ntmps34 rfl ?_ hw
          repeat' (first | ((first | with_reducible refine nl_op rfl ?_ | refine nd_go rfl rfl rfl ?_); intro K hK; (first | ((first | refine on_E hF rfl rfl ?_ | refine od_E rfl rfl ?_ | refine od_R rfl rfl ?_); (first | refine ⟨_, a_yl, ?_⟩)) | ((first | refine on_Ec hF rfl rfl ?_ | refine od_Ec rfl rfl ?_); refine ⟨_, _, _, a_yc, ?_, ?_⟩ <;> (intro hc; try exact a_cut hc)) | ((first | (refine od_act a_nd ?_; intro K2 hK2) | refine od_last a_nd ?_ | skip); (first | (refine on_callG hF (enters_of Tryz.func58 (by kernel_rfl) rfl) rfl rfl rfl rfl (lc _ _ _ _ (by exact a_mem)) (fun _ => ?_)) | (refine on_callG hF (enters_of Tryz.func34 (by kernel_rfl) rfl) rfl rfl rfl rfl (rc _ _ _ _ _ hs (by exact a_mem)) (fun _ => ?_)) | (refine on_box hF rfl rfl rfl rfl (fun B => ?_)) | (refine on_store hF rfl rfl rfl rfl a_turn a_vof a_sz ?_) | (refine on_storeE hF rfl rfl rfl rfl a_turn a_om a_vof a_sz ?_) | (refine on_storeEF hF rfl rfl rfl rfl a_turn a_as (by decide) a_vof rfl ?_) | (refine on_storeF hF rfl rfl rfl rfl a_turn (by decide) a_vof rfl ?_)) <;> try (refine hK2 _ _ _ a_allK ?_; clear hK2 K2))) <;> (refine hK _ _ _ ?_; clear hK K)) | with_reducible (first | refine nx_seq ?_ | refine nx_region ?_ | refine nl_nil ?_ | refine nq_then_n ?_ | refine nx_block ?_ | refine nx_skip ?_ | refine nx_exit ?_ | refine nx_ret ?_ | refine nq_then_x ?_ | refine nq_then_r ?_ | refine nq_blk_n ?_ | refine nq_blk_r ?_ | refine nq_blk_hit ?_ | refine nq_blk_miss rfl ?_ | refine nd_nil ?_) | refine nx_cond_t rfl ?_ | refine nx_cond_f rfl ?_ | refine nl_pass hF rfl rfl rfl ?_ | refine nd_pass rfl rfl rfl rfl rfl ?_ | refine nd_pass2 rfl rfl rfl a_nd a_allK rfl rfl ?_ | refine nd_pass3 rfl rfl rfl a_nd rfl rfl ?_ | (with_reducible refine hQ1 _ _ _ ?_; clear hQ1 Q1) )
          refine nx_end [] rfl () (fun a w ha hw => res_tmp Tryz.results34 rfl ha) (by exact a_subR) (by exact a_holds2)
        · rw [if_neg h2] at hks
          rw [hks]
          simp only [decide_eq_false h2] at lc
          refine calls_nx Tryz.func34 rfl Tryz.ntmps34 rfl ?_ hw
          repeat' (first | ((first | with_reducible refine nl_op rfl ?_ | refine nd_go rfl rfl rfl ?_); intro K hK; (first | ((first | refine on_E hF rfl rfl ?_ | refine od_E rfl rfl ?_ | refine od_R rfl rfl ?_); (first | refine ⟨_, a_yl, ?_⟩)) | ((first | refine on_Ec hF rfl rfl ?_ | refine od_Ec rfl rfl ?_); refine ⟨_, _, _, a_yc, ?_, ?_⟩ <;> (intro hc; try exact a_cut hc)) | ((first | (refine od_act a_nd ?_; intro K2 hK2) | refine od_last a_nd ?_ | skip); (first | (refine on_callG hF (enters_of Tryz.func58 (by kernel_rfl) rfl) rfl rfl rfl rfl (lc _ _ _ _ (by exact a_mem)) (fun _ => ?_)) | (refine on_box hF rfl rfl rfl rfl (fun B => ?_)) | (refine on_store hF rfl rfl rfl rfl a_turn a_vof a_sz ?_) | (refine on_storeE hF rfl rfl rfl rfl a_turn a_om a_vof a_sz ?_) | (refine on_storeEF hF rfl rfl rfl rfl a_turn a_as (by decide) a_vof rfl ?_) | (refine on_storeF hF rfl rfl rfl rfl a_turn (by decide) a_vof rfl ?_)) <;> try (refine hK2 _ _ _ a_allK ?_; clear hK2 K2))) <;> (refine hK _ _ _ ?_; clear hK K)) | with_reducible (first | refine nx_seq ?_ | refine nx_region ?_ | refine nl_nil ?_ | refine nq_then_n ?_ | refine nx_block ?_ | refine nx_skip ?_ | refine nx_exit ?_ | refine nx_ret ?_ | refine nq_then_x ?_ | refine nq_then_r ?_ | refine nq_blk_n ?_ | refine nq_blk_r ?_ | refine nq_blk_hit ?_ | refine nq_blk_miss rfl ?_ | refine nd_nil ?_) | refine nx_cond_t rfl ?_ | refine nx_cond_f rfl ?_ | refine nl_pass hF rfl rfl rfl ?_ | refine nd_pass rfl rfl rfl rfl rfl ?_ | refine nd_pass2 rfl rfl rfl a_nd a_allK rfl rfl ?_ | refine nd_pass3 rfl rfl rfl a_nd rfl rfl ?_ | (with_reducible refine hQ1 _ _ _ ?_; clear hQ1 Q1) )
          refine nx_end [] rfl () (fun a w ha hw => res_tmp Tryz.results34 rfl ha) (by exact a_subR) (by exact a_holds2)
    · rw [knownL_le h1]
      refine calls_nx Tryz.func34 rfl Tryz.ntmps34 rfl ?_ hw
      repeat' (first | ((first | with_reducible refine nl_op rfl ?_ | refine nd_go rfl rfl rfl ?_); intro K hK; (first | ((first | refine on_E hF rfl rfl ?_ | refine od_E rfl rfl ?_ | refine od_R rfl rfl ?_); (first | refine ⟨_, a_yl, ?_⟩)) | ((first | refine on_Ec hF rfl rfl ?_ | refine od_Ec rfl rfl ?_); refine ⟨_, _, _, a_yc, ?_, ?_⟩ <;> (intro hc; try exact a_cut hc)) | ((first | (refine od_act a_nd ?_; intro K2 hK2) | refine od_last a_nd ?_ | skip); (first  | (refine on_box hF rfl rfl rfl rfl (fun B => ?_)) | (refine on_store hF rfl rfl rfl rfl a_turn a_vof a_sz ?_) | (refine on_storeE hF rfl rfl rfl rfl a_turn a_om a_vof a_sz ?_) | (refine on_storeEF hF rfl rfl rfl rfl a_turn a_as (by decide) a_vof rfl ?_) | (refine on_storeF hF rfl rfl rfl rfl a_turn (by decide) a_vof rfl ?_)) <;> try (refine hK2 _ _ _ a_allK ?_; clear hK2 K2))) <;> (refine hK _ _ _ ?_; clear hK K)) | with_reducible (first | refine nx_seq ?_ | refine nx_region ?_ | refine nl_nil ?_ | refine nq_then_n ?_ | refine nx_block ?_ | refine nx_skip ?_ | refine nx_exit ?_ | refine nx_ret ?_ | refine nq_then_x ?_ | refine nq_then_r ?_ | refine nq_blk_n ?_ | refine nq_blk_r ?_ | refine nq_blk_hit ?_ | refine nq_blk_miss rfl ?_ | refine nd_nil ?_) | refine nx_cond_t rfl ?_ | refine nx_cond_f rfl ?_ | refine nl_pass hF rfl rfl rfl ?_ | refine nd_pass rfl rfl rfl rfl rfl ?_ | refine nd_pass2 rfl rfl rfl a_nd a_allK rfl rfl ?_ | refine nd_pass3 rfl rfl rfl a_nd rfl rfl ?_ | (with_reducible refine hQ1 _ _ _ ?_; clear hQ1 Q1) )
      · rw [decide_eq_true hc]
        refine nx_end [] rfl () (fun a w ha hw => res_tmp Tryz.results34 rfl ha) (by exact a_subR) (by exact a_holds2)
      · rw [decide_eq_false hc]
        refine nx_end [] rfl () (fun a w ha hw => res_tmp Tryz.results34 rfl ha) (by exact a_subR) (by exact a_holds2)
end Ref18
end Go.Proofs.YtinofjenoapeaaaGreat
end
section
namespace Go.Proofs.YtinofjenoapeaaaGreat
open Go.RowKit Go.Shelf
set_option linter.unusedSimpArgs false
set_option linter.unusedVariables false
namespace Rf22
open Pl Li Pr
variable {W0 : World} {X : Nat → Prop} {R C : List Ch}
/-- What find tells: a plan with no end, or none. -/
def fndRet (r : Option (It2 × List Int × List Int)) (i : SV × SV × SV) : Value := match r with
  | none => .tuple #[planV nilV nilV nilV 0 0, .bool false]
  | some p => .tuple #[planV i.1.1 i.2.1.1 i.2.2.1 p.1.a 0, .bool true]
/-- What Find tells. -/
def FndRet (r : Option (It2 × List Int × List Int)) (n : Int) (i : SV × SV × SV) : Value := match r with
  | none => .tuple #[planV nilV nilV nilV 0 0, .bool false]
  | some p => .tuple #[planV i.1.1 i.2.1.1 i.2.2.1 p.1.a n, .bool true]
theorem refF_bad {L : List It2} {t to n : Int} (h : n < 0 ∨ knownL L t = false) : refF L t to n = none := by rw [refF, if_pos h]
theorem refF_best {L : List It2} {t to n : Int} (hn : 0 ≤ n) (hk : knownL L t = true) (hb : (Chn.bestOf L t (min (parentP L t).2.1 to) to).2 = true) : refF L t to n = more L (some ((Chn.bestOf L t (min (parentP L t).2.1 to) to).1, [], [])) t (Chn.bestOf L t (min (parentP L t).2.1 to) to).1.a to := by
  rw [refF, if_neg (by rw [hk]; simp; omega), if_pos hb]
theorem refF_up {L : List It2} {t to n : Int} (hn : 0 ≤ n) (hk : knownL L t = true) (hb : (Chn.bestOf L t (min (parentP L t).2.1 to) to).2 = false) (h1 : 1 < t) : refF L t to n = more L (refF L (parentP L t).1 (min (parentP L t).2.1 to) n) t (min (parentP L t).2.1 to) to := by
  rw [refF, if_neg (by rw [hk]; simp; omega), if_neg (by rw [hb]; simp), dif_pos h1]
theorem refF_one {L : List It2} {t to n : Int} (hn : 0 ≤ n) (hk : knownL L t = true) (hb : (Chn.bestOf L t (min (parentP L t).2.1 to) to).2 = false) (h1 : ¬ 1 < t) : refF L t to n = none := by
  rw [refF, if_neg (by rw [hk]; simp; omega), if_neg (by rw [hb]; simp), dif_neg h1]
theorem more_some {L : List It2} {p q : It2 × List Int × List Int} {u fr to : Int} (h : more L (some p) u fr to = some q) : ∃ ids : List Int, ids.length ≤ L.length ∧ q = (p.1, p.2.1 ++ ids, p.2.2 ++ List.replicate ids.length to) := by
  unfold more at h
  dsimp only at h
  have hl := cover_lenD L u fr to
  cases hc : Re.cover L u fr to with
  | none => rw [hc] at h; cases h
  | some ids =>
    rw [hc] at h hl
    injection h with h
    exact ⟨ids, by simpa using hl, h.symm⟩
theorem refF_len {L : List It2} {n : Int} : ∀ (m : Nat) (t to : Int) (p : It2 × List Int × List Int), t.toNat ≤ m → refF L t to n = some p → p.2.1.length ≤ (wayU L t to).length * L.length ∧ p.2.2.length ≤ (wayU L t to).length * L.length := by
  intro m
  induction m with
  | zero =>
    intro t to p hm h
    cases hk : knownL L t with
    | false => rw [refF_bad (.inr hk)] at h; cases h
    | true => have := Pl.known_pos hk; omega
  | succ m ih =>
    intro t to p hm h
    by_cases hn : n < 0
    · rw [refF_bad (.inl hn)] at h; cases h
    cases hk : knownL L t with
    | false => rw [refF_bad (.inr hk)] at h; cases h
    | true =>
      have h1 := Pl.known_pos hk
      rw [way_ge h1, List.length_cons, Nat.succ_mul]
      cases hb : (Chn.bestOf L t (min (parentP L t).2.1 to) to).2 with
      | true =>
        rw [refF_best (by omega) hk hb] at h
        obtain ⟨ids, hl, rfl⟩ := more_some h
        simp; omega
      | false =>
        by_cases h2 : 1 < t
        · rw [refF_up (by omega) hk hb h2] at h
          have hlt := parent_lt L t h1
          cases hq : refF L (parentP L t).1 (min (parentP L t).2.1 to) n with
          | none => rw [hq] at h; cases h
          | some q =>
            have := ih _ _ q (by omega) hq
            rw [hq] at h
            obtain ⟨ids, hl, rfl⟩ := more_some h
            simp; omega
        · rw [refF_one (by omega) hk hb h2] at h; cases h
theorem refF_few {L : List It2} {n t to : Int} {p : It2 × List Int × List Int} (hm : L.length ≤ 20) (h : refF L t to n = some p) : p.2.1.length ≤ 1000 ∧ p.2.2.length ≤ 1000 := by
  have h1 := refF_len t.toNat t to p (Nat.le_refl _) h
  have h2 := wayU_few L t to
  have h3 : (wayU L t to).length * L.length ≤ 21 * 20 := Nat.mul_le_mul (by omega) hm
  omega
abbrev FQ (W0 : World) (X : Nat → Prop) (R C : List Ch) (L : List It2) (res : Option (It2 × List Int × List Int)) : Exit → Act → World → Prop := bodyPostM Fence.wide 0 Tryz.prog Tryz.f35 (fun e w' => ∃ i : SV × SV × SV, e = Ending.returned (fndRet res i) ∧ St W0 X R (findC L res C i) w')
theorem vofZ : VOf Tryz.prog 49 (planV nilV nilV nilV 0 0) := vofPlan ⟨_, _, _, rfl⟩ ⟨_, _, _, rfl⟩ ⟨_, _, _, rfl⟩ 0 0
theorem celI3 (zs : List Int) : Cel 1 (zs.map (Value.int .i64)) := Cel.of (P := Tryz.prog) (T := 3) (fun y hy => by obtain ⟨i, _, rfl⟩ := List.mem_map.1 hy; exact vof1 (by kernel_rfl) rfl rfl) (by kernel_rfl)
set_option maxRecDepth 100000 in
set_option maxHeartbeats 8000000 in
/-- The segments. -/
theorem f9 (s : Value) (hs : IsSl s) (L : List It2) (hok : ∀ x ∈ L, x.ok) (hm : L.length ≤ 20) (t to at_ : Int) (b8 b13 : Nat) (c g m : SV) (y : It2) (S M : List Int) (hS : S.length ≤ 1000) (hM : M.length ≤ 1000) (R' : List Ch) (hsl : SlC 9 s (L.map It2.v) ∈ R') (hR : ∀ r ∈ R, r ∈ R') (res : Option (It2 × List Int × List Int)) (hres : res = more L (some (y, S, M)) t at_ to) :
    Nx ((restOf 9 (bodyOf Tryz.f35)).wpIn Fence.wide 0 Tryz.prog (FQ W0 X R C L res)) 118 [(0, s), (1, .int .i64 t), (2, .int .i64 to), (8, ptr b8), (13, ptr b13), (16, .int .i64 at_)] [] W0 X R' (BoxC b13 49 (planV c.1 g.1 m.1 y.a 0) :: RowC 3 1 c.1 ((Chn.chainIds L y.id).map (.int .i64)) :: RowC 3 1 g.1 (S.map (.int .i64)) :: RowC 3 1 m.1 (M.map (.int .i64)) :: BoxC b8 49 (planV nilV nilV nilV 0 0) :: C) := by
  have hF := isWide_wide
  have hvz := vofZ
  have cc := fun (W0 : World) (X : Nat → Prop) (R C : List Ch) h => Rf20.cover_ct s hs L hok (by omega) t to _ at_ (Nat.lt_succ_self _) W0 X R C h
  have hzl := cover_lenD L t at_ to
  dsimp only [restOf, bodyOf, Tryz.f35]
  unfold more at hres
  dsimp only at hres
  cases hc : Re.cover L t at_ to with
  | none =>
    rw [hc] at cc hres
    dsimp only at hres
    subst hres
    simp only [Option.isSome_none, Option.getD_none, List.map_nil] at cc
    repeat' (first | ((first | with_reducible refine nl_op rfl ?_ | refine nd_go rfl rfl rfl ?_); intro K hK; (first | ((first | refine on_E hF rfl rfl ?_ | refine od_E rfl rfl ?_ | refine od_R rfl rfl ?_); (first | refine ⟨_, a_yl, ?_⟩ | refine ⟨_, (by first | exact yl_build (T := 49) (us := []) rfl rfl rfl (fun w => by go_simp; all_goals rfl) | exact yl_fieldB (T := 33) (f := 0) (q := 0) rfl rfl (by kernel_rfl) | exact yl_fieldE (T := 33) (f := 0) (j := 0) rfl rfl a_sl a_om (by kernel_rfl) | exact yl_fieldB (T := 33) (f := 4) (q := 4) rfl rfl (by kernel_rfl) | exact yl_fieldE (T := 33) (f := 4) (j := 4) rfl rfl a_sl a_om (by kernel_rfl) | exact yl_fieldB (T := 49) (f := 0) (q := 0) rfl rfl (by kernel_rfl) | exact yl_fieldE (T := 49) (f := 0) (j := 0) rfl rfl a_sl a_om (by kernel_rfl) | exact yl_fieldB (T := 49) (f := 1) (q := 1) rfl rfl (by kernel_rfl) | exact yl_fieldE (T := 49) (f := 1) (j := 1) rfl rfl a_sl a_om (by kernel_rfl) | exact yl_fieldB (T := 49) (f := 2) (q := 2) rfl rfl (by kernel_rfl) | exact yl_fieldE (T := 49) (f := 2) (j := 2) rfl rfl a_sl a_om (by kernel_rfl) | exact yl_fieldB (T := 49) (f := 3) (q := 3) rfl rfl (by kernel_rfl) | exact yl_fieldE (T := 49) (f := 3) (j := 3) rfl rfl a_sl a_om (by kernel_rfl)), ?_⟩)) | ((first | refine on_Ec hF rfl rfl ?_ | refine od_Ec rfl rfl ?_); refine ⟨_, _, _, a_yc, ?_, ?_⟩ <;> (intro hc; try exact a_cut hc)) | ((first | (refine od_act a_nd ?_; intro K2 hK2) | refine od_last a_nd ?_ | skip); (first | (refine on_callG hF (enters_of Tryz.func61 (by kernel_rfl) rfl) rfl rfl rfl rfl (cc _ _ _ _ (by exact a_mem)) (fun v => ?_)) | (refine on_buildSlice (T := 25) (e := 3) (k := 1) (by_ := 8) hF rfl rfl rfl rfl rfl rfl (by kernel_rfl) a_cel (Nat.le_of_ble_eq_true rfl) (fun b => ?_)) | (refine on_append (T := 25) (e := 3) (k := 1) (by_ := 8) hF rfl rfl rfl rfl rfl a_pick (by kernel_rfl) a_sl a_cel a_bnd a_bnd (fun v => ?_)) | (refine on_alloc hF rfl Tryz.zeroValue33 rfl rfl (fun B => ?_)) | (refine on_alloc hF rfl Tryz.zeroValue49 rfl rfl (fun B => ?_)) | (refine on_box hF rfl rfl rfl rfl (fun B => ?_)) | (refine on_store hF rfl rfl rfl rfl a_turn a_vof a_sz ?_) | (refine on_storeE hF rfl rfl rfl rfl a_turn a_om a_vof a_sz ?_) | (refine on_storeEF hF rfl rfl rfl rfl a_turn a_as (by decide) a_vof rfl ?_) | (refine on_storeF hF rfl rfl rfl rfl a_turn (by decide) a_vof rfl ?_)) <;> try (refine hK2 _ _ _ a_allK ?_; clear hK2 K2))) <;> (refine hK _ _ _ ?_; clear hK K)) | with_reducible (first | refine nx_seq ?_ | refine nx_region ?_ | refine nl_nil ?_ | refine nq_then_n ?_ | refine nx_block ?_ | refine nx_skip ?_ | refine nx_exit ?_ | refine nx_ret ?_ | refine nq_then_x ?_ | refine nq_then_r ?_ | refine nq_blk_n ?_ | refine nq_blk_r ?_ | refine nq_blk_hit ?_ | refine nq_blk_miss rfl ?_ | refine nd_nil ?_) | refine nx_cond_t rfl ?_ | refine nx_cond_f rfl ?_ | refine nl_pass hF rfl rfl rfl ?_ | refine nd_pass rfl rfl rfl rfl rfl ?_ | refine nd_pass2 rfl rfl rfl a_nd a_allK rfl rfl ?_ | refine nd_pass3 rfl rfl rfl a_nd rfl rfl ?_ | (with_reducible refine hQ1 _ _ _ ?_; clear hQ1 Q1) )
    refine nx_endc [] (BoxC b8 49 (planV nilV nilV nilV 0 0) :: C) rfl nil3 (fun a w ha hw => res_cell_tmp (T' := 49) Tryz.results35 rfl rfl (by exact a_mem) hvz ha hw) (by exact a_subR) (by exact a_holds2) (by exact a_holds2)
  | some ids =>
    rw [hc] at cc hres hzl
    dsimp only at hres
    subst hres
    simp only [Option.isSome_some, Option.getD_some] at cc hzl
    repeat' (first | ((first | with_reducible refine nl_op rfl ?_ | refine nd_go rfl rfl rfl ?_); intro K hK; (first | ((first | refine on_E hF rfl rfl ?_ | refine od_E rfl rfl ?_ | refine od_R rfl rfl ?_); (first | refine ⟨_, a_yl, ?_⟩ | refine ⟨_, (by first | exact yl_build (T := 49) (us := []) rfl rfl rfl (fun w => by go_simp; all_goals rfl) | exact yl_fieldB (T := 33) (f := 0) (q := 0) rfl rfl (by kernel_rfl) | exact yl_fieldE (T := 33) (f := 0) (j := 0) rfl rfl a_sl a_om (by kernel_rfl) | exact yl_fieldB (T := 33) (f := 4) (q := 4) rfl rfl (by kernel_rfl) | exact yl_fieldE (T := 33) (f := 4) (j := 4) rfl rfl a_sl a_om (by kernel_rfl) | exact yl_fieldB (T := 49) (f := 0) (q := 0) rfl rfl (by kernel_rfl) | exact yl_fieldE (T := 49) (f := 0) (j := 0) rfl rfl a_sl a_om (by kernel_rfl) | exact yl_fieldB (T := 49) (f := 1) (q := 1) rfl rfl (by kernel_rfl) | exact yl_fieldE (T := 49) (f := 1) (j := 1) rfl rfl a_sl a_om (by kernel_rfl) | exact yl_fieldB (T := 49) (f := 2) (q := 2) rfl rfl (by kernel_rfl) | exact yl_fieldE (T := 49) (f := 2) (j := 2) rfl rfl a_sl a_om (by kernel_rfl) | exact yl_fieldB (T := 49) (f := 3) (q := 3) rfl rfl (by kernel_rfl) | exact yl_fieldE (T := 49) (f := 3) (j := 3) rfl rfl a_sl a_om (by kernel_rfl)), ?_⟩)) | ((first | refine on_Ec hF rfl rfl ?_ | refine od_Ec rfl rfl ?_); refine ⟨_, _, _, a_yc, ?_, ?_⟩ <;> (intro hc; try exact a_cut hc)) | ((first | (refine od_act a_nd ?_; intro K2 hK2) | refine od_last a_nd ?_ | skip); (first | (refine on_callG hF (enters_of Tryz.func61 (by kernel_rfl) rfl) rfl rfl rfl rfl (cc _ _ _ _ (by exact a_mem)) (fun v => ?_); obtain ⟨v, va, vn, vc, rfl⟩ := v; dsimp only; refine nx_len (e := 3) (k := 1) (xs := ids.map (.int .i64)) (i := vn) (by exact a_mem) (fun hlen => ?_); subst hlen; refine nx_frzRow Pick.here ?_) | (refine on_buildSlice (T := 25) (e := 3) (k := 1) (by_ := 8) hF rfl rfl rfl rfl rfl rfl (by kernel_rfl) a_cel (Nat.le_of_ble_eq_true rfl) (fun b => ?_)) | (refine on_append (T := 25) (e := 3) (k := 1) (by_ := 8) hF rfl rfl rfl rfl rfl a_pick (by kernel_rfl) a_sl a_cel a_bnd a_bnd (fun v => ?_)) | (refine on_alloc hF rfl Tryz.zeroValue33 rfl rfl (fun B => ?_)) | (refine on_alloc hF rfl Tryz.zeroValue49 rfl rfl (fun B => ?_)) | (refine on_box hF rfl rfl rfl rfl (fun B => ?_)) | (refine on_store hF rfl rfl rfl rfl a_turn a_vof a_sz ?_) | (refine on_storeE hF rfl rfl rfl rfl a_turn a_om a_vof a_sz ?_) | (refine on_storeEF hF rfl rfl rfl rfl a_turn a_as (by decide) a_vof rfl ?_) | (refine on_storeF hF rfl rfl rfl rfl a_turn (by decide) a_vof rfl ?_)) <;> try (refine hK2 _ _ _ a_allK ?_; clear hK2 K2))) <;> (refine hK _ _ _ ?_; clear hK K)) | with_reducible (first | refine nx_seq ?_ | refine nx_region ?_ | refine nl_nil ?_ | refine nq_then_n ?_ | refine nx_block ?_ | refine nx_skip ?_ | refine nx_exit ?_ | refine nx_ret ?_ | refine nq_then_x ?_ | refine nq_then_r ?_ | refine nq_blk_n ?_ | refine nq_blk_r ?_ | refine nq_blk_hit ?_ | refine nq_blk_miss rfl ?_ | refine nd_nil ?_) | refine nx_cond_t rfl ?_ | refine nx_cond_f rfl ?_ | refine nl_pass hF rfl rfl rfl ?_ | refine nd_pass rfl rfl rfl rfl rfl ?_ | refine nd_pass2 rfl rfl rfl a_nd a_allK rfl rfl ?_ | refine nd_pass3 rfl rfl rfl a_nd rfl rfl ?_ | (with_reducible refine hQ1 _ _ _ ?_; clear hQ1 Q1) )
    have hlv : (ids.map (Value.int .i64)).length = ids.length := by simp
    rw [show S.map (Value.int .i64) = (S ++ ids.take 0).map (.int .i64) by simp, show M.map (Value.int .i64) = (M ++ List.replicate 0 to).map (.int .i64) by simp]
    refine nx_loop (ι := { i : Nat // i ≤ ids.length } × SV × SV) (fun p => [(2, .int .i64 to), (8, ptr b8), (13, ptr b13), (94, .slice va (ids.map (Value.int .i64)).length vc), (95, .int .i64 ((ids.map (Value.int .i64)).length : Int)), (96, .int .i64 (p.1.1 : Int))]) (fun _ => SlC 1 (.slice va (ids.map (Value.int .i64)).length vc) (ids.map (.int .i64)) :: R') (fun p => BoxC b13 49 (planV c.1 p.2.1.1 p.2.2.1 y.a 0) :: RowC 3 1 c.1 ((Chn.chainIds L y.id).map (.int .i64)) :: RowC 3 1 p.2.1.1 ((S ++ ids.take p.1.1).map (.int .i64)) :: RowC 3 1 p.2.2.1 ((M ++ List.replicate p.1.1 to).map (.int .i64)) :: BoxC b8 49 (planV nilV nilV nilV 0 0) :: C) (fun p => ids.length - p.1.1) (⟨0, Nat.zero_le _⟩, g, m) (by exact a_sub) (by exact a_subR) (by exact a_holds) (fun p => ?_)
    obtain ⟨⟨i, hi⟩, ⟨g, ga, gn, gc, rfl⟩, ⟨m, ma, mn, mc, rfl⟩⟩ := p
    obtain ⟨c, ca, cn, cr, rfl⟩ := c
    dsimp only
    have hvp := vofPlan (ch := .slice ca cn cr) (sg := .slice ga gn gc) (lm := .slice ma mn mc) ⟨_, _, _, rfl⟩ ⟨_, _, _, rfl⟩ ⟨_, _, _, rfl⟩ y.a 0
    by_cases hlt : i < ids.length
    · obtain ⟨x, hx⟩ : ∃ x, ids[i]? = some x := ⟨_, List.getElem?_eq_getElem hlt⟩
      have hxv : (ids.map (Value.int .i64))[i]? = some (.int .i64 x) := by rw [List.getElem?_map, hx]; rfl
      have ht1 : S ++ ids.take (i + 1) = S ++ ids.take i ++ [x] := by rw [List.take_add_one, hx]; simp
      have ht2 : M ++ List.replicate (i + 1) to = M ++ List.replicate i to ++ [to] := by rw [List.replicate_succ']; simp
      obtain ⟨Q, hQ⟩ : ∃ Q, S ++ ids.take i = Q := ⟨_, rfl⟩
      obtain ⟨U, hU⟩ : ∃ U, M ++ List.replicate i to = U := ⟨_, rfl⟩
      have hQl : Q.length ≤ 1100 := by rw [← hQ]; simp; omega
      have hUl : U.length ≤ 1100 := by rw [← hU]; simp; omega
      rw [hQ] at ht1 ⊢
      rw [hU] at ht2 ⊢
      have hcQ := celI3 Q
      have hcU := celI3 U
      clear cc hQ hU
      repeat' (first | ((first | with_reducible refine nl_op rfl ?_ | refine nd_go rfl rfl rfl ?_); intro K hK; (first | ((first | refine on_E hF rfl rfl ?_ | refine od_E rfl rfl ?_ | refine od_R rfl rfl ?_); (first | refine ⟨_, a_yl, ?_⟩ | refine ⟨_, (by first | exact yl_build (T := 49) (us := []) rfl rfl rfl (fun w => by go_simp; all_goals rfl) | exact yl_fieldB (T := 33) (f := 0) (q := 0) rfl rfl (by kernel_rfl) | exact yl_fieldE (T := 33) (f := 0) (j := 0) rfl rfl a_sl a_om (by kernel_rfl) | exact yl_fieldB (T := 33) (f := 4) (q := 4) rfl rfl (by kernel_rfl) | exact yl_fieldE (T := 33) (f := 4) (j := 4) rfl rfl a_sl a_om (by kernel_rfl) | exact yl_fieldB (T := 49) (f := 0) (q := 0) rfl rfl (by kernel_rfl) | exact yl_fieldE (T := 49) (f := 0) (j := 0) rfl rfl a_sl a_om (by kernel_rfl) | exact yl_fieldB (T := 49) (f := 1) (q := 1) rfl rfl (by kernel_rfl) | exact yl_fieldE (T := 49) (f := 1) (j := 1) rfl rfl a_sl a_om (by kernel_rfl) | exact yl_fieldB (T := 49) (f := 2) (q := 2) rfl rfl (by kernel_rfl) | exact yl_fieldE (T := 49) (f := 2) (j := 2) rfl rfl a_sl a_om (by kernel_rfl) | exact yl_fieldB (T := 49) (f := 3) (q := 3) rfl rfl (by kernel_rfl) | exact yl_fieldE (T := 49) (f := 3) (j := 3) rfl rfl a_sl a_om (by kernel_rfl)), ?_⟩)) | ((first | refine on_Ec hF rfl rfl ?_ | refine od_Ec rfl rfl ?_); refine ⟨_, _, _, a_yc, ?_, ?_⟩ <;> (intro hc; try exact a_cut hc)) | ((first | (refine od_act a_nd ?_; intro K2 hK2) | refine od_last a_nd ?_ | skip); (first | (refine on_append (e := 3) (k := 1) (by_ := 8) hF rfl rfl rfl rfl rfl a_pick (by kernel_rfl) a_sl a_cel (by unfold maxLen; simp only [List.length_map, List.length_append, List.length_cons, List.length_nil]; omega) (by simp only [List.length_map, List.length_append, List.length_cons, List.length_nil]; omega) (fun v1 => ?_); obtain ⟨v1, v1a, v1n, v1c, rfl⟩ := v1; dsimp only) | (refine on_storeF hF rfl rfl rfl rfl a_turn (Nat.le_of_ble_eq_true rfl) a_vof rfl ?_; simp only [List.setIfInBounds_toArray, List.set_cons_succ, List.set_cons_zero]) | (refine on_buildSlice (T := 25) (e := 3) (k := 1) (by_ := 8) hF rfl rfl rfl rfl rfl rfl (by kernel_rfl) a_cel (Nat.le_of_ble_eq_true rfl) (fun b => ?_)) | (refine on_append (T := 25) (e := 3) (k := 1) (by_ := 8) hF rfl rfl rfl rfl rfl a_pick (by kernel_rfl) a_sl a_cel a_bnd a_bnd (fun v => ?_)) | (refine on_alloc hF rfl Tryz.zeroValue33 rfl rfl (fun B => ?_)) | (refine on_alloc hF rfl Tryz.zeroValue49 rfl rfl (fun B => ?_)) | (refine on_box hF rfl rfl rfl rfl (fun B => ?_)) | (refine on_store hF rfl rfl rfl rfl a_turn a_vof a_sz ?_) | (refine on_storeE hF rfl rfl rfl rfl a_turn a_om a_vof a_sz ?_) | (refine on_storeEF hF rfl rfl rfl rfl a_turn a_as (by decide) a_vof rfl ?_) | (refine on_storeF hF rfl rfl rfl rfl a_turn (by decide) a_vof rfl ?_)) <;> try (refine hK2 _ _ _ a_allK ?_; clear hK2 K2))) <;> (refine hK _ _ _ ?_; clear hK K)) | with_reducible (first | refine nx_seq ?_ | refine nx_region ?_ | refine nl_nil ?_ | refine nq_then_n ?_ | refine nx_block ?_ | refine nx_skip ?_ | refine nx_exit ?_ | refine nx_ret ?_ | refine nq_then_x ?_ | refine nq_then_r ?_ | refine nq_blk_n ?_ | refine nq_blk_r ?_ | refine nq_blk_hit ?_ | refine nq_blk_miss rfl ?_ | refine nd_nil ?_) | refine nx_cond_t rfl ?_ | refine nx_cond_f rfl ?_ | refine nl_pass hF rfl rfl rfl ?_ | refine nd_pass rfl rfl rfl rfl rfl ?_ | refine nd_pass2 rfl rfl rfl a_nd a_allK rfl rfl ?_ | refine nd_pass3 rfl rfl rfl a_nd rfl rfl ?_ | (with_reducible refine hQ1 _ _ _ ?_; clear hQ1 Q1) )
      all_goals (try (exfalso; dsimp only at *; omega))
      rename_i ua un uc _ _ _ _
      rw [List.nil_append, List.nil_append, show Q.map (Value.int .i64) ++ [.int .i64 x] = (S ++ ids.take (i + 1)).map (.int .i64) by rw [ht1]; simp, show U.map (Value.int .i64) ++ [.int .i64 to] = (M ++ List.replicate (i + 1) to).map (.int .i64) by rw [ht2]; simp]
      refine nx_again (⟨i + 1, by omega⟩, ⟨.slice ua un uc, _, _, _, rfl⟩, ⟨.slice v1a v1n v1c, _, _, _, rfl⟩) (by dsimp only; omega) (by exact a_sub) (by exact a_subR) (by exact a_holds)
    · obtain rfl : i = ids.length := by omega
      rw [List.take_length]
      clear cc
      repeat' (first | ((first | with_reducible refine nl_op rfl ?_ | refine nd_go rfl rfl rfl ?_); intro K hK; (first | ((first | refine on_E hF rfl rfl ?_ | refine od_E rfl rfl ?_ | refine od_R rfl rfl ?_); (first | refine ⟨_, a_yl, ?_⟩ | refine ⟨_, (by first | exact yl_build (T := 49) (us := []) rfl rfl rfl (fun w => by go_simp; all_goals rfl) | exact yl_fieldB (T := 33) (f := 0) (q := 0) rfl rfl (by kernel_rfl) | exact yl_fieldE (T := 33) (f := 0) (j := 0) rfl rfl a_sl a_om (by kernel_rfl) | exact yl_fieldB (T := 33) (f := 4) (q := 4) rfl rfl (by kernel_rfl) | exact yl_fieldE (T := 33) (f := 4) (j := 4) rfl rfl a_sl a_om (by kernel_rfl) | exact yl_fieldB (T := 49) (f := 0) (q := 0) rfl rfl (by kernel_rfl) | exact yl_fieldE (T := 49) (f := 0) (j := 0) rfl rfl a_sl a_om (by kernel_rfl) | exact yl_fieldB (T := 49) (f := 1) (q := 1) rfl rfl (by kernel_rfl) | exact yl_fieldE (T := 49) (f := 1) (j := 1) rfl rfl a_sl a_om (by kernel_rfl) | exact yl_fieldB (T := 49) (f := 2) (q := 2) rfl rfl (by kernel_rfl) | exact yl_fieldE (T := 49) (f := 2) (j := 2) rfl rfl a_sl a_om (by kernel_rfl) | exact yl_fieldB (T := 49) (f := 3) (q := 3) rfl rfl (by kernel_rfl) | exact yl_fieldE (T := 49) (f := 3) (j := 3) rfl rfl a_sl a_om (by kernel_rfl)), ?_⟩)) | ((first | refine on_Ec hF rfl rfl ?_ | refine od_Ec rfl rfl ?_); refine ⟨_, _, _, a_yc, ?_, ?_⟩ <;> (intro hc; try exact a_cut hc)) | ((first | (refine od_act a_nd ?_; intro K2 hK2) | refine od_last a_nd ?_ | skip); (first | (refine on_buildSlice (T := 25) (e := 3) (k := 1) (by_ := 8) hF rfl rfl rfl rfl rfl rfl (by kernel_rfl) a_cel (Nat.le_of_ble_eq_true rfl) (fun b => ?_)) | (refine on_append (T := 25) (e := 3) (k := 1) (by_ := 8) hF rfl rfl rfl rfl rfl a_pick (by kernel_rfl) a_sl a_cel a_bnd a_bnd (fun v => ?_)) | (refine on_alloc hF rfl Tryz.zeroValue33 rfl rfl (fun B => ?_)) | (refine on_alloc hF rfl Tryz.zeroValue49 rfl rfl (fun B => ?_)) | (refine on_box hF rfl rfl rfl rfl (fun B => ?_)) | (refine on_store hF rfl rfl rfl rfl a_turn a_vof a_sz ?_) | (refine on_storeE hF rfl rfl rfl rfl a_turn a_om a_vof a_sz ?_) | (refine on_storeEF hF rfl rfl rfl rfl a_turn a_as (by decide) a_vof rfl ?_) | (refine on_storeF hF rfl rfl rfl rfl a_turn (by decide) a_vof rfl ?_)) <;> try (refine hK2 _ _ _ a_allK ?_; clear hK2 K2))) <;> (refine hK _ _ _ ?_; clear hK K)) | with_reducible (first | refine nx_seq ?_ | refine nx_region ?_ | refine nl_nil ?_ | refine nq_then_n ?_ | refine nx_block ?_ | refine nx_skip ?_ | refine nx_exit ?_ | refine nx_ret ?_ | refine nq_then_x ?_ | refine nq_then_r ?_ | refine nq_blk_n ?_ | refine nq_blk_r ?_ | refine nq_blk_hit ?_ | refine nq_blk_miss rfl ?_ | refine nd_nil ?_) | refine nx_cond_t rfl ?_ | refine nx_cond_f rfl ?_ | refine nl_pass hF rfl rfl rfl ?_ | refine nd_pass rfl rfl rfl rfl rfl ?_ | refine nd_pass2 rfl rfl rfl a_nd a_allK rfl rfl ?_ | refine nd_pass3 rfl rfl rfl a_nd rfl rfl ?_ | (with_reducible refine hQ1 _ _ _ ?_; clear hQ1 Q1) )
      all_goals (try (exfalso; dsimp only at *; omega))
      refine nx_endc [] (BoxC b8 49 (planV (.slice ca cn cr) (.slice ga gn gc) (.slice ma mn mc) y.a 0) :: RowC 3 1 (.slice ca cn cr) ((Chn.chainIds L y.id).map (.int .i64)) :: RowC 3 1 (.slice ga gn gc) ((S ++ ids).map (.int .i64)) :: RowC 3 1 (.slice ma mn mc) ((M ++ List.replicate ids.length to).map (.int .i64)) :: C) rfl (⟨.slice ca cn cr, _, _, _, rfl⟩, ⟨.slice ga gn gc, _, _, _, rfl⟩, ⟨.slice ma mn mc, _, _, _, rfl⟩) (fun a w ha hw => res_cell_tmp (T' := 49) Tryz.results35 rfl rfl (by exact a_mem) hvp ha hw) (by exact a_subR) (by exact a_holds2) (by exact a_holds2)
/-- The states behind the base. -/
structure BI (L : List It2) (t to : Int) (res : Option (It2 × List Int × List Int)) where
  c : SV
  g : SV
  m : SV
  y : It2
  S : List Int
  M : List Int
  at_ : Int
  hS : S.length ≤ 1000
  hM : M.length ≤ 1000
  h : res = more L (some (y, S, M)) t at_ to
set_option maxRecDepth 100000 in
set_option maxHeartbeats 8000000 in
/-- The base, or the plan of the timeline that was left. -/
theorem f5 (s : Value) (hs : IsSl s) (L : List It2) (hok : ∀ x ∈ L, x.ok) (hm : L.length ≤ 20) (t to n par fr : Int) (hn : 0 ≤ n) (hk : knownL L t = true) (hfr : fr = min (parentP L t).2.1 to) (hpar : 1 < t → par = (parentP L t).1) (b8 : Nat) (R' : List Ch) (hsl : SlC 9 s (L.map It2.v) ∈ R') (hR : ∀ r ∈ R, r ∈ R') (res : Option (It2 × List Int × List Int)) (hres : refF L t to n = res)
    (ic : 1 < t → ∀ (W0 : World) (X : Nat → Prop) (R C : List Ch), SlC 9 s (L.map It2.v) ∈ R →
      Ct Tryz.prog 35 [s, .int .i64 par, .int .i64 fr, .int .i64 n] W0 X R C (SV × SV × SV) (fndRet (refF L par fr n)) (fun _ => R) (findC L (refF L par fr n) C)) :
    Nx ((restOf 5 (bodyOf Tryz.f35)).wpIn Fence.wide 0 Tryz.prog (FQ W0 X R C L res)) 118 [(0, s), (1, .int .i64 t), (2, .int .i64 to), (3, .int .i64 n), (8, ptr b8), (10, .int .i64 par), (11, .int .i64 fr)] [] W0 X R' (BoxC b8 49 (planV nilV nilV nilV 0 0) :: C) := by
  have hF := isWide_wide
  have hvz := vofZ
  have h1 := Pl.known_pos hk
  have bc := fun (W0 : World) (X : Nat → Prop) (R C : List Ch) h => Rf21.best_ct (W0 := W0) (X := X) (R := R) (C := C) s hs L hok (by omega) t fr to h
  have hby := best_okL hok t fr to
  dsimp only [restOf, bodyOf, Tryz.f35]
  repeat' (first | ((first | with_reducible refine nl_op rfl ?_ | refine nd_go rfl rfl rfl ?_); intro K hK; (first | ((first | refine on_E hF rfl rfl ?_ | refine od_E rfl rfl ?_ | refine od_R rfl rfl ?_); (first | refine ⟨_, a_yl, ?_⟩ | refine ⟨_, (by first | exact yl_build (T := 49) (us := []) rfl rfl rfl (fun w => by go_simp; all_goals rfl) | exact yl_fieldB (T := 33) (f := 0) (q := 0) rfl rfl (by kernel_rfl) | exact yl_fieldE (T := 33) (f := 0) (j := 0) rfl rfl a_sl a_om (by kernel_rfl) | exact yl_fieldB (T := 33) (f := 4) (q := 4) rfl rfl (by kernel_rfl) | exact yl_fieldE (T := 33) (f := 4) (j := 4) rfl rfl a_sl a_om (by kernel_rfl) | exact yl_fieldB (T := 49) (f := 0) (q := 0) rfl rfl (by kernel_rfl) | exact yl_fieldE (T := 49) (f := 0) (j := 0) rfl rfl a_sl a_om (by kernel_rfl) | exact yl_fieldB (T := 49) (f := 1) (q := 1) rfl rfl (by kernel_rfl) | exact yl_fieldE (T := 49) (f := 1) (j := 1) rfl rfl a_sl a_om (by kernel_rfl) | exact yl_fieldB (T := 49) (f := 2) (q := 2) rfl rfl (by kernel_rfl) | exact yl_fieldE (T := 49) (f := 2) (j := 2) rfl rfl a_sl a_om (by kernel_rfl) | exact yl_fieldB (T := 49) (f := 3) (q := 3) rfl rfl (by kernel_rfl) | exact yl_fieldE (T := 49) (f := 3) (j := 3) rfl rfl a_sl a_om (by kernel_rfl)), ?_⟩)) | ((first | refine on_Ec hF rfl rfl ?_ | refine od_Ec rfl rfl ?_); refine ⟨_, _, _, a_yc, ?_, ?_⟩ <;> (intro hc; try exact a_cut hc)) | ((first | (refine od_act a_nd ?_; intro K2 hK2) | refine od_last a_nd ?_ | skip); (first | (refine on_buildSlice (T := 25) (e := 3) (k := 1) (by_ := 8) hF rfl rfl rfl rfl rfl rfl (by kernel_rfl) a_cel (Nat.le_of_ble_eq_true rfl) (fun b => ?_)) | (refine on_append (T := 25) (e := 3) (k := 1) (by_ := 8) hF rfl rfl rfl rfl rfl a_pick (by kernel_rfl) a_sl a_cel a_bnd a_bnd (fun v => ?_)) | (refine on_alloc hF rfl Tryz.zeroValue33 rfl rfl (fun B => ?_)) | (refine on_alloc hF rfl Tryz.zeroValue49 rfl rfl (fun B => ?_)) | (refine on_box hF rfl rfl rfl rfl (fun B => ?_)) | (refine on_store hF rfl rfl rfl rfl a_turn a_vof a_sz ?_) | (refine on_storeE hF rfl rfl rfl rfl a_turn a_om a_vof a_sz ?_) | (refine on_storeEF hF rfl rfl rfl rfl a_turn a_as (by decide) a_vof rfl ?_) | (refine on_storeF hF rfl rfl rfl rfl a_turn (by decide) a_vof rfl ?_)) <;> try (refine hK2 _ _ _ a_allK ?_; clear hK2 K2))) <;> (refine hK _ _ _ ?_; clear hK K)) | with_reducible (first | refine nx_seq ?_ | refine nx_region ?_ | refine nl_nil ?_ | refine nq_then_n ?_ | refine nx_block ?_ | refine nx_skip ?_ | refine nx_exit ?_ | refine nx_ret ?_ | refine nq_then_x ?_ | refine nq_then_r ?_ | refine nq_blk_n ?_ | refine nq_blk_r ?_ | refine nq_blk_hit ?_ | refine nq_blk_miss rfl ?_ | refine nd_nil ?_) | refine nx_cond_t rfl ?_ | refine nx_cond_f rfl ?_ | refine nl_pass hF rfl rfl rfl ?_ | refine nd_pass rfl rfl rfl rfl rfl ?_ | refine nd_pass2 rfl rfl rfl a_nd a_allK rfl rfl ?_ | refine nd_pass3 rfl rfl rfl a_nd rfl rfl ?_ | (with_reducible refine hQ1 _ _ _ ?_; clear hQ1 Q1) )
  refine nl_cut2 (ι := BI L t to res) (fun i => [(0, s), (1, .int .i64 t), (2, .int .i64 to), (8, ptr b8), (13, ptr B), (16, .int .i64 i.at_)]) (fun _ => R') (fun i => BoxC B 49 (planV i.c.1 i.g.1 i.m.1 i.y.a 0) :: RowC 3 1 i.c.1 ((Chn.chainIds L i.y.id).map (.int .i64)) :: RowC 3 1 i.g.1 (i.S.map (.int .i64)) :: RowC 3 1 i.m.1 (i.M.map (.int .i64)) :: BoxC b8 49 (planV nilV nilV nilV 0 0) :: C) (fun i => f9 s hs L hok hm t to i.at_ b8 B i.c i.g i.m i.y i.S i.M i.hS i.hM R' hsl hR res i.h) (fun K HK => ?_)
  cases hb : (Chn.bestOf L t fr to).2 with
  | true =>
    have hr : res = more L (some ((Chn.bestOf L t fr to).1, [], [])) t (Chn.bestOf L t fr to).1.a to := by
      subst hfr; rw [← hres]; exact refF_best hn hk hb
    rw [hb] at bc
    obtain ⟨y, hy⟩ : ∃ y, (Chn.bestOf L t fr to).1 = y := ⟨_, rfl⟩
    rw [hy] at bc hr hby
    have hvy := It2.vof _ hby
    have oc := fun (W0 : World) (X : Nat → Prop) (R C : List Ch) h => Rf21.of_ct s hs L hok (by omega) (Chn.under L y.id + 1) y.id (Nat.lt_succ_self _) W0 X R C h
    clear hy hb ic hres hfr hpar
    repeat' (first | ((first | with_reducible refine nl_op rfl ?_ | refine nd_go rfl rfl rfl ?_); intro K hK; (first | ((first | refine on_E hF rfl rfl ?_ | refine od_E rfl rfl ?_ | refine od_R rfl rfl ?_); (first | refine ⟨_, a_yl, ?_⟩ | refine ⟨_, (by first | exact yl_build (T := 49) (us := []) rfl rfl rfl (fun w => by go_simp; all_goals rfl) | exact yl_fieldB (T := 33) (f := 0) (q := 0) rfl rfl (by kernel_rfl) | exact yl_fieldE (T := 33) (f := 0) (j := 0) rfl rfl a_sl a_om (by kernel_rfl) | exact yl_fieldB (T := 33) (f := 4) (q := 4) rfl rfl (by kernel_rfl) | exact yl_fieldE (T := 33) (f := 4) (j := 4) rfl rfl a_sl a_om (by kernel_rfl) | exact yl_fieldB (T := 49) (f := 0) (q := 0) rfl rfl (by kernel_rfl) | exact yl_fieldE (T := 49) (f := 0) (j := 0) rfl rfl a_sl a_om (by kernel_rfl) | exact yl_fieldB (T := 49) (f := 1) (q := 1) rfl rfl (by kernel_rfl) | exact yl_fieldE (T := 49) (f := 1) (j := 1) rfl rfl a_sl a_om (by kernel_rfl) | exact yl_fieldB (T := 49) (f := 2) (q := 2) rfl rfl (by kernel_rfl) | exact yl_fieldE (T := 49) (f := 2) (j := 2) rfl rfl a_sl a_om (by kernel_rfl) | exact yl_fieldB (T := 49) (f := 3) (q := 3) rfl rfl (by kernel_rfl) | exact yl_fieldE (T := 49) (f := 3) (j := 3) rfl rfl a_sl a_om (by kernel_rfl)), ?_⟩)) | ((first | refine on_Ec hF rfl rfl ?_ | refine od_Ec rfl rfl ?_); refine ⟨_, _, _, a_yc, ?_, ?_⟩ <;> (intro hc; try exact a_cut hc)) | ((first | (refine od_act a_nd ?_; intro K2 hK2) | refine od_last a_nd ?_ | skip); (first | (refine on_callG hF (enters_of Tryz.func59 (by kernel_rfl) rfl) rfl rfl rfl rfl (bc _ _ _ _ (by exact a_mem)) (fun _ => ?_)) | (refine on_callG hF (enters_of Tryz.func60 (by kernel_rfl) rfl) rfl rfl rfl rfl (oc _ _ _ _ (by exact a_mem)) (fun c => ?_); obtain ⟨c, ca, cn, cc, rfl⟩ := c; dsimp only) | (refine on_storeF hF rfl rfl rfl rfl a_turn (Nat.le_of_ble_eq_true rfl) a_vof rfl ?_; simp only [List.setIfInBounds_toArray, List.set_cons_succ, List.set_cons_zero]) | (refine on_buildSlice (T := 25) (e := 3) (k := 1) (by_ := 8) hF rfl rfl rfl rfl rfl rfl (by kernel_rfl) a_cel (Nat.le_of_ble_eq_true rfl) (fun b => ?_)) | (refine on_append (T := 25) (e := 3) (k := 1) (by_ := 8) hF rfl rfl rfl rfl rfl a_pick (by kernel_rfl) a_sl a_cel a_bnd a_bnd (fun v => ?_)) | (refine on_alloc hF rfl Tryz.zeroValue33 rfl rfl (fun B => ?_)) | (refine on_alloc hF rfl Tryz.zeroValue49 rfl rfl (fun B => ?_)) | (refine on_box hF rfl rfl rfl rfl (fun B => ?_)) | (refine on_store hF rfl rfl rfl rfl a_turn a_vof a_sz ?_) | (refine on_storeE hF rfl rfl rfl rfl a_turn a_om a_vof a_sz ?_) | (refine on_storeEF hF rfl rfl rfl rfl a_turn a_as (by decide) a_vof rfl ?_) | (refine on_storeF hF rfl rfl rfl rfl a_turn (by decide) a_vof rfl ?_)) <;> try (refine hK2 _ _ _ a_allK ?_; clear hK2 K2))) <;> (refine hK _ _ _ ?_; clear hK K)) | with_reducible (first | refine nx_seq ?_ | refine nx_region ?_ | refine nl_nil ?_ | refine nq_then_n ?_ | refine nx_block ?_ | refine nx_skip ?_ | refine nx_exit ?_ | refine nx_ret ?_ | refine nq_then_x ?_ | refine nq_then_r ?_ | refine nq_blk_n ?_ | refine nq_blk_r ?_ | refine nq_blk_hit ?_ | refine nq_blk_miss rfl ?_ | refine nd_nil ?_) | refine nx_cond_t rfl ?_ | refine nx_cond_f rfl ?_ | refine nl_pass hF rfl rfl rfl ?_ | refine nd_pass rfl rfl rfl rfl rfl ?_ | refine nd_pass2 rfl rfl rfl a_nd a_allK rfl rfl ?_ | refine nd_pass3 rfl rfl rfl a_nd rfl rfl ?_ | (with_reducible refine hQ1 _ _ _ ?_; clear hQ1 Q1) )
    refine nx_nilRow 3 1 (nx_nilRow 3 1 ?_)
    exact HK ⟨⟨.slice ca cn cc, _, _, _, rfl⟩, ⟨nilV, _, _, _, rfl⟩, ⟨nilV, _, _, _, rfl⟩, y, [], [], y.a, by simp, by simp, hr⟩ _ _ _ (by exact a_sub) (by exact a_subR) (by exact a_holds2)
  | false =>
    rw [hb] at bc
    obtain ⟨y, hy⟩ : ∃ y, (Chn.bestOf L t fr to).1 = y := ⟨_, rfl⟩
    rw [hy] at bc hby
    have hvy := It2.vof _ hby
    by_cases h2 : 1 < t
    · have hr : res = more L (refF L par fr n) t fr to := by
        rw [hpar h2]; subst hfr; rw [← hres]; exact refF_up hn hk hb h2
      have ic2 := ic h2
      have hfew := fun p h => refF_few (L := L) (n := n) (t := par) (to := fr) (p := p) hm h
      obtain ⟨q, hq⟩ : ∃ q, refF L par fr n = q := ⟨_, rfl⟩
      rw [hq] at ic2 hr
      simp only [hq] at hfew
      clear hy hb ic hres hfr hpar hq
      cases q with
      | none =>
        obtain rfl : res = none := hr
        unfold fndRet findC at ic2
        dsimp only at ic2
        repeat' (first | ((first | with_reducible refine nl_op rfl ?_ | refine nd_go rfl rfl rfl ?_); intro K hK; (first | ((first | refine on_E hF rfl rfl ?_ | refine od_E rfl rfl ?_ | refine od_R rfl rfl ?_); (first | refine ⟨_, a_yl, ?_⟩ | refine ⟨_, (by first | exact yl_build (T := 49) (us := []) rfl rfl rfl (fun w => by go_simp; all_goals rfl) | exact yl_fieldB (T := 33) (f := 0) (q := 0) rfl rfl (by kernel_rfl) | exact yl_fieldE (T := 33) (f := 0) (j := 0) rfl rfl a_sl a_om (by kernel_rfl) | exact yl_fieldB (T := 33) (f := 4) (q := 4) rfl rfl (by kernel_rfl) | exact yl_fieldE (T := 33) (f := 4) (j := 4) rfl rfl a_sl a_om (by kernel_rfl) | exact yl_fieldB (T := 49) (f := 0) (q := 0) rfl rfl (by kernel_rfl) | exact yl_fieldE (T := 49) (f := 0) (j := 0) rfl rfl a_sl a_om (by kernel_rfl) | exact yl_fieldB (T := 49) (f := 1) (q := 1) rfl rfl (by kernel_rfl) | exact yl_fieldE (T := 49) (f := 1) (j := 1) rfl rfl a_sl a_om (by kernel_rfl) | exact yl_fieldB (T := 49) (f := 2) (q := 2) rfl rfl (by kernel_rfl) | exact yl_fieldE (T := 49) (f := 2) (j := 2) rfl rfl a_sl a_om (by kernel_rfl) | exact yl_fieldB (T := 49) (f := 3) (q := 3) rfl rfl (by kernel_rfl) | exact yl_fieldE (T := 49) (f := 3) (j := 3) rfl rfl a_sl a_om (by kernel_rfl)), ?_⟩)) | ((first | refine on_Ec hF rfl rfl ?_ | refine od_Ec rfl rfl ?_); refine ⟨_, _, _, a_yc, ?_, ?_⟩ <;> (intro hc; try exact a_cut hc)) | ((first | (refine od_act a_nd ?_; intro K2 hK2) | refine od_last a_nd ?_ | skip); (first | (refine on_callG hF (enters_of Tryz.func59 (by kernel_rfl) rfl) rfl rfl rfl rfl (bc _ _ _ _ (by exact a_mem)) (fun _ => ?_)) | (refine on_callG hF (enters_of Tryz.func35 (by kernel_rfl) rfl) rfl rfl rfl rfl (ic2 _ _ _ _ (by exact a_mem)) (fun i => ?_)) | (refine on_buildSlice (T := 25) (e := 3) (k := 1) (by_ := 8) hF rfl rfl rfl rfl rfl rfl (by kernel_rfl) a_cel (Nat.le_of_ble_eq_true rfl) (fun b => ?_)) | (refine on_append (T := 25) (e := 3) (k := 1) (by_ := 8) hF rfl rfl rfl rfl rfl a_pick (by kernel_rfl) a_sl a_cel a_bnd a_bnd (fun v => ?_)) | (refine on_alloc hF rfl Tryz.zeroValue33 rfl rfl (fun B => ?_)) | (refine on_alloc hF rfl Tryz.zeroValue49 rfl rfl (fun B => ?_)) | (refine on_box hF rfl rfl rfl rfl (fun B => ?_)) | (refine on_store hF rfl rfl rfl rfl a_turn a_vof a_sz ?_) | (refine on_storeE hF rfl rfl rfl rfl a_turn a_om a_vof a_sz ?_) | (refine on_storeEF hF rfl rfl rfl rfl a_turn a_as (by decide) a_vof rfl ?_) | (refine on_storeF hF rfl rfl rfl rfl a_turn (by decide) a_vof rfl ?_)) <;> try (refine hK2 _ _ _ a_allK ?_; clear hK2 K2))) <;> (refine hK _ _ _ ?_; clear hK K)) | with_reducible (first | refine nx_seq ?_ | refine nx_region ?_ | refine nl_nil ?_ | refine nq_then_n ?_ | refine nx_block ?_ | refine nx_skip ?_ | refine nx_exit ?_ | refine nx_ret ?_ | refine nq_then_x ?_ | refine nq_then_r ?_ | refine nq_blk_n ?_ | refine nq_blk_r ?_ | refine nq_blk_hit ?_ | refine nq_blk_miss rfl ?_ | refine nd_nil ?_) | refine nx_cond_t rfl ?_ | refine nx_cond_f rfl ?_ | refine nl_pass hF rfl rfl rfl ?_ | refine nd_pass rfl rfl rfl rfl rfl ?_ | refine nd_pass2 rfl rfl rfl a_nd a_allK rfl rfl ?_ | refine nd_pass3 rfl rfl rfl a_nd rfl rfl ?_ | (with_reducible refine hQ1 _ _ _ ?_; clear hQ1 Q1) )
        all_goals (try (exfalso; dsimp only at *; omega))
        refine nx_endc [] (BoxC b8 49 (planV nilV nilV nilV 0 0) :: C) rfl nil3 (fun a w ha hw => res_cell_tmp (T' := 49) Tryz.results35 rfl rfl (by exact a_mem) hvz ha hw) (by exact a_subR) (by exact a_holds2) (by exact a_holds2)
      | some p =>
        obtain ⟨hp1, hp2⟩ := hfew p rfl
        unfold fndRet findC at ic2
        dsimp only at ic2
        have hvp := fun i : SV × SV × SV => vofPlan i.1.2 i.2.1.2 i.2.2.2 p.1.a 0
        repeat' (first | ((first | with_reducible refine nl_op rfl ?_ | refine nd_go rfl rfl rfl ?_); intro K hK; (first | ((first | refine on_E hF rfl rfl ?_ | refine od_E rfl rfl ?_ | refine od_R rfl rfl ?_); (first | refine ⟨_, a_yl, ?_⟩ | refine ⟨_, (by first | exact yl_build (T := 49) (us := []) rfl rfl rfl (fun w => by go_simp; all_goals rfl) | exact yl_fieldB (T := 33) (f := 0) (q := 0) rfl rfl (by kernel_rfl) | exact yl_fieldE (T := 33) (f := 0) (j := 0) rfl rfl a_sl a_om (by kernel_rfl) | exact yl_fieldB (T := 33) (f := 4) (q := 4) rfl rfl (by kernel_rfl) | exact yl_fieldE (T := 33) (f := 4) (j := 4) rfl rfl a_sl a_om (by kernel_rfl) | exact yl_fieldB (T := 49) (f := 0) (q := 0) rfl rfl (by kernel_rfl) | exact yl_fieldE (T := 49) (f := 0) (j := 0) rfl rfl a_sl a_om (by kernel_rfl) | exact yl_fieldB (T := 49) (f := 1) (q := 1) rfl rfl (by kernel_rfl) | exact yl_fieldE (T := 49) (f := 1) (j := 1) rfl rfl a_sl a_om (by kernel_rfl) | exact yl_fieldB (T := 49) (f := 2) (q := 2) rfl rfl (by kernel_rfl) | exact yl_fieldE (T := 49) (f := 2) (j := 2) rfl rfl a_sl a_om (by kernel_rfl) | exact yl_fieldB (T := 49) (f := 3) (q := 3) rfl rfl (by kernel_rfl) | exact yl_fieldE (T := 49) (f := 3) (j := 3) rfl rfl a_sl a_om (by kernel_rfl)), ?_⟩)) | ((first | refine on_Ec hF rfl rfl ?_ | refine od_Ec rfl rfl ?_); refine ⟨_, _, _, a_yc, ?_, ?_⟩ <;> (intro hc; try exact a_cut hc)) | ((first | (refine od_act a_nd ?_; intro K2 hK2) | refine od_last a_nd ?_ | skip); (first | (refine on_callG hF (enters_of Tryz.func59 (by kernel_rfl) rfl) rfl rfl rfl rfl (bc _ _ _ _ (by exact a_mem)) (fun _ => ?_)) | (refine on_callG hF (enters_of Tryz.func35 (by kernel_rfl) rfl) rfl rfl rfl rfl (ic2 _ _ _ _ (by exact a_mem)) (fun i => ?_); have hvi := hvp i) | (refine on_buildSlice (T := 25) (e := 3) (k := 1) (by_ := 8) hF rfl rfl rfl rfl rfl rfl (by kernel_rfl) a_cel (Nat.le_of_ble_eq_true rfl) (fun b => ?_)) | (refine on_append (T := 25) (e := 3) (k := 1) (by_ := 8) hF rfl rfl rfl rfl rfl a_pick (by kernel_rfl) a_sl a_cel a_bnd a_bnd (fun v => ?_)) | (refine on_alloc hF rfl Tryz.zeroValue33 rfl rfl (fun B => ?_)) | (refine on_alloc hF rfl Tryz.zeroValue49 rfl rfl (fun B => ?_)) | (refine on_box hF rfl rfl rfl rfl (fun B => ?_)) | (refine on_store hF rfl rfl rfl rfl a_turn a_vof a_sz ?_) | (refine on_storeE hF rfl rfl rfl rfl a_turn a_om a_vof a_sz ?_) | (refine on_storeEF hF rfl rfl rfl rfl a_turn a_as (by decide) a_vof rfl ?_) | (refine on_storeF hF rfl rfl rfl rfl a_turn (by decide) a_vof rfl ?_)) <;> try (refine hK2 _ _ _ a_allK ?_; clear hK2 K2))) <;> (refine hK _ _ _ ?_; clear hK K)) | with_reducible (first | refine nx_seq ?_ | refine nx_region ?_ | refine nl_nil ?_ | refine nq_then_n ?_ | refine nx_block ?_ | refine nx_skip ?_ | refine nx_exit ?_ | refine nx_ret ?_ | refine nq_then_x ?_ | refine nq_then_r ?_ | refine nq_blk_n ?_ | refine nq_blk_r ?_ | refine nq_blk_hit ?_ | refine nq_blk_miss rfl ?_ | refine nd_nil ?_) | refine nx_cond_t rfl ?_ | refine nx_cond_f rfl ?_ | refine nl_pass hF rfl rfl rfl ?_ | refine nd_pass rfl rfl rfl rfl rfl ?_ | refine nd_pass2 rfl rfl rfl a_nd a_allK rfl rfl ?_ | refine nd_pass3 rfl rfl rfl a_nd rfl rfl ?_ | (with_reducible refine hQ1 _ _ _ ?_; clear hQ1 Q1) )
        all_goals (try (exfalso; dsimp only at *; omega))
        exact HK ⟨i.1, i.2.1, i.2.2, p.1, p.2.1, p.2.2, fr, hp1, hp2, hr⟩ _ _ _ (by exact a_sub) (by exact a_subR) (by exact a_holds2)
    · have hr : res = none := by subst hfr; rw [← hres]; exact refF_one hn hk hb h2
      subst hr
      obtain rfl : t = 1 := by omega
      clear hy hb ic hres hfr hpar
      repeat' (first | ((first | with_reducible refine nl_op rfl ?_ | refine nd_go rfl rfl rfl ?_); intro K hK; (first | ((first | refine on_E hF rfl rfl ?_ | refine od_E rfl rfl ?_ | refine od_R rfl rfl ?_); (first | refine ⟨_, a_yl, ?_⟩ | refine ⟨_, (by first | exact yl_build (T := 49) (us := []) rfl rfl rfl (fun w => by go_simp; all_goals rfl) | exact yl_fieldB (T := 33) (f := 0) (q := 0) rfl rfl (by kernel_rfl) | exact yl_fieldE (T := 33) (f := 0) (j := 0) rfl rfl a_sl a_om (by kernel_rfl) | exact yl_fieldB (T := 33) (f := 4) (q := 4) rfl rfl (by kernel_rfl) | exact yl_fieldE (T := 33) (f := 4) (j := 4) rfl rfl a_sl a_om (by kernel_rfl) | exact yl_fieldB (T := 49) (f := 0) (q := 0) rfl rfl (by kernel_rfl) | exact yl_fieldE (T := 49) (f := 0) (j := 0) rfl rfl a_sl a_om (by kernel_rfl) | exact yl_fieldB (T := 49) (f := 1) (q := 1) rfl rfl (by kernel_rfl) | exact yl_fieldE (T := 49) (f := 1) (j := 1) rfl rfl a_sl a_om (by kernel_rfl) | exact yl_fieldB (T := 49) (f := 2) (q := 2) rfl rfl (by kernel_rfl) | exact yl_fieldE (T := 49) (f := 2) (j := 2) rfl rfl a_sl a_om (by kernel_rfl) | exact yl_fieldB (T := 49) (f := 3) (q := 3) rfl rfl (by kernel_rfl) | exact yl_fieldE (T := 49) (f := 3) (j := 3) rfl rfl a_sl a_om (by kernel_rfl)), ?_⟩)) | ((first | refine on_Ec hF rfl rfl ?_ | refine od_Ec rfl rfl ?_); refine ⟨_, _, _, a_yc, ?_, ?_⟩ <;> (intro hc; try exact a_cut hc)) | ((first | (refine od_act a_nd ?_; intro K2 hK2) | refine od_last a_nd ?_ | skip); (first | (refine on_callG hF (enters_of Tryz.func59 (by kernel_rfl) rfl) rfl rfl rfl rfl (bc _ _ _ _ (by exact a_mem)) (fun _ => ?_)) | (refine on_buildSlice (T := 25) (e := 3) (k := 1) (by_ := 8) hF rfl rfl rfl rfl rfl rfl (by kernel_rfl) a_cel (Nat.le_of_ble_eq_true rfl) (fun b => ?_)) | (refine on_append (T := 25) (e := 3) (k := 1) (by_ := 8) hF rfl rfl rfl rfl rfl a_pick (by kernel_rfl) a_sl a_cel a_bnd a_bnd (fun v => ?_)) | (refine on_alloc hF rfl Tryz.zeroValue33 rfl rfl (fun B => ?_)) | (refine on_alloc hF rfl Tryz.zeroValue49 rfl rfl (fun B => ?_)) | (refine on_box hF rfl rfl rfl rfl (fun B => ?_)) | (refine on_store hF rfl rfl rfl rfl a_turn a_vof a_sz ?_) | (refine on_storeE hF rfl rfl rfl rfl a_turn a_om a_vof a_sz ?_) | (refine on_storeEF hF rfl rfl rfl rfl a_turn a_as (by decide) a_vof rfl ?_) | (refine on_storeF hF rfl rfl rfl rfl a_turn (by decide) a_vof rfl ?_)) <;> try (refine hK2 _ _ _ a_allK ?_; clear hK2 K2))) <;> (refine hK _ _ _ ?_; clear hK K)) | with_reducible (first | refine nx_seq ?_ | refine nx_region ?_ | refine nl_nil ?_ | refine nq_then_n ?_ | refine nx_block ?_ | refine nx_skip ?_ | refine nx_exit ?_ | refine nx_ret ?_ | refine nq_then_x ?_ | refine nq_then_r ?_ | refine nq_blk_n ?_ | refine nq_blk_r ?_ | refine nq_blk_hit ?_ | refine nq_blk_miss rfl ?_ | refine nd_nil ?_) | refine nx_cond_t rfl ?_ | refine nx_cond_f rfl ?_ | refine nl_pass hF rfl rfl rfl ?_ | refine nd_pass rfl rfl rfl rfl rfl ?_ | refine nd_pass2 rfl rfl rfl a_nd a_allK rfl rfl ?_ | refine nd_pass3 rfl rfl rfl a_nd rfl rfl ?_ | (with_reducible refine hQ1 _ _ _ ?_; clear hQ1 Q1) )
      all_goals (try (exfalso; dsimp only at *; omega))
      refine nx_endc [] (BoxC b8 49 (planV nilV nilV nilV 0 0) :: C) rfl nil3 (fun a w ha hw => res_cell_tmp (T' := 49) Tryz.results35 rfl rfl (by exact a_mem) hvz ha hw) (by exact a_subR) (by exact a_holds2) (by exact a_holds2)
theorem line_parent {L : List It2} {t : Int} (hk : knownL L t = true) (h1 : 1 < t) : (Ref18.refLine L t).1 = (parentP L t).1 ∧ (Ref18.refLine L t).2.1 = (parentP L t).2.1 := by
  unfold Ref18.refLine parentP
  rw [if_neg (by rw [hk]; simp; omega)]
  cases hl : lineP L t with
  | none => rw [knownL_none h1 hl] at hk; cases hk
  | some x => exact ⟨rfl, rfl⟩
set_option maxRecDepth 100000 in
set_option maxHeartbeats 8000000 in
theorem find_ct (s : Value) (hs : IsSl s) (L : List It2) (hok : ∀ x ∈ L, x.ok) (hm : L.length ≤ 20) (n : Int) : ∀ (m : Nat) (t to : Int), t.toNat ≤ m → ∀ (W0 : World) (X : Nat → Prop) (R C : List Ch), SlC 9 s (L.map It2.v) ∈ R →
    Ct Tryz.prog 35 [s, .int .i64 t, .int .i64 to, .int .i64 n] W0 X R C (SV × SV × SV) (fndRet (refF L t to n)) (fun _ => R) (findC L (refF L t to n) C) := by
  intro m
  induction m with
  | zero =>
    intro t to ht W0 X R C hsl w hw
    have hF := isWide_wide
    have hvz := vofZ
    have kc := fun (W0 : World) (X : Nat → Prop) (R C : List Ch) h => Ref18.known_ct L hok (by omega) t.toNat t (Nat.le_refl _) W0 X R C s hs h
    have hk : knownL L t = false := by cases hk : knownL L t; rfl; have := Pl.known_pos hk; omega
    rw [refF_bad (.inr hk)]
    rw [hk] at kc
    unfold fndRet findC
    dsimp only
    by_cases hn : n < 0
    · refine calls_nx Tryz.func35 rfl Tryz.ntmps35 rfl ?_ hw
      repeat' (first | ((first | with_reducible refine nl_op rfl ?_ | refine nd_go rfl rfl rfl ?_); intro K hK; (first | ((first | refine on_E hF rfl rfl ?_ | refine od_E rfl rfl ?_ | refine od_R rfl rfl ?_); (first | refine ⟨_, a_yl, ?_⟩ | refine ⟨_, (by first | exact yl_build (T := 49) (us := []) rfl rfl rfl (fun w => by go_simp; all_goals rfl) | exact yl_fieldB (T := 33) (f := 0) (q := 0) rfl rfl (by kernel_rfl) | exact yl_fieldE (T := 33) (f := 0) (j := 0) rfl rfl a_sl a_om (by kernel_rfl) | exact yl_fieldB (T := 33) (f := 4) (q := 4) rfl rfl (by kernel_rfl) | exact yl_fieldE (T := 33) (f := 4) (j := 4) rfl rfl a_sl a_om (by kernel_rfl) | exact yl_fieldB (T := 49) (f := 0) (q := 0) rfl rfl (by kernel_rfl) | exact yl_fieldE (T := 49) (f := 0) (j := 0) rfl rfl a_sl a_om (by kernel_rfl) | exact yl_fieldB (T := 49) (f := 1) (q := 1) rfl rfl (by kernel_rfl) | exact yl_fieldE (T := 49) (f := 1) (j := 1) rfl rfl a_sl a_om (by kernel_rfl) | exact yl_fieldB (T := 49) (f := 2) (q := 2) rfl rfl (by kernel_rfl) | exact yl_fieldE (T := 49) (f := 2) (j := 2) rfl rfl a_sl a_om (by kernel_rfl) | exact yl_fieldB (T := 49) (f := 3) (q := 3) rfl rfl (by kernel_rfl) | exact yl_fieldE (T := 49) (f := 3) (j := 3) rfl rfl a_sl a_om (by kernel_rfl)), ?_⟩)) | ((first | refine on_Ec hF rfl rfl ?_ | refine od_Ec rfl rfl ?_); refine ⟨_, _, _, a_yc, ?_, ?_⟩ <;> (intro hc; try exact a_cut hc)) | ((first | (refine od_act a_nd ?_; intro K2 hK2) | refine od_last a_nd ?_ | skip); (first | (refine on_buildSlice (T := 25) (e := 3) (k := 1) (by_ := 8) hF rfl rfl rfl rfl rfl rfl (by kernel_rfl) a_cel (Nat.le_of_ble_eq_true rfl) (fun b => ?_)) | (refine on_append (T := 25) (e := 3) (k := 1) (by_ := 8) hF rfl rfl rfl rfl rfl a_pick (by kernel_rfl) a_sl a_cel a_bnd a_bnd (fun v => ?_)) | (refine on_alloc hF rfl Tryz.zeroValue33 rfl rfl (fun B => ?_)) | (refine on_alloc hF rfl Tryz.zeroValue49 rfl rfl (fun B => ?_)) | (refine on_box hF rfl rfl rfl rfl (fun B => ?_)) | (refine on_store hF rfl rfl rfl rfl a_turn a_vof a_sz ?_) | (refine on_storeE hF rfl rfl rfl rfl a_turn a_om a_vof a_sz ?_) | (refine on_storeEF hF rfl rfl rfl rfl a_turn a_as (by decide) a_vof rfl ?_) | (refine on_storeF hF rfl rfl rfl rfl a_turn (by decide) a_vof rfl ?_)) <;> try (refine hK2 _ _ _ a_allK ?_; clear hK2 K2))) <;> (refine hK _ _ _ ?_; clear hK K)) | with_reducible (first | refine nx_seq ?_ | refine nx_region ?_ | refine nl_nil ?_ | refine nq_then_n ?_ | refine nx_block ?_ | refine nx_skip ?_ | refine nx_exit ?_ | refine nx_ret ?_ | refine nq_then_x ?_ | refine nq_then_r ?_ | refine nq_blk_n ?_ | refine nq_blk_r ?_ | refine nq_blk_hit ?_ | refine nq_blk_miss rfl ?_ | refine nd_nil ?_) | refine nx_cond_t rfl ?_ | refine nx_cond_f rfl ?_ | refine nl_pass hF rfl rfl rfl ?_ | refine nd_pass rfl rfl rfl rfl rfl ?_ | refine nd_pass2 rfl rfl rfl a_nd a_allK rfl rfl ?_ | refine nd_pass3 rfl rfl rfl a_nd rfl rfl ?_ | (with_reducible refine hQ1 _ _ _ ?_; clear hQ1 Q1) )
      all_goals (try (exfalso; dsimp only at *; omega))
      refine nx_endc [] (BoxC B 49 (planV nilV nilV nilV 0 0) :: C) rfl nil3 (fun a w ha hw => res_cell_tmp (T' := 49) Tryz.results35 rfl rfl (by exact a_mem) hvz ha hw) (by exact a_subR) (by exact a_holds2) (by exact a_holds2)
    · refine calls_nx Tryz.func35 rfl Tryz.ntmps35 rfl ?_ hw
      repeat' (first | ((first | with_reducible refine nl_op rfl ?_ | refine nd_go rfl rfl rfl ?_); intro K hK; (first | ((first | refine on_E hF rfl rfl ?_ | refine od_E rfl rfl ?_ | refine od_R rfl rfl ?_); (first | refine ⟨_, a_yl, ?_⟩ | refine ⟨_, (by first | exact yl_build (T := 49) (us := []) rfl rfl rfl (fun w => by go_simp; all_goals rfl) | exact yl_fieldB (T := 33) (f := 0) (q := 0) rfl rfl (by kernel_rfl) | exact yl_fieldE (T := 33) (f := 0) (j := 0) rfl rfl a_sl a_om (by kernel_rfl) | exact yl_fieldB (T := 33) (f := 4) (q := 4) rfl rfl (by kernel_rfl) | exact yl_fieldE (T := 33) (f := 4) (j := 4) rfl rfl a_sl a_om (by kernel_rfl) | exact yl_fieldB (T := 49) (f := 0) (q := 0) rfl rfl (by kernel_rfl) | exact yl_fieldE (T := 49) (f := 0) (j := 0) rfl rfl a_sl a_om (by kernel_rfl) | exact yl_fieldB (T := 49) (f := 1) (q := 1) rfl rfl (by kernel_rfl) | exact yl_fieldE (T := 49) (f := 1) (j := 1) rfl rfl a_sl a_om (by kernel_rfl) | exact yl_fieldB (T := 49) (f := 2) (q := 2) rfl rfl (by kernel_rfl) | exact yl_fieldE (T := 49) (f := 2) (j := 2) rfl rfl a_sl a_om (by kernel_rfl) | exact yl_fieldB (T := 49) (f := 3) (q := 3) rfl rfl (by kernel_rfl) | exact yl_fieldE (T := 49) (f := 3) (j := 3) rfl rfl a_sl a_om (by kernel_rfl)), ?_⟩)) | ((first | refine on_Ec hF rfl rfl ?_ | refine od_Ec rfl rfl ?_); refine ⟨_, _, _, a_yc, ?_, ?_⟩ <;> (intro hc; try exact a_cut hc)) | ((first | (refine od_act a_nd ?_; intro K2 hK2) | refine od_last a_nd ?_ | skip); (first | (refine on_callG hF (enters_of Tryz.func34 (by kernel_rfl) rfl) rfl rfl rfl rfl (kc _ _ _ _ (by exact a_mem)) (fun _ => ?_)) | (refine on_buildSlice (T := 25) (e := 3) (k := 1) (by_ := 8) hF rfl rfl rfl rfl rfl rfl (by kernel_rfl) a_cel (Nat.le_of_ble_eq_true rfl) (fun b => ?_)) | (refine on_append (T := 25) (e := 3) (k := 1) (by_ := 8) hF rfl rfl rfl rfl rfl a_pick (by kernel_rfl) a_sl a_cel a_bnd a_bnd (fun v => ?_)) | (refine on_alloc hF rfl Tryz.zeroValue33 rfl rfl (fun B => ?_)) | (refine on_alloc hF rfl Tryz.zeroValue49 rfl rfl (fun B => ?_)) | (refine on_box hF rfl rfl rfl rfl (fun B => ?_)) | (refine on_store hF rfl rfl rfl rfl a_turn a_vof a_sz ?_) | (refine on_storeE hF rfl rfl rfl rfl a_turn a_om a_vof a_sz ?_) | (refine on_storeEF hF rfl rfl rfl rfl a_turn a_as (by decide) a_vof rfl ?_) | (refine on_storeF hF rfl rfl rfl rfl a_turn (by decide) a_vof rfl ?_)) <;> try (refine hK2 _ _ _ a_allK ?_; clear hK2 K2))) <;> (refine hK _ _ _ ?_; clear hK K)) | with_reducible (first | refine nx_seq ?_ | refine nx_region ?_ | refine nl_nil ?_ | refine nq_then_n ?_ | refine nx_block ?_ | refine nx_skip ?_ | refine nx_exit ?_ | refine nx_ret ?_ | refine nq_then_x ?_ | refine nq_then_r ?_ | refine nq_blk_n ?_ | refine nq_blk_r ?_ | refine nq_blk_hit ?_ | refine nq_blk_miss rfl ?_ | refine nd_nil ?_) | refine nx_cond_t rfl ?_ | refine nx_cond_f rfl ?_ | refine nl_pass hF rfl rfl rfl ?_ | refine nd_pass rfl rfl rfl rfl rfl ?_ | refine nd_pass2 rfl rfl rfl a_nd a_allK rfl rfl ?_ | refine nd_pass3 rfl rfl rfl a_nd rfl rfl ?_ | (with_reducible refine hQ1 _ _ _ ?_; clear hQ1 Q1) )
      all_goals (try (exfalso; dsimp only at *; omega))
      refine nx_endc [] (BoxC B 49 (planV nilV nilV nilV 0 0) :: C) rfl nil3 (fun a w ha hw => res_cell_tmp (T' := 49) Tryz.results35 rfl rfl (by exact a_mem) hvz ha hw) (by exact a_subR) (by exact a_holds2) (by exact a_holds2)
  | succ m ih =>
    intro t to ht W0 X R C hsl w hw
    have hF := isWide_wide
    have hvz := vofZ
    have kc := fun (W0 : World) (X : Nat → Prop) (R C : List Ch) h => Ref18.known_ct L hok (by omega) t.toNat t (Nat.le_refl _) W0 X R C s hs h
    by_cases hn : n < 0
    · rw [refF_bad (.inl hn)]
      unfold fndRet findC
      dsimp only
      refine calls_nx Tryz.func35 rfl Tryz.ntmps35 rfl ?_ hw
      repeat' (first | ((first | with_reducible refine nl_op rfl ?_ | refine nd_go rfl rfl rfl ?_); intro K hK; (first | ((first | refine on_E hF rfl rfl ?_ | refine od_E rfl rfl ?_ | refine od_R rfl rfl ?_); (first | refine ⟨_, a_yl, ?_⟩ | refine ⟨_, (by first | exact yl_build (T := 49) (us := []) rfl rfl rfl (fun w => by go_simp; all_goals rfl) | exact yl_fieldB (T := 33) (f := 0) (q := 0) rfl rfl (by kernel_rfl) | exact yl_fieldE (T := 33) (f := 0) (j := 0) rfl rfl a_sl a_om (by kernel_rfl) | exact yl_fieldB (T := 33) (f := 4) (q := 4) rfl rfl (by kernel_rfl) | exact yl_fieldE (T := 33) (f := 4) (j := 4) rfl rfl a_sl a_om (by kernel_rfl) | exact yl_fieldB (T := 49) (f := 0) (q := 0) rfl rfl (by kernel_rfl) | exact yl_fieldE (T := 49) (f := 0) (j := 0) rfl rfl a_sl a_om (by kernel_rfl) | exact yl_fieldB (T := 49) (f := 1) (q := 1) rfl rfl (by kernel_rfl) | exact yl_fieldE (T := 49) (f := 1) (j := 1) rfl rfl a_sl a_om (by kernel_rfl) | exact yl_fieldB (T := 49) (f := 2) (q := 2) rfl rfl (by kernel_rfl) | exact yl_fieldE (T := 49) (f := 2) (j := 2) rfl rfl a_sl a_om (by kernel_rfl) | exact yl_fieldB (T := 49) (f := 3) (q := 3) rfl rfl (by kernel_rfl) | exact yl_fieldE (T := 49) (f := 3) (j := 3) rfl rfl a_sl a_om (by kernel_rfl)), ?_⟩)) | ((first | refine on_Ec hF rfl rfl ?_ | refine od_Ec rfl rfl ?_); refine ⟨_, _, _, a_yc, ?_, ?_⟩ <;> (intro hc; try exact a_cut hc)) | ((first | (refine od_act a_nd ?_; intro K2 hK2) | refine od_last a_nd ?_ | skip); (first | (refine on_buildSlice (T := 25) (e := 3) (k := 1) (by_ := 8) hF rfl rfl rfl rfl rfl rfl (by kernel_rfl) a_cel (Nat.le_of_ble_eq_true rfl) (fun b => ?_)) | (refine on_append (T := 25) (e := 3) (k := 1) (by_ := 8) hF rfl rfl rfl rfl rfl a_pick (by kernel_rfl) a_sl a_cel a_bnd a_bnd (fun v => ?_)) | (refine on_alloc hF rfl Tryz.zeroValue33 rfl rfl (fun B => ?_)) | (refine on_alloc hF rfl Tryz.zeroValue49 rfl rfl (fun B => ?_)) | (refine on_box hF rfl rfl rfl rfl (fun B => ?_)) | (refine on_store hF rfl rfl rfl rfl a_turn a_vof a_sz ?_) | (refine on_storeE hF rfl rfl rfl rfl a_turn a_om a_vof a_sz ?_) | (refine on_storeEF hF rfl rfl rfl rfl a_turn a_as (by decide) a_vof rfl ?_) | (refine on_storeF hF rfl rfl rfl rfl a_turn (by decide) a_vof rfl ?_)) <;> try (refine hK2 _ _ _ a_allK ?_; clear hK2 K2))) <;> (refine hK _ _ _ ?_; clear hK K)) | with_reducible (first | refine nx_seq ?_ | refine nx_region ?_ | refine nl_nil ?_ | refine nq_then_n ?_ | refine nx_block ?_ | refine nx_skip ?_ | refine nx_exit ?_ | refine nx_ret ?_ | refine nq_then_x ?_ | refine nq_then_r ?_ | refine nq_blk_n ?_ | refine nq_blk_r ?_ | refine nq_blk_hit ?_ | refine nq_blk_miss rfl ?_ | refine nd_nil ?_) | refine nx_cond_t rfl ?_ | refine nx_cond_f rfl ?_ | refine nl_pass hF rfl rfl rfl ?_ | refine nd_pass rfl rfl rfl rfl rfl ?_ | refine nd_pass2 rfl rfl rfl a_nd a_allK rfl rfl ?_ | refine nd_pass3 rfl rfl rfl a_nd rfl rfl ?_ | (with_reducible refine hQ1 _ _ _ ?_; clear hQ1 Q1) )
      all_goals (try (exfalso; dsimp only at *; omega))
      refine nx_endc [] (BoxC B 49 (planV nilV nilV nilV 0 0) :: C) rfl nil3 (fun a w ha hw => res_cell_tmp (T' := 49) Tryz.results35 rfl rfl (by exact a_mem) hvz ha hw) (by exact a_subR) (by exact a_holds2) (by exact a_holds2)
    cases hk : knownL L t with
    | false =>
      rw [refF_bad (.inr hk)]
      rw [hk] at kc
      unfold fndRet findC
      dsimp only
      refine calls_nx Tryz.func35 rfl Tryz.ntmps35 rfl ?_ hw
      repeat' (first | ((first | with_reducible refine nl_op rfl ?_ | refine nd_go rfl rfl rfl ?_); intro K hK; (first | ((first | refine on_E hF rfl rfl ?_ | refine od_E rfl rfl ?_ | refine od_R rfl rfl ?_); (first | refine ⟨_, a_yl, ?_⟩ | refine ⟨_, (by first | exact yl_build (T := 49) (us := []) rfl rfl rfl (fun w => by go_simp; all_goals rfl) | exact yl_fieldB (T := 33) (f := 0) (q := 0) rfl rfl (by kernel_rfl) | exact yl_fieldE (T := 33) (f := 0) (j := 0) rfl rfl a_sl a_om (by kernel_rfl) | exact yl_fieldB (T := 33) (f := 4) (q := 4) rfl rfl (by kernel_rfl) | exact yl_fieldE (T := 33) (f := 4) (j := 4) rfl rfl a_sl a_om (by kernel_rfl) | exact yl_fieldB (T := 49) (f := 0) (q := 0) rfl rfl (by kernel_rfl) | exact yl_fieldE (T := 49) (f := 0) (j := 0) rfl rfl a_sl a_om (by kernel_rfl) | exact yl_fieldB (T := 49) (f := 1) (q := 1) rfl rfl (by kernel_rfl) | exact yl_fieldE (T := 49) (f := 1) (j := 1) rfl rfl a_sl a_om (by kernel_rfl) | exact yl_fieldB (T := 49) (f := 2) (q := 2) rfl rfl (by kernel_rfl) | exact yl_fieldE (T := 49) (f := 2) (j := 2) rfl rfl a_sl a_om (by kernel_rfl) | exact yl_fieldB (T := 49) (f := 3) (q := 3) rfl rfl (by kernel_rfl) | exact yl_fieldE (T := 49) (f := 3) (j := 3) rfl rfl a_sl a_om (by kernel_rfl)), ?_⟩)) | ((first | refine on_Ec hF rfl rfl ?_ | refine od_Ec rfl rfl ?_); refine ⟨_, _, _, a_yc, ?_, ?_⟩ <;> (intro hc; try exact a_cut hc)) | ((first | (refine od_act a_nd ?_; intro K2 hK2) | refine od_last a_nd ?_ | skip); (first | (refine on_callG hF (enters_of Tryz.func34 (by kernel_rfl) rfl) rfl rfl rfl rfl (kc _ _ _ _ (by exact a_mem)) (fun _ => ?_)) | (refine on_buildSlice (T := 25) (e := 3) (k := 1) (by_ := 8) hF rfl rfl rfl rfl rfl rfl (by kernel_rfl) a_cel (Nat.le_of_ble_eq_true rfl) (fun b => ?_)) | (refine on_append (T := 25) (e := 3) (k := 1) (by_ := 8) hF rfl rfl rfl rfl rfl a_pick (by kernel_rfl) a_sl a_cel a_bnd a_bnd (fun v => ?_)) | (refine on_alloc hF rfl Tryz.zeroValue33 rfl rfl (fun B => ?_)) | (refine on_alloc hF rfl Tryz.zeroValue49 rfl rfl (fun B => ?_)) | (refine on_box hF rfl rfl rfl rfl (fun B => ?_)) | (refine on_store hF rfl rfl rfl rfl a_turn a_vof a_sz ?_) | (refine on_storeE hF rfl rfl rfl rfl a_turn a_om a_vof a_sz ?_) | (refine on_storeEF hF rfl rfl rfl rfl a_turn a_as (by decide) a_vof rfl ?_) | (refine on_storeF hF rfl rfl rfl rfl a_turn (by decide) a_vof rfl ?_)) <;> try (refine hK2 _ _ _ a_allK ?_; clear hK2 K2))) <;> (refine hK _ _ _ ?_; clear hK K)) | with_reducible (first | refine nx_seq ?_ | refine nx_region ?_ | refine nl_nil ?_ | refine nq_then_n ?_ | refine nx_block ?_ | refine nx_skip ?_ | refine nx_exit ?_ | refine nx_ret ?_ | refine nq_then_x ?_ | refine nq_then_r ?_ | refine nq_blk_n ?_ | refine nq_blk_r ?_ | refine nq_blk_hit ?_ | refine nq_blk_miss rfl ?_ | refine nd_nil ?_) | refine nx_cond_t rfl ?_ | refine nx_cond_f rfl ?_ | refine nl_pass hF rfl rfl rfl ?_ | refine nd_pass rfl rfl rfl rfl rfl ?_ | refine nd_pass2 rfl rfl rfl a_nd a_allK rfl rfl ?_ | refine nd_pass3 rfl rfl rfl a_nd rfl rfl ?_ | (with_reducible refine hQ1 _ _ _ ?_; clear hQ1 Q1) )
      all_goals (try (exfalso; dsimp only at *; omega))
      refine nx_endc [] (BoxC B 49 (planV nilV nilV nilV 0 0) :: C) rfl nil3 (fun a w ha hw => res_cell_tmp (T' := 49) Tryz.results35 rfl rfl (by exact a_mem) hvz ha hw) (by exact a_subR) (by exact a_holds2) (by exact a_holds2)
    | true =>
      have h1 := Pl.known_pos hk
      have hlt := parent_lt L t h1
      rw [hk] at kc
      have lc := fun (W0 : World) (X : Nat → Prop) (R C : List Ch) h => Ref18.line_ct (W0 := W0) (X := X) (R := R) (C := C) s hs L hok t h (by omega)
      obtain ⟨res, hres⟩ : ∃ res, refF L t to n = res := ⟨_, rfl⟩
      rw [hres]
      obtain ⟨⟨par, a, bb⟩, hl⟩ : ∃ q, Ref18.refLine L t = q := ⟨_, rfl⟩
      rw [hl] at lc
      dsimp only at lc
      have hpar : 1 < t → par = (parentP L t).1 ∧ a = (parentP L t).2.1 := fun h => by
        have := line_parent hk h
        rw [hl] at this
        exact this
      have h0 : t = 1 → (parentP L t).2.1 = 0 := fun h => by unfold parentP; rw [if_pos (.inl (by omega))]
      obtain ⟨fr, hfr⟩ : ∃ fr, fr = min (parentP L t).2.1 to := ⟨_, rfl⟩
      refine calls_nx Tryz.func35 rfl Tryz.ntmps35 rfl ?_ hw
      repeat' (first | ((first | with_reducible refine nl_op rfl ?_ | refine nd_go rfl rfl rfl ?_); intro K hK; (first | ((first | refine on_E hF rfl rfl ?_ | refine od_E rfl rfl ?_ | refine od_R rfl rfl ?_); (first | refine ⟨_, a_yl, ?_⟩ | refine ⟨_, (by first | exact yl_build (T := 49) (us := []) rfl rfl rfl (fun w => by go_simp; all_goals rfl) | exact yl_fieldB (T := 33) (f := 0) (q := 0) rfl rfl (by kernel_rfl) | exact yl_fieldE (T := 33) (f := 0) (j := 0) rfl rfl a_sl a_om (by kernel_rfl) | exact yl_fieldB (T := 33) (f := 4) (q := 4) rfl rfl (by kernel_rfl) | exact yl_fieldE (T := 33) (f := 4) (j := 4) rfl rfl a_sl a_om (by kernel_rfl) | exact yl_fieldB (T := 49) (f := 0) (q := 0) rfl rfl (by kernel_rfl) | exact yl_fieldE (T := 49) (f := 0) (j := 0) rfl rfl a_sl a_om (by kernel_rfl) | exact yl_fieldB (T := 49) (f := 1) (q := 1) rfl rfl (by kernel_rfl) | exact yl_fieldE (T := 49) (f := 1) (j := 1) rfl rfl a_sl a_om (by kernel_rfl) | exact yl_fieldB (T := 49) (f := 2) (q := 2) rfl rfl (by kernel_rfl) | exact yl_fieldE (T := 49) (f := 2) (j := 2) rfl rfl a_sl a_om (by kernel_rfl) | exact yl_fieldB (T := 49) (f := 3) (q := 3) rfl rfl (by kernel_rfl) | exact yl_fieldE (T := 49) (f := 3) (j := 3) rfl rfl a_sl a_om (by kernel_rfl)), ?_⟩)) | ((first | refine on_Ec hF rfl rfl ?_ | refine od_Ec rfl rfl ?_); refine ⟨_, _, _, a_yc, ?_, ?_⟩ <;> (intro hc; try exact a_cut hc)) | ((first | (refine od_act a_nd ?_; intro K2 hK2) | refine od_last a_nd ?_ | skip); (first | (refine on_callG hF (enters_of Tryz.func34 (by kernel_rfl) rfl) rfl rfl rfl rfl (kc _ _ _ _ (by exact a_mem)) (fun _ => ?_)) | (refine on_buildSlice (T := 25) (e := 3) (k := 1) (by_ := 8) hF rfl rfl rfl rfl rfl rfl (by kernel_rfl) a_cel (Nat.le_of_ble_eq_true rfl) (fun b => ?_)) | (refine on_append (T := 25) (e := 3) (k := 1) (by_ := 8) hF rfl rfl rfl rfl rfl a_pick (by kernel_rfl) a_sl a_cel a_bnd a_bnd (fun v => ?_)) | (refine on_alloc hF rfl Tryz.zeroValue33 rfl rfl (fun B => ?_)) | (refine on_alloc hF rfl Tryz.zeroValue49 rfl rfl (fun B => ?_)) | (refine on_box hF rfl rfl rfl rfl (fun B => ?_)) | (refine on_store hF rfl rfl rfl rfl a_turn a_vof a_sz ?_) | (refine on_storeE hF rfl rfl rfl rfl a_turn a_om a_vof a_sz ?_) | (refine on_storeEF hF rfl rfl rfl rfl a_turn a_as (by decide) a_vof rfl ?_) | (refine on_storeF hF rfl rfl rfl rfl a_turn (by decide) a_vof rfl ?_)) <;> try (refine hK2 _ _ _ a_allK ?_; clear hK2 K2))) <;> (refine hK _ _ _ ?_; clear hK K)) | with_reducible (first | refine nx_seq ?_ | refine nx_region ?_ | refine nl_nil ?_ | refine nq_then_n ?_ | refine nx_block ?_ | refine nx_skip ?_ | refine nx_exit ?_ | refine nx_ret ?_ | refine nq_then_x ?_ | refine nq_then_r ?_ | refine nq_blk_n ?_ | refine nq_blk_r ?_ | refine nq_blk_hit ?_ | refine nq_blk_miss rfl ?_ | refine nd_nil ?_) | refine nx_cond_t rfl ?_ | refine nx_cond_f rfl ?_ | refine nl_pass hF rfl rfl rfl ?_ | refine nd_pass rfl rfl rfl rfl rfl ?_ | refine nd_pass2 rfl rfl rfl a_nd a_allK rfl rfl ?_ | refine nd_pass3 rfl rfl rfl a_nd rfl rfl ?_ | (with_reducible refine hQ1 _ _ _ ?_; clear hQ1 Q1) )
      all_goals (try (exfalso; dsimp only at *; omega))
      refine nl_cut2 (ι := Unit) (fun _ => [(0, s), (1, .int .i64 t), (2, .int .i64 to), (3, .int .i64 n), (8, ptr B), (10, .int .i64 par), (11, .int .i64 fr)]) (fun _ => R) (fun _ => BoxC B 49 (planV nilV nilV nilV 0 0) :: C) (fun _ => f5 s hs L hok hm t to n par fr (by omega) hk hfr (fun h => (hpar h).1) B R hsl (fun _ h => h) res hres (fun h W0 X R C h2 => ih par fr (by have := (hpar h).1; omega) W0 X R C h2)) (fun K HK => ?_)
      clear ih kc
      by_cases ht1 : t = 1
      · have h3 := h0 ht1
        rw [h3] at hfr
        subst ht1
        clear hpar h0 h3 hl hres hlt hk h1
        by_cases hto : 0 > to
        · have e1 : fr = to := by omega
          clear hfr
          subst e1
          repeat' (first | ((first | with_reducible refine nl_op rfl ?_ | refine nd_go rfl rfl rfl ?_); intro K hK; (first | ((first | refine on_E hF rfl rfl ?_ | refine od_E rfl rfl ?_ | refine od_R rfl rfl ?_); (first | refine ⟨_, a_yl, ?_⟩ | refine ⟨_, (by first | exact yl_build (T := 49) (us := []) rfl rfl rfl (fun w => by go_simp; all_goals rfl) | exact yl_fieldB (T := 33) (f := 0) (q := 0) rfl rfl (by kernel_rfl) | exact yl_fieldE (T := 33) (f := 0) (j := 0) rfl rfl a_sl a_om (by kernel_rfl) | exact yl_fieldB (T := 33) (f := 4) (q := 4) rfl rfl (by kernel_rfl) | exact yl_fieldE (T := 33) (f := 4) (j := 4) rfl rfl a_sl a_om (by kernel_rfl) | exact yl_fieldB (T := 49) (f := 0) (q := 0) rfl rfl (by kernel_rfl) | exact yl_fieldE (T := 49) (f := 0) (j := 0) rfl rfl a_sl a_om (by kernel_rfl) | exact yl_fieldB (T := 49) (f := 1) (q := 1) rfl rfl (by kernel_rfl) | exact yl_fieldE (T := 49) (f := 1) (j := 1) rfl rfl a_sl a_om (by kernel_rfl) | exact yl_fieldB (T := 49) (f := 2) (q := 2) rfl rfl (by kernel_rfl) | exact yl_fieldE (T := 49) (f := 2) (j := 2) rfl rfl a_sl a_om (by kernel_rfl) | exact yl_fieldB (T := 49) (f := 3) (q := 3) rfl rfl (by kernel_rfl) | exact yl_fieldE (T := 49) (f := 3) (j := 3) rfl rfl a_sl a_om (by kernel_rfl)), ?_⟩)) | ((first | refine on_Ec hF rfl rfl ?_ | refine od_Ec rfl rfl ?_); refine ⟨_, _, _, a_yc, ?_, ?_⟩ <;> (intro hc; try exact a_cut hc)) | ((first | (refine od_act a_nd ?_; intro K2 hK2) | refine od_last a_nd ?_ | skip); (first | (refine on_callG hF (enters_of Tryz.func58 (by kernel_rfl) rfl) rfl rfl rfl rfl (lc _ _ _ _ (by exact a_mem)) (fun _ => ?_)) | (refine on_buildSlice (T := 25) (e := 3) (k := 1) (by_ := 8) hF rfl rfl rfl rfl rfl rfl (by kernel_rfl) a_cel (Nat.le_of_ble_eq_true rfl) (fun b => ?_)) | (refine on_append (T := 25) (e := 3) (k := 1) (by_ := 8) hF rfl rfl rfl rfl rfl a_pick (by kernel_rfl) a_sl a_cel a_bnd a_bnd (fun v => ?_)) | (refine on_alloc hF rfl Tryz.zeroValue33 rfl rfl (fun B => ?_)) | (refine on_alloc hF rfl Tryz.zeroValue49 rfl rfl (fun B => ?_)) | (refine on_box hF rfl rfl rfl rfl (fun B => ?_)) | (refine on_store hF rfl rfl rfl rfl a_turn a_vof a_sz ?_) | (refine on_storeE hF rfl rfl rfl rfl a_turn a_om a_vof a_sz ?_) | (refine on_storeEF hF rfl rfl rfl rfl a_turn a_as (by decide) a_vof rfl ?_) | (refine on_storeF hF rfl rfl rfl rfl a_turn (by decide) a_vof rfl ?_)) <;> try (refine hK2 _ _ _ a_allK ?_; clear hK2 K2))) <;> (refine hK _ _ _ ?_; clear hK K)) | with_reducible (first | refine nx_seq ?_ | refine nx_region ?_ | refine nl_nil ?_ | refine nq_then_n ?_ | refine nx_block ?_ | refine nx_skip ?_ | refine nx_exit ?_ | refine nx_ret ?_ | refine nq_then_x ?_ | refine nq_then_r ?_ | refine nq_blk_n ?_ | refine nq_blk_r ?_ | refine nq_blk_hit ?_ | refine nq_blk_miss rfl ?_ | refine nd_nil ?_) | refine nx_cond_t rfl ?_ | refine nx_cond_f rfl ?_ | refine nl_pass hF rfl rfl rfl ?_ | refine nd_pass rfl rfl rfl rfl rfl ?_ | refine nd_pass2 rfl rfl rfl a_nd a_allK rfl rfl ?_ | refine nd_pass3 rfl rfl rfl a_nd rfl rfl ?_ | (with_reducible refine hQ1 _ _ _ ?_; clear hQ1 Q1) )
          all_goals (try (exfalso; dsimp only at *; omega))
          exact HK () _ _ _ (by exact a_sub) (by exact a_subR) (by exact a_holds2)
        · have e1 : fr = 0 := by omega
          clear hfr
          subst e1
          repeat' (first | ((first | with_reducible refine nl_op rfl ?_ | refine nd_go rfl rfl rfl ?_); intro K hK; (first | ((first | refine on_E hF rfl rfl ?_ | refine od_E rfl rfl ?_ | refine od_R rfl rfl ?_); (first | refine ⟨_, a_yl, ?_⟩ | refine ⟨_, (by first | exact yl_build (T := 49) (us := []) rfl rfl rfl (fun w => by go_simp; all_goals rfl) | exact yl_fieldB (T := 33) (f := 0) (q := 0) rfl rfl (by kernel_rfl) | exact yl_fieldE (T := 33) (f := 0) (j := 0) rfl rfl a_sl a_om (by kernel_rfl) | exact yl_fieldB (T := 33) (f := 4) (q := 4) rfl rfl (by kernel_rfl) | exact yl_fieldE (T := 33) (f := 4) (j := 4) rfl rfl a_sl a_om (by kernel_rfl) | exact yl_fieldB (T := 49) (f := 0) (q := 0) rfl rfl (by kernel_rfl) | exact yl_fieldE (T := 49) (f := 0) (j := 0) rfl rfl a_sl a_om (by kernel_rfl) | exact yl_fieldB (T := 49) (f := 1) (q := 1) rfl rfl (by kernel_rfl) | exact yl_fieldE (T := 49) (f := 1) (j := 1) rfl rfl a_sl a_om (by kernel_rfl) | exact yl_fieldB (T := 49) (f := 2) (q := 2) rfl rfl (by kernel_rfl) | exact yl_fieldE (T := 49) (f := 2) (j := 2) rfl rfl a_sl a_om (by kernel_rfl) | exact yl_fieldB (T := 49) (f := 3) (q := 3) rfl rfl (by kernel_rfl) | exact yl_fieldE (T := 49) (f := 3) (j := 3) rfl rfl a_sl a_om (by kernel_rfl)), ?_⟩)) | ((first | refine on_Ec hF rfl rfl ?_ | refine od_Ec rfl rfl ?_); refine ⟨_, _, _, a_yc, ?_, ?_⟩ <;> (intro hc; try exact a_cut hc)) | ((first | (refine od_act a_nd ?_; intro K2 hK2) | refine od_last a_nd ?_ | skip); (first | (refine on_callG hF (enters_of Tryz.func58 (by kernel_rfl) rfl) rfl rfl rfl rfl (lc _ _ _ _ (by exact a_mem)) (fun _ => ?_)) | (refine on_buildSlice (T := 25) (e := 3) (k := 1) (by_ := 8) hF rfl rfl rfl rfl rfl rfl (by kernel_rfl) a_cel (Nat.le_of_ble_eq_true rfl) (fun b => ?_)) | (refine on_append (T := 25) (e := 3) (k := 1) (by_ := 8) hF rfl rfl rfl rfl rfl a_pick (by kernel_rfl) a_sl a_cel a_bnd a_bnd (fun v => ?_)) | (refine on_alloc hF rfl Tryz.zeroValue33 rfl rfl (fun B => ?_)) | (refine on_alloc hF rfl Tryz.zeroValue49 rfl rfl (fun B => ?_)) | (refine on_box hF rfl rfl rfl rfl (fun B => ?_)) | (refine on_store hF rfl rfl rfl rfl a_turn a_vof a_sz ?_) | (refine on_storeE hF rfl rfl rfl rfl a_turn a_om a_vof a_sz ?_) | (refine on_storeEF hF rfl rfl rfl rfl a_turn a_as (by decide) a_vof rfl ?_) | (refine on_storeF hF rfl rfl rfl rfl a_turn (by decide) a_vof rfl ?_)) <;> try (refine hK2 _ _ _ a_allK ?_; clear hK2 K2))) <;> (refine hK _ _ _ ?_; clear hK K)) | with_reducible (first | refine nx_seq ?_ | refine nx_region ?_ | refine nl_nil ?_ | refine nq_then_n ?_ | refine nx_block ?_ | refine nx_skip ?_ | refine nx_exit ?_ | refine nx_ret ?_ | refine nq_then_x ?_ | refine nq_then_r ?_ | refine nq_blk_n ?_ | refine nq_blk_r ?_ | refine nq_blk_hit ?_ | refine nq_blk_miss rfl ?_ | refine nd_nil ?_) | refine nx_cond_t rfl ?_ | refine nx_cond_f rfl ?_ | refine nl_pass hF rfl rfl rfl ?_ | refine nd_pass rfl rfl rfl rfl rfl ?_ | refine nd_pass2 rfl rfl rfl a_nd a_allK rfl rfl ?_ | refine nd_pass3 rfl rfl rfl a_nd rfl rfl ?_ | (with_reducible refine hQ1 _ _ _ ?_; clear hQ1 Q1) )
          all_goals (try (exfalso; dsimp only at *; omega))
          exact HK () _ _ _ (by exact a_sub) (by exact a_subR) (by exact a_holds2)
      · have h3 := (hpar (by omega)).2
        rw [← h3] at hfr
        clear hpar h0 h3 hl hres hlt hk
        by_cases hto : a > to
        · have e1 : fr = to := by omega
          clear hfr
          subst e1
          repeat' (first | ((first | with_reducible refine nl_op rfl ?_ | refine nd_go rfl rfl rfl ?_); intro K hK; (first | ((first | refine on_E hF rfl rfl ?_ | refine od_E rfl rfl ?_ | refine od_R rfl rfl ?_); (first | refine ⟨_, a_yl, ?_⟩ | refine ⟨_, (by first | exact yl_build (T := 49) (us := []) rfl rfl rfl (fun w => by go_simp; all_goals rfl) | exact yl_fieldB (T := 33) (f := 0) (q := 0) rfl rfl (by kernel_rfl) | exact yl_fieldE (T := 33) (f := 0) (j := 0) rfl rfl a_sl a_om (by kernel_rfl) | exact yl_fieldB (T := 33) (f := 4) (q := 4) rfl rfl (by kernel_rfl) | exact yl_fieldE (T := 33) (f := 4) (j := 4) rfl rfl a_sl a_om (by kernel_rfl) | exact yl_fieldB (T := 49) (f := 0) (q := 0) rfl rfl (by kernel_rfl) | exact yl_fieldE (T := 49) (f := 0) (j := 0) rfl rfl a_sl a_om (by kernel_rfl) | exact yl_fieldB (T := 49) (f := 1) (q := 1) rfl rfl (by kernel_rfl) | exact yl_fieldE (T := 49) (f := 1) (j := 1) rfl rfl a_sl a_om (by kernel_rfl) | exact yl_fieldB (T := 49) (f := 2) (q := 2) rfl rfl (by kernel_rfl) | exact yl_fieldE (T := 49) (f := 2) (j := 2) rfl rfl a_sl a_om (by kernel_rfl) | exact yl_fieldB (T := 49) (f := 3) (q := 3) rfl rfl (by kernel_rfl) | exact yl_fieldE (T := 49) (f := 3) (j := 3) rfl rfl a_sl a_om (by kernel_rfl)), ?_⟩)) | ((first | refine on_Ec hF rfl rfl ?_ | refine od_Ec rfl rfl ?_); refine ⟨_, _, _, a_yc, ?_, ?_⟩ <;> (intro hc; try exact a_cut hc)) | ((first | (refine od_act a_nd ?_; intro K2 hK2) | refine od_last a_nd ?_ | skip); (first | (refine on_callG hF (enters_of Tryz.func58 (by kernel_rfl) rfl) rfl rfl rfl rfl (lc _ _ _ _ (by exact a_mem)) (fun _ => ?_)) | (refine on_buildSlice (T := 25) (e := 3) (k := 1) (by_ := 8) hF rfl rfl rfl rfl rfl rfl (by kernel_rfl) a_cel (Nat.le_of_ble_eq_true rfl) (fun b => ?_)) | (refine on_append (T := 25) (e := 3) (k := 1) (by_ := 8) hF rfl rfl rfl rfl rfl a_pick (by kernel_rfl) a_sl a_cel a_bnd a_bnd (fun v => ?_)) | (refine on_alloc hF rfl Tryz.zeroValue33 rfl rfl (fun B => ?_)) | (refine on_alloc hF rfl Tryz.zeroValue49 rfl rfl (fun B => ?_)) | (refine on_box hF rfl rfl rfl rfl (fun B => ?_)) | (refine on_store hF rfl rfl rfl rfl a_turn a_vof a_sz ?_) | (refine on_storeE hF rfl rfl rfl rfl a_turn a_om a_vof a_sz ?_) | (refine on_storeEF hF rfl rfl rfl rfl a_turn a_as (by decide) a_vof rfl ?_) | (refine on_storeF hF rfl rfl rfl rfl a_turn (by decide) a_vof rfl ?_)) <;> try (refine hK2 _ _ _ a_allK ?_; clear hK2 K2))) <;> (refine hK _ _ _ ?_; clear hK K)) | with_reducible (first | refine nx_seq ?_ | refine nx_region ?_ | refine nl_nil ?_ | refine nq_then_n ?_ | refine nx_block ?_ | refine nx_skip ?_ | refine nx_exit ?_ | refine nx_ret ?_ | refine nq_then_x ?_ | refine nq_then_r ?_ | refine nq_blk_n ?_ | refine nq_blk_r ?_ | refine nq_blk_hit ?_ | refine nq_blk_miss rfl ?_ | refine nd_nil ?_) | refine nx_cond_t rfl ?_ | refine nx_cond_f rfl ?_ | refine nl_pass hF rfl rfl rfl ?_ | refine nd_pass rfl rfl rfl rfl rfl ?_ | refine nd_pass2 rfl rfl rfl a_nd a_allK rfl rfl ?_ | refine nd_pass3 rfl rfl rfl a_nd rfl rfl ?_ | (with_reducible refine hQ1 _ _ _ ?_; clear hQ1 Q1) )
          all_goals (try (exfalso; dsimp only at *; omega))
          exact HK () _ _ _ (by exact a_sub) (by exact a_subR) (by exact a_holds2)
        · have e1 : fr = a := by omega
          clear hfr
          subst e1
          repeat' (first | ((first | with_reducible refine nl_op rfl ?_ | refine nd_go rfl rfl rfl ?_); intro K hK; (first | ((first | refine on_E hF rfl rfl ?_ | refine od_E rfl rfl ?_ | refine od_R rfl rfl ?_); (first | refine ⟨_, a_yl, ?_⟩ | refine ⟨_, (by first | exact yl_build (T := 49) (us := []) rfl rfl rfl (fun w => by go_simp; all_goals rfl) | exact yl_fieldB (T := 33) (f := 0) (q := 0) rfl rfl (by kernel_rfl) | exact yl_fieldE (T := 33) (f := 0) (j := 0) rfl rfl a_sl a_om (by kernel_rfl) | exact yl_fieldB (T := 33) (f := 4) (q := 4) rfl rfl (by kernel_rfl) | exact yl_fieldE (T := 33) (f := 4) (j := 4) rfl rfl a_sl a_om (by kernel_rfl) | exact yl_fieldB (T := 49) (f := 0) (q := 0) rfl rfl (by kernel_rfl) | exact yl_fieldE (T := 49) (f := 0) (j := 0) rfl rfl a_sl a_om (by kernel_rfl) | exact yl_fieldB (T := 49) (f := 1) (q := 1) rfl rfl (by kernel_rfl) | exact yl_fieldE (T := 49) (f := 1) (j := 1) rfl rfl a_sl a_om (by kernel_rfl) | exact yl_fieldB (T := 49) (f := 2) (q := 2) rfl rfl (by kernel_rfl) | exact yl_fieldE (T := 49) (f := 2) (j := 2) rfl rfl a_sl a_om (by kernel_rfl) | exact yl_fieldB (T := 49) (f := 3) (q := 3) rfl rfl (by kernel_rfl) | exact yl_fieldE (T := 49) (f := 3) (j := 3) rfl rfl a_sl a_om (by kernel_rfl)), ?_⟩)) | ((first | refine on_Ec hF rfl rfl ?_ | refine od_Ec rfl rfl ?_); refine ⟨_, _, _, a_yc, ?_, ?_⟩ <;> (intro hc; try exact a_cut hc)) | ((first | (refine od_act a_nd ?_; intro K2 hK2) | refine od_last a_nd ?_ | skip); (first | (refine on_callG hF (enters_of Tryz.func58 (by kernel_rfl) rfl) rfl rfl rfl rfl (lc _ _ _ _ (by exact a_mem)) (fun _ => ?_)) | (refine on_buildSlice (T := 25) (e := 3) (k := 1) (by_ := 8) hF rfl rfl rfl rfl rfl rfl (by kernel_rfl) a_cel (Nat.le_of_ble_eq_true rfl) (fun b => ?_)) | (refine on_append (T := 25) (e := 3) (k := 1) (by_ := 8) hF rfl rfl rfl rfl rfl a_pick (by kernel_rfl) a_sl a_cel a_bnd a_bnd (fun v => ?_)) | (refine on_alloc hF rfl Tryz.zeroValue33 rfl rfl (fun B => ?_)) | (refine on_alloc hF rfl Tryz.zeroValue49 rfl rfl (fun B => ?_)) | (refine on_box hF rfl rfl rfl rfl (fun B => ?_)) | (refine on_store hF rfl rfl rfl rfl a_turn a_vof a_sz ?_) | (refine on_storeE hF rfl rfl rfl rfl a_turn a_om a_vof a_sz ?_) | (refine on_storeEF hF rfl rfl rfl rfl a_turn a_as (by decide) a_vof rfl ?_) | (refine on_storeF hF rfl rfl rfl rfl a_turn (by decide) a_vof rfl ?_)) <;> try (refine hK2 _ _ _ a_allK ?_; clear hK2 K2))) <;> (refine hK _ _ _ ?_; clear hK K)) | with_reducible (first | refine nx_seq ?_ | refine nx_region ?_ | refine nl_nil ?_ | refine nq_then_n ?_ | refine nx_block ?_ | refine nx_skip ?_ | refine nx_exit ?_ | refine nx_ret ?_ | refine nq_then_x ?_ | refine nq_then_r ?_ | refine nq_blk_n ?_ | refine nq_blk_r ?_ | refine nq_blk_hit ?_ | refine nq_blk_miss rfl ?_ | refine nd_nil ?_) | refine nx_cond_t rfl ?_ | refine nx_cond_f rfl ?_ | refine nl_pass hF rfl rfl rfl ?_ | refine nd_pass rfl rfl rfl rfl rfl ?_ | refine nd_pass2 rfl rfl rfl a_nd a_allK rfl rfl ?_ | refine nd_pass3 rfl rfl rfl a_nd rfl rfl ?_ | (with_reducible refine hQ1 _ _ _ ?_; clear hQ1 Q1) )
          all_goals (try (exfalso; dsimp only at *; omega))
          exact HK () _ _ _ (by exact a_sub) (by exact a_subR) (by exact a_holds2)
set_option maxRecDepth 100000 in
set_option maxHeartbeats 8000000 in
theorem Find_ct (s : Value) (hs : IsSl s) (L : List It2) (hok : ∀ x ∈ L, x.ok) (hm : L.length ≤ 20) (t n : Int) (hsl : SlC 9 s (L.map It2.v) ∈ R) :
    Ct Tryz.prog 20 [s, .int .i64 t, .int .i64 n] W0 X R C (SV × SV × SV) (FndRet (findP L t n) n) (fun _ => R) (findC L (findP L t n) C) := by
  intro w hw
  have hF := isWide_wide
  have hvz := vofZ
  have fc := fun (W0 : World) (X : Nat → Prop) (R C : List Ch) h => find_ct s hs L hok hm n t.toNat t n (Nat.le_refl _) W0 X R C h
  rw [refFind_eq] at fc
  obtain ⟨q, hq⟩ : ∃ q, findP L t n = q := ⟨_, rfl⟩
  rw [hq] at fc ⊢
  clear hq
  cases q with
  | none =>
    unfold fndRet findC at fc
    unfold FndRet findC
    dsimp only at fc ⊢
    have hvn := vofPlan (ch := nilV) (sg := nilV) (lm := nilV) ⟨_, _, _, rfl⟩ ⟨_, _, _, rfl⟩ ⟨_, _, _, rfl⟩ 0 n
    refine calls_nx Tryz.func20 rfl Tryz.ntmps20 rfl ?_ hw
    repeat' (first | ((first | with_reducible refine nl_op rfl ?_ | refine nd_go rfl rfl rfl ?_); intro K hK; (first | ((first | refine on_E hF rfl rfl ?_ | refine od_E rfl rfl ?_ | refine od_R rfl rfl ?_); (first | refine ⟨_, a_yl, ?_⟩ | refine ⟨_, (by first | exact yl_build (T := 49) (us := []) rfl rfl rfl (fun w => by go_simp; all_goals rfl) | exact yl_fieldB (T := 49) (f := 4) (q := 4) rfl rfl (by kernel_rfl) | exact yl_fieldE (T := 49) (f := 4) (j := 4) rfl rfl a_sl a_om (by kernel_rfl)), ?_⟩)) | ((first | refine on_Ec hF rfl rfl ?_ | refine od_Ec rfl rfl ?_); refine ⟨_, _, _, a_yc, ?_, ?_⟩ <;> (intro hc; try exact a_cut hc)) | ((first | (refine od_act a_nd ?_; intro K2 hK2) | refine od_last a_nd ?_ | skip); (first | (refine on_callG hF (enters_of Tryz.func35 (by kernel_rfl) rfl) rfl rfl rfl rfl (fc _ _ _ _ (by exact a_mem)) (fun i => ?_)) | (refine on_storeF hF rfl rfl rfl rfl a_turn (Nat.le_of_ble_eq_true rfl) a_vof rfl ?_; simp only [List.setIfInBounds_toArray, List.set_cons_succ, List.set_cons_zero]) | (refine on_alloc hF rfl Tryz.zeroValue49 rfl rfl (fun B => ?_)) | (refine on_box hF rfl rfl rfl rfl (fun B => ?_)) | (refine on_store hF rfl rfl rfl rfl a_turn a_vof a_sz ?_) | (refine on_storeE hF rfl rfl rfl rfl a_turn a_om a_vof a_sz ?_) | (refine on_storeEF hF rfl rfl rfl rfl a_turn a_as (by decide) a_vof rfl ?_) | (refine on_storeF hF rfl rfl rfl rfl a_turn (by decide) a_vof rfl ?_)) <;> try (refine hK2 _ _ _ a_allK ?_; clear hK2 K2))) <;> (refine hK _ _ _ ?_; clear hK K)) | with_reducible (first | refine nx_seq ?_ | refine nx_region ?_ | refine nl_nil ?_ | refine nq_then_n ?_ | refine nx_block ?_ | refine nx_skip ?_ | refine nx_exit ?_ | refine nx_ret ?_ | refine nq_then_x ?_ | refine nq_then_r ?_ | refine nq_blk_n ?_ | refine nq_blk_r ?_ | refine nq_blk_hit ?_ | refine nq_blk_miss rfl ?_ | refine nd_nil ?_) | refine nx_cond_t rfl ?_ | refine nx_cond_f rfl ?_ | refine nl_pass hF rfl rfl rfl ?_ | refine nd_pass rfl rfl rfl rfl rfl ?_ | refine nd_pass2 rfl rfl rfl a_nd a_allK rfl rfl ?_ | refine nd_pass3 rfl rfl rfl a_nd rfl rfl ?_ | (with_reducible refine hQ1 _ _ _ ?_; clear hQ1 Q1) )
    rename_i b6
    refine nx_endc [] (BoxC b6 49 (planV nilV nilV nilV 0 0) :: C) rfl nil3 (fun a w ha hw => res_cell_tmp (T' := 49) Tryz.results20 rfl rfl (by exact a_mem) hvz ha hw) (by exact a_subR) (by exact a_holds2) (by exact a_holds2)
  | some p =>
    unfold fndRet findC at fc
    unfold FndRet findC
    dsimp only at fc ⊢
    have hv0 := fun i : SV × SV × SV => vofPlan i.1.2 i.2.1.2 i.2.2.2 p.1.a 0
    have hvn := fun i : SV × SV × SV => vofPlan i.1.2 i.2.1.2 i.2.2.2 p.1.a n
    refine calls_nx Tryz.func20 rfl Tryz.ntmps20 rfl ?_ hw
    repeat' (first | ((first | with_reducible refine nl_op rfl ?_ | refine nd_go rfl rfl rfl ?_); intro K hK; (first | ((first | refine on_E hF rfl rfl ?_ | refine od_E rfl rfl ?_ | refine od_R rfl rfl ?_); (first | refine ⟨_, a_yl, ?_⟩ | refine ⟨_, (by first | exact yl_build (T := 49) (us := []) rfl rfl rfl (fun w => by go_simp; all_goals rfl) | exact yl_fieldB (T := 49) (f := 4) (q := 4) rfl rfl (by kernel_rfl) | exact yl_fieldE (T := 49) (f := 4) (j := 4) rfl rfl a_sl a_om (by kernel_rfl)), ?_⟩)) | ((first | refine on_Ec hF rfl rfl ?_ | refine od_Ec rfl rfl ?_); refine ⟨_, _, _, a_yc, ?_, ?_⟩ <;> (intro hc; try exact a_cut hc)) | ((first | (refine od_act a_nd ?_; intro K2 hK2) | refine od_last a_nd ?_ | skip); (first | (refine on_callG hF (enters_of Tryz.func35 (by kernel_rfl) rfl) rfl rfl rfl rfl (fc _ _ _ _ (by exact a_mem)) (fun i => ?_); have hvi := hv0 i; have hvj := hvn i; obtain ⟨⟨_, ca, cn, cc, rfl⟩, ⟨_, ga, gn, gc, rfl⟩, ⟨_, ma, mn, mc, rfl⟩⟩ := i; dsimp only at hvi hvj ⊢) | (refine on_storeF hF rfl rfl rfl rfl a_turn (Nat.le_of_ble_eq_true rfl) a_vof rfl ?_; simp only [List.setIfInBounds_toArray, List.set_cons_succ, List.set_cons_zero]) | (refine on_alloc hF rfl Tryz.zeroValue49 rfl rfl (fun B => ?_)) | (refine on_box hF rfl rfl rfl rfl (fun B => ?_)) | (refine on_store hF rfl rfl rfl rfl a_turn a_vof a_sz ?_) | (refine on_storeE hF rfl rfl rfl rfl a_turn a_om a_vof a_sz ?_) | (refine on_storeEF hF rfl rfl rfl rfl a_turn a_as (by decide) a_vof rfl ?_) | (refine on_storeF hF rfl rfl rfl rfl a_turn (by decide) a_vof rfl ?_)) <;> try (refine hK2 _ _ _ a_allK ?_; clear hK2 K2))) <;> (refine hK _ _ _ ?_; clear hK K)) | with_reducible (first | refine nx_seq ?_ | refine nx_region ?_ | refine nl_nil ?_ | refine nq_then_n ?_ | refine nx_block ?_ | refine nx_skip ?_ | refine nx_exit ?_ | refine nx_ret ?_ | refine nq_then_x ?_ | refine nq_then_r ?_ | refine nq_blk_n ?_ | refine nq_blk_r ?_ | refine nq_blk_hit ?_ | refine nq_blk_miss rfl ?_ | refine nd_nil ?_) | refine nx_cond_t rfl ?_ | refine nx_cond_f rfl ?_ | refine nl_pass hF rfl rfl rfl ?_ | refine nd_pass rfl rfl rfl rfl rfl ?_ | refine nd_pass2 rfl rfl rfl a_nd a_allK rfl rfl ?_ | refine nd_pass3 rfl rfl rfl a_nd rfl rfl ?_ | (with_reducible refine hQ1 _ _ _ ?_; clear hQ1 Q1) )
    rename_i b6
    refine nx_endc [] (BoxC b6 49 (planV (.slice ca cn cc) (.slice ga gn gc) (.slice ma mn mc) p.1.a n) :: RowC 3 1 (.slice ca cn cc) ((Chn.chainIds L p.1.id).map (.int .i64)) :: RowC 3 1 (.slice ga gn gc) (p.2.1.map (.int .i64)) :: RowC 3 1 (.slice ma mn mc) (p.2.2.map (.int .i64)) :: C) rfl (⟨.slice ca cn cc, _, _, _, rfl⟩, ⟨.slice ga gn gc, _, _, _, rfl⟩, ⟨.slice ma mn mc, _, _, _, rfl⟩) (fun a w ha hw => res_cell_tmp (T' := 49) Tryz.results20 rfl rfl (by exact a_mem) hvj ha hw) (by exact a_subR) (by exact a_holds2) (by exact a_holds2)
end Rf22
end Go.Proofs.YtinofjenoapeaaaGreat
end
section
namespace Go.Proofs.YtinofjenoapeaaaGreat
open Go.RowKit Go.Shelf
set_option linter.unusedSimpArgs false
set_option linter.unusedVariables false
namespace Pr
open Pl Li
/-- n and n' lie alike to v. -/
def Gd (n n' v : Int) : Prop := (v < n ∧ v < n') ∨ (n < v ∧ n' < v)
/-- The same value, or n here and n' there. -/
def Eq2 (n n' v v' : Int) : Prop := (v = v' ∧ Gd n n' v) ∨ (v = n ∧ v' = n')
theorem Eq2.lt {n n' x x' y y' : Int} (h1 : Eq2 n n' x x') (h2 : Eq2 n n' y y') : x < y ↔ x' < y' := by unfold Eq2 Gd at *; omega
theorem Eq2.le {n n' x x' y y' : Int} (h1 : Eq2 n n' x x') (h2 : Eq2 n n' y y') : x ≤ y ↔ x' ≤ y' := by unfold Eq2 Gd at *; omega
theorem Eq2.min {n n' x x' y y' : Int} (h1 : Eq2 n n' x x') (h2 : Eq2 n n' y y') : Eq2 n n' (min x y) (min x' y') := by unfold Eq2 Gd at *; omega
theorem Eq2.self {n n' v : Int} (h : Gd n n' v) : Eq2 n n' v v := .inl ⟨rfl, h⟩
structure Sim (L : List It2) (n n' : Int) : Prop where
  z : Gd n n' 0
  a : ∀ x ∈ L, Gd n n' x.a
  b : ∀ x ∈ L, Gd n n' x.b
section sim
variable {L : List It2} {n n' : Int} (hS : Sim L n n')
include hS
theorem parentE (t : Int) : Gd n n' (parentP L t).2.1 := by
  unfold parentP
  split
  · exact hS.z
  · dsimp only
    cases hl : lineP L t with
    | none => exact hS.z
    | some x => exact hS.a x (List.mem_of_find?_eq_some hl)
theorem backE {u to to' : Int} (ht : Eq2 n n' to to') {x : It2} (hx : x ∈ L) : Chn.backupsB L u to x = Chn.backupsB L u to' x := by
  unfold Chn.backupsB
  rw [show decide (x.b ≤ to) = decide (x.b ≤ to') from decide_eq_decide.2 (Eq2.le (Eq2.self (hS.b x hx)) ht)]
theorem stepE {fr fr' : Int} (hf : Eq2 n n' fr fr') : ∀ (M : List It2) (s : It2 × Bool), (∀ x ∈ M, x ∈ L) → M.foldl (Chn.bestStep fr) s = M.foldl (Chn.bestStep fr') s
  | [], _, _ => rfl
  | x :: M, s, h => by
    rw [List.foldl_cons, List.foldl_cons]
    have : Chn.bestStep fr s x = Chn.bestStep fr' s x := by
      unfold Chn.bestStep
      rw [show decide (fr ≤ x.a) = decide (fr' ≤ x.a) from decide_eq_decide.2 (Eq2.le hf (Eq2.self (hS.a x (h x (by simp)))))]
    rw [this]
    exact stepE hf M _ (fun y hy => h y (List.mem_cons_of_mem _ hy))
theorem bestE {u fr fr' to to' : Int} (hf : Eq2 n n' fr fr') (ht : Eq2 n n' to to') : Chn.bestOf L u fr to = Chn.bestOf L u fr' to' := by
  unfold Chn.bestOf
  rw [List.filter_congr (fun x hx => backE hS ht hx)]
  exact stepE hS hf _ _ (fun x hx => (List.mem_filter.1 hx).1)
theorem nextE {u fr fr' : Int} (hf : Eq2 n n' fr fr') : Re.nextSeg L u fr = Re.nextSeg L u fr' := by
  unfold Re.nextSeg
  have h : ∀ M : List It2, (∀ x ∈ M, x ∈ L) → M.find? (Re.nextB fr) = M.find? (Re.nextB fr') := by
    intro M
    induction M with
    | nil => intro _; rfl
    | cons x M ih =>
      intro h
      have hb : Re.nextB fr x = Re.nextB fr' x := by
        unfold Re.nextB
        rw [show decide (x.a ≤ fr) = decide (x.a ≤ fr') from decide_eq_decide.2 (Eq2.le (Eq2.self (hS.a x (h x (by simp)))) hf), show decide (fr < x.b) = decide (fr' < x.b) from decide_eq_decide.2 (Eq2.lt hf (Eq2.self (hS.b x (h x (by simp)))))]
      rw [List.find?_cons, List.find?_cons, hb, ih (fun y hy => h y (List.mem_cons_of_mem _ hy))]
  exact h _ (fun x hx => (List.mem_filter.1 hx).1)
theorem coverE {u to to' : Int} (ht : Eq2 n n' to to') : ∀ (m : Nat) (fr fr' : Int), Re.above L fr ≤ m → Eq2 n n' fr fr' → Re.cover L u fr to = Re.cover L u fr' to' := by
  intro m
  induction m with
  | zero =>
    intro fr fr' hm hf
    have hlt := Eq2.lt hf ht
    have hne := nextE hS (u := u) hf
    by_cases h1 : fr < to
    · rcases Re.nextSeg_cases L u fr with hn | ⟨x, hn, hx, hb, ha⟩
      · rw [Re.cover_none h1 hn, Re.cover_none (hlt.1 h1) (by rw [← hne]; exact hn)]
      · omega
    · rw [Re.cover_done h1, Re.cover_done (fun h => h1 (hlt.2 h))]
  | succ m ih =>
    intro fr fr' hm hf
    have hlt := Eq2.lt hf ht
    have hne := nextE hS (u := u) hf
    by_cases h1 : fr < to
    · rcases Re.nextSeg_cases L u fr with hn | ⟨x, hn, hx, hb, ha⟩
      · rw [Re.cover_none h1 hn, Re.cover_none (hlt.1 h1) (by rw [← hne]; exact hn)]
      · rw [Re.cover_some h1 hn, Re.cover_some (hlt.1 h1) (by rw [← hne]; exact hn), ih x.b x.b (by omega) (Eq2.self (hS.b x hx))]
    · rw [Re.cover_done h1, Re.cover_done (fun h => h1 (hlt.2 h))]
end sim
/-- Two ways that lie alike. -/
def PR (n n' : Int) : List Prt → List Prt → Prop
  | [], [] => True
  | x :: P, y :: Q => (x.u = y.u ∧ Eq2 n n' x.fr y.fr ∧ Eq2 n n' x.to y.to) ∧ PR n n' P Q
  | _, _ => False
theorem PR.len {n n' : Int} : ∀ {P Q : List Prt}, PR n n' P Q → P.length = Q.length
  | [], [], _ => rfl
  | x :: P, y :: Q, h => by simp [PR.len h.2]
  | [], y :: Q, h => h.elim
  | x :: P, [], h => h.elim
theorem PR.at {n n' : Int} : ∀ {P Q : List Prt}, PR n n' P Q → ∀ (i : Nat) (x : Prt), P[i]? = some x → ∃ y, Q[i]? = some y ∧ x.u = y.u ∧ Eq2 n n' x.fr y.fr ∧ Eq2 n n' x.to y.to
  | [], [], _, i, x, h => by simp at h
  | x :: P, y :: Q, h, 0, z, hz => by
    simp at hz; subst hz
    exact ⟨y, by simp, h.1⟩
  | x :: P, y :: Q, h, i + 1, z, hz => by
    obtain ⟨w, h1, h2⟩ := PR.at h.2 i z (by simpa using hz)
    exact ⟨w, by simpa using h1, h2⟩
  | [], y :: Q, h, _, _, _ => h.elim
  | x :: P, [], h, _, _, _ => h.elim
section sim2
variable {L : List It2} {n n' : Int} (hS : Sim L n n')
include hS
theorem wayE : ∀ (m : Nat) (t a a' : Int), t.toNat ≤ m → Eq2 n n' a a' → PR n n' (wayU L t a) (wayU L t a') := by
  intro m
  induction m with
  | zero => intro t a a' ht ha; rw [way_lt (by omega), way_lt (by omega)]; trivial
  | succ m ih =>
    intro t a a' ht ha
    by_cases h1 : 1 ≤ t
    · have hlt := parent_lt L t h1
      rw [way_ge h1, way_ge h1]
      have hm := Eq2.min (Eq2.self (parentE hS t)) ha
      exact ⟨⟨rfl, hm, ha⟩, ih _ _ _ (by omega) hm⟩
    · rw [way_lt h1, way_lt h1]; trivial
theorem covStepE {s s' : List Int × List Int × Bool} {u fr fr' to to' : Int} (h1 : s.1 = s'.1) (h2 : s.2.2 = s'.2.2) (hf : Eq2 n n' fr fr') (ht : Eq2 n n' to to') : (covStep L s u fr to).1 = (covStep L s' u fr' to').1 ∧ (covStep L s u fr to).2.2 = (covStep L s' u fr' to').2.2 := by
  unfold covStep
  rw [h2, coverE hS ht _ fr fr' (Nat.le_refl _) hf]
  split
  · exact ⟨by rw [h1], rfl⟩
  · exact ⟨h1, h2⟩
theorem foldE : ∀ (i : Nat) (P Q : List Prt) (s s' : List Int × List Int × Bool), PR n n' P Q → s.1 = s'.1 → s.2.2 = s'.2.2 →
    ((P.take i).foldr (fun y s => covStep L s y.u y.fr y.to) s).1 = ((Q.take i).foldr (fun y s => covStep L s y.u y.fr y.to) s').1 ∧ ((P.take i).foldr (fun y s => covStep L s y.u y.fr y.to) s).2.2 = ((Q.take i).foldr (fun y s => covStep L s y.u y.fr y.to) s').2.2
  | 0, P, Q, s, s', _, h1, h2 => by simp [h1, h2]
  | i + 1, [], [], s, s', _, h1, h2 => by simp [h1, h2]
  | i + 1, x :: P, y :: Q, s, s', h, h1, h2 => by
    obtain ⟨g1, g2⟩ := foldE i P Q s s' h.2 h1 h2
    rw [List.take_succ_cons, List.take_succ_cons, List.foldr_cons, List.foldr_cons, h.1.1]
    exact covStepE hS g1 g2 h.1.2.1 h.1.2.2
  | i + 1, [], y :: Q, _, _, h, _, _ => h.elim
  | i + 1, x :: P, [], _, _, h, _, _ => h.elim
theorem planE {P Q : List Prt} (h : PR n n' P Q) (i : Nat) (x y : Prt) (b : It2) (hb : b ∈ L) (hu : x.u = y.u) (ht : Eq2 n n' x.to y.to) : (planAt L P i x b).1 = (planAt L Q i y b).1 ∧ (planAt L P i x b).2.2 = (planAt L Q i y b).2.2 := by
  unfold planAt
  rw [List.foldl_reverse, List.foldl_reverse, hu]
  have h0 := covStepE hS (s := ([], [], true)) (s' := ([], [], true)) (u := y.u) rfl rfl (Eq2.self (hS.a b hb)) ht
  exact foldE hS i P Q _ _ h h0.1 h0.2
/-- A plan turns nowhere but at places. -/
theorem findE {t : Int} {p : It2 × List Int × List Int} (h : findP L t n = some p) (hn' : 0 ≤ n') : ∃ p', findP L t n' = some p' ∧ p'.1 = p.1 ∧ p'.2.1 = p.2.1 := by
  obtain ⟨hn, hk, j, x, hj⟩ := find_spec h
  have hP := wayE hS _ t n n' (Nat.le_refl _) (.inr ⟨rfl, rfl⟩)
  obtain ⟨y, hy, hu, hf, ht⟩ := PR.at hP j x hj.at_
  have hb := bestE hS (u := x.u) hf ht
  have hbm := (best_mem hj.has).1
  rw [← hj.one] at hbm
  obtain ⟨q1, q2⟩ := planE hS hP j x y p.1 hbm hu ht
  refine ⟨(p.1, (planAt L (wayU L t n') j y p.1).1, (planAt L (wayU L t n') j y p.1).2.1), ?_, rfl, by rw [← q1]; exact hj.seg.symm⟩
  unfold findP
  rw [if_neg (by rw [hk]; simp; omega)]
  refine findI_of (j := j) (x := y) _ 0 (Nat.le_refl _) ⟨hy, Nat.zero_le _, by rw [← hu, ← hb]; exact hj.has, by rw [← hu, ← hb]; exact hj.one, by rw [← q2]; exact hj.ok, rfl, rfl, fun k z h1 h2 h3 => ?_⟩
  have hlen := PR.len hP
  have hkl : k < (wayU L t n).length := by rw [hlen]; exact (List.getElem?_eq_some_iff.1 h3).1
  obtain ⟨z0, hz0⟩ : ∃ z0, (wayU L t n)[k]? = some z0 := ⟨_, List.getElem?_eq_getElem hkl⟩
  obtain ⟨z', hz', hu', hf', ht'⟩ := PR.at hP k z0 hz0
  rw [h3] at hz'
  injection hz' with hz'
  subst hz'
  rw [← hu', ← bestE hS (u := z0.u) hf' ht']
  exact hj.no k z0 h1 h2 hz0
end sim2
theorem mem_places {L : List It2} {c m : Int} : m ∈ placesL L c ↔ c ≤ m ∧ ∃ x ∈ cItem c :: L, m ∈ sixP x := by
  unfold placesL
  rw [Sc.mem_upr]
  unfold plRow
  rw [List.mem_flatten]
  constructor
  · rintro ⟨l, hl, hm⟩
    obtain ⟨x, hx, rfl⟩ := List.mem_map.1 hl
    obtain ⟨h1, h2⟩ := List.mem_filter.1 hm
    exact ⟨by simpa using h2, x, hx, h1⟩
  · rintro ⟨h1, x, hx, h2⟩
    exact ⟨_, List.mem_map.2 ⟨x, hx, rfl⟩, List.mem_filter.2 ⟨h2, by simpa using h1⟩⟩
theorem places_c (L : List It2) (c : Int) : c ∈ placesL L c := mem_places.2 ⟨Int.le_refl _, cItem c, by simp, by simp [sixP, cItem]⟩
/-- The greatest of some numbers below one. -/
theorem great_below : ∀ (zs : List Int) (c n : Int), c ∈ zs → c < n → ∃ m ∈ zs, m < n ∧ ∀ z ∈ zs, z < n → z ≤ m
  | [], c, n, h, _ => by cases h
  | z :: zs, c, n, h, hc => by
    by_cases hz : ∃ y ∈ zs, y < n
    · obtain ⟨y, hy, hyn⟩ := hz
      obtain ⟨m, hm, hmn, hmax⟩ := great_below zs y n hy hyn
      by_cases h1 : z < n ∧ m < z
      · refine ⟨z, by simp, h1.1, fun w hw hwn => ?_⟩
        rcases List.mem_cons.1 hw with rfl | hw
        · omega
        · have := hmax w hw hwn; omega
      · refine ⟨m, List.mem_cons_of_mem _ hm, hmn, fun w hw hwn => ?_⟩
        rcases List.mem_cons.1 hw with rfl | hw
        · omega
        · exact hmax w hw hwn
    · rcases List.mem_cons.1 h with rfl | h
      · refine ⟨c, by simp, hc, fun w hw hwn => ?_⟩
        rcases List.mem_cons.1 hw with rfl | hw
        · omega
        · exact absurd ⟨w, hw, hwn⟩ hz
      · exact absurd ⟨c, h, hc⟩ hz
/-- What a plan needs is wanted. -/
theorem obj_wanted {L : List It2} {c t n : Int} {p : It2 × List Int × List Int} (hr : ∀ x ∈ L, 0 ≤ x.a ∧ 0 ≤ x.b) (ht : t ∈ allL L) (hc : c ≤ n) (h : findP L t n = some p) : ∀ z, z ∈ Chn.chainIds L p.1.id ∨ z ∈ p.2.1 → z ∈ wantL L c := by
  have key : ∀ m p', m ∈ placesL L c → findP L t m = some p' → ∀ z, z ∈ Chn.chainIds L p'.1.id ∨ z ∈ p'.2.1 → z ∈ wantL L c := fun m p' hm hp z hz => by
    unfold wantL
    rw [Sc.mem_upr]
    unfold wantZ
    refine List.mem_append.2 (.inr (List.mem_flatten.2 ⟨_, List.mem_map.2 ⟨t, ht, rfl⟩, ?_⟩))
    unfold tObj
    refine List.mem_flatten.2 ⟨_, List.mem_map.2 ⟨m, hm, rfl⟩, ?_⟩
    unfold objL
    rw [hp]
    exact (Sc.mem_upr _ _).2 (List.mem_append.2 hz)
  by_cases hm : n ∈ placesL L c
  · exact key n p hm h
  · have hcn : c < n := by
      rcases Int.lt_or_eq_of_le hc with h1 | h1
      · exact h1
      · exact absurd (h1 ▸ places_c L c) hm
    obtain ⟨m, hmp, hmn, hmax⟩ := great_below (placesL L c) c n (places_c L c) hcn
    have hcm := hmax c (places_c L c) hcn
    have hno : ∀ x ∈ L, ∀ v ∈ sixP x, v ≠ n := fun x hx v hv e => hm (mem_places.2 ⟨hc, x, List.mem_cons_of_mem _ hx, e ▸ hv⟩)
    have hup : ∀ x ∈ L, ∀ v ∈ sixP x, c ≤ v → v < n → v ≤ m := fun x hx v hv h1 h2 => hmax v (mem_places.2 ⟨h1, x, List.mem_cons_of_mem _ hx, hv⟩) h2
    have ga : ∀ x ∈ L, Gd n m x.a := fun x hx => by
      have e1 := hno x hx (x.a - 1) (by simp [sixP])
      have e2 := hno x hx x.a (by simp [sixP])
      have e3 := hno x hx (x.a + 1) (by simp [sixP])
      have e4 := hup x hx (x.a + 1) (by simp [sixP])
      unfold Gd
      omega
    have gb : ∀ x ∈ L, Gd n m x.b := fun x hx => by
      have e1 := hno x hx (x.b - 1) (by simp [sixP])
      have e2 := hno x hx x.b (by simp [sixP])
      have e3 := hno x hx (x.b + 1) (by simp [sixP])
      have e4 := hup x hx (x.b + 1) (by simp [sixP])
      unfold Gd
      omega
    obtain ⟨hn0, _, j, x, hj⟩ := find_spec h
    have hpar : ∀ (k : Nat) (t n0 : Int) (i : Nat) (y : Prt), t.toNat ≤ k → (wayU L t n0)[i]? = some y → y.to ≤ n0 := by
      intro k
      induction k with
      | zero => intro t n0 i y hk hy; rw [way_lt (by omega)] at hy; simp at hy
      | succ k ih =>
        intro t n0 i y hk hy
        by_cases h1 : 1 ≤ t
        · have hlt := parent_lt L t h1
          rw [way_ge h1] at hy
          cases i with
          | zero => simp at hy; rw [← hy]; exact Int.le_refl _
          | succ i =>
            have := ih (parentP L t).1 (min (parentP L t).2.1 n0) i y (by omega) (by simpa using hy)
            omega
        · rw [way_lt h1] at hy; simp at hy
    have hto := hpar _ t n j x (Nat.le_refl _) hj.at_
    obtain ⟨b1, b2, _⟩ := best_mem hj.has
    rw [← hj.one] at b1 b2
    have hbn : p.1.b ≤ x.to := by unfold Chn.backupsB at b2; simp at b2; exact b2.1.2
    have hb0 := (hr p.1 b1).2
    have hgb := gb p.1 b1
    have hz : Gd n m 0 := by unfold Gd at hgb ⊢; omega
    obtain ⟨p', h1, h2, h3⟩ := findE ⟨hz, ga, gb⟩ h (by unfold Gd at hz hgb; omega)
    intro z hz2
    exact key m p' hmp h1 z (by rw [h2, h3]; exact hz2)
end Pr
end Go.Proofs.YtinofjenoapeaaaGreat
end
section
namespace Go.Proofs.YtinofjenoapeaaaGreat
open Go.RowKit Go.Shelf
set_option linter.unusedSimpArgs false
set_option linter.unusedVariables false
namespace Rf24
open Pl Li Pr
/-- An item that is wanted, by the document's definition. -/
def Want (L : List It2) (c : Int) (x : It2) : Prop := x.kind = 4 ∨ ∃ t ∈ allL L, ∃ n, c ≤ n ∧ n ≤ 45 ∧ ∃ p, findP L t n = some p ∧ (x.id ∈ Chn.chainIds L p.1.id ∨ x.id ∈ p.2.1)
open Classical in
noncomputable def wB (L : List It2) (c : Int) (x : It2) : Bool := decide (Want L c x)
theorem wB_iff (L : List It2) (c : Int) (x : It2) : wB L c x = true ↔ Want L c x := by unfold wB; simp
theorem chainUp_in (L : List It2) : ∀ (m : Nat) (x : It2) (xs : List It2), Chn.under L x.id ≤ m → x ∈ L → Chn.chainUp L x = some xs → ∀ y ∈ xs, y ∈ L := by
  intro m
  induction m with
  | zero =>
    intro x xs hm hx h
    by_cases hk : x.kind = 2
    · rw [Chn.chainUp_full hk] at h; injection h with h; subst h; intro y hy; rw [List.mem_singleton.1 hy]; exact hx
    · cases hu : Chn.upOk L x with
      | false => rw [Chn.chainUp_none hk hu] at h; cases h
      | true => have := Chn.under_lt (Chn.upOk_mem hu).2.1 (Chn.upOk_mem hu).2.2 rfl; omega
  | succ m ih =>
    intro x xs hm hx h
    by_cases hk : x.kind = 2
    · rw [Chn.chainUp_full hk] at h; injection h with h; subst h; intro y hy; rw [List.mem_singleton.1 hy]; exact hx
    · cases hu : Chn.upOk L x with
      | false => rw [Chn.chainUp_none hk hu] at h; cases h
      | true =>
        have hlt := Chn.under_lt (Chn.upOk_mem hu).2.1 (Chn.upOk_mem hu).2.2 rfl
        rw [Chn.chainUp_up hk hu] at h
        cases hy : Chn.chainUp L (Chn.atX L x.par) with
        | none => rw [hy] at h; cases h
        | some ys =>
          rw [hy] at h
          simp at h
          subst h
          intro y hyy
          rcases List.mem_cons.1 hyy with rfl | hyy
          · exact hx
          · exact ih _ ys (by omega) (Chn.upOk_mem hu).2.1 hy y hyy
theorem chain_in {L : List It2} {id z : Int} (h : z ∈ Chn.chainIds L id) : ∃ x ∈ L, x.id = z := by
  unfold Chn.chainIds at h
  cases hc : Chn.chainOf L id with
  | none => rw [hc] at h; simp at h
  | some xs =>
    rw [hc] at h
    simp only [Option.getD_some, List.mem_map, List.mem_reverse] at h
    obtain ⟨y, hy, rfl⟩ := h
    unfold Chn.chainOf at hc
    split at hc
    · rename_i hat
      have hb : Chn.byId L id = some (Chn.atX L id) := by
        unfold Chn.atOk at hat
        unfold Chn.atX
        cases hq : Chn.byId L id with
        | none => rw [hq] at hat; simp at hat
        | some y => rfl
      exact ⟨y, chainUp_in L _ _ xs (Nat.le_refl _) (Chn.byId_spec hb).1 hc y hy, rfl⟩
    · cases hc
theorem cover_in (L : List It2) (t to : Int) : ∀ (m : Nat) (fr : Int) (zs : List Int), Re.above L fr ≤ m → Re.cover L t fr to = some zs → ∀ z ∈ zs, ∃ x ∈ L, x.id = z := by
  intro m
  induction m with
  | zero =>
    intro fr zs hm h
    by_cases hlt : fr < to
    · rcases Re.nextSeg_cases L t fr with hn | ⟨x, hn, hx, hb, ha⟩
      · rw [Re.cover_none hlt hn] at h; cases h
      · omega
    · rw [Re.cover_done hlt] at h; injection h with h; subst h; intro z hz; cases hz
  | succ m ih =>
    intro fr zs hm h
    by_cases hlt : fr < to
    · rcases Re.nextSeg_cases L t fr with hn | ⟨x, hn, hx, hb, ha⟩
      · rw [Re.cover_none hlt hn] at h; cases h
      · rw [Re.cover_some hlt hn] at h
        cases hc : Re.cover L t x.b to with
        | none => rw [hc] at h; cases h
        | some ys =>
          rw [hc] at h
          simp at h
          subst h
          intro z hz
          rcases List.mem_cons.1 hz with rfl | hz
          · exact ⟨x, hx, rfl⟩
          · exact ih x.b ys (by omega) hc z hz
    · rw [Re.cover_done hlt] at h; injection h with h; subst h; intro z hz; cases hz
theorem covStep_in {L : List It2} {s : List Int × List Int × Bool} {u fr to z : Int} (h : z ∈ (covStep L s u fr to).1) : z ∈ s.1 ∨ ∃ x ∈ L, x.id = z := by
  unfold covStep at h
  split at h
  · dsimp only at h
    rcases List.mem_append.1 h with h | h
    · exact .inl h
    · cases hc : Re.cover L u fr to with
      | none => rw [hc] at h; simp at h
      | some zs => rw [hc] at h; exact .inr (cover_in L u to _ fr zs (Nat.le_refl _) hc z (by simpa using h))
  · exact .inl h
theorem covF_in {L : List It2} {z : Int} : ∀ (xs : List (Nat × Prt)) (s : List Int × List Int × Bool), z ∈ (covF L s xs).1 → z ∈ s.1 ∨ ∃ x ∈ L, x.id = z
  | [], s, h => .inl h
  | x :: xs, s, h => by
    rcases covF_in xs (covStep L s x.2.u x.2.fr x.2.to) h with h | h
    · exact covStep_in h
    · exact .inr h
theorem find_in {L : List It2} {t n z : Int} {p : It2 × List Int × List Int} (h : findP L t n = some p) (hz : z ∈ Chn.chainIds L p.1.id ∨ z ∈ p.2.1) : ∃ x ∈ L, x.id = z := by
  rcases hz with hz | hz
  · exact chain_in hz
  · obtain ⟨_, _, j, x, hS⟩ := find_spec h
    rw [hS.seg, planAt_covF] at hz
    rcases covF_in _ _ hz with hz | hz
    · rcases covStep_in hz with hz | hz
      · cases hz
      · exact hz
    · exact hz
/-- Nothing is retained behind the last commit of any item. -/
theorem find_far {L : List It2} {t n : Int} {p : It2 × List Int × List Int} (hr : ∀ x ∈ L, x.a ≤ 40 ∧ x.b ≤ 40) (h : findP L t n = some p) : n ≤ 40 := by
  obtain ⟨hn, hk, j, x, hS⟩ := find_spec h
  have h1 := Pl.known_pos hk
  have hfrom : (parentP L t).2.1 ≤ 40 := by
    unfold parentP
    split
    · dsimp only; omega
    · dsimp only
      cases hl : lineP L t with
      | none => simp [zIt2]
      | some y => exact (hr y (List.mem_of_find?_eq_some hl)).1
  have hlast : ∀ fr, fr ≤ 40 → Re.last L t fr ≤ 40 := fun fr hf => by
    obtain ⟨_, h2⟩ := Re.last_ge L t _ fr (Nat.le_refl _)
    rcases h2 with h2 | ⟨y, hy, h2⟩
    · omega
    · have := (hr y hy).2; omega
  have hat := hS.at_
  have hok := hS.ok
  rw [way_ge h1] at hat hok
  cases j with
  | zero =>
    simp at hat
    have hb := (best_mem hS.has).1
    rw [← hS.one] at hb
    have hc : (Re.cover L t p.1.a n).isSome = true := by
      unfold planAt covStep at hok
      rw [← hat] at hok
      simpa using hok
    have h2 := (Re.cover_iff L t _ p.1.a n (Nat.le_refl _)).1 hc
    have h3 := hlast p.1.a (hr _ hb).1
    omega
  | succ j =>
    rw [Rf22.plan_shift] at hok
    have h5 := (covStep_ok hok).1
    have hc : (Re.cover L t (min (parentP L t).2.1 n) n).isSome = true := by
      unfold covStep at hok
      rw [if_pos h5] at hok
      exact hok
    have h2 := (Re.cover_iff L t _ (min (parentP L t).2.1 n) n (Nat.le_refl _)).1 hc
    have h3 := hlast (min (parentP L t).2.1 n) (by omega)
    omega
theorem want_iff {L : List It2} {c : Int} (hr : ∀ x ∈ L, 0 ≤ x.a ∧ x.a ≤ 40 ∧ 0 ≤ x.b ∧ x.b ≤ 40) (hu : (L.map It2.id).Pairwise (· < ·)) {x : It2} (hx : x ∈ L) : x.id ∈ wantL L c ↔ Want L c x := by
  constructor
  · intro h
    unfold wantL at h
    rw [Sc.mem_upr] at h
    unfold wantZ at h
    rcases List.mem_append.1 h with h | h
    · unfold lineIds at h
      obtain ⟨y, hy, e⟩ := List.mem_map.1 h
      obtain ⟨hyL, hyk⟩ := List.mem_filter.1 hy
      have := id_inj hu y hyL x hx e
      subst this
      exact .inl (by simpa using hyk)
    · obtain ⟨l, hl, hz⟩ := List.mem_flatten.1 h
      obtain ⟨t, ht, rfl⟩ := List.mem_map.1 hl
      unfold tObj at hz
      obtain ⟨l, hl, hz⟩ := List.mem_flatten.1 hz
      obtain ⟨n, hn, rfl⟩ := List.mem_map.1 hl
      unfold objL at hz
      cases hp : findP L t n with
      | none => rw [hp] at hz; cases hz
      | some p =>
        rw [hp] at hz
        rw [Sc.mem_upr] at hz
        have hf := find_far (fun y hy => ⟨(hr y hy).2.1, (hr y hy).2.2.2⟩) hp
        exact .inr ⟨t, ht, n, (mem_places.1 hn).1, by omega, p, hp, List.mem_append.1 hz⟩
  · rintro (h | ⟨t, ht, n, hc, _, p, hp, hz⟩)
    · unfold wantL
      rw [Sc.mem_upr]
      unfold wantZ lineIds
      exact List.mem_append.2 (.inl (List.mem_map.2 ⟨x, List.mem_filter.2 ⟨hx, by simpa using h⟩, rfl⟩))
    · exact obj_wanted (fun y hy => ⟨(hr y hy).1, (hr y hy).2.2.1⟩) ht hc hp _ hz
/-- The two lists that are told. -/
theorem want_list {L : List It2} {c : Int} (hr : ∀ x ∈ L, 0 ≤ x.a ∧ x.a ≤ 40 ∧ 0 ≤ x.b ∧ x.b ≤ 40) (hu : (L.map It2.id).Pairwise (· < ·)) : (L.filter (wB L c)).map It2.id = wantL L c := by
  refine lt_same _ _ (hu.sublist (List.Sublist.map _ List.filter_sublist)) (Sc.upr_lt _) (fun z => ?_)
  constructor
  · intro h
    obtain ⟨x, hx, rfl⟩ := List.mem_map.1 h
    obtain ⟨h1, h2⟩ := List.mem_filter.1 hx
    exact (want_iff hr hu h1).2 ((wB_iff L c x).1 h2)
  · intro h
    have hin : ∃ x ∈ L, x.id = z := by
      have h2 := h
      unfold wantL at h2
      rw [Sc.mem_upr] at h2
      unfold wantZ at h2
      rcases List.mem_append.1 h2 with h2 | h2
      · unfold lineIds at h2
        obtain ⟨y, hy, e⟩ := List.mem_map.1 h2
        exact ⟨y, (List.mem_filter.1 hy).1, e⟩
      · obtain ⟨l, hl, hz⟩ := List.mem_flatten.1 h2
        obtain ⟨t, ht, rfl⟩ := List.mem_map.1 hl
        unfold tObj at hz
        obtain ⟨l, hl, hz⟩ := List.mem_flatten.1 hz
        obtain ⟨n, hn, rfl⟩ := List.mem_map.1 hl
        unfold objL at hz
        cases hp : findP L t n with
        | none => rw [hp] at hz; cases hz
        | some p => rw [hp] at hz; rw [Sc.mem_upr] at hz; exact find_in hp (List.mem_append.1 hz)
    obtain ⟨x, hx, rfl⟩ := hin
    exact List.mem_map.2 ⟨x, List.mem_filter.2 ⟨hx, (wB_iff L c x).2 ((want_iff hr hu hx).1 h)⟩, rfl⟩
theorem rest_list {L : List It2} {c : Int} (hr : ∀ x ∈ L, 0 ≤ x.a ∧ x.a ≤ 40 ∧ 0 ≤ x.b ∧ x.b ≤ 40) (hu : (L.map It2.id).Pairwise (· < ·)) : (L.filter (fun x => !wB L c x)).map It2.id = restL L c := by
  have he : ∀ x ∈ L, (!wB L c x) = notIn (wantL L c) x := fun x hx => by
    unfold notIn
    have := want_iff (c := c) hr hu hx
    rw [← wB_iff] at this
    by_cases h : x.id ∈ wantL L c
    · simp [h, this.1 h]
    · have h2 : wB L c x = false := by cases hb : wB L c x; rfl; exact absurd (this.2 hb) h
      simp [h, h2]
  rw [List.filter_congr he]
  unfold restL
  refine lt_same _ _ (hu.sublist (List.Sublist.map _ List.filter_sublist)) (Sc.upr_lt _) (fun z => ?_)
  rw [Sc.mem_upr]
end Rf24
end Go.Proofs.YtinofjenoapeaaaGreat
end
section
namespace Go.Proofs.YtinofjenoapeaaaGreat
open Go.RowKit Go.Shelf
set_option linter.unusedSimpArgs false
set_option linter.unusedVariables false
namespace Rf24
variable {W0 : World} {X : Nat → Prop} {R C : List Ch}
theorem same_ct (s t : Value) (hs : IsSl s) (ht : IsSl t) (xs : List Int) (h1 : SlC 1 s (xs.map (.int .i64)) ∈ R) (h2 : SlC 1 t (xs.map (.int .i64)) ∈ R) (hm : xs.length ≤ 1000000000) : Ct Tryz.prog 7 [s, t] W0 X R C Unit (fun _ => .bool true) (fun _ => R) (fun _ => C) := by
  intro w hw
  have hF := isWide_wide
  obtain ⟨sa, sn, sc, rfl⟩ := hs
  obtain ⟨ta, tn, tc, rfl⟩ := ht
  obtain rfl := slLen (hw.hasR h1)
  obtain rfl := slLen (hw.hasR h2)
  have hlx : (xs.map (Value.int .i64)).length = xs.length := by simp
  refine calls_nx Tryz.func7 rfl Tryz.ntmps7 rfl ?_ hw
  repeat' (first | ((first | with_reducible refine nl_op rfl ?_ | refine nd_go rfl rfl rfl ?_); intro K hK; (first | ((first | refine on_E hF rfl rfl ?_ | refine od_E rfl rfl ?_ | refine od_R rfl rfl ?_); (first | refine ⟨_, a_yl, ?_⟩)) | ((first | refine on_Ec hF rfl rfl ?_ | refine od_Ec rfl rfl ?_); refine ⟨_, _, _, a_yc, ?_, ?_⟩ <;> (intro hc; try exact a_cut hc)) | ((first | (refine od_act a_nd ?_; intro K2 hK2) | refine od_last a_nd ?_ | skip); (first  | (refine on_box hF rfl rfl rfl rfl (fun B => ?_)) | (refine on_store hF rfl rfl rfl rfl a_turn a_vof a_sz ?_) | (refine on_storeE hF rfl rfl rfl rfl a_turn a_om a_vof a_sz ?_) | (refine on_storeEF hF rfl rfl rfl rfl a_turn a_as (by decide) a_vof rfl ?_) | (refine on_storeF hF rfl rfl rfl rfl a_turn (by decide) a_vof rfl ?_)) <;> try (refine hK2 _ _ _ a_allK ?_; clear hK2 K2))) <;> (refine hK _ _ _ ?_; clear hK K)) | with_reducible (first | refine nx_seq ?_ | refine nx_region ?_ | refine nl_nil ?_ | refine nq_then_n ?_ | refine nx_block ?_ | refine nx_skip ?_ | refine nx_exit ?_ | refine nx_ret ?_ | refine nq_then_x ?_ | refine nq_then_r ?_ | refine nq_blk_n ?_ | refine nq_blk_r ?_ | refine nq_blk_hit ?_ | refine nq_blk_miss rfl ?_ | refine nd_nil ?_) | refine nx_cond_t rfl ?_ | refine nx_cond_f rfl ?_ | refine nl_pass hF rfl rfl rfl ?_ | refine nd_pass rfl rfl rfl rfl rfl ?_ | refine nd_pass2 rfl rfl rfl a_nd a_allK rfl rfl ?_ | refine nd_pass3 rfl rfl rfl a_nd rfl rfl ?_ | (with_reducible refine hQ1 _ _ _ ?_; clear hQ1 Q1) | (refine nd_region (id := 6) hF [0, 0, 1, 1, 0, 0, 1, 1, 0] [0, 1, 2, 3, 4, 5, 6, 7, 8] _ _ (by kernel_rfl) (by kernel_rfl) sub2_same ?_; intro Q1 hQ1))
  all_goals (try (exfalso; dsimp only at *; omega))
  refine nx_loop (ι := { i : Nat // i ≤ xs.length }) (fun i => [(0, .slice sa (xs.map (Value.int .i64)).length sc), (1, .slice ta (xs.map (Value.int .i64)).length tc), (12, .int .i64 ((xs.map (Value.int .i64)).length : Int)), (13, .int .i64 (i.1 : Int))]) (fun _ => R) (fun _ => C) (fun i => xs.length - i.1) ⟨0, Nat.zero_le _⟩ (by exact a_sub) (by exact a_subR) (by exact a_holds) (fun i => ?_)
  obtain ⟨i, hi⟩ := i
  dsimp only
  by_cases hlt : i < xs.length
  · obtain ⟨x, hx⟩ : ∃ x, xs[i]? = some x := ⟨_, List.getElem?_eq_getElem hlt⟩
    have hxv : (xs.map (Value.int .i64))[i]? = some (.int .i64 x) := by rw [List.getElem?_map, hx]; rfl
    repeat' (first | ((first | with_reducible refine nl_op rfl ?_ | refine nd_go rfl rfl rfl ?_); intro K hK; (first | ((first | refine on_E hF rfl rfl ?_ | refine od_E rfl rfl ?_ | refine od_R rfl rfl ?_); (first | refine ⟨_, a_yl, ?_⟩)) | ((first | refine on_Ec hF rfl rfl ?_ | refine od_Ec rfl rfl ?_); refine ⟨_, _, _, a_yc, ?_, ?_⟩ <;> (intro hc; try exact a_cut hc)) | ((first | (refine od_act a_nd ?_; intro K2 hK2) | refine od_last a_nd ?_ | skip); (first  | (refine on_box hF rfl rfl rfl rfl (fun B => ?_)) | (refine on_store hF rfl rfl rfl rfl a_turn a_vof a_sz ?_) | (refine on_storeE hF rfl rfl rfl rfl a_turn a_om a_vof a_sz ?_) | (refine on_storeEF hF rfl rfl rfl rfl a_turn a_as (by decide) a_vof rfl ?_) | (refine on_storeF hF rfl rfl rfl rfl a_turn (by decide) a_vof rfl ?_)) <;> try (refine hK2 _ _ _ a_allK ?_; clear hK2 K2))) <;> (refine hK _ _ _ ?_; clear hK K)) | with_reducible (first | refine nx_seq ?_ | refine nx_region ?_ | refine nl_nil ?_ | refine nq_then_n ?_ | refine nx_block ?_ | refine nx_skip ?_ | refine nx_exit ?_ | refine nx_ret ?_ | refine nq_then_x ?_ | refine nq_then_r ?_ | refine nq_blk_n ?_ | refine nq_blk_r ?_ | refine nq_blk_hit ?_ | refine nq_blk_miss rfl ?_ | refine nd_nil ?_) | refine nx_cond_t rfl ?_ | refine nx_cond_f rfl ?_ | refine nl_pass hF rfl rfl rfl ?_ | refine nd_pass rfl rfl rfl rfl rfl ?_ | refine nd_pass2 rfl rfl rfl a_nd a_allK rfl rfl ?_ | refine nd_pass3 rfl rfl rfl a_nd rfl rfl ?_ | (with_reducible refine hQ1 _ _ _ ?_; clear hQ1 Q1) | (refine nd_region (id := 6) hF [0, 0, 1, 1, 0, 0, 1, 1, 0] [0, 1, 2, 3, 4, 5, 6, 7, 8] _ _ (by kernel_rfl) (by kernel_rfl) sub2_same ?_; intro Q1 hQ1))
    all_goals (try (exfalso; dsimp only at *; omega))
    refine nx_again ⟨i + 1, by omega⟩ (by dsimp only; omega) (by exact a_sub) (by exact a_subR) (by exact a_holds)
  · repeat' (first | ((first | with_reducible refine nl_op rfl ?_ | refine nd_go rfl rfl rfl ?_); intro K hK; (first | ((first | refine on_E hF rfl rfl ?_ | refine od_E rfl rfl ?_ | refine od_R rfl rfl ?_); (first | refine ⟨_, a_yl, ?_⟩)) | ((first | refine on_Ec hF rfl rfl ?_ | refine od_Ec rfl rfl ?_); refine ⟨_, _, _, a_yc, ?_, ?_⟩ <;> (intro hc; try exact a_cut hc)) | ((first | (refine od_act a_nd ?_; intro K2 hK2) | refine od_last a_nd ?_ | skip); (first  | (refine on_box hF rfl rfl rfl rfl (fun B => ?_)) | (refine on_store hF rfl rfl rfl rfl a_turn a_vof a_sz ?_) | (refine on_storeE hF rfl rfl rfl rfl a_turn a_om a_vof a_sz ?_) | (refine on_storeEF hF rfl rfl rfl rfl a_turn a_as (by decide) a_vof rfl ?_) | (refine on_storeF hF rfl rfl rfl rfl a_turn (by decide) a_vof rfl ?_)) <;> try (refine hK2 _ _ _ a_allK ?_; clear hK2 K2))) <;> (refine hK _ _ _ ?_; clear hK K)) | with_reducible (first | refine nx_seq ?_ | refine nx_region ?_ | refine nl_nil ?_ | refine nq_then_n ?_ | refine nx_block ?_ | refine nx_skip ?_ | refine nx_exit ?_ | refine nx_ret ?_ | refine nq_then_x ?_ | refine nq_then_r ?_ | refine nq_blk_n ?_ | refine nq_blk_r ?_ | refine nq_blk_hit ?_ | refine nq_blk_miss rfl ?_ | refine nd_nil ?_) | refine nx_cond_t rfl ?_ | refine nx_cond_f rfl ?_ | refine nl_pass hF rfl rfl rfl ?_ | refine nd_pass rfl rfl rfl rfl rfl ?_ | refine nd_pass2 rfl rfl rfl a_nd a_allK rfl rfl ?_ | refine nd_pass3 rfl rfl rfl a_nd rfl rfl ?_ | (with_reducible refine hQ1 _ _ _ ?_; clear hQ1 Q1) | (refine nd_region (id := 6) hF [0, 0, 1, 1, 0, 0, 1, 1, 0] [0, 1, 2, 3, 4, 5, 6, 7, 8] _ _ (by kernel_rfl) (by kernel_rfl) sub2_same ?_; intro Q1 hQ1))
    all_goals (try (exfalso; dsimp only at *; omega))
    refine nx_end [] rfl () (fun a w ha hw => res_tmp Tryz.results7 rfl ha) (by exact a_subR) (by exact a_holds2)
theorem in_ct (s : Value) (hs : IsSl s) (xs : List Int) (h1 : SlC 1 s (xs.map (.int .i64)) ∈ R) (z : Int) (hm : xs.length ≤ 1000000000) : Ct Tryz.prog 21 [s, .int .i64 z] W0 X R C Unit (fun _ => .bool (decide (z ∈ xs))) (fun _ => R) (fun _ => C) := by
  intro w hw
  have hF := isWide_wide
  obtain ⟨sa, sn, sc, rfl⟩ := hs
  obtain rfl := slLen (hw.hasR h1)
  have hlx : (xs.map (Value.int .i64)).length = xs.length := by simp
  obtain ⟨r, hr⟩ : ∃ r, decide (z ∈ xs) = r := ⟨_, rfl⟩
  rw [hr]
  refine calls_nx Tryz.func21 rfl Tryz.ntmps21 rfl ?_ hw
  repeat' (first | ((first | with_reducible refine nl_op rfl ?_ | refine nd_go rfl rfl rfl ?_); intro K hK; (first | ((first | refine on_E hF rfl rfl ?_ | refine od_E rfl rfl ?_ | refine od_R rfl rfl ?_); (first | refine ⟨_, a_yl, ?_⟩)) | ((first | refine on_Ec hF rfl rfl ?_ | refine od_Ec rfl rfl ?_); refine ⟨_, _, _, a_yc, ?_, ?_⟩ <;> (intro hc; try exact a_cut hc)) | ((first | (refine od_act a_nd ?_; intro K2 hK2) | refine od_last a_nd ?_ | skip); (first  | (refine on_box hF rfl rfl rfl rfl (fun B => ?_)) | (refine on_store hF rfl rfl rfl rfl a_turn a_vof a_sz ?_) | (refine on_storeE hF rfl rfl rfl rfl a_turn a_om a_vof a_sz ?_) | (refine on_storeEF hF rfl rfl rfl rfl a_turn a_as (by decide) a_vof rfl ?_) | (refine on_storeF hF rfl rfl rfl rfl a_turn (by decide) a_vof rfl ?_)) <;> try (refine hK2 _ _ _ a_allK ?_; clear hK2 K2))) <;> (refine hK _ _ _ ?_; clear hK K)) | with_reducible (first | refine nx_seq ?_ | refine nx_region ?_ | refine nl_nil ?_ | refine nq_then_n ?_ | refine nx_block ?_ | refine nx_skip ?_ | refine nx_exit ?_ | refine nx_ret ?_ | refine nq_then_x ?_ | refine nq_then_r ?_ | refine nq_blk_n ?_ | refine nq_blk_r ?_ | refine nq_blk_hit ?_ | refine nq_blk_miss rfl ?_ | refine nd_nil ?_) | refine nx_cond_t rfl ?_ | refine nx_cond_f rfl ?_ | refine nl_pass hF rfl rfl rfl ?_ | refine nd_pass rfl rfl rfl rfl rfl ?_ | refine nd_pass2 rfl rfl rfl a_nd a_allK rfl rfl ?_ | refine nd_pass3 rfl rfl rfl a_nd rfl rfl ?_ | (with_reducible refine hQ1 _ _ _ ?_; clear hQ1 Q1) )
  refine nx_loop (ι := { i : Nat // i ≤ xs.length ∧ ¬ z ∈ xs.take i }) (fun i => [(1, .int .i64 z), (7, .slice sa (xs.map (Value.int .i64)).length sc), (8, .int .i64 ((xs.map (Value.int .i64)).length : Int)), (9, .int .i64 (i.1 : Int))]) (fun _ => R) (fun _ => C) (fun i => xs.length - i.1) ⟨0, Nat.zero_le _, by simp⟩ (by exact a_sub) (by exact a_subR) (by exact a_holds) (fun i => ?_)
  obtain ⟨i, hi, hno⟩ := i
  dsimp only
  by_cases hlt : i < xs.length
  · obtain ⟨x, hx⟩ : ∃ x, xs[i]? = some x := ⟨_, List.getElem?_eq_getElem hlt⟩
    have hxv : (xs.map (Value.int .i64))[i]? = some (.int .i64 x) := by rw [List.getElem?_map, hx]; rfl
    by_cases hz : x = z
    · subst hz
      rw [decide_eq_true (List.mem_of_getElem? hx)] at hr
      subst hr
      repeat' (first | ((first | with_reducible refine nl_op rfl ?_ | refine nd_go rfl rfl rfl ?_); intro K hK; (first | ((first | refine on_E hF rfl rfl ?_ | refine od_E rfl rfl ?_ | refine od_R rfl rfl ?_); (first | refine ⟨_, a_yl, ?_⟩)) | ((first | refine on_Ec hF rfl rfl ?_ | refine od_Ec rfl rfl ?_); refine ⟨_, _, _, a_yc, ?_, ?_⟩ <;> (intro hc; try exact a_cut hc)) | ((first | (refine od_act a_nd ?_; intro K2 hK2) | refine od_last a_nd ?_ | skip); (first  | (refine on_box hF rfl rfl rfl rfl (fun B => ?_)) | (refine on_store hF rfl rfl rfl rfl a_turn a_vof a_sz ?_) | (refine on_storeE hF rfl rfl rfl rfl a_turn a_om a_vof a_sz ?_) | (refine on_storeEF hF rfl rfl rfl rfl a_turn a_as (by decide) a_vof rfl ?_) | (refine on_storeF hF rfl rfl rfl rfl a_turn (by decide) a_vof rfl ?_)) <;> try (refine hK2 _ _ _ a_allK ?_; clear hK2 K2))) <;> (refine hK _ _ _ ?_; clear hK K)) | with_reducible (first | refine nx_seq ?_ | refine nx_region ?_ | refine nl_nil ?_ | refine nq_then_n ?_ | refine nx_block ?_ | refine nx_skip ?_ | refine nx_exit ?_ | refine nx_ret ?_ | refine nq_then_x ?_ | refine nq_then_r ?_ | refine nq_blk_n ?_ | refine nq_blk_r ?_ | refine nq_blk_hit ?_ | refine nq_blk_miss rfl ?_ | refine nd_nil ?_) | refine nx_cond_t rfl ?_ | refine nx_cond_f rfl ?_ | refine nl_pass hF rfl rfl rfl ?_ | refine nd_pass rfl rfl rfl rfl rfl ?_ | refine nd_pass2 rfl rfl rfl a_nd a_allK rfl rfl ?_ | refine nd_pass3 rfl rfl rfl a_nd rfl rfl ?_ | (with_reducible refine hQ1 _ _ _ ?_; clear hQ1 Q1) )
      all_goals (try (exfalso; dsimp only at *; omega))
      refine nx_end [] rfl () (fun a w ha hw => res_tmp Tryz.results21 rfl ha) (by exact a_subR) (by exact a_holds2)
    · have hn2 : ¬ z ∈ xs.take (i + 1) := by
        rw [List.take_add_one, hx]
        simp
        exact ⟨hno, fun e => hz e.symm⟩
      repeat' (first | ((first | with_reducible refine nl_op rfl ?_ | refine nd_go rfl rfl rfl ?_); intro K hK; (first | ((first | refine on_E hF rfl rfl ?_ | refine od_E rfl rfl ?_ | refine od_R rfl rfl ?_); (first | refine ⟨_, a_yl, ?_⟩)) | ((first | refine on_Ec hF rfl rfl ?_ | refine od_Ec rfl rfl ?_); refine ⟨_, _, _, a_yc, ?_, ?_⟩ <;> (intro hc; try exact a_cut hc)) | ((first | (refine od_act a_nd ?_; intro K2 hK2) | refine od_last a_nd ?_ | skip); (first  | (refine on_box hF rfl rfl rfl rfl (fun B => ?_)) | (refine on_store hF rfl rfl rfl rfl a_turn a_vof a_sz ?_) | (refine on_storeE hF rfl rfl rfl rfl a_turn a_om a_vof a_sz ?_) | (refine on_storeEF hF rfl rfl rfl rfl a_turn a_as (by decide) a_vof rfl ?_) | (refine on_storeF hF rfl rfl rfl rfl a_turn (by decide) a_vof rfl ?_)) <;> try (refine hK2 _ _ _ a_allK ?_; clear hK2 K2))) <;> (refine hK _ _ _ ?_; clear hK K)) | with_reducible (first | refine nx_seq ?_ | refine nx_region ?_ | refine nl_nil ?_ | refine nq_then_n ?_ | refine nx_block ?_ | refine nx_skip ?_ | refine nx_exit ?_ | refine nx_ret ?_ | refine nq_then_x ?_ | refine nq_then_r ?_ | refine nq_blk_n ?_ | refine nq_blk_r ?_ | refine nq_blk_hit ?_ | refine nq_blk_miss rfl ?_ | refine nd_nil ?_) | refine nx_cond_t rfl ?_ | refine nx_cond_f rfl ?_ | refine nl_pass hF rfl rfl rfl ?_ | refine nd_pass rfl rfl rfl rfl rfl ?_ | refine nd_pass2 rfl rfl rfl a_nd a_allK rfl rfl ?_ | refine nd_pass3 rfl rfl rfl a_nd rfl rfl ?_ | (with_reducible refine hQ1 _ _ _ ?_; clear hQ1 Q1) )
      all_goals (try (exfalso; dsimp only at *; omega))
      refine nx_again ⟨i + 1, by omega, hn2⟩ (by dsimp only; omega) (by exact a_sub) (by exact a_subR) (by exact a_holds)
  · rw [List.take_of_length_le (by omega)] at hno
    rw [decide_eq_false hno] at hr
    subst hr
    repeat' (first | ((first | with_reducible refine nl_op rfl ?_ | refine nd_go rfl rfl rfl ?_); intro K hK; (first | ((first | refine on_E hF rfl rfl ?_ | refine od_E rfl rfl ?_ | refine od_R rfl rfl ?_); (first | refine ⟨_, a_yl, ?_⟩)) | ((first | refine on_Ec hF rfl rfl ?_ | refine od_Ec rfl rfl ?_); refine ⟨_, _, _, a_yc, ?_, ?_⟩ <;> (intro hc; try exact a_cut hc)) | ((first | (refine od_act a_nd ?_; intro K2 hK2) | refine od_last a_nd ?_ | skip); (first  | (refine on_box hF rfl rfl rfl rfl (fun B => ?_)) | (refine on_store hF rfl rfl rfl rfl a_turn a_vof a_sz ?_) | (refine on_storeE hF rfl rfl rfl rfl a_turn a_om a_vof a_sz ?_) | (refine on_storeEF hF rfl rfl rfl rfl a_turn a_as (by decide) a_vof rfl ?_) | (refine on_storeF hF rfl rfl rfl rfl a_turn (by decide) a_vof rfl ?_)) <;> try (refine hK2 _ _ _ a_allK ?_; clear hK2 K2))) <;> (refine hK _ _ _ ?_; clear hK K)) | with_reducible (first | refine nx_seq ?_ | refine nx_region ?_ | refine nl_nil ?_ | refine nq_then_n ?_ | refine nx_block ?_ | refine nx_skip ?_ | refine nx_exit ?_ | refine nx_ret ?_ | refine nq_then_x ?_ | refine nq_then_r ?_ | refine nq_blk_n ?_ | refine nq_blk_r ?_ | refine nq_blk_hit ?_ | refine nq_blk_miss rfl ?_ | refine nd_nil ?_) | refine nx_cond_t rfl ?_ | refine nx_cond_f rfl ?_ | refine nl_pass hF rfl rfl rfl ?_ | refine nd_pass rfl rfl rfl rfl rfl ?_ | refine nd_pass2 rfl rfl rfl a_nd a_allK rfl rfl ?_ | refine nd_pass3 rfl rfl rfl a_nd rfl rfl ?_ | (with_reducible refine hQ1 _ _ _ ?_; clear hQ1 Q1) )
    all_goals (try (exfalso; dsimp only at *; omega))
    refine nx_end [] rfl () (fun a w ha hw => res_tmp Tryz.results21 rfl ha) (by exact a_subR) (by exact a_holds2)
end Rf24
end Go.Proofs.YtinofjenoapeaaaGreat
end
section
namespace Go.Proofs.YtinofjenoapeaaaGreat
open Go.RowKit Go.Shelf
set_option linter.unusedSimpArgs false
set_option linter.unusedVariables false
namespace Rf24
variable {W0 : World} {X : Nat → Prop} {R C : List Ch}
theorem celI2 (zs : List Int) : Cel 1 (zs.map (Value.int .i64)) := Cel.of (P := Tryz.prog) (T := 3) (fun y hy => by obtain ⟨i, _, rfl⟩ := List.mem_map.1 hy; exact vof1 (by kernel_rfl) rfl rfl) (by kernel_rfl)
set_option maxRecDepth 100000 in
set_option maxHeartbeats 4000000 in
theorem split_ct (s : Value) (hs : IsSl s) (L : List It2) (hok : ∀ x ∈ L, x.ok) (c : Int) (WB : It2 → Bool)
    (hwc : ∀ (W0 : World) (X : Nat → Prop) (R C : List Ch) (x : It2), x ∈ L → SlC 9 s (L.map It2.v) ∈ R → Ct Tryz.prog 10 [s, x.v, .int .i64 c, .int .i64 45] W0 X R C Unit (fun _ => .bool (WB x)) (fun _ => R) (fun _ => C))
    (hsl : SlC 9 s (L.map It2.v) ∈ R) (hm : L.length ≤ 1000) :
    Ct Tryz.prog 6 [s, .int .i64 c, .int .i64 45] W0 X R C (SV × SV) (fun i => .tuple #[i.1.1, i.2.1]) (fun _ => R) (fun i => RowC 3 1 i.1.1 (((L.filter WB).map It2.id).map (.int .i64)) :: RowC 3 1 i.2.1 (((L.filter (fun x => !WB x)).map It2.id).map (.int .i64)) :: C) := by
  intro w hw
  have hF := isWide_wide
  obtain ⟨sa, sn, sc, rfl⟩ := hs
  obtain rfl := slLen (hw.hasR hsl)
  have hlv : (L.map It2.v).length = L.length := by simp
  refine calls_nx Tryz.func6 rfl Tryz.ntmps6 rfl ?_ hw
  refine nx_nilRow 3 1 (nx_nilRow 3 1 ?_)
  repeat' (first | ((first | with_reducible refine nl_op rfl ?_ | refine nd_go rfl rfl rfl ?_); intro K hK; (first | ((first | refine on_E hF rfl rfl ?_ | refine od_E rfl rfl ?_ | refine od_R rfl rfl ?_); (first | refine ⟨_, a_yl, ?_⟩ | refine ⟨_, (by first | exact yl_fieldB (T := 33) (f := 0) (q := 0) rfl rfl (by kernel_rfl) | exact yl_fieldE (T := 33) (f := 0) (j := 0) rfl rfl a_sl a_om (by kernel_rfl)), ?_⟩)) | ((first | refine on_Ec hF rfl rfl ?_ | refine od_Ec rfl rfl ?_); refine ⟨_, _, _, a_yc, ?_, ?_⟩ <;> (intro hc; try exact a_cut hc)) | ((first | (refine od_act a_nd ?_; intro K2 hK2) | refine od_last a_nd ?_ | skip); (first | (refine on_buildSlice (T := 25) (e := 3) (k := 1) (by_ := 8) hF rfl rfl rfl rfl rfl rfl (by kernel_rfl) a_cel (Nat.le_of_ble_eq_true rfl) (fun b => ?_)) | (refine on_append (T := 25) (e := 3) (k := 1) (by_ := 8) hF rfl rfl rfl rfl rfl a_pick (by kernel_rfl) a_sl a_cel a_bnd a_bnd (fun v => ?_)) | (refine on_alloc hF rfl Tryz.zeroValue33 rfl rfl (fun B => ?_)) | (refine on_box hF rfl rfl rfl rfl (fun B => ?_)) | (refine on_store hF rfl rfl rfl rfl a_turn a_vof a_sz ?_) | (refine on_storeE hF rfl rfl rfl rfl a_turn a_om a_vof a_sz ?_) | (refine on_storeEF hF rfl rfl rfl rfl a_turn a_as (by decide) a_vof rfl ?_) | (refine on_storeF hF rfl rfl rfl rfl a_turn (by decide) a_vof rfl ?_)) <;> try (refine hK2 _ _ _ a_allK ?_; clear hK2 K2))) <;> (refine hK _ _ _ ?_; clear hK K)) | with_reducible (first | refine nx_seq ?_ | refine nx_region ?_ | refine nl_nil ?_ | refine nq_then_n ?_ | refine nx_block ?_ | refine nx_skip ?_ | refine nx_exit ?_ | refine nx_ret ?_ | refine nq_then_x ?_ | refine nq_then_r ?_ | refine nq_blk_n ?_ | refine nq_blk_r ?_ | refine nq_blk_hit ?_ | refine nq_blk_miss rfl ?_ | refine nd_nil ?_) | refine nx_cond_t rfl ?_ | refine nx_cond_f rfl ?_ | refine nl_pass hF rfl rfl rfl ?_ | refine nd_pass rfl rfl rfl rfl rfl ?_ | refine nd_pass2 rfl rfl rfl a_nd a_allK rfl rfl ?_ | refine nd_pass3 rfl rfl rfl a_nd rfl rfl ?_ | (with_reducible refine hQ1 _ _ _ ?_; clear hQ1 Q1) )
  refine nx_loop (ι := { i : Nat // i ≤ L.length } × SV × SV) (fun p => [(0, .slice sa (L.map It2.v).length sc), (1, .int .i64 c), (2, .int .i64 45), (8, p.2.1.1), (9, p.2.2.1), (12, .slice sa (L.map It2.v).length sc), (13, .int .i64 ((L.map It2.v).length : Int)), (14, .int .i64 (p.1.1 : Int))]) (fun _ => R) (fun p => RowC 3 1 p.2.1.1 ((((L.take p.1.1).filter WB).map It2.id).map (.int .i64)) :: RowC 3 1 p.2.2.1 ((((L.take p.1.1).filter (fun x => !WB x)).map It2.id).map (.int .i64)) :: C) (fun p => L.length - p.1.1) (⟨0, Nat.zero_le _⟩, ⟨.slice none 0 0, _, _, _, rfl⟩, ⟨.slice none 0 0, _, _, _, rfl⟩) (by exact a_sub) (by exact a_subR) (by exact a_holds) (fun p => ?_)
  obtain ⟨⟨i, hi⟩, u, v⟩ := p
  dsimp only
  by_cases hlt : i < L.length
  · obtain ⟨x, hx⟩ : ∃ x, L[i]? = some x := ⟨_, List.getElem?_eq_getElem hlt⟩
    have hxm : x ∈ L := List.mem_of_getElem? hx
    have hxv : (L.map It2.v)[i]? = some x.v := by rw [List.getElem?_map, hx]; rfl
    have hvx := x.vof (hok x hxm)
    have wx := fun (W0 : World) (X : Nat → Prop) (R C : List Ch) h => hwc W0 X R C x hxm h
    have h1 := List.length_filter_le WB (L.take i)
    have h2 := List.length_filter_le (fun x => !WB x) (L.take i)
    rw [List.length_take] at h1 h2
    have hf1 : (L.take (i + 1)).filter WB = (L.take i).filter WB ++ if WB x then [x] else [] := by rw [List.take_add_one, hx]; simp [List.filter_cons]
    have hf2 : (L.take (i + 1)).filter (fun x => !WB x) = (L.take i).filter (fun x => !WB x) ++ if WB x then [] else [x] := by rw [List.take_add_one, hx]; cases hb : WB x <;> simp [List.filter_cons, hb]
    obtain ⟨p1, hp1⟩ : ∃ p1, (L.take i).filter WB = p1 := ⟨_, rfl⟩
    obtain ⟨p2, hp2⟩ : ∃ p2, (L.take i).filter (fun x => !WB x) = p2 := ⟨_, rfl⟩
    rw [hp1] at h1 hf1 ⊢
    rw [hp2] at h2 hf2 ⊢
    have hcx := celI2 [x.id]
    have hl1 : ((p1.map It2.id).map (Value.int .i64)).length + 1 ≤ maxLen := by unfold maxLen; simp; omega
    have hl2 : (((p1.map It2.id).map (Value.int .i64)).length + 1) * 8 ≤ 140737488355328 := by simp; omega
    have hl3 : ((p2.map It2.id).map (Value.int .i64)).length + 1 ≤ maxLen := by unfold maxLen; simp; omega
    have hl4 : (((p2.map It2.id).map (Value.int .i64)).length + 1) * 8 ≤ 140737488355328 := by simp; omega
    clear hwc hok
    cases hb : WB x with
    | true =>
      rw [hb] at wx hf1 hf2
      simp only [if_true, List.append_nil] at hf1 hf2
      repeat' (first | ((first | with_reducible refine nl_op rfl ?_ | refine nd_go rfl rfl rfl ?_); intro K hK; (first | ((first | refine on_E hF rfl rfl ?_ | refine od_E rfl rfl ?_ | refine od_R rfl rfl ?_); (first | refine ⟨_, a_yl, ?_⟩ | refine ⟨_, (by first | exact yl_fieldB (T := 33) (f := 0) (q := 0) rfl rfl (by kernel_rfl) | exact yl_fieldE (T := 33) (f := 0) (j := 0) rfl rfl a_sl a_om (by kernel_rfl)), ?_⟩)) | ((first | refine on_Ec hF rfl rfl ?_ | refine od_Ec rfl rfl ?_); refine ⟨_, _, _, a_yc, ?_, ?_⟩ <;> (intro hc; try exact a_cut hc)) | ((first | (refine od_act a_nd ?_; intro K2 hK2) | refine od_last a_nd ?_ | skip); (first | (refine on_callG hF (enters_of Tryz.func10 (by kernel_rfl) rfl) rfl rfl rfl rfl (wx _ _ _ _ (by exact a_mem)) (fun _ => ?_)) | (refine on_buildSlice (e := 3) (k := 1) (by_ := 8) hF rfl rfl rfl rfl rfl rfl (by kernel_rfl) hcx (Nat.le_of_ble_eq_true rfl) (fun bq => ?_)) | (refine on_append (e := 3) (k := 1) (by_ := 8) (xs := (p1.map It2.id).map (.int .i64)) (ys := [.int .i64 x.id]) hF rfl rfl rfl rfl rfl a_pick (by kernel_rfl) a_sl hcx hl1 hl2 (fun v2 => ?_)) | (refine on_buildSlice (T := 25) (e := 3) (k := 1) (by_ := 8) hF rfl rfl rfl rfl rfl rfl (by kernel_rfl) a_cel (Nat.le_of_ble_eq_true rfl) (fun b => ?_)) | (refine on_append (T := 25) (e := 3) (k := 1) (by_ := 8) hF rfl rfl rfl rfl rfl a_pick (by kernel_rfl) a_sl a_cel a_bnd a_bnd (fun v => ?_)) | (refine on_alloc hF rfl Tryz.zeroValue33 rfl rfl (fun B => ?_)) | (refine on_box hF rfl rfl rfl rfl (fun B => ?_)) | (refine on_store hF rfl rfl rfl rfl a_turn a_vof a_sz ?_) | (refine on_storeE hF rfl rfl rfl rfl a_turn a_om a_vof a_sz ?_) | (refine on_storeEF hF rfl rfl rfl rfl a_turn a_as (by decide) a_vof rfl ?_) | (refine on_storeF hF rfl rfl rfl rfl a_turn (by decide) a_vof rfl ?_)) <;> try (refine hK2 _ _ _ a_allK ?_; clear hK2 K2))) <;> (refine hK _ _ _ ?_; clear hK K)) | with_reducible (first | refine nx_seq ?_ | refine nx_region ?_ | refine nl_nil ?_ | refine nq_then_n ?_ | refine nx_block ?_ | refine nx_skip ?_ | refine nx_exit ?_ | refine nx_ret ?_ | refine nq_then_x ?_ | refine nq_then_r ?_ | refine nq_blk_n ?_ | refine nq_blk_r ?_ | refine nq_blk_hit ?_ | refine nq_blk_miss rfl ?_ | refine nd_nil ?_) | refine nx_cond_t rfl ?_ | refine nx_cond_f rfl ?_ | refine nl_pass hF rfl rfl rfl ?_ | refine nd_pass rfl rfl rfl rfl rfl ?_ | refine nd_pass2 rfl rfl rfl a_nd a_allK rfl rfl ?_ | refine nd_pass3 rfl rfl rfl a_nd rfl rfl ?_ | (with_reducible refine hQ1 _ _ _ ?_; clear hQ1 Q1) )
      all_goals (try (exfalso; dsimp only at *; omega))
      rw [show (p1.map It2.id).map (Value.int .i64) ++ [.int .i64 x.id] = (((L.take (i + 1)).filter WB).map It2.id).map (.int .i64) by rw [hf1]; simp, ← hf2]
      refine nx_again (⟨i + 1, by omega⟩, v2, v) (by dsimp only; omega) (by exact a_sub) (by exact a_subR) (by exact a_holds)
    | false =>
      rw [hb] at wx hf1 hf2
      simp only [Bool.false_eq_true, if_false, List.append_nil] at hf1 hf2
      repeat' (first | ((first | with_reducible refine nl_op rfl ?_ | refine nd_go rfl rfl rfl ?_); intro K hK; (first | ((first | refine on_E hF rfl rfl ?_ | refine od_E rfl rfl ?_ | refine od_R rfl rfl ?_); (first | refine ⟨_, a_yl, ?_⟩ | refine ⟨_, (by first | exact yl_fieldB (T := 33) (f := 0) (q := 0) rfl rfl (by kernel_rfl) | exact yl_fieldE (T := 33) (f := 0) (j := 0) rfl rfl a_sl a_om (by kernel_rfl)), ?_⟩)) | ((first | refine on_Ec hF rfl rfl ?_ | refine od_Ec rfl rfl ?_); refine ⟨_, _, _, a_yc, ?_, ?_⟩ <;> (intro hc; try exact a_cut hc)) | ((first | (refine od_act a_nd ?_; intro K2 hK2) | refine od_last a_nd ?_ | skip); (first | (refine on_callG hF (enters_of Tryz.func10 (by kernel_rfl) rfl) rfl rfl rfl rfl (wx _ _ _ _ (by exact a_mem)) (fun _ => ?_)) | (refine on_buildSlice (e := 3) (k := 1) (by_ := 8) hF rfl rfl rfl rfl rfl rfl (by kernel_rfl) hcx (Nat.le_of_ble_eq_true rfl) (fun bq => ?_)) | (refine on_append (e := 3) (k := 1) (by_ := 8) (xs := (p2.map It2.id).map (.int .i64)) (ys := [.int .i64 x.id]) hF rfl rfl rfl rfl rfl (show Pick _ (RowC 3 1 v.1 ((p2.map It2.id).map (.int .i64))) _ from by exact a_pick) (by kernel_rfl) a_sl hcx hl3 hl4 (fun v2 => ?_)) | (refine on_buildSlice (T := 25) (e := 3) (k := 1) (by_ := 8) hF rfl rfl rfl rfl rfl rfl (by kernel_rfl) a_cel (Nat.le_of_ble_eq_true rfl) (fun b => ?_)) | (refine on_append (T := 25) (e := 3) (k := 1) (by_ := 8) hF rfl rfl rfl rfl rfl a_pick (by kernel_rfl) a_sl a_cel a_bnd a_bnd (fun v => ?_)) | (refine on_alloc hF rfl Tryz.zeroValue33 rfl rfl (fun B => ?_)) | (refine on_box hF rfl rfl rfl rfl (fun B => ?_)) | (refine on_store hF rfl rfl rfl rfl a_turn a_vof a_sz ?_) | (refine on_storeE hF rfl rfl rfl rfl a_turn a_om a_vof a_sz ?_) | (refine on_storeEF hF rfl rfl rfl rfl a_turn a_as (by decide) a_vof rfl ?_) | (refine on_storeF hF rfl rfl rfl rfl a_turn (by decide) a_vof rfl ?_)) <;> try (refine hK2 _ _ _ a_allK ?_; clear hK2 K2))) <;> (refine hK _ _ _ ?_; clear hK K)) | with_reducible (first | refine nx_seq ?_ | refine nx_region ?_ | refine nl_nil ?_ | refine nq_then_n ?_ | refine nx_block ?_ | refine nx_skip ?_ | refine nx_exit ?_ | refine nx_ret ?_ | refine nq_then_x ?_ | refine nq_then_r ?_ | refine nq_blk_n ?_ | refine nq_blk_r ?_ | refine nq_blk_hit ?_ | refine nq_blk_miss rfl ?_ | refine nd_nil ?_) | refine nx_cond_t rfl ?_ | refine nx_cond_f rfl ?_ | refine nl_pass hF rfl rfl rfl ?_ | refine nd_pass rfl rfl rfl rfl rfl ?_ | refine nd_pass2 rfl rfl rfl a_nd a_allK rfl rfl ?_ | refine nd_pass3 rfl rfl rfl a_nd rfl rfl ?_ | (with_reducible refine hQ1 _ _ _ ?_; clear hQ1 Q1) )
      all_goals (try (exfalso; dsimp only at *; omega))
      rw [show (p2.map It2.id).map (Value.int .i64) ++ [.int .i64 x.id] = (((L.take (i + 1)).filter (fun x => !WB x)).map It2.id).map (.int .i64) by rw [hf2]; simp, ← hf1]
      refine nx_again (⟨i + 1, by omega⟩, u, v2) (by dsimp only; omega) (by exact a_sub) (by exact a_subR) (by exact a_holds)
  · rw [List.take_of_length_le (by omega)]
    repeat' (first | ((first | with_reducible refine nl_op rfl ?_ | refine nd_go rfl rfl rfl ?_); intro K hK; (first | ((first | refine on_E hF rfl rfl ?_ | refine od_E rfl rfl ?_ | refine od_R rfl rfl ?_); (first | refine ⟨_, a_yl, ?_⟩ | refine ⟨_, (by first | exact yl_fieldB (T := 33) (f := 0) (q := 0) rfl rfl (by kernel_rfl) | exact yl_fieldE (T := 33) (f := 0) (j := 0) rfl rfl a_sl a_om (by kernel_rfl)), ?_⟩)) | ((first | refine on_Ec hF rfl rfl ?_ | refine od_Ec rfl rfl ?_); refine ⟨_, _, _, a_yc, ?_, ?_⟩ <;> (intro hc; try exact a_cut hc)) | ((first | (refine od_act a_nd ?_; intro K2 hK2) | refine od_last a_nd ?_ | skip); (first | (refine on_buildSlice (T := 25) (e := 3) (k := 1) (by_ := 8) hF rfl rfl rfl rfl rfl rfl (by kernel_rfl) a_cel (Nat.le_of_ble_eq_true rfl) (fun b => ?_)) | (refine on_append (T := 25) (e := 3) (k := 1) (by_ := 8) hF rfl rfl rfl rfl rfl a_pick (by kernel_rfl) a_sl a_cel a_bnd a_bnd (fun v => ?_)) | (refine on_alloc hF rfl Tryz.zeroValue33 rfl rfl (fun B => ?_)) | (refine on_box hF rfl rfl rfl rfl (fun B => ?_)) | (refine on_store hF rfl rfl rfl rfl a_turn a_vof a_sz ?_) | (refine on_storeE hF rfl rfl rfl rfl a_turn a_om a_vof a_sz ?_) | (refine on_storeEF hF rfl rfl rfl rfl a_turn a_as (by decide) a_vof rfl ?_) | (refine on_storeF hF rfl rfl rfl rfl a_turn (by decide) a_vof rfl ?_)) <;> try (refine hK2 _ _ _ a_allK ?_; clear hK2 K2))) <;> (refine hK _ _ _ ?_; clear hK K)) | with_reducible (first | refine nx_seq ?_ | refine nx_region ?_ | refine nl_nil ?_ | refine nq_then_n ?_ | refine nx_block ?_ | refine nx_skip ?_ | refine nx_exit ?_ | refine nx_ret ?_ | refine nq_then_x ?_ | refine nq_then_r ?_ | refine nq_blk_n ?_ | refine nq_blk_r ?_ | refine nq_blk_hit ?_ | refine nq_blk_miss rfl ?_ | refine nd_nil ?_) | refine nx_cond_t rfl ?_ | refine nx_cond_f rfl ?_ | refine nl_pass hF rfl rfl rfl ?_ | refine nd_pass rfl rfl rfl rfl rfl ?_ | refine nd_pass2 rfl rfl rfl a_nd a_allK rfl rfl ?_ | refine nd_pass3 rfl rfl rfl a_nd rfl rfl ?_ | (with_reducible refine hQ1 _ _ _ ?_; clear hQ1 Q1) )
    all_goals (try (exfalso; dsimp only at *; omega))
    refine nx_end [] rfl ((u, v) : SV × SV) (fun a w ha hw => res_tmp2 Tryz.results6 rfl rfl ha) (by exact a_subR) (by exact a_holds2)
end Rf24
end Go.Proofs.YtinofjenoapeaaaGreat
end
section
namespace Go.Proofs.YtinofjenoapeaaaGreat
open Go.RowKit Go.Shelf
set_option linter.unusedSimpArgs false
set_option linter.unusedVariables false
namespace Li
theorem all_head (L : List It2) : ∃ r, allL L = 1 :: r := by
  have h1 : (1 : Int) ∈ allL L := mem_all.2 (.inl rfl)
  have hlt := all_lt L
  cases e : allL L with
  | nil => rw [e] at h1; cases h1
  | cons a r =>
    rw [e] at h1 hlt
    have ha : 1 ≤ a := known_pos (all_known (L := L) (by rw [e]; simp))
    rcases List.mem_cons.1 h1 with h1 | h1
    · exact ⟨r, by rw [h1]⟩
    · have := (List.pairwise_cons.1 hlt).1 1 h1; omega
/-- b is the least known timeline above u of these items, 0: there is none. -/
def BestI (L : List It2) (u : Int) (pre : List It2) (b : Int) : Prop :=
  (b = 0 ∧ ∀ x ∈ pre, isKn L x = true → x.tl ≤ u) ∨ (∃ x ∈ pre, isKn L x = true ∧ x.tl = b ∧ u < b ∧ 1 ≤ b ∧ ∀ y ∈ pre, isKn L y = true → u < y.tl → b ≤ y.tl)
theorem BestI.nil (L : List It2) (u : Int) : BestI L u [] 0 := .inl ⟨rfl, fun x hx => by cases hx⟩
theorem BestI.take {L : List It2} {u : Int} {pre : List It2} {b : Int} (h : BestI L u pre b) {x : It2} (hk : isKn L x = true) (hu : u < x.tl) (hb : b = 0 ∨ x.tl < b) : BestI L u (pre ++ [x]) x.tl := by
  refine .inr ⟨x, by simp, hk, rfl, hu, known_pos (isKn_known hk), fun y hy hky huy => ?_⟩
  rcases List.mem_append.1 hy with hy | hy
  · rcases h with ⟨rfl, h2⟩ | ⟨x2, _, _, e, _, _, h3⟩
    · have := h2 y hy hky; omega
    · have := h3 y hy hky huy
      rcases hb with hb | hb
      · have := known_pos (isKn_known hk); omega
      · omega
  · rw [List.mem_singleton.1 hy]; exact Int.le_refl _
theorem BestI.skip {L : List It2} {u : Int} {pre : List It2} {b : Int} (h : BestI L u pre b) {x : It2} (hn : isKn L x = true → u < x.tl → b ≠ 0 ∧ b ≤ x.tl) : BestI L u (pre ++ [x]) b := by
  rcases h with ⟨rfl, h2⟩ | ⟨x2, hx2, h1, h2, h3, h4, h5⟩
  · refine .inl ⟨rfl, fun y hy hk => ?_⟩
    rcases List.mem_append.1 hy with hy | hy
    · exact h2 y hy hk
    · rw [List.mem_singleton.1 hy] at hk ⊢
      by_cases hu : u < x.tl
      · exact absurd rfl (hn hk hu).1
      · omega
  · refine .inr ⟨x2, by simp [hx2], h1, h2, h3, h4, fun y hy hk hu => ?_⟩
    rcases List.mem_append.1 hy with hy | hy
    · exact h5 y hy hk hu
    · rw [List.mem_singleton.1 hy] at hk hu ⊢
      exact (hn hk hu).2
theorem best_end {L : List It2} {pre post : List Int} {u b : Int} (h : BestI L u L b) (e : allL L = pre ++ u :: post) : (b = 0 ∧ post = []) ∨ (b ≠ 0 ∧ ∃ p, post = b :: p) := by
  have hlt := all_lt L
  rw [e] at hlt
  obtain ⟨h1, h2, h3⟩ := List.pairwise_append.1 hlt
  obtain ⟨h4, h5⟩ := List.pairwise_cons.1 h2
  have hu1 : 1 ≤ u := known_pos (all_known (L := L) (by rw [e]; simp))
  have hpost : ∀ y ∈ post, ∃ x ∈ L, isKn L x = true ∧ x.tl = y := fun y hy => by
    have hy2 : y ∈ allL L := by rw [e]; simp [hy]
    rcases mem_all.1 hy2 with rfl | h
    · have := h4 _ hy; omega
    · exact h
  rcases h with ⟨rfl, h⟩ | ⟨x, hx, hk, rfl, hub, hb1, h⟩
  · refine .inl ⟨rfl, ?_⟩
    cases post with
    | nil => rfl
    | cons y p =>
      obtain ⟨x, hx, hk, rfl⟩ := hpost y (by simp)
      have := h x hx hk
      have := h4 _ (List.mem_cons_self (a := x.tl) (l := p))
      omega
  · refine .inr ⟨by omega, ?_⟩
    have hin : x.tl ∈ allL L := mem_all.2 (.inr ⟨x, hx, hk, rfl⟩)
    rw [e] at hin
    have hp : x.tl ∈ post := by
      rcases List.mem_append.1 hin with hin | hin
      · have := h3 _ hin u (by simp); omega
      · rcases List.mem_cons.1 hin with hin | hin
        · omega
        · exact hin
    cases post with
    | nil => cases hp
    | cons y p =>
      refine ⟨p, ?_⟩
      obtain ⟨x2, hx2, hk2, rfl⟩ := hpost y (by simp)
      have h6 := h x2 hx2 hk2 (h4 _ (by simp))
      rcases List.mem_cons.1 hp with hp | hp
      · rw [hp]
      · have := (List.pairwise_cons.1 h5).1 _ hp; omega
end Li
end Go.Proofs.YtinofjenoapeaaaGreat
end
