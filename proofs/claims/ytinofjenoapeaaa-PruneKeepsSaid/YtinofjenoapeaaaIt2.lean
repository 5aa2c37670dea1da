/- api.Item as Lean data; the contract of lines.line. Condition: items whose extents are a slice. -/
import Derived.Test.YtinofjenoapeaaaFbItem
import Derived.Test.YtinofjenoapeaaaT0
namespace Go.Proofs.Ytinofjenoapeaaa
open Go.RowKit Go.Shelf
set_option linter.unusedSimpArgs false
set_option linter.unusedVariables false
structure It2 where
  id : Int
  kind : Int
  tl : Int
  num : Int
  a : Int
  b : Int
  par : Int
  len : Int
  ext : Value
/-- An item as a value. -/
abbrev It2.v (x : It2) : Value := .agg #[.int .i64 x.id, .int .i64 x.kind, .int .i64 x.tl, .int .i64 x.num, .int .i64 x.a, .int .i64 x.b, .int .i64 x.par, .int .i64 x.len, x.ext]
def zIt2 : It2 := ⟨0, 0, 0, 0, 0, 0, 0, 0, .slice none 0 0⟩
def intAt2 (cs : Array Value) (i : Nat) : Int := match cs[i]? with | some (.int _ n) => n | _ => 0
def toIt2 (v : Value) : It2 := ⟨intAt2 (cv v) 0, intAt2 (cv v) 1, intAt2 (cv v) 2, intAt2 (cv v) 3, intAt2 (cv v) 4, intAt2 (cv v) 5, intAt2 (cv v) 6, intAt2 (cv v) 7, (cv v)[8]?.getD undef⟩
@[simp] theorem toIt2_v (x : It2) : toIt2 x.v = x := rfl
def It2.ok (x : It2) : Prop := IsSl x.ext
theorem It2.vof (x : It2) (h : x.ok) : VOf Try.prog 27 x.v := by
  obtain ⟨_, _, _, _, _, _, _, _, e⟩ := x
  obtain ⟨A, n, c, rfl⟩ : IsSl e := h
  exact vofk (by kernel_rfl) rfl rfl
theorem zIt2_ok : zIt2.ok := ⟨_, _, _, rfl⟩
theorem find_it2 (L : List It2) (p : It2 → Bool) : (L.map It2.v).find? (fun v => p (toIt2 v)) = (L.find? p).map It2.v := by
  rw [List.find?_map]; congr 1
theorem filter_it2 (L : List It2) (p : It2 → Bool) : (L.map It2.v).filter (fun v => p (toIt2 v)) = (L.filter p).map It2.v := by
  rw [List.filter_map]; congr 1
theorem getD_it2 (o : Option It2) : (o.map It2.v).getD (zIt2.v) = (o.getD zIt2).v := by cases o <;> rfl
theorem vofs_it2 (L : List It2) (hok : ∀ x ∈ L, x.ok) : ∀ v ∈ L.map It2.v, VOf Try.prog 27 v := fun v hv => by
  obtain ⟨x, hx, rfl⟩ := List.mem_map.1 hv; exact x.vof (hok x hx)
namespace Li
variable {W0 : World} {X : Nat → Prop} {R C : List Ch}
def isLine (t : Int) (x : It2) : Bool := decide (x.kind = 4) && decide (x.tl = t)
def lineP (L : List It2) (t : Int) : Option It2 := L.find? (isLine t)
set_option maxRecDepth 100000 in
theorem line1_ct (x : It2) (hx : x.ok) (b : Nat) (t : Int) (hb : BoxC b 3 (.int .i64 t) ∈ R) : Ct Try.prog 48 [x.v, ptr b] W0 X R C Unit (fun _ => .bool (isLine t x)) (fun _ => R) (fun _ => C) := by
  intro w hw
  have hF := isWide_wide
  have hi : isLine t x = (decide (x.kind = 4) && decide (x.tl = t)) := rfl
  obtain ⟨d1, kind, tl, d4, d5, d6, d7, d8, e⟩ := x
  obtain ⟨ea, en, ec, rfl⟩ : IsSl e := hx
  dsimp only at hi
  rw [hi]
  refine calls_nx Try.func48 rfl Try.ntmps48 rfl ?_ hw
  repeat' (first
    | ((first | with_reducible refine nl_op rfl ?_ | refine nd_go rfl rfl rfl ?_); intro K hK; (first
      | ((first | refine on_E hF rfl rfl ?_ | refine od_E rfl rfl ?_ | refine od_R rfl rfl ?_); (first | refine ⟨_, a_yl, ?_⟩ | refine ⟨_, yl_fieldB (T := 27) (f := 1) (q := 1) rfl rfl (by kernel_rfl), ?_⟩ | refine ⟨_, yl_fieldE (T := 27) (f := 1) (j := 1) rfl rfl a_sl (by (first | omega | (simp only [List.length_append, List.length_cons, List.length_nil, List.length_map] at *; omega))) (by kernel_rfl), ?_⟩ | refine ⟨_, yl_fieldB (T := 27) (f := 2) (q := 2) rfl rfl (by kernel_rfl), ?_⟩ | refine ⟨_, yl_fieldE (T := 27) (f := 2) (j := 2) rfl rfl a_sl (by (first | omega | (simp only [List.length_append, List.length_cons, List.length_nil, List.length_map] at *; omega))) (by kernel_rfl), ?_⟩))
      | ((first | refine on_Ec hF rfl rfl ?_ | refine od_Ec rfl rfl ?_); refine ⟨_, _, _, a_yc, ?_, ?_⟩ <;> (intro hc; try (exfalso; first | (omega; done) | exact absurd (by with_reducible rfl) hc | (simp at hc; done))))
      | ((first | (refine od_act (fun c => by exact (fun h => by cases h)) ?_; intro K2 hK2) | refine od_last (fun c => by exact (fun h => by cases h)) ?_ | skip); (first
      
      
      
      | (refine on_box hF rfl rfl rfl rfl (fun B => ?_))
      | (refine on_store hF rfl rfl rfl rfl a_turn a_vof (by first | rfl | exact hsz.symm | exact hsz) ?_)
      | (refine on_storeE hF rfl rfl rfl rfl a_turn (by (first | omega | (simp only [List.length_append, List.length_cons, List.length_nil, List.length_map] at *; omega))) a_vof (by first | rfl | exact hsz) ?_)
      | (refine on_storeEF hF rfl rfl rfl rfl a_turn (by first | with_reducible assumption | rfl) (by decide) a_vof rfl ?_)
      | (refine on_storeF hF rfl rfl rfl rfl a_turn (by decide) a_vof rfl ?_)) <;> try (refine hK2 _ _ _ a_allK ?_; clear hK2 K2))) <;> (refine hK _ _ _ ?_; clear hK K))
    | with_reducible refine nx_seq ?_
        | with_reducible refine nx_region ?_
        | with_reducible refine nl_nil ?_
        | with_reducible refine nq_then_n ?_
        | with_reducible refine nx_block ?_
        | with_reducible refine nx_skip ?_
        | with_reducible refine nx_exit ?_
        | with_reducible refine nx_ret ?_
        | with_reducible refine nq_then_x ?_
        | with_reducible refine nq_then_r ?_
        | with_reducible refine nq_blk_n ?_
        | with_reducible refine nq_blk_r ?_
        | with_reducible refine nq_blk_hit ?_
        | with_reducible refine nq_blk_miss rfl ?_
        | with_reducible refine nd_nil ?_
    | refine nx_cond_t rfl ?_ | refine nx_cond_f rfl ?_
    | refine nl_pass hF rfl rfl rfl ?_
    | refine nd_pass rfl rfl rfl rfl rfl ?_
    | refine nd_pass2 rfl rfl rfl (fun c => by exact (fun h => by cases h)) a_allK rfl rfl ?_
    | refine nd_pass3 rfl rfl rfl (fun c => by exact (fun h => by cases h)) rfl rfl ?_
    | (with_reducible refine hQ1 _ _ _ ?_; clear hQ1 Q1)
    )
  · have h1 : kind = 4 := by assumption
    have h2 : tl = t := hc
    rw [decide_eq_true h1, decide_eq_true h2]
    refine nx_end [] rfl () (fun a w ha hw => res_tmp Try.results48 rfl ha) (by exact a_subR) (by exact a_holds2)
  · have h2 : ¬ tl = t := hc
    rw [decide_eq_false h2, Bool.and_false]
    refine nx_end [] rfl () (fun a w ha hw => res_tmp Try.results48 rfl ha) (by exact a_subR) (by exact a_holds2)
  · have h2 : ¬ kind = 4 := hc
    rw [decide_eq_false h2, Bool.false_and]
    refine nx_end [] rfl () (fun a w ha hw => res_tmp Try.results48 rfl ha) (by exact a_subR) (by exact a_holds2)
theorem line1_pred (L : List It2) (hok : ∀ x ∈ L, x.ok) (b : Nat) (t : Int) : PredS Try.prog (L.map It2.v) (fun v => isLine t (toIt2 v)) (.func (.func 48) #[] #[ptr b]) [BoxC b 3 (.int .i64 t)] := ⟨48, [ptr b], rfl, (enters_of Try.func48 (by kernel_rfl) rfl), fun W0 X R C hR x hx => by
  obtain ⟨y, hy, rfl⟩ := List.mem_map.1 hx
  exact line1_ct y (hok y hy) b t (hR _ (by simp))⟩
theorem lineP_ok {L : List It2} (hok : ∀ x ∈ L, x.ok) (t : Int) : ((lineP L t).getD zIt2).ok := by
  cases h : lineP L t with
  | none => exact zIt2_ok
  | some x => exact hok x (List.mem_of_find?_eq_some h)
theorem findLine_ct (s f : Value) (L : List It2) (hok : ∀ x ∈ L, x.ok) (t : Int) (RS RF : List Ch) (hs : ItN Try.prog (L.map It2.v) s RS) (hf : PredN Try.prog (L.map It2.v) (fun v => isLine t (toIt2 v)) f RF) (hR1 : ∀ r ∈ RS, r ∈ R) (hR2 : ∀ r ∈ RF, r ∈ R) :
    Ct Try.prog 21 [s, f] W0 X R C Unit (fun _ => .tuple #[((lineP L t).getD zIt2).v, .bool (lineP L t).isSome]) (fun _ => R) (fun _ => C) := by
  have h := NItem.find_ct (W0 := W0) (X := X) (R := R) (C := C) s f (L.map It2.v) _ RS RF hs hf (vofs_it2 L hok) hR1 hR2
  rw [show (L.map It2.v).find? (fun v => isLine t (toIt2 v)) = (lineP L t).map It2.v from find_it2 L (isLine t)] at h
  cases hl : lineP L t with
  | none => rw [hl] at h; exact h
  | some x => rw [hl] at h; exact h
set_option maxRecDepth 100000 in
set_option maxHeartbeats 1000000 in
theorem line_ct (s : Value) (hs : IsSl s) (L : List It2) (hok : ∀ x ∈ L, x.ok) (t : Int) (hsl : SlC 9 s (L.map It2.v) ∈ R) (hm : L.length * 88 ≤ 140737488355328) :
    Ct Try.prog 26 [s, .int .i64 t] W0 X R C Unit (fun _ => .tuple #[((lineP L t).getD zIt2).v, .bool (lineP L t).isSome]) (fun _ => R) (fun _ => C) := by
  intro w hw
  have hF := isWide_wide
  have hml : (L.map It2.v).length * 88 ≤ 140737488355328 := by simpa using hm
  have hmx : (L.map It2.v).length ≤ maxLen := by unfold maxLen; simp; omega
  have hvy := (((lineP L t).getD zIt2).vof (lineP_ok hok t))
  have fd := fun (W0 : World) (X : Nat → Prop) (R C : List Ch) s f RS RF => findLine_ct (W0 := W0) (X := X) (R := R) (C := C) s f L hok t RS RF
  obtain ⟨y, hy⟩ : ∃ y, (lineP L t).getD zIt2 = y := ⟨_, rfl⟩
  obtain ⟨z, hz⟩ : ∃ z, (lineP L t).isSome = z := ⟨_, rfl⟩
  rw [hy, hz] at fd
  rw [hy] at hvy
  rw [hy, hz]
  refine calls_nx Try.func26 rfl Try.ntmps26 rfl ?_ hw
  repeat' (first
    | ((first | with_reducible refine nl_op rfl ?_ | refine nd_go rfl rfl rfl ?_); intro K hK; (first
      | ((first | refine on_E hF rfl rfl ?_ | refine od_E rfl rfl ?_ | refine od_R rfl rfl ?_); (first | refine ⟨_, a_yl, ?_⟩))
      | ((first | refine on_Ec hF rfl rfl ?_ | refine od_Ec rfl rfl ?_); refine ⟨_, _, _, a_yc, ?_, ?_⟩ <;> (intro hc; try (exfalso; first | (omega; done) | exact absurd (by with_reducible rfl) hc | (simp at hc; done))))
      | ((first | (refine od_act (fun c => by exact (fun h => by cases h)) ?_; intro K2 hK2) | refine od_last (fun c => by exact (fun h => by cases h)) ?_ | skip); (first
      
      
      | (refine on_alloc hF rfl Try.zeroValue27 rfl rfl (fun B => ?_))
      | (refine on_box hF rfl rfl rfl rfl (fun B => ?_))
      | (refine on_store hF rfl rfl rfl rfl a_turn a_vof (by first | rfl | exact hsz.symm | exact hsz) ?_)
      | (refine on_storeE hF rfl rfl rfl rfl a_turn (by (first | omega | (simp only [List.length_append, List.length_cons, List.length_nil, List.length_map] at *; omega))) a_vof (by first | rfl | exact hsz) ?_)
      | (refine on_storeEF hF rfl rfl rfl rfl a_turn (by first | with_reducible assumption | rfl) (by decide) a_vof rfl ?_)
      | (refine on_storeF hF rfl rfl rfl rfl a_turn (by decide) a_vof rfl ?_)) <;> try (refine hK2 _ _ _ a_allK ?_; clear hK2 K2))) <;> (refine hK _ _ _ ?_; clear hK K))
    | with_reducible refine nx_seq ?_
        | with_reducible refine nx_region ?_
        | with_reducible refine nl_nil ?_
        | with_reducible refine nq_then_n ?_
        | with_reducible refine nx_block ?_
        | with_reducible refine nx_skip ?_
        | with_reducible refine nx_exit ?_
        | with_reducible refine nx_ret ?_
        | with_reducible refine nq_then_x ?_
        | with_reducible refine nq_then_r ?_
        | with_reducible refine nq_blk_n ?_
        | with_reducible refine nq_blk_r ?_
        | with_reducible refine nq_blk_hit ?_
        | with_reducible refine nq_blk_miss rfl ?_
        | with_reducible refine nd_nil ?_
    | refine nx_cond_t rfl ?_ | refine nx_cond_f rfl ?_
    | refine nl_pass hF rfl rfl rfl ?_
    | refine nd_pass rfl rfl rfl rfl rfl ?_
    | refine nd_pass2 rfl rfl rfl (fun c => by exact (fun h => by cases h)) a_allK rfl rfl ?_
    | refine nd_pass3 rfl rfl rfl (fun c => by exact (fun h => by cases h)) rfl rfl ?_
    | (with_reducible refine hQ1 _ _ _ ?_; clear hQ1 Q1)
    )
  rename_i b3
  refine nx_frz (BoxC b3 3 (.int .i64 t)) (Pick.there Pick.here) ?_
  repeat' (first
    | ((first | with_reducible refine nl_op rfl ?_ | refine nd_go rfl rfl rfl ?_); intro K hK; (first
      | ((first | refine on_E hF rfl rfl ?_ | refine od_E rfl rfl ?_ | refine od_R rfl rfl ?_); (first | refine ⟨_, a_yl, ?_⟩))
      | ((first | refine on_Ec hF rfl rfl ?_ | refine od_Ec rfl rfl ?_); refine ⟨_, _, _, a_yc, ?_, ?_⟩ <;> (intro hc; try (exfalso; first | (omega; done) | exact absurd (by with_reducible rfl) hc | (simp at hc; done))))
      | ((first | (refine od_act (fun c => by exact (fun h => by cases h)) ?_; intro K2 hK2) | refine od_last (fun c => by exact (fun h => by cases h)) ?_ | skip); (first
      | (refine on_callG hF (enters_of Try.func22 (by kernel_rfl) rfl) rfl rfl rfl rfl (NItem.of_ct s (L.map It2.v) (by exact a_mem) hs (vofs_it2 L hok) hml) (fun j => ?_))
      | (refine on_callG hF (enters_of Try.func21 (by kernel_rfl) rfl) rfl rfl rfl rfl (fd _ _ _ _ _ _ _ _ (NItem.of_it j _ (vofs_it2 L hok) hmx).n (line1_pred L hok b3 t).n (by exact a_subR) (by exact a_subR)) (fun _ => ?_))
      
      | (refine on_alloc hF rfl Try.zeroValue27 rfl rfl (fun B => ?_))
      | (refine on_box hF rfl rfl rfl rfl (fun B => ?_))
      | (refine on_store hF rfl rfl rfl rfl a_turn a_vof (by first | rfl | exact hsz.symm | exact hsz) ?_)
      | (refine on_storeE hF rfl rfl rfl rfl a_turn (by (first | omega | (simp only [List.length_append, List.length_cons, List.length_nil, List.length_map] at *; omega))) a_vof (by first | rfl | exact hsz) ?_)
      | (refine on_storeEF hF rfl rfl rfl rfl a_turn (by first | with_reducible assumption | rfl) (by decide) a_vof rfl ?_)
      | (refine on_storeF hF rfl rfl rfl rfl a_turn (by decide) a_vof rfl ?_)) <;> try (refine hK2 _ _ _ a_allK ?_; clear hK2 K2))) <;> (refine hK _ _ _ ?_; clear hK K))
    | with_reducible refine nx_seq ?_
        | with_reducible refine nx_region ?_
        | with_reducible refine nl_nil ?_
        | with_reducible refine nq_then_n ?_
        | with_reducible refine nx_block ?_
        | with_reducible refine nx_skip ?_
        | with_reducible refine nx_exit ?_
        | with_reducible refine nx_ret ?_
        | with_reducible refine nq_then_x ?_
        | with_reducible refine nq_then_r ?_
        | with_reducible refine nq_blk_n ?_
        | with_reducible refine nq_blk_r ?_
        | with_reducible refine nq_blk_hit ?_
        | with_reducible refine nq_blk_miss rfl ?_
        | with_reducible refine nd_nil ?_
    | refine nx_cond_t rfl ?_ | refine nx_cond_f rfl ?_
    | refine nl_pass hF rfl rfl rfl ?_
    | refine nd_pass rfl rfl rfl rfl rfl ?_
    | refine nd_pass2 rfl rfl rfl (fun c => by exact (fun h => by cases h)) a_allK rfl rfl ?_
    | refine nd_pass3 rfl rfl rfl (fun c => by exact (fun h => by cases h)) rfl rfl ?_
    | (with_reducible refine hQ1 _ _ _ ?_; clear hQ1 Q1)
    )
  refine nx_endc [] (BoxC B 27 y.v :: C) rfl () (fun a w ha hw => res_cell_tmp (T' := 27) Try.results26 rfl rfl (by exact a_mem) hvy ha hw) (by exact a_subR) (by exact a_holds2) (by exact a_holds2)
end Li
end Go.Proofs.Ytinofjenoapeaaa
