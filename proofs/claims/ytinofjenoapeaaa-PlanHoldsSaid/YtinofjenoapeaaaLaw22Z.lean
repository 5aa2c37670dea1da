/- The statement PlanHoldsSaid: it returns true at every input, and leaves the input as it was. No condition. -/
import Derived.Test.YtinofjenoapeaaaIt2
import Derived.Test.YtinofjenoapeaaaT2
import Derived.Test.YtinofjenoapeaaaLaw22F
import Derived.Test.YtinofjenoapeaaaT5
import Derived.Test.YtinofjenoapeaaaRows
import Derived.Test.YtinofjenoapeaaaRowArr
import Derived.WalkKit
import Derived.ProofKit
import Derived.OpenShut
import Derived.ShutString
import Derived.ChangeOld
import Derived.Below
import Derived.SizedLaws
import Derived.Test.YtinofjenoapeaaaRowIt
section
namespace Go.Proofs.Ytinofjenoapeaaa
open Go.RowKit Go.Shelf
set_option linter.unusedSimpArgs false
set_option linter.unusedVariables false
namespace Law22
variable {W0 : World} {X : Nat → Prop} {R C : List Ch}
def usP (x : It2) : Prop := 0 ≤ x.a ∧ x.a ≤ 1099511627776 ∧ 0 ≤ x.b ∧ x.b ≤ 1099511627776 ∧ x.tl ≤ 1099511627776
instance (x : It2) : Decidable (usP x) := by unfold usP; infer_instance
def usualB (L : List It2) : Bool := decide ((∀ x ∈ L, usP x) ∧ L.length ≤ 40)
set_option maxRecDepth 100000 in
set_option maxHeartbeats 2000000 in
theorem usual_ct (s : Value) (hs : IsSl s) (L : List It2) (hok : ∀ x ∈ L, x.ok) (hsl : SlC 9 s (L.map It2.v) ∈ R) (hm : L.length * 88 ≤ 140737488355328) :
    Ct Try.prog 6 [s] W0 X R C Unit (fun _ => .bool (usualB L)) (fun _ => R) (fun _ => C) := by
  intro w hw
  have hF := isWide_wide
  obtain ⟨sa, sn, sc, rfl⟩ := hs
  obtain rfl := slLen (hw.hasR hsl)
  have hlv : (L.map It2.v).length = L.length := by simp
  refine calls_nx Try.func6 rfl Try.ntmps6 rfl ?_ hw
  repeat' (first
    | ((first | with_reducible refine nl_op rfl ?_ | refine nd_go rfl rfl rfl ?_); intro K hK; (first
      | ((first | refine on_E hF rfl rfl ?_ | refine od_E rfl rfl ?_ | refine od_R rfl rfl ?_); (first | refine ⟨_, a_yl, ?_⟩ | refine ⟨_, yl_fieldB (T := 27) (f := 2) (q := 2) rfl rfl (by kernel_rfl), ?_⟩ | refine ⟨_, yl_fieldE (T := 27) (f := 2) (j := 2) rfl rfl a_sl (by (first | omega | (simp only [List.length_append, List.length_cons, List.length_nil, List.length_map] at *; omega))) (by kernel_rfl), ?_⟩ | refine ⟨_, yl_fieldB (T := 27) (f := 4) (q := 4) rfl rfl (by kernel_rfl), ?_⟩ | refine ⟨_, yl_fieldE (T := 27) (f := 4) (j := 4) rfl rfl a_sl (by (first | omega | (simp only [List.length_append, List.length_cons, List.length_nil, List.length_map] at *; omega))) (by kernel_rfl), ?_⟩ | refine ⟨_, yl_fieldB (T := 27) (f := 5) (q := 5) rfl rfl (by kernel_rfl), ?_⟩ | refine ⟨_, yl_fieldE (T := 27) (f := 5) (j := 5) rfl rfl a_sl (by (first | omega | (simp only [List.length_append, List.length_cons, List.length_nil, List.length_map] at *; omega))) (by kernel_rfl), ?_⟩))
      | ((first | refine on_Ec hF rfl rfl ?_ | refine od_Ec rfl rfl ?_); refine ⟨_, _, _, a_yc, ?_, ?_⟩ <;> (intro hc; try (exfalso; first | (omega; done) | exact absurd (by with_reducible rfl) hc | (simp at hc; done))))
      | ((first | (refine od_act (fun c => by exact (fun h => by cases h)) ?_; intro K2 hK2) | refine od_last (fun c => by exact (fun h => by cases h)) ?_ | skip); (first
      
      
      | (refine on_alloc hF rfl Try.zeroValue27 rfl rfl (fun B => ?_))
      | (refine on_box hF rfl rfl rfl rfl (fun B => ?_))
      | (refine on_store hF rfl rfl rfl rfl a_turn a_vof (by first | rfl | exact hsz.symm | exact hsz) ?_)
      | (refine on_storeE hF rfl rfl rfl rfl a_turn (by (first | omega | (simp only [List.length_append, List.length_cons, List.length_nil, List.length_map] at *; omega))) a_vof (by first | rfl | exact hsz) ?_)
      | (refine on_storeEF hF rfl rfl rfl rfl a_turn (by first | with_reducible assumption | rfl) (by decide) a_vof rfl ?_)
      | (refine on_storeF hF rfl rfl rfl rfl a_turn (by decide) a_vof rfl ?_)) <;> try (refine hK2 _ _ _ a_allK ?_; clear hK2 K2))) <;> (refine hK _ _ _ ?_; clear hK K))
    | with_reducible refine nx_seq ?_
        | with_reducible refine nx_region ?_
        | with_reducible refine nl_nil ?_
        | with_reducible refine nq_then_n ?_
        | with_reducible refine nx_block ?_
        | with_reducible refine nx_skip ?_
        | with_reducible refine nx_exit ?_
        | with_reducible refine nx_ret ?_
        | with_reducible refine nq_then_x ?_
        | with_reducible refine nq_then_r ?_
        | with_reducible refine nq_blk_n ?_
        | with_reducible refine nq_blk_r ?_
        | with_reducible refine nq_blk_hit ?_
        | with_reducible refine nq_blk_miss rfl ?_
        | with_reducible refine nd_nil ?_
    | refine nx_cond_t rfl ?_ | refine nx_cond_f rfl ?_
    | refine nl_pass hF rfl rfl rfl ?_
    | refine nd_pass rfl rfl rfl rfl rfl ?_
    | refine nd_pass2 rfl rfl rfl (fun c => by exact (fun h => by cases h)) a_allK rfl rfl ?_
    | refine nd_pass3 rfl rfl rfl (fun c => by exact (fun h => by cases h)) rfl rfl ?_
    | (with_reducible refine hQ1 _ _ _ ?_; clear hQ1 Q1)
    )
  refine nx_loop (ι := { i : Nat // i ≤ L.length ∧ ∀ y ∈ L.take i, usP y }) (fun i => [(0, .slice sa (L.map It2.v).length sc), (5, .slice sa (L.map It2.v).length sc), (6, .int .i64 ((L.map It2.v).length : Int)), (7, .int .i64 (i.1 : Int))]) (fun _ => R) (fun _ => C) (fun i => L.length - i.1) ⟨0, Nat.zero_le _, fun y hy => by cases hy⟩ (by exact a_sub) (by exact a_subR) (by exact a_holds) (fun i => ?_)
  obtain ⟨i, hi, hno⟩ := i
  dsimp only
  by_cases hlt : i < L.length
  · obtain ⟨x, hx⟩ : ∃ x, L[i]? = some x := ⟨L[i], by simp [hlt]⟩
    have hxm : x ∈ L := List.mem_of_getElem? hx
    have hxv : (L.map It2.v)[i]? = some x.v := by rw [List.getElem?_map, hx]; rfl
    have hvx := x.vof (hok x hxm)
    have hno2 : usP x → ∀ y ∈ L.take (i + 1), usP y := fun h y hy => by
      rw [List.take_add_one, hx] at hy
      rcases List.mem_append.1 hy with hy | hy
      · exact hno y hy
      · simp at hy; rw [hy]; exact h
    have hbad : ¬ usP x → usualB L = false := fun h => decide_eq_false (fun h2 => h (h2.1 x hxm))
    clear hno
    by_cases h : usP x
    · have hn := hno2 h
      obtain ⟨h1, h2, h3, h4, h5⟩ := h
      clear hno2 hbad
      repeat' (first
    | ((first | with_reducible refine nl_op rfl ?_ | refine nd_go rfl rfl rfl ?_); intro K hK; (first
      | ((first | refine on_E hF rfl rfl ?_ | refine od_E rfl rfl ?_ | refine od_R rfl rfl ?_); (first | refine ⟨_, a_yl, ?_⟩ | refine ⟨_, yl_fieldB (T := 27) (f := 2) (q := 2) rfl rfl (by kernel_rfl), ?_⟩ | refine ⟨_, yl_fieldE (T := 27) (f := 2) (j := 2) rfl rfl a_sl (by (first | omega | (simp only [List.length_append, List.length_cons, List.length_nil, List.length_map] at *; omega))) (by kernel_rfl), ?_⟩ | refine ⟨_, yl_fieldB (T := 27) (f := 4) (q := 4) rfl rfl (by kernel_rfl), ?_⟩ | refine ⟨_, yl_fieldE (T := 27) (f := 4) (j := 4) rfl rfl a_sl (by (first | omega | (simp only [List.length_append, List.length_cons, List.length_nil, List.length_map] at *; omega))) (by kernel_rfl), ?_⟩ | refine ⟨_, yl_fieldB (T := 27) (f := 5) (q := 5) rfl rfl (by kernel_rfl), ?_⟩ | refine ⟨_, yl_fieldE (T := 27) (f := 5) (j := 5) rfl rfl a_sl (by (first | omega | (simp only [List.length_append, List.length_cons, List.length_nil, List.length_map] at *; omega))) (by kernel_rfl), ?_⟩))
      | ((first | refine on_Ec hF rfl rfl ?_ | refine od_Ec rfl rfl ?_); refine ⟨_, _, _, a_yc, ?_, ?_⟩ <;> (intro hc; try (exfalso; first | (omega; done) | exact absurd (by with_reducible rfl) hc | (simp at hc; done))))
      | ((first | (refine od_act (fun c => by exact (fun h => by cases h)) ?_; intro K2 hK2) | refine od_last (fun c => by exact (fun h => by cases h)) ?_ | skip); (first
      
      
      | (refine on_alloc hF rfl Try.zeroValue27 rfl rfl (fun B => ?_))
      | (refine on_box hF rfl rfl rfl rfl (fun B => ?_))
      | (refine on_store hF rfl rfl rfl rfl a_turn a_vof (by first | rfl | exact hsz.symm | exact hsz) ?_)
      | (refine on_storeE hF rfl rfl rfl rfl a_turn (by (first | omega | (simp only [List.length_append, List.length_cons, List.length_nil, List.length_map] at *; omega))) a_vof (by first | rfl | exact hsz) ?_)
      | (refine on_storeEF hF rfl rfl rfl rfl a_turn (by first | with_reducible assumption | rfl) (by decide) a_vof rfl ?_)
      | (refine on_storeF hF rfl rfl rfl rfl a_turn (by decide) a_vof rfl ?_)) <;> try (refine hK2 _ _ _ a_allK ?_; clear hK2 K2))) <;> (refine hK _ _ _ ?_; clear hK K))
    | with_reducible refine nx_seq ?_
        | with_reducible refine nx_region ?_
        | with_reducible refine nl_nil ?_
        | with_reducible refine nq_then_n ?_
        | with_reducible refine nx_block ?_
        | with_reducible refine nx_skip ?_
        | with_reducible refine nx_exit ?_
        | with_reducible refine nx_ret ?_
        | with_reducible refine nq_then_x ?_
        | with_reducible refine nq_then_r ?_
        | with_reducible refine nq_blk_n ?_
        | with_reducible refine nq_blk_r ?_
        | with_reducible refine nq_blk_hit ?_
        | with_reducible refine nq_blk_miss rfl ?_
        | with_reducible refine nd_nil ?_
    | refine nx_cond_t rfl ?_ | refine nx_cond_f rfl ?_
    | refine nl_pass hF rfl rfl rfl ?_
    | refine nd_pass rfl rfl rfl rfl rfl ?_
    | refine nd_pass2 rfl rfl rfl (fun c => by exact (fun h => by cases h)) a_allK rfl rfl ?_
    | refine nd_pass3 rfl rfl rfl (fun c => by exact (fun h => by cases h)) rfl rfl ?_
    | (with_reducible refine hQ1 _ _ _ ?_; clear hQ1 Q1)
    )
      all_goals (try (exfalso; dsimp only at *; omega))
      refine nx_again ⟨i + 1, by omega, hn⟩ (by dsimp only; omega) (by exact a_sub) (by exact a_subR) (by exact a_holds)
    · rw [hbad h]
      unfold usP at h
      clear hno2 hbad
      repeat' (first
    | ((first | with_reducible refine nl_op rfl ?_ | refine nd_go rfl rfl rfl ?_); intro K hK; (first
      | ((first | refine on_E hF rfl rfl ?_ | refine od_E rfl rfl ?_ | refine od_R rfl rfl ?_); (first | refine ⟨_, a_yl, ?_⟩ | refine ⟨_, yl_fieldB (T := 27) (f := 2) (q := 2) rfl rfl (by kernel_rfl), ?_⟩ | refine ⟨_, yl_fieldE (T := 27) (f := 2) (j := 2) rfl rfl a_sl (by (first | omega | (simp only [List.length_append, List.length_cons, List.length_nil, List.length_map] at *; omega))) (by kernel_rfl), ?_⟩ | refine ⟨_, yl_fieldB (T := 27) (f := 4) (q := 4) rfl rfl (by kernel_rfl), ?_⟩ | refine ⟨_, yl_fieldE (T := 27) (f := 4) (j := 4) rfl rfl a_sl (by (first | omega | (simp only [List.length_append, List.length_cons, List.length_nil, List.length_map] at *; omega))) (by kernel_rfl), ?_⟩ | refine ⟨_, yl_fieldB (T := 27) (f := 5) (q := 5) rfl rfl (by kernel_rfl), ?_⟩ | refine ⟨_, yl_fieldE (T := 27) (f := 5) (j := 5) rfl rfl a_sl (by (first | omega | (simp only [List.length_append, List.length_cons, List.length_nil, List.length_map] at *; omega))) (by kernel_rfl), ?_⟩))
      | ((first | refine on_Ec hF rfl rfl ?_ | refine od_Ec rfl rfl ?_); refine ⟨_, _, _, a_yc, ?_, ?_⟩ <;> (intro hc; try (exfalso; first | (omega; done) | exact absurd (by with_reducible rfl) hc | (simp at hc; done))))
      | ((first | (refine od_act (fun c => by exact (fun h => by cases h)) ?_; intro K2 hK2) | refine od_last (fun c => by exact (fun h => by cases h)) ?_ | skip); (first
      
      
      | (refine on_alloc hF rfl Try.zeroValue27 rfl rfl (fun B => ?_))
      | (refine on_box hF rfl rfl rfl rfl (fun B => ?_))
      | (refine on_store hF rfl rfl rfl rfl a_turn a_vof (by first | rfl | exact hsz.symm | exact hsz) ?_)
      | (refine on_storeE hF rfl rfl rfl rfl a_turn (by (first | omega | (simp only [List.length_append, List.length_cons, List.length_nil, List.length_map] at *; omega))) a_vof (by first | rfl | exact hsz) ?_)
      | (refine on_storeEF hF rfl rfl rfl rfl a_turn (by first | with_reducible assumption | rfl) (by decide) a_vof rfl ?_)
      | (refine on_storeF hF rfl rfl rfl rfl a_turn (by decide) a_vof rfl ?_)) <;> try (refine hK2 _ _ _ a_allK ?_; clear hK2 K2))) <;> (refine hK _ _ _ ?_; clear hK K))
    | with_reducible refine nx_seq ?_
        | with_reducible refine nx_region ?_
        | with_reducible refine nl_nil ?_
        | with_reducible refine nq_then_n ?_
        | with_reducible refine nx_block ?_
        | with_reducible refine nx_skip ?_
        | with_reducible refine nx_exit ?_
        | with_reducible refine nx_ret ?_
        | with_reducible refine nq_then_x ?_
        | with_reducible refine nq_then_r ?_
        | with_reducible refine nq_blk_n ?_
        | with_reducible refine nq_blk_r ?_
        | with_reducible refine nq_blk_hit ?_
        | with_reducible refine nq_blk_miss rfl ?_
        | with_reducible refine nd_nil ?_
    | refine nx_cond_t rfl ?_ | refine nx_cond_f rfl ?_
    | refine nl_pass hF rfl rfl rfl ?_
    | refine nd_pass rfl rfl rfl rfl rfl ?_
    | refine nd_pass2 rfl rfl rfl (fun c => by exact (fun h => by cases h)) a_allK rfl rfl ?_
    | refine nd_pass3 rfl rfl rfl (fun c => by exact (fun h => by cases h)) rfl rfl ?_
    | (with_reducible refine hQ1 _ _ _ ?_; clear hQ1 Q1)
    )
      all_goals (first
        | (exfalso; dsimp only at *; omega)
        | refine nx_end [] rfl () (fun a w ha hw => res_tmp Try.results6 rfl ha) (by exact a_subR) (by exact a_holds2))
  · have hall : ∀ x ∈ L, usP x := fun x hx => hno x (by rw [List.take_of_length_le (by omega)]; exact hx)
    have hu : usualB L = decide (L.length ≤ 40) := by unfold usualB; exact decide_eq_decide.2 ⟨fun h => h.2, fun h => ⟨hall, h⟩⟩
    rw [hu]
    clear hno hall hu
    repeat' (first
    | ((first | with_reducible refine nl_op rfl ?_ | refine nd_go rfl rfl rfl ?_); intro K hK; (first
      | ((first | refine on_E hF rfl rfl ?_ | refine od_E rfl rfl ?_ | refine od_R rfl rfl ?_); (first | refine ⟨_, a_yl, ?_⟩ | refine ⟨_, yl_fieldB (T := 27) (f := 2) (q := 2) rfl rfl (by kernel_rfl), ?_⟩ | refine ⟨_, yl_fieldE (T := 27) (f := 2) (j := 2) rfl rfl a_sl (by (first | omega | (simp only [List.length_append, List.length_cons, List.length_nil, List.length_map] at *; omega))) (by kernel_rfl), ?_⟩ | refine ⟨_, yl_fieldB (T := 27) (f := 4) (q := 4) rfl rfl (by kernel_rfl), ?_⟩ | refine ⟨_, yl_fieldE (T := 27) (f := 4) (j := 4) rfl rfl a_sl (by (first | omega | (simp only [List.length_append, List.length_cons, List.length_nil, List.length_map] at *; omega))) (by kernel_rfl), ?_⟩ | refine ⟨_, yl_fieldB (T := 27) (f := 5) (q := 5) rfl rfl (by kernel_rfl), ?_⟩ | refine ⟨_, yl_fieldE (T := 27) (f := 5) (j := 5) rfl rfl a_sl (by (first | omega | (simp only [List.length_append, List.length_cons, List.length_nil, List.length_map] at *; omega))) (by kernel_rfl), ?_⟩))
      | ((first | refine on_Ec hF rfl rfl ?_ | refine od_Ec rfl rfl ?_); refine ⟨_, _, _, a_yc, ?_, ?_⟩ <;> (intro hc; try (exfalso; first | (omega; done) | exact absurd (by with_reducible rfl) hc | (simp at hc; done))))
      | ((first | (refine od_act (fun c => by exact (fun h => by cases h)) ?_; intro K2 hK2) | refine od_last (fun c => by exact (fun h => by cases h)) ?_ | skip); (first
      
      
      | (refine on_alloc hF rfl Try.zeroValue27 rfl rfl (fun B => ?_))
      | (refine on_box hF rfl rfl rfl rfl (fun B => ?_))
      | (refine on_store hF rfl rfl rfl rfl a_turn a_vof (by first | rfl | exact hsz.symm | exact hsz) ?_)
      | (refine on_storeE hF rfl rfl rfl rfl a_turn (by (first | omega | (simp only [List.length_append, List.length_cons, List.length_nil, List.length_map] at *; omega))) a_vof (by first | rfl | exact hsz) ?_)
      | (refine on_storeEF hF rfl rfl rfl rfl a_turn (by first | with_reducible assumption | rfl) (by decide) a_vof rfl ?_)
      | (refine on_storeF hF rfl rfl rfl rfl a_turn (by decide) a_vof rfl ?_)) <;> try (refine hK2 _ _ _ a_allK ?_; clear hK2 K2))) <;> (refine hK _ _ _ ?_; clear hK K))
    | with_reducible refine nx_seq ?_
        | with_reducible refine nx_region ?_
        | with_reducible refine nl_nil ?_
        | with_reducible refine nq_then_n ?_
        | with_reducible refine nx_block ?_
        | with_reducible refine nx_skip ?_
        | with_reducible refine nx_exit ?_
        | with_reducible refine nx_ret ?_
        | with_reducible refine nq_then_x ?_
        | with_reducible refine nq_then_r ?_
        | with_reducible refine nq_blk_n ?_
        | with_reducible refine nq_blk_r ?_
        | with_reducible refine nq_blk_hit ?_
        | with_reducible refine nq_blk_miss rfl ?_
        | with_reducible refine nd_nil ?_
    | refine nx_cond_t rfl ?_ | refine nx_cond_f rfl ?_
    | refine nl_pass hF rfl rfl rfl ?_
    | refine nd_pass rfl rfl rfl rfl rfl ?_
    | refine nd_pass2 rfl rfl rfl (fun c => by exact (fun h => by cases h)) a_allK rfl rfl ?_
    | refine nd_pass3 rfl rfl rfl (fun c => by exact (fun h => by cases h)) rfl rfl ?_
    | (with_reducible refine hQ1 _ _ _ ?_; clear hQ1 Q1)
    )
    · rw [decide_eq_true (show L.length ≤ 40 by omega)]
      refine nx_end [] rfl () (fun a w ha hw => res_tmp Try.results6 rfl ha) (by exact a_subR) (by exact a_holds2)
    · rw [decide_eq_false (show ¬ L.length ≤ 40 by omega)]
      refine nx_end [] rfl () (fun a w ha hw => res_tmp Try.results6 rfl ha) (by exact a_subR) (by exact a_holds2)
end Law22
end Go.Proofs.Ytinofjenoapeaaa
end

section
namespace Go.Proofs.Ytinofjenoapeaaa
open Go.RowKit Go.Shelf
set_option linter.unusedSimpArgs false
set_option linter.unusedVariables false
namespace Law22
open Pl Li
variable {W0 : World} {X : Nat → Prop} {R C : List Ch}
theorem byId_first {L : List It2} {i : Nat} {x : It2} (hx : L[i]? = some x) (hno : ∀ y ∈ L.take i, y.id ≠ x.id) : Chn.byId L x.id = some x := by
  unfold Chn.byId
  obtain ⟨hi, hxe⟩ := List.getElem?_eq_some_iff.1 hx
  have h1 : L = L.take i ++ x :: L.drop (i + 1) := by rw [← hxe, ← List.drop_eq_getElem_cons hi, List.take_append_drop]
  have h2 : (L.take i).find? (fun y => decide (y.id = x.id)) = none := by
    rw [List.find?_eq_none]
    intro y hy
    simpa using hno y hy
  have h3 : (L.take i ++ x :: L.drop (i + 1)).find? (fun y => decide (y.id = x.id)) = some x := by rw [List.find?_append, h2]; simp
  rwa [← h1] at h3
theorem take_lt {α : Type} {L : List α} {i : Nat} {x : α} (hx : L[i]? = some x) {p : α → Prop} (hno : ∀ y ∈ L.take i, p y) (h : p x) : ∀ y ∈ L.take (i + 1), p y := fun y hy => by
  rw [List.take_add_one, hx] at hy
  rcases List.mem_append.1 hy with hy | hy
  · exact hno y hy
  · simp at hy; rw [hy]; exact h
theorem yl_minE {P : Program} {G : World → Prop} {m : Nat} {l : List (Nat × Value)} {d : List Deferred} {o : Oper} {x y : Operand} {ts : Array TypeId} {i j z : Int} {k k' : IntKind} (hz : min i j = z) (ho : o.op = Op.call { callee := Callee.builtin Builtin.min, args := #[x, y], argTypes := ts }) (hx : ev l x = some (.int k i)) (hy : ev l y = some (.int k' j)) : Yl P G m l d o (.int k z) := hz ▸ yl_min ho hx hy
set_option maxRecDepth 100000 in
set_option maxHeartbeats 8000000 in
theorem law_ct (s : Value) (hs : IsSl s) (L : List It2) (hok : ∀ x ∈ L, x.ok) (id far : Int) (hf : 0 ≤ far ∧ far < 256) (hsl : SlC 9 s (L.map It2.v) ∈ R) (hm : L.length * 88 ≤ 140737488355328) :
    Ct Try.prog 3 [s, .int .i64 id, .int .u8 far] W0 X R C Unit (fun _ => .bool true) (fun _ => R) (fun _ => C) := by
  intro w hw
  have hF := isWide_wide
  have uc := fun (W0 : World) (X : Nat → Prop) (R C : List Ch) h => usual_ct (W0 := W0) (X := X) (R := R) (C := C) s hs L hok h hm
  have hs0 := hs
  obtain ⟨sa, sn, sc, rfl⟩ := hs
  obtain rfl := slLen (hw.hasR hsl)
  have hlv : (L.map It2.v).length = L.length := by simp
  cases hu : usualB L with
  | false =>
    rw [hu] at uc
    refine calls_nx Try.func3 rfl Try.ntmps3 rfl ?_ hw
    repeat' (first
    | ((first | with_reducible refine nl_op rfl ?_ | refine nd_go rfl rfl rfl ?_); intro K hK; (first
      | ((first | refine on_E hF rfl rfl ?_ | refine od_E rfl rfl ?_ | refine od_R rfl rfl ?_); (first | refine ⟨_, a_yl, ?_⟩ | refine ⟨_, yl_conv_i (S := 5) (T := 3) rfl rfl (by kernel_rfl) (by kernel_rfl) (by omega), ?_⟩ | refine ⟨_, yl_fieldB (T := 27) (f := 0) (q := 0) rfl rfl (by kernel_rfl), ?_⟩ | refine ⟨_, yl_fieldE (T := 27) (f := 0) (j := 0) rfl rfl a_sl (by (first | omega | (simp only [List.length_append, List.length_cons, List.length_nil, List.length_map] at *; omega))) (by kernel_rfl), ?_⟩ | refine ⟨_, yl_fieldB (T := 27) (f := 2) (q := 2) rfl rfl (by kernel_rfl), ?_⟩ | refine ⟨_, yl_fieldE (T := 27) (f := 2) (j := 2) rfl rfl a_sl (by (first | omega | (simp only [List.length_append, List.length_cons, List.length_nil, List.length_map] at *; omega))) (by kernel_rfl), ?_⟩ | refine ⟨_, yl_fieldB (T := 27) (f := 4) (q := 4) rfl rfl (by kernel_rfl), ?_⟩ | refine ⟨_, yl_fieldE (T := 27) (f := 4) (j := 4) rfl rfl a_sl (by (first | omega | (simp only [List.length_append, List.length_cons, List.length_nil, List.length_map] at *; omega))) (by kernel_rfl), ?_⟩ | refine ⟨_, yl_fieldB (T := 27) (f := 5) (q := 5) rfl rfl (by kernel_rfl), ?_⟩ | refine ⟨_, yl_fieldE (T := 27) (f := 5) (j := 5) rfl rfl a_sl (by (first | omega | (simp only [List.length_append, List.length_cons, List.length_nil, List.length_map] at *; omega))) (by kernel_rfl), ?_⟩))
      | ((first | refine on_Ec hF rfl rfl ?_ | refine od_Ec rfl rfl ?_); refine ⟨_, _, _, a_yc, ?_, ?_⟩ <;> (intro hc; try (exfalso; first | (omega; done) | exact absurd (by with_reducible rfl) hc | (simp at hc; done))))
      | ((first | (refine od_act (fun c => by exact (fun h => by cases h)) ?_; intro K2 hK2) | refine od_last (fun c => by exact (fun h => by cases h)) ?_ | skip); (first
      | (refine on_callG hF (enters_of Try.func5 (by kernel_rfl) rfl) rfl rfl rfl rfl first_ct (fun _ => ?_))
      | (refine on_callG hF (enters_of Try.func6 (by kernel_rfl) rfl) rfl rfl rfl rfl (uc _ _ _ _ (by exact a_mem)) (fun _ => ?_))
      
      | (refine on_alloc hF rfl Try.zeroValue27 rfl rfl (fun B => ?_))
      | (refine on_box hF rfl rfl rfl rfl (fun B => ?_))
      | (refine on_store hF rfl rfl rfl rfl a_turn a_vof (by first | rfl | exact hsz.symm | exact hsz) ?_)
      | (refine on_storeE hF rfl rfl rfl rfl a_turn (by (first | omega | (simp only [List.length_append, List.length_cons, List.length_nil, List.length_map] at *; omega))) a_vof (by first | rfl | exact hsz) ?_)
      | (refine on_storeEF hF rfl rfl rfl rfl a_turn (by first | with_reducible assumption | rfl) (by decide) a_vof rfl ?_)
      | (refine on_storeF hF rfl rfl rfl rfl a_turn (by decide) a_vof rfl ?_)) <;> try (refine hK2 _ _ _ a_allK ?_; clear hK2 K2))) <;> (refine hK _ _ _ ?_; clear hK K))
    | with_reducible refine nx_seq ?_
        | with_reducible refine nx_region ?_
        | with_reducible refine nl_nil ?_
        | with_reducible refine nq_then_n ?_
        | with_reducible refine nx_block ?_
        | with_reducible refine nx_skip ?_
        | with_reducible refine nx_exit ?_
        | with_reducible refine nx_ret ?_
        | with_reducible refine nq_then_x ?_
        | with_reducible refine nq_then_r ?_
        | with_reducible refine nq_blk_n ?_
        | with_reducible refine nq_blk_r ?_
        | with_reducible refine nq_blk_hit ?_
        | with_reducible refine nq_blk_miss rfl ?_
        | with_reducible refine nd_nil ?_
    | refine nx_cond_t rfl ?_ | refine nx_cond_f rfl ?_
    | refine nl_pass hF rfl rfl rfl ?_
    | refine nd_pass rfl rfl rfl rfl rfl ?_
    | refine nd_pass2 rfl rfl rfl (fun c => by exact (fun h => by cases h)) a_allK rfl rfl ?_
    | refine nd_pass3 rfl rfl rfl (fun c => by exact (fun h => by cases h)) rfl rfl ?_
    | (with_reducible refine hQ1 _ _ _ ?_; clear hQ1 Q1)
    | (refine nd_region (id := 13) hF [0, 0, 1, 0, 1, 2, 0, 1, 0, 0, 0, 0, 0] [0, 1, 2, 3, 4, 6, 7, 8, 9, 10, 5, 11, 12] _ _ (by kernel_rfl) (by kernel_rfl) sub2_same ?_; intro Q1 hQ1))
    refine nx_end [] rfl () (fun a w ha hw => res_tmp Try.results3 rfl ha) (by exact a_subR) (by exact a_holds2)
  | true =>
    rw [hu] at uc
    obtain ⟨hus, hl40⟩ := of_decide_eq_true hu
    clear hu
    have oc := fun (W0 : World) (X : Nat → Prop) (R C : List Ch) h => Chn.of_ct (W0 := W0) (X := X) (R := R) (C := C) _ hs0 L hok id h hm
    have kn := fun (W0 : World) (X : Nat → Prop) (R C : List Ch) t h => known_ct (W0 := W0) (X := X) (R := R) (C := C) _ hs0 L hok t h hm
    have pc := fun (W0 : World) (X : Nat → Prop) (R C : List Ch) t h => parent_ct (W0 := W0) (X := X) (R := R) (C := C) _ hs0 L hok t h hm
    have lc := fun (W0 : World) (X : Nat → Prop) (R C : List Ch) t n h => Re.last_ct (W0 := W0) (X := X) (R := R) (C := C) _ hs0 L hok t n h hm
    have kc := fun (W0 : World) (X : Nat → Prop) (R C : List Ch) t n ht h => kept_ct (W0 := W0) (X := X) (R := R) (C := C) _ hs0 L hok t n ht h (by omega)
    refine calls_nx Try.func3 rfl Try.ntmps3 rfl ?_ hw
    repeat' (first
    | ((first | with_reducible refine nl_op rfl ?_ | refine nd_go rfl rfl rfl ?_); intro K hK; (first
      | ((first | refine on_E hF rfl rfl ?_ | refine od_E rfl rfl ?_ | refine od_R rfl rfl ?_); (first | refine ⟨_, a_yl, ?_⟩ | refine ⟨_, yl_conv_i (S := 5) (T := 3) rfl rfl (by kernel_rfl) (by kernel_rfl) (by omega), ?_⟩ | refine ⟨_, yl_fieldB (T := 27) (f := 0) (q := 0) rfl rfl (by kernel_rfl), ?_⟩ | refine ⟨_, yl_fieldE (T := 27) (f := 0) (j := 0) rfl rfl a_sl (by (first | omega | (simp only [List.length_append, List.length_cons, List.length_nil, List.length_map] at *; omega))) (by kernel_rfl), ?_⟩ | refine ⟨_, yl_fieldB (T := 27) (f := 2) (q := 2) rfl rfl (by kernel_rfl), ?_⟩ | refine ⟨_, yl_fieldE (T := 27) (f := 2) (j := 2) rfl rfl a_sl (by (first | omega | (simp only [List.length_append, List.length_cons, List.length_nil, List.length_map] at *; omega))) (by kernel_rfl), ?_⟩ | refine ⟨_, yl_fieldB (T := 27) (f := 4) (q := 4) rfl rfl (by kernel_rfl), ?_⟩ | refine ⟨_, yl_fieldE (T := 27) (f := 4) (j := 4) rfl rfl a_sl (by (first | omega | (simp only [List.length_append, List.length_cons, List.length_nil, List.length_map] at *; omega))) (by kernel_rfl), ?_⟩ | refine ⟨_, yl_fieldB (T := 27) (f := 5) (q := 5) rfl rfl (by kernel_rfl), ?_⟩ | refine ⟨_, yl_fieldE (T := 27) (f := 5) (j := 5) rfl rfl a_sl (by (first | omega | (simp only [List.length_append, List.length_cons, List.length_nil, List.length_map] at *; omega))) (by kernel_rfl), ?_⟩))
      | ((first | refine on_Ec hF rfl rfl ?_ | refine od_Ec rfl rfl ?_); refine ⟨_, _, _, a_yc, ?_, ?_⟩ <;> (intro hc; try (exfalso; first | (omega; done) | exact absurd (by with_reducible rfl) hc | (simp at hc; done))))
      | ((first | (refine od_act (fun c => by exact (fun h => by cases h)) ?_; intro K2 hK2) | refine od_last (fun c => by exact (fun h => by cases h)) ?_ | skip); (first
      | (refine on_callG hF (enters_of Try.func5 (by kernel_rfl) rfl) rfl rfl rfl rfl first_ct (fun _ => ?_))
      | (refine on_callG hF (enters_of Try.func6 (by kernel_rfl) rfl) rfl rfl rfl rfl (uc _ _ _ _ (by exact a_mem)) (fun _ => ?_))
      
      | (refine on_alloc hF rfl Try.zeroValue27 rfl rfl (fun B => ?_))
      | (refine on_box hF rfl rfl rfl rfl (fun B => ?_))
      | (refine on_store hF rfl rfl rfl rfl a_turn a_vof (by first | rfl | exact hsz.symm | exact hsz) ?_)
      | (refine on_storeE hF rfl rfl rfl rfl a_turn (by (first | omega | (simp only [List.length_append, List.length_cons, List.length_nil, List.length_map] at *; omega))) a_vof (by first | rfl | exact hsz) ?_)
      | (refine on_storeEF hF rfl rfl rfl rfl a_turn (by first | with_reducible assumption | rfl) (by decide) a_vof rfl ?_)
      | (refine on_storeF hF rfl rfl rfl rfl a_turn (by decide) a_vof rfl ?_)) <;> try (refine hK2 _ _ _ a_allK ?_; clear hK2 K2))) <;> (refine hK _ _ _ ?_; clear hK K))
    | with_reducible refine nx_seq ?_
        | with_reducible refine nx_region ?_
        | with_reducible refine nl_nil ?_
        | with_reducible refine nq_then_n ?_
        | with_reducible refine nx_block ?_
        | with_reducible refine nx_skip ?_
        | with_reducible refine nx_exit ?_
        | with_reducible refine nx_ret ?_
        | with_reducible refine nq_then_x ?_
        | with_reducible refine nq_then_r ?_
        | with_reducible refine nq_blk_n ?_
        | with_reducible refine nq_blk_r ?_
        | with_reducible refine nq_blk_hit ?_
        | with_reducible refine nq_blk_miss rfl ?_
        | with_reducible refine nd_nil ?_
    | refine nx_cond_t rfl ?_ | refine nx_cond_f rfl ?_
    | refine nl_pass hF rfl rfl rfl ?_
    | refine nd_pass rfl rfl rfl rfl rfl ?_
    | refine nd_pass2 rfl rfl rfl (fun c => by exact (fun h => by cases h)) a_allK rfl rfl ?_
    | refine nd_pass3 rfl rfl rfl (fun c => by exact (fun h => by cases h)) rfl rfl ?_
    | (with_reducible refine hQ1 _ _ _ ?_; clear hQ1 Q1)
    | (refine nd_region (id := 13) hF [0, 0, 1, 0, 1, 2, 0, 1, 0, 0, 0, 0, 0] [0, 1, 2, 3, 4, 6, 7, 8, 9, 10, 5, 11, 12] _ _ (by kernel_rfl) (by kernel_rfl) sub2_same ?_; intro Q1 hQ1))
    refine nx_loop (ι := { i : Nat // i ≤ L.length ∧ ∀ y ∈ L.take i, y.id ≠ id }) (fun i => [(0, .slice sa (L.map It2.v).length sc), (1, .int .i64 id), (2, .int .u8 far), (21, .slice sa (L.map It2.v).length sc), (22, .int .i64 ((L.map It2.v).length : Int)), (23, .int .i64 (i.1 : Int))]) (fun _ => R) (fun _ => C) (fun i => L.length - i.1) ⟨0, Nat.zero_le _, fun y hy => by cases hy⟩ (by exact a_sub) (by exact a_subR) (by exact a_holds) (fun i => ?_)
    obtain ⟨i, hi, hno⟩ := i
    dsimp only
    by_cases hlt : i < L.length
    · obtain ⟨x, hx⟩ : ∃ x, L[i]? = some x := ⟨L[i], by simp [hlt]⟩
      have hxm : x ∈ L := List.mem_of_getElem? hx
      have hxv : (L.map It2.v)[i]? = some x.v := by rw [List.getElem?_map, hx]; rfl
      have hvx := x.vof (hok x hxm)
      have hxu := hus x hxm
      unfold usP at hxu
      by_cases hid : x.id = id
      · subst hid
        have hby := byId_first hx hno
        have kx := fun (W0 : World) (X : Nat → Prop) (R C : List Ch) h => kn W0 X R C x.tl h
        have px := fun (W0 : World) (X : Nat → Prop) (R C : List Ch) h => pc W0 X R C x.tl h
        have lx := fun (W0 : World) (X : Nat → Prop) (R C : List Ch) h => lc W0 X R C x.tl x.a h
        have hfh := fun n h1 h2 h3 h4 h5 h6 => find_holds (n := n) hby h1 h2 h3 h4 h5 h6
        obtain ⟨ch, hch⟩ : ∃ ch, (Chn.chainOf L x.id).isSome = ch := ⟨_, rfl⟩
        obtain ⟨kb, hkb⟩ : ∃ kb, knownL L x.tl = kb := ⟨_, rfl⟩
        obtain ⟨M, hM⟩ : ∃ M, Re.last L x.tl x.a = M := ⟨_, rfl⟩
        obtain ⟨pp, hpp⟩ : ∃ p, parentP L x.tl = p := ⟨_, rfl⟩
        rw [hch] at oc hfh
        rw [hkb] at kx hfh
        rw [hM] at lx hfh
        rw [hpp] at px hfh
        clear hch hkb hpp kn pc lc hno
        cases ch with
        | false =>
          repeat' (first
    | ((first | with_reducible refine nl_op rfl ?_ | refine nd_go rfl rfl rfl ?_); intro K hK; (first
      | ((first | refine on_E hF rfl rfl ?_ | refine od_E rfl rfl ?_ | refine od_R rfl rfl ?_); (first | refine ⟨_, a_yl, ?_⟩ | refine ⟨_, yl_conv_i (S := 5) (T := 3) rfl rfl (by kernel_rfl) (by kernel_rfl) (by omega), ?_⟩ | refine ⟨_, yl_fieldB (T := 27) (f := 0) (q := 0) rfl rfl (by kernel_rfl), ?_⟩ | refine ⟨_, yl_fieldE (T := 27) (f := 0) (j := 0) rfl rfl a_sl (by (first | omega | (simp only [List.length_append, List.length_cons, List.length_nil, List.length_map] at *; omega))) (by kernel_rfl), ?_⟩ | refine ⟨_, yl_fieldB (T := 27) (f := 2) (q := 2) rfl rfl (by kernel_rfl), ?_⟩ | refine ⟨_, yl_fieldE (T := 27) (f := 2) (j := 2) rfl rfl a_sl (by (first | omega | (simp only [List.length_append, List.length_cons, List.length_nil, List.length_map] at *; omega))) (by kernel_rfl), ?_⟩ | refine ⟨_, yl_fieldB (T := 27) (f := 4) (q := 4) rfl rfl (by kernel_rfl), ?_⟩ | refine ⟨_, yl_fieldE (T := 27) (f := 4) (j := 4) rfl rfl a_sl (by (first | omega | (simp only [List.length_append, List.length_cons, List.length_nil, List.length_map] at *; omega))) (by kernel_rfl), ?_⟩ | refine ⟨_, yl_fieldB (T := 27) (f := 5) (q := 5) rfl rfl (by kernel_rfl), ?_⟩ | refine ⟨_, yl_fieldE (T := 27) (f := 5) (j := 5) rfl rfl a_sl (by (first | omega | (simp only [List.length_append, List.length_cons, List.length_nil, List.length_map] at *; omega))) (by kernel_rfl), ?_⟩))
      | ((first | refine on_Ec hF rfl rfl ?_ | refine od_Ec rfl rfl ?_); refine ⟨_, _, _, a_yc, ?_, ?_⟩ <;> (intro hc; try (exfalso; first | (omega; done) | exact absurd (by with_reducible rfl) hc | (simp at hc; done))))
      | ((first | (refine od_act (fun c => by exact (fun h => by cases h)) ?_; intro K2 hK2) | refine od_last (fun c => by exact (fun h => by cases h)) ?_ | skip); (first
      | (refine on_callG hF (enters_of Try.func7 (by kernel_rfl) rfl) rfl rfl rfl rfl (oc _ _ _ _ (by exact a_mem)) (fun v => ?_))
      
      | (refine on_alloc hF rfl Try.zeroValue27 rfl rfl (fun B => ?_))
      | (refine on_box hF rfl rfl rfl rfl (fun B => ?_))
      | (refine on_store hF rfl rfl rfl rfl a_turn a_vof (by first | rfl | exact hsz.symm | exact hsz) ?_)
      | (refine on_storeE hF rfl rfl rfl rfl a_turn (by (first | omega | (simp only [List.length_append, List.length_cons, List.length_nil, List.length_map] at *; omega))) a_vof (by first | rfl | exact hsz) ?_)
      | (refine on_storeEF hF rfl rfl rfl rfl a_turn (by first | with_reducible assumption | rfl) (by decide) a_vof rfl ?_)
      | (refine on_storeF hF rfl rfl rfl rfl a_turn (by decide) a_vof rfl ?_)) <;> try (refine hK2 _ _ _ a_allK ?_; clear hK2 K2))) <;> (refine hK _ _ _ ?_; clear hK K))
    | with_reducible refine nx_seq ?_
        | with_reducible refine nx_region ?_
        | with_reducible refine nl_nil ?_
        | with_reducible refine nq_then_n ?_
        | with_reducible refine nx_block ?_
        | with_reducible refine nx_skip ?_
        | with_reducible refine nx_exit ?_
        | with_reducible refine nx_ret ?_
        | with_reducible refine nq_then_x ?_
        | with_reducible refine nq_then_r ?_
        | with_reducible refine nq_blk_n ?_
        | with_reducible refine nq_blk_r ?_
        | with_reducible refine nq_blk_hit ?_
        | with_reducible refine nq_blk_miss rfl ?_
        | with_reducible refine nd_nil ?_
    | refine nx_cond_t rfl ?_ | refine nx_cond_f rfl ?_
    | refine nl_pass hF rfl rfl rfl ?_
    | refine nd_pass rfl rfl rfl rfl rfl ?_
    | refine nd_pass2 rfl rfl rfl (fun c => by exact (fun h => by cases h)) a_allK rfl rfl ?_
    | refine nd_pass3 rfl rfl rfl (fun c => by exact (fun h => by cases h)) rfl rfl ?_
    | (with_reducible refine hQ1 _ _ _ ?_; clear hQ1 Q1)
    | (refine nd_region (id := 13) hF [0, 0, 1, 0, 1, 2, 0, 1, 0, 0, 0, 0, 0] [0, 1, 2, 3, 4, 6, 7, 8, 9, 10, 5, 11, 12] _ _ (by kernel_rfl) (by kernel_rfl) sub2_same ?_; intro Q1 hQ1))
          all_goals (try (exfalso; dsimp only at *; omega))
          refine nx_end [] rfl () (fun a w ha hw => res_tmp Try.results3 rfl ha) (by exact a_subR) (by exact a_holds2)
        | true =>
          cases kb with
          | false =>
            repeat' (first
    | ((first | with_reducible refine nl_op rfl ?_ | refine nd_go rfl rfl rfl ?_); intro K hK; (first
      | ((first | refine on_E hF rfl rfl ?_ | refine od_E rfl rfl ?_ | refine od_R rfl rfl ?_); (first | refine ⟨_, a_yl, ?_⟩ | refine ⟨_, yl_conv_i (S := 5) (T := 3) rfl rfl (by kernel_rfl) (by kernel_rfl) (by omega), ?_⟩ | refine ⟨_, yl_fieldB (T := 27) (f := 0) (q := 0) rfl rfl (by kernel_rfl), ?_⟩ | refine ⟨_, yl_fieldE (T := 27) (f := 0) (j := 0) rfl rfl a_sl (by (first | omega | (simp only [List.length_append, List.length_cons, List.length_nil, List.length_map] at *; omega))) (by kernel_rfl), ?_⟩ | refine ⟨_, yl_fieldB (T := 27) (f := 2) (q := 2) rfl rfl (by kernel_rfl), ?_⟩ | refine ⟨_, yl_fieldE (T := 27) (f := 2) (j := 2) rfl rfl a_sl (by (first | omega | (simp only [List.length_append, List.length_cons, List.length_nil, List.length_map] at *; omega))) (by kernel_rfl), ?_⟩ | refine ⟨_, yl_fieldB (T := 27) (f := 4) (q := 4) rfl rfl (by kernel_rfl), ?_⟩ | refine ⟨_, yl_fieldE (T := 27) (f := 4) (j := 4) rfl rfl a_sl (by (first | omega | (simp only [List.length_append, List.length_cons, List.length_nil, List.length_map] at *; omega))) (by kernel_rfl), ?_⟩ | refine ⟨_, yl_fieldB (T := 27) (f := 5) (q := 5) rfl rfl (by kernel_rfl), ?_⟩ | refine ⟨_, yl_fieldE (T := 27) (f := 5) (j := 5) rfl rfl a_sl (by (first | omega | (simp only [List.length_append, List.length_cons, List.length_nil, List.length_map] at *; omega))) (by kernel_rfl), ?_⟩))
      | ((first | refine on_Ec hF rfl rfl ?_ | refine od_Ec rfl rfl ?_); refine ⟨_, _, _, a_yc, ?_, ?_⟩ <;> (intro hc; try (exfalso; first | (omega; done) | exact absurd (by with_reducible rfl) hc | (simp at hc; done))))
      | ((first | (refine od_act (fun c => by exact (fun h => by cases h)) ?_; intro K2 hK2) | refine od_last (fun c => by exact (fun h => by cases h)) ?_ | skip); (first
      | (refine on_callG hF (enters_of Try.func7 (by kernel_rfl) rfl) rfl rfl rfl rfl (oc _ _ _ _ (by exact a_mem)) (fun v => ?_))
      | (refine on_callG hF (enters_of Try.func8 (by kernel_rfl) rfl) rfl rfl rfl rfl (kx _ _ _ _ (by exact a_mem)) (fun _ => ?_))
      
      | (refine on_alloc hF rfl Try.zeroValue27 rfl rfl (fun B => ?_))
      | (refine on_box hF rfl rfl rfl rfl (fun B => ?_))
      | (refine on_store hF rfl rfl rfl rfl a_turn a_vof (by first | rfl | exact hsz.symm | exact hsz) ?_)
      | (refine on_storeE hF rfl rfl rfl rfl a_turn (by (first | omega | (simp only [List.length_append, List.length_cons, List.length_nil, List.length_map] at *; omega))) a_vof (by first | rfl | exact hsz) ?_)
      | (refine on_storeEF hF rfl rfl rfl rfl a_turn (by first | with_reducible assumption | rfl) (by decide) a_vof rfl ?_)
      | (refine on_storeF hF rfl rfl rfl rfl a_turn (by decide) a_vof rfl ?_)) <;> try (refine hK2 _ _ _ a_allK ?_; clear hK2 K2))) <;> (refine hK _ _ _ ?_; clear hK K))
    | with_reducible refine nx_seq ?_
        | with_reducible refine nx_region ?_
        | with_reducible refine nl_nil ?_
        | with_reducible refine nq_then_n ?_
        | with_reducible refine nx_block ?_
        | with_reducible refine nx_skip ?_
        | with_reducible refine nx_exit ?_
        | with_reducible refine nx_ret ?_
        | with_reducible refine nq_then_x ?_
        | with_reducible refine nq_then_r ?_
        | with_reducible refine nq_blk_n ?_
        | with_reducible refine nq_blk_r ?_
        | with_reducible refine nq_blk_hit ?_
        | with_reducible refine nq_blk_miss rfl ?_
        | with_reducible refine nd_nil ?_
    | refine nx_cond_t rfl ?_ | refine nx_cond_f rfl ?_
    | refine nl_pass hF rfl rfl rfl ?_
    | refine nd_pass rfl rfl rfl rfl rfl ?_
    | refine nd_pass2 rfl rfl rfl (fun c => by exact (fun h => by cases h)) a_allK rfl rfl ?_
    | refine nd_pass3 rfl rfl rfl (fun c => by exact (fun h => by cases h)) rfl rfl ?_
    | (with_reducible refine hQ1 _ _ _ ?_; clear hQ1 Q1)
    | (refine nd_region (id := 13) hF [0, 0, 1, 0, 1, 2, 0, 1, 0, 0, 0, 0, 0] [0, 1, 2, 3, 4, 6, 7, 8, 9, 10, 5, 11, 12] _ _ (by kernel_rfl) (by kernel_rfl) sub2_same ?_; intro Q1 hQ1))
            all_goals (try (exfalso; dsimp only at *; omega))
            refine nx_end [] rfl () (fun a w ha hw => res_tmp Try.results3 rfl ha) (by exact a_subR) (by exact a_holds2)
          | true =>
            obtain ⟨p1, fr, p3⟩ := pp
            dsimp only at px hfh
            obtain ⟨m, hmm⟩ : ∃ m, min M (x.b + far) = m := ⟨_, rfl⟩
            have hmM : m ≤ M := by omega
            have hmb : m ≤ x.b + 255 := by omega
            have kx2 := fun (W0 : World) (X : Nat → Prop) (R C : List Ch) n h => kc W0 X R C x.tl n hxu.2.2.2.2 h
            have hfk : ∀ n, x.b ≤ n → n ≤ m → fr ≤ x.a → keptB L x.tl n = true := fun n h1 h2 h3 => hfh n rfl rfl (by omega) h3 h1 (by omega)
            clear kc hfh hus
            repeat' (first
    | ((first | with_reducible refine nl_op rfl ?_ | refine nd_go rfl rfl rfl ?_); intro K hK; (first
      | ((first | refine on_E hF rfl rfl ?_ | refine od_E rfl rfl ?_ | refine od_R rfl rfl ?_); (first | refine ⟨_, yl_minE hmm rfl rfl rfl, ?_⟩ | refine ⟨_, a_yl, ?_⟩ | refine ⟨_, yl_conv_i (S := 5) (T := 3) rfl rfl (by kernel_rfl) (by kernel_rfl) (by omega), ?_⟩ | refine ⟨_, yl_fieldB (T := 27) (f := 0) (q := 0) rfl rfl (by kernel_rfl), ?_⟩ | refine ⟨_, yl_fieldE (T := 27) (f := 0) (j := 0) rfl rfl a_sl (by (first | omega | (simp only [List.length_append, List.length_cons, List.length_nil, List.length_map] at *; omega))) (by kernel_rfl), ?_⟩ | refine ⟨_, yl_fieldB (T := 27) (f := 2) (q := 2) rfl rfl (by kernel_rfl), ?_⟩ | refine ⟨_, yl_fieldE (T := 27) (f := 2) (j := 2) rfl rfl a_sl (by (first | omega | (simp only [List.length_append, List.length_cons, List.length_nil, List.length_map] at *; omega))) (by kernel_rfl), ?_⟩ | refine ⟨_, yl_fieldB (T := 27) (f := 4) (q := 4) rfl rfl (by kernel_rfl), ?_⟩ | refine ⟨_, yl_fieldE (T := 27) (f := 4) (j := 4) rfl rfl a_sl (by (first | omega | (simp only [List.length_append, List.length_cons, List.length_nil, List.length_map] at *; omega))) (by kernel_rfl), ?_⟩ | refine ⟨_, yl_fieldB (T := 27) (f := 5) (q := 5) rfl rfl (by kernel_rfl), ?_⟩ | refine ⟨_, yl_fieldE (T := 27) (f := 5) (j := 5) rfl rfl a_sl (by (first | omega | (simp only [List.length_append, List.length_cons, List.length_nil, List.length_map] at *; omega))) (by kernel_rfl), ?_⟩))
      | ((first | refine on_Ec hF rfl rfl ?_ | refine od_Ec rfl rfl ?_); refine ⟨_, _, _, a_yc, ?_, ?_⟩ <;> (intro hc; try (exfalso; first | (omega; done) | exact absurd (by with_reducible rfl) hc | (simp at hc; done))))
      | ((first | (refine od_act (fun c => by exact (fun h => by cases h)) ?_; intro K2 hK2) | refine od_last (fun c => by exact (fun h => by cases h)) ?_ | skip); (first
      | (refine on_callG hF (enters_of Try.func7 (by kernel_rfl) rfl) rfl rfl rfl rfl (oc _ _ _ _ (by exact a_mem)) (fun v => ?_))
      | (refine on_callG hF (enters_of Try.func8 (by kernel_rfl) rfl) rfl rfl rfl rfl (kx _ _ _ _ (by exact a_mem)) (fun _ => ?_))
      | (refine on_callG hF (enters_of Try.func9 (by kernel_rfl) rfl) rfl rfl rfl rfl (px _ _ _ _ (by exact a_mem)) (fun _ => ?_))
      | (refine on_callG hF (enters_of Try.func10 (by kernel_rfl) rfl) rfl rfl rfl rfl (lx _ _ _ _ (by exact a_mem)) (fun _ => ?_))
      
      | (refine on_alloc hF rfl Try.zeroValue27 rfl rfl (fun B => ?_))
      | (refine on_box hF rfl rfl rfl rfl (fun B => ?_))
      | (refine on_store hF rfl rfl rfl rfl a_turn a_vof (by first | rfl | exact hsz.symm | exact hsz) ?_)
      | (refine on_storeE hF rfl rfl rfl rfl a_turn (by (first | omega | (simp only [List.length_append, List.length_cons, List.length_nil, List.length_map] at *; omega))) a_vof (by first | rfl | exact hsz) ?_)
      | (refine on_storeEF hF rfl rfl rfl rfl a_turn (by first | with_reducible assumption | rfl) (by decide) a_vof rfl ?_)
      | (refine on_storeF hF rfl rfl rfl rfl a_turn (by decide) a_vof rfl ?_)) <;> try (refine hK2 _ _ _ a_allK ?_; clear hK2 K2))) <;> (refine hK _ _ _ ?_; clear hK K))
    | with_reducible refine nx_seq ?_
        | with_reducible refine nx_region ?_
        | with_reducible refine nl_nil ?_
        | with_reducible refine nq_then_n ?_
        | with_reducible refine nx_block ?_
        | with_reducible refine nx_skip ?_
        | with_reducible refine nx_exit ?_
        | with_reducible refine nx_ret ?_
        | with_reducible refine nq_then_x ?_
        | with_reducible refine nq_then_r ?_
        | with_reducible refine nq_blk_n ?_
        | with_reducible refine nq_blk_r ?_
        | with_reducible refine nq_blk_hit ?_
        | with_reducible refine nq_blk_miss rfl ?_
        | with_reducible refine nd_nil ?_
    | refine nx_cond_t rfl ?_ | refine nx_cond_f rfl ?_
    | refine nl_pass hF rfl rfl rfl ?_
    | refine nd_pass rfl rfl rfl rfl rfl ?_
    | refine nd_pass2 rfl rfl rfl (fun c => by exact (fun h => by cases h)) a_allK rfl rfl ?_
    | refine nd_pass3 rfl rfl rfl (fun c => by exact (fun h => by cases h)) rfl rfl ?_
    | (with_reducible refine hQ1 _ _ _ ?_; clear hQ1 Q1)
    | (refine nd_region (id := 13) hF [0, 0, 1, 0, 1, 2, 0, 1, 0, 0, 0, 0, 0] [0, 1, 2, 3, 4, 6, 7, 8, 9, 10, 5, 11, 12] _ _ (by kernel_rfl) (by kernel_rfl) sub2_same ?_; intro Q1 hQ1))
            all_goals (try (exfalso; dsimp only at *; omega))
            obtain ⟨b8, hb8⟩ : ∃ b8, b8 = B := ⟨_, rfl⟩
            subst hb8
            clear oc kx px lx hby
            refine nx_loop (ι := { z : Int // x.b ≤ z }) (fun z => [(0, .slice sa (L.map It2.v).length sc), (8, ptr b8), (12, .int .i64 fr), (14, .int .i64 m), (15, .int .i64 z.1)]) (fun _ => R) (fun _ => BoxC b8 27 x.v :: C) (fun z => (m + 1 - z.1).toNat) ⟨x.b, Int.le_refl _⟩ (by exact a_sub) (by exact a_subR) (by exact a_holds) (fun z => ?_)
            obtain ⟨z, hz⟩ := z
            dsimp only
            by_cases h1 : z ≤ m
            · by_cases h2 : fr ≤ x.a
              · have hk := hfk z hz h1 h2
                have kz := fun (W0 : World) (X : Nat → Prop) (R C : List Ch) h => kx2 W0 X R C z h
                rw [hk] at kz
                clear kx2 hfk
                repeat' (first
    | ((first | with_reducible refine nl_op rfl ?_ | refine nd_go rfl rfl rfl ?_); intro K hK; (first
      | ((first | refine on_E hF rfl rfl ?_ | refine od_E rfl rfl ?_ | refine od_R rfl rfl ?_); (first | refine ⟨_, a_yl, ?_⟩ | refine ⟨_, yl_conv_i (S := 5) (T := 3) rfl rfl (by kernel_rfl) (by kernel_rfl) (by omega), ?_⟩ | refine ⟨_, yl_fieldB (T := 27) (f := 0) (q := 0) rfl rfl (by kernel_rfl), ?_⟩ | refine ⟨_, yl_fieldE (T := 27) (f := 0) (j := 0) rfl rfl a_sl (by (first | omega | (simp only [List.length_append, List.length_cons, List.length_nil, List.length_map] at *; omega))) (by kernel_rfl), ?_⟩ | refine ⟨_, yl_fieldB (T := 27) (f := 2) (q := 2) rfl rfl (by kernel_rfl), ?_⟩ | refine ⟨_, yl_fieldE (T := 27) (f := 2) (j := 2) rfl rfl a_sl (by (first | omega | (simp only [List.length_append, List.length_cons, List.length_nil, List.length_map] at *; omega))) (by kernel_rfl), ?_⟩ | refine ⟨_, yl_fieldB (T := 27) (f := 4) (q := 4) rfl rfl (by kernel_rfl), ?_⟩ | refine ⟨_, yl_fieldE (T := 27) (f := 4) (j := 4) rfl rfl a_sl (by (first | omega | (simp only [List.length_append, List.length_cons, List.length_nil, List.length_map] at *; omega))) (by kernel_rfl), ?_⟩ | refine ⟨_, yl_fieldB (T := 27) (f := 5) (q := 5) rfl rfl (by kernel_rfl), ?_⟩ | refine ⟨_, yl_fieldE (T := 27) (f := 5) (j := 5) rfl rfl a_sl (by (first | omega | (simp only [List.length_append, List.length_cons, List.length_nil, List.length_map] at *; omega))) (by kernel_rfl), ?_⟩))
      | ((first | refine on_Ec hF rfl rfl ?_ | refine od_Ec rfl rfl ?_); refine ⟨_, _, _, a_yc, ?_, ?_⟩ <;> (intro hc; try (exfalso; first | (omega; done) | exact absurd (by with_reducible rfl) hc | (simp at hc; done))))
      | ((first | (refine od_act (fun c => by exact (fun h => by cases h)) ?_; intro K2 hK2) | refine od_last (fun c => by exact (fun h => by cases h)) ?_ | skip); (first
      | (refine on_callG hF (enters_of Try.func11 (by kernel_rfl) rfl) rfl rfl rfl rfl (kz _ _ _ _ (by exact a_mem)) (fun _ => ?_))
      
      | (refine on_alloc hF rfl Try.zeroValue27 rfl rfl (fun B => ?_))
      | (refine on_box hF rfl rfl rfl rfl (fun B => ?_))
      | (refine on_store hF rfl rfl rfl rfl a_turn a_vof (by first | rfl | exact hsz.symm | exact hsz) ?_)
      | (refine on_storeE hF rfl rfl rfl rfl a_turn (by (first | omega | (simp only [List.length_append, List.length_cons, List.length_nil, List.length_map] at *; omega))) a_vof (by first | rfl | exact hsz) ?_)
      | (refine on_storeEF hF rfl rfl rfl rfl a_turn (by first | with_reducible assumption | rfl) (by decide) a_vof rfl ?_)
      | (refine on_storeF hF rfl rfl rfl rfl a_turn (by decide) a_vof rfl ?_)) <;> try (refine hK2 _ _ _ a_allK ?_; clear hK2 K2))) <;> (refine hK _ _ _ ?_; clear hK K))
    | with_reducible refine nx_seq ?_
        | with_reducible refine nx_region ?_
        | with_reducible refine nl_nil ?_
        | with_reducible refine nq_then_n ?_
        | with_reducible refine nx_block ?_
        | with_reducible refine nx_skip ?_
        | with_reducible refine nx_exit ?_
        | with_reducible refine nx_ret ?_
        | with_reducible refine nq_then_x ?_
        | with_reducible refine nq_then_r ?_
        | with_reducible refine nq_blk_n ?_
        | with_reducible refine nq_blk_r ?_
        | with_reducible refine nq_blk_hit ?_
        | with_reducible refine nq_blk_miss rfl ?_
        | with_reducible refine nd_nil ?_
    | refine nx_cond_t rfl ?_ | refine nx_cond_f rfl ?_
    | refine nl_pass hF rfl rfl rfl ?_
    | refine nd_pass rfl rfl rfl rfl rfl ?_
    | refine nd_pass2 rfl rfl rfl (fun c => by exact (fun h => by cases h)) a_allK rfl rfl ?_
    | refine nd_pass3 rfl rfl rfl (fun c => by exact (fun h => by cases h)) rfl rfl ?_
    | (with_reducible refine hQ1 _ _ _ ?_; clear hQ1 Q1)
    | (refine nd_region (id := 13) hF [0, 0, 1, 0, 1, 2, 0, 1, 0, 0, 0, 0, 0] [0, 1, 2, 3, 4, 6, 7, 8, 9, 10, 5, 11, 12] _ _ (by kernel_rfl) (by kernel_rfl) sub2_same ?_; intro Q1 hQ1))
                all_goals (try (exfalso; dsimp only at *; omega))
                refine nx_again ⟨z + 1, by omega⟩ (by dsimp only; omega) (by exact a_sub) (by exact a_subR) (by exact a_holds)
              · repeat' (first
    | ((first | with_reducible refine nl_op rfl ?_ | refine nd_go rfl rfl rfl ?_); intro K hK; (first
      | ((first | refine on_E hF rfl rfl ?_ | refine od_E rfl rfl ?_ | refine od_R rfl rfl ?_); (first | refine ⟨_, a_yl, ?_⟩ | refine ⟨_, yl_conv_i (S := 5) (T := 3) rfl rfl (by kernel_rfl) (by kernel_rfl) (by omega), ?_⟩ | refine ⟨_, yl_fieldB (T := 27) (f := 0) (q := 0) rfl rfl (by kernel_rfl), ?_⟩ | refine ⟨_, yl_fieldE (T := 27) (f := 0) (j := 0) rfl rfl a_sl (by (first | omega | (simp only [List.length_append, List.length_cons, List.length_nil, List.length_map] at *; omega))) (by kernel_rfl), ?_⟩ | refine ⟨_, yl_fieldB (T := 27) (f := 2) (q := 2) rfl rfl (by kernel_rfl), ?_⟩ | refine ⟨_, yl_fieldE (T := 27) (f := 2) (j := 2) rfl rfl a_sl (by (first | omega | (simp only [List.length_append, List.length_cons, List.length_nil, List.length_map] at *; omega))) (by kernel_rfl), ?_⟩ | refine ⟨_, yl_fieldB (T := 27) (f := 4) (q := 4) rfl rfl (by kernel_rfl), ?_⟩ | refine ⟨_, yl_fieldE (T := 27) (f := 4) (j := 4) rfl rfl a_sl (by (first | omega | (simp only [List.length_append, List.length_cons, List.length_nil, List.length_map] at *; omega))) (by kernel_rfl), ?_⟩ | refine ⟨_, yl_fieldB (T := 27) (f := 5) (q := 5) rfl rfl (by kernel_rfl), ?_⟩ | refine ⟨_, yl_fieldE (T := 27) (f := 5) (j := 5) rfl rfl a_sl (by (first | omega | (simp only [List.length_append, List.length_cons, List.length_nil, List.length_map] at *; omega))) (by kernel_rfl), ?_⟩))
      | ((first | refine on_Ec hF rfl rfl ?_ | refine od_Ec rfl rfl ?_); refine ⟨_, _, _, a_yc, ?_, ?_⟩ <;> (intro hc; try (exfalso; first | (omega; done) | exact absurd (by with_reducible rfl) hc | (simp at hc; done))))
      | ((first | (refine od_act (fun c => by exact (fun h => by cases h)) ?_; intro K2 hK2) | refine od_last (fun c => by exact (fun h => by cases h)) ?_ | skip); (first
      
      
      | (refine on_alloc hF rfl Try.zeroValue27 rfl rfl (fun B => ?_))
      | (refine on_box hF rfl rfl rfl rfl (fun B => ?_))
      | (refine on_store hF rfl rfl rfl rfl a_turn a_vof (by first | rfl | exact hsz.symm | exact hsz) ?_)
      | (refine on_storeE hF rfl rfl rfl rfl a_turn (by (first | omega | (simp only [List.length_append, List.length_cons, List.length_nil, List.length_map] at *; omega))) a_vof (by first | rfl | exact hsz) ?_)
      | (refine on_storeEF hF rfl rfl rfl rfl a_turn (by first | with_reducible assumption | rfl) (by decide) a_vof rfl ?_)
      | (refine on_storeF hF rfl rfl rfl rfl a_turn (by decide) a_vof rfl ?_)) <;> try (refine hK2 _ _ _ a_allK ?_; clear hK2 K2))) <;> (refine hK _ _ _ ?_; clear hK K))
    | with_reducible refine nx_seq ?_
        | with_reducible refine nx_region ?_
        | with_reducible refine nl_nil ?_
        | with_reducible refine nq_then_n ?_
        | with_reducible refine nx_block ?_
        | with_reducible refine nx_skip ?_
        | with_reducible refine nx_exit ?_
        | with_reducible refine nx_ret ?_
        | with_reducible refine nq_then_x ?_
        | with_reducible refine nq_then_r ?_
        | with_reducible refine nq_blk_n ?_
        | with_reducible refine nq_blk_r ?_
        | with_reducible refine nq_blk_hit ?_
        | with_reducible refine nq_blk_miss rfl ?_
        | with_reducible refine nd_nil ?_
    | refine nx_cond_t rfl ?_ | refine nx_cond_f rfl ?_
    | refine nl_pass hF rfl rfl rfl ?_
    | refine nd_pass rfl rfl rfl rfl rfl ?_
    | refine nd_pass2 rfl rfl rfl (fun c => by exact (fun h => by cases h)) a_allK rfl rfl ?_
    | refine nd_pass3 rfl rfl rfl (fun c => by exact (fun h => by cases h)) rfl rfl ?_
    | (with_reducible refine hQ1 _ _ _ ?_; clear hQ1 Q1)
    | (refine nd_region (id := 13) hF [0, 0, 1, 0, 1, 2, 0, 1, 0, 0, 0, 0, 0] [0, 1, 2, 3, 4, 6, 7, 8, 9, 10, 5, 11, 12] _ _ (by kernel_rfl) (by kernel_rfl) sub2_same ?_; intro Q1 hQ1))
                all_goals (try (exfalso; dsimp only at *; omega))
                refine nx_end [] rfl () (fun a w ha hw => res_tmp Try.results3 rfl ha) (by exact a_subR) (by exact a_holds2)
            · repeat' (first
    | ((first | with_reducible refine nl_op rfl ?_ | refine nd_go rfl rfl rfl ?_); intro K hK; (first
      | ((first | refine on_E hF rfl rfl ?_ | refine od_E rfl rfl ?_ | refine od_R rfl rfl ?_); (first | refine ⟨_, a_yl, ?_⟩ | refine ⟨_, yl_conv_i (S := 5) (T := 3) rfl rfl (by kernel_rfl) (by kernel_rfl) (by omega), ?_⟩ | refine ⟨_, yl_fieldB (T := 27) (f := 0) (q := 0) rfl rfl (by kernel_rfl), ?_⟩ | refine ⟨_, yl_fieldE (T := 27) (f := 0) (j := 0) rfl rfl a_sl (by (first | omega | (simp only [List.length_append, List.length_cons, List.length_nil, List.length_map] at *; omega))) (by kernel_rfl), ?_⟩ | refine ⟨_, yl_fieldB (T := 27) (f := 2) (q := 2) rfl rfl (by kernel_rfl), ?_⟩ | refine ⟨_, yl_fieldE (T := 27) (f := 2) (j := 2) rfl rfl a_sl (by (first | omega | (simp only [List.length_append, List.length_cons, List.length_nil, List.length_map] at *; omega))) (by kernel_rfl), ?_⟩ | refine ⟨_, yl_fieldB (T := 27) (f := 4) (q := 4) rfl rfl (by kernel_rfl), ?_⟩ | refine ⟨_, yl_fieldE (T := 27) (f := 4) (j := 4) rfl rfl a_sl (by (first | omega | (simp only [List.length_append, List.length_cons, List.length_nil, List.length_map] at *; omega))) (by kernel_rfl), ?_⟩ | refine ⟨_, yl_fieldB (T := 27) (f := 5) (q := 5) rfl rfl (by kernel_rfl), ?_⟩ | refine ⟨_, yl_fieldE (T := 27) (f := 5) (j := 5) rfl rfl a_sl (by (first | omega | (simp only [List.length_append, List.length_cons, List.length_nil, List.length_map] at *; omega))) (by kernel_rfl), ?_⟩))
      | ((first | refine on_Ec hF rfl rfl ?_ | refine od_Ec rfl rfl ?_); refine ⟨_, _, _, a_yc, ?_, ?_⟩ <;> (intro hc; try (exfalso; first | (omega; done) | exact absurd (by with_reducible rfl) hc | (simp at hc; done))))
      | ((first | (refine od_act (fun c => by exact (fun h => by cases h)) ?_; intro K2 hK2) | refine od_last (fun c => by exact (fun h => by cases h)) ?_ | skip); (first
      
      
      | (refine on_alloc hF rfl Try.zeroValue27 rfl rfl (fun B => ?_))
      | (refine on_box hF rfl rfl rfl rfl (fun B => ?_))
      | (refine on_store hF rfl rfl rfl rfl a_turn a_vof (by first | rfl | exact hsz.symm | exact hsz) ?_)
      | (refine on_storeE hF rfl rfl rfl rfl a_turn (by (first | omega | (simp only [List.length_append, List.length_cons, List.length_nil, List.length_map] at *; omega))) a_vof (by first | rfl | exact hsz) ?_)
      | (refine on_storeEF hF rfl rfl rfl rfl a_turn (by first | with_reducible assumption | rfl) (by decide) a_vof rfl ?_)
      | (refine on_storeF hF rfl rfl rfl rfl a_turn (by decide) a_vof rfl ?_)) <;> try (refine hK2 _ _ _ a_allK ?_; clear hK2 K2))) <;> (refine hK _ _ _ ?_; clear hK K))
    | with_reducible refine nx_seq ?_
        | with_reducible refine nx_region ?_
        | with_reducible refine nl_nil ?_
        | with_reducible refine nq_then_n ?_
        | with_reducible refine nx_block ?_
        | with_reducible refine nx_skip ?_
        | with_reducible refine nx_exit ?_
        | with_reducible refine nx_ret ?_
        | with_reducible refine nq_then_x ?_
        | with_reducible refine nq_then_r ?_
        | with_reducible refine nq_blk_n ?_
        | with_reducible refine nq_blk_r ?_
        | with_reducible refine nq_blk_hit ?_
        | with_reducible refine nq_blk_miss rfl ?_
        | with_reducible refine nd_nil ?_
    | refine nx_cond_t rfl ?_ | refine nx_cond_f rfl ?_
    | refine nl_pass hF rfl rfl rfl ?_
    | refine nd_pass rfl rfl rfl rfl rfl ?_
    | refine nd_pass2 rfl rfl rfl (fun c => by exact (fun h => by cases h)) a_allK rfl rfl ?_
    | refine nd_pass3 rfl rfl rfl (fun c => by exact (fun h => by cases h)) rfl rfl ?_
    | (with_reducible refine hQ1 _ _ _ ?_; clear hQ1 Q1)
    | (refine nd_region (id := 13) hF [0, 0, 1, 0, 1, 2, 0, 1, 0, 0, 0, 0, 0] [0, 1, 2, 3, 4, 6, 7, 8, 9, 10, 5, 11, 12] _ _ (by kernel_rfl) (by kernel_rfl) sub2_same ?_; intro Q1 hQ1))
              all_goals (try (exfalso; dsimp only at *; omega))
              refine nx_end [] rfl () (fun a w ha hw => res_tmp Try.results3 rfl ha) (by exact a_subR) (by exact a_holds2)
      · repeat' (first
    | ((first | with_reducible refine nl_op rfl ?_ | refine nd_go rfl rfl rfl ?_); intro K hK; (first
      | ((first | refine on_E hF rfl rfl ?_ | refine od_E rfl rfl ?_ | refine od_R rfl rfl ?_); (first | refine ⟨_, a_yl, ?_⟩ | refine ⟨_, yl_conv_i (S := 5) (T := 3) rfl rfl (by kernel_rfl) (by kernel_rfl) (by omega), ?_⟩ | refine ⟨_, yl_fieldB (T := 27) (f := 0) (q := 0) rfl rfl (by kernel_rfl), ?_⟩ | refine ⟨_, yl_fieldE (T := 27) (f := 0) (j := 0) rfl rfl a_sl (by (first | omega | (simp only [List.length_append, List.length_cons, List.length_nil, List.length_map] at *; omega))) (by kernel_rfl), ?_⟩ | refine ⟨_, yl_fieldB (T := 27) (f := 2) (q := 2) rfl rfl (by kernel_rfl), ?_⟩ | refine ⟨_, yl_fieldE (T := 27) (f := 2) (j := 2) rfl rfl a_sl (by (first | omega | (simp only [List.length_append, List.length_cons, List.length_nil, List.length_map] at *; omega))) (by kernel_rfl), ?_⟩ | refine ⟨_, yl_fieldB (T := 27) (f := 4) (q := 4) rfl rfl (by kernel_rfl), ?_⟩ | refine ⟨_, yl_fieldE (T := 27) (f := 4) (j := 4) rfl rfl a_sl (by (first | omega | (simp only [List.length_append, List.length_cons, List.length_nil, List.length_map] at *; omega))) (by kernel_rfl), ?_⟩ | refine ⟨_, yl_fieldB (T := 27) (f := 5) (q := 5) rfl rfl (by kernel_rfl), ?_⟩ | refine ⟨_, yl_fieldE (T := 27) (f := 5) (j := 5) rfl rfl a_sl (by (first | omega | (simp only [List.length_append, List.length_cons, List.length_nil, List.length_map] at *; omega))) (by kernel_rfl), ?_⟩))
      | ((first | refine on_Ec hF rfl rfl ?_ | refine od_Ec rfl rfl ?_); refine ⟨_, _, _, a_yc, ?_, ?_⟩ <;> (intro hc; try (exfalso; first | (omega; done) | exact absurd (by with_reducible rfl) hc | (simp at hc; done))))
      | ((first | (refine od_act (fun c => by exact (fun h => by cases h)) ?_; intro K2 hK2) | refine od_last (fun c => by exact (fun h => by cases h)) ?_ | skip); (first
      
      
      | (refine on_alloc hF rfl Try.zeroValue27 rfl rfl (fun B => ?_))
      | (refine on_box hF rfl rfl rfl rfl (fun B => ?_))
      | (refine on_store hF rfl rfl rfl rfl a_turn a_vof (by first | rfl | exact hsz.symm | exact hsz) ?_)
      | (refine on_storeE hF rfl rfl rfl rfl a_turn (by (first | omega | (simp only [List.length_append, List.length_cons, List.length_nil, List.length_map] at *; omega))) a_vof (by first | rfl | exact hsz) ?_)
      | (refine on_storeEF hF rfl rfl rfl rfl a_turn (by first | with_reducible assumption | rfl) (by decide) a_vof rfl ?_)
      | (refine on_storeF hF rfl rfl rfl rfl a_turn (by decide) a_vof rfl ?_)) <;> try (refine hK2 _ _ _ a_allK ?_; clear hK2 K2))) <;> (refine hK _ _ _ ?_; clear hK K))
    | with_reducible refine nx_seq ?_
        | with_reducible refine nx_region ?_
        | with_reducible refine nl_nil ?_
        | with_reducible refine nq_then_n ?_
        | with_reducible refine nx_block ?_
        | with_reducible refine nx_skip ?_
        | with_reducible refine nx_exit ?_
        | with_reducible refine nx_ret ?_
        | with_reducible refine nq_then_x ?_
        | with_reducible refine nq_then_r ?_
        | with_reducible refine nq_blk_n ?_
        | with_reducible refine nq_blk_r ?_
        | with_reducible refine nq_blk_hit ?_
        | with_reducible refine nq_blk_miss rfl ?_
        | with_reducible refine nd_nil ?_
    | refine nx_cond_t rfl ?_ | refine nx_cond_f rfl ?_
    | refine nl_pass hF rfl rfl rfl ?_
    | refine nd_pass rfl rfl rfl rfl rfl ?_
    | refine nd_pass2 rfl rfl rfl (fun c => by exact (fun h => by cases h)) a_allK rfl rfl ?_
    | refine nd_pass3 rfl rfl rfl (fun c => by exact (fun h => by cases h)) rfl rfl ?_
    | (with_reducible refine hQ1 _ _ _ ?_; clear hQ1 Q1)
    | (refine nd_region (id := 13) hF [0, 0, 1, 0, 1, 2, 0, 1, 0, 0, 0, 0, 0] [0, 1, 2, 3, 4, 6, 7, 8, 9, 10, 5, 11, 12] _ _ (by kernel_rfl) (by kernel_rfl) sub2_same ?_; intro Q1 hQ1))
        all_goals (try (exfalso; dsimp only at *; omega))
        refine nx_again ⟨i + 1, by omega, take_lt hx hno hid⟩ (by dsimp only; omega) (by exact a_sub) (by exact a_subR) (by exact a_holds)
    · repeat' (first
    | ((first | with_reducible refine nl_op rfl ?_ | refine nd_go rfl rfl rfl ?_); intro K hK; (first
      | ((first | refine on_E hF rfl rfl ?_ | refine od_E rfl rfl ?_ | refine od_R rfl rfl ?_); (first | refine ⟨_, a_yl, ?_⟩ | refine ⟨_, yl_conv_i (S := 5) (T := 3) rfl rfl (by kernel_rfl) (by kernel_rfl) (by omega), ?_⟩ | refine ⟨_, yl_fieldB (T := 27) (f := 0) (q := 0) rfl rfl (by kernel_rfl), ?_⟩ | refine ⟨_, yl_fieldE (T := 27) (f := 0) (j := 0) rfl rfl a_sl (by (first | omega | (simp only [List.length_append, List.length_cons, List.length_nil, List.length_map] at *; omega))) (by kernel_rfl), ?_⟩ | refine ⟨_, yl_fieldB (T := 27) (f := 2) (q := 2) rfl rfl (by kernel_rfl), ?_⟩ | refine ⟨_, yl_fieldE (T := 27) (f := 2) (j := 2) rfl rfl a_sl (by (first | omega | (simp only [List.length_append, List.length_cons, List.length_nil, List.length_map] at *; omega))) (by kernel_rfl), ?_⟩ | refine ⟨_, yl_fieldB (T := 27) (f := 4) (q := 4) rfl rfl (by kernel_rfl), ?_⟩ | refine ⟨_, yl_fieldE (T := 27) (f := 4) (j := 4) rfl rfl a_sl (by (first | omega | (simp only [List.length_append, List.length_cons, List.length_nil, List.length_map] at *; omega))) (by kernel_rfl), ?_⟩ | refine ⟨_, yl_fieldB (T := 27) (f := 5) (q := 5) rfl rfl (by kernel_rfl), ?_⟩ | refine ⟨_, yl_fieldE (T := 27) (f := 5) (j := 5) rfl rfl a_sl (by (first | omega | (simp only [List.length_append, List.length_cons, List.length_nil, List.length_map] at *; omega))) (by kernel_rfl), ?_⟩))
      | ((first | refine on_Ec hF rfl rfl ?_ | refine od_Ec rfl rfl ?_); refine ⟨_, _, _, a_yc, ?_, ?_⟩ <;> (intro hc; try (exfalso; first | (omega; done) | exact absurd (by with_reducible rfl) hc | (simp at hc; done))))
      | ((first | (refine od_act (fun c => by exact (fun h => by cases h)) ?_; intro K2 hK2) | refine od_last (fun c => by exact (fun h => by cases h)) ?_ | skip); (first
      
      
      | (refine on_alloc hF rfl Try.zeroValue27 rfl rfl (fun B => ?_))
      | (refine on_box hF rfl rfl rfl rfl (fun B => ?_))
      | (refine on_store hF rfl rfl rfl rfl a_turn a_vof (by first | rfl | exact hsz.symm | exact hsz) ?_)
      | (refine on_storeE hF rfl rfl rfl rfl a_turn (by (first | omega | (simp only [List.length_append, List.length_cons, List.length_nil, List.length_map] at *; omega))) a_vof (by first | rfl | exact hsz) ?_)
      | (refine on_storeEF hF rfl rfl rfl rfl a_turn (by first | with_reducible assumption | rfl) (by decide) a_vof rfl ?_)
      | (refine on_storeF hF rfl rfl rfl rfl a_turn (by decide) a_vof rfl ?_)) <;> try (refine hK2 _ _ _ a_allK ?_; clear hK2 K2))) <;> (refine hK _ _ _ ?_; clear hK K))
    | with_reducible refine nx_seq ?_
        | with_reducible refine nx_region ?_
        | with_reducible refine nl_nil ?_
        | with_reducible refine nq_then_n ?_
        | with_reducible refine nx_block ?_
        | with_reducible refine nx_skip ?_
        | with_reducible refine nx_exit ?_
        | with_reducible refine nx_ret ?_
        | with_reducible refine nq_then_x ?_
        | with_reducible refine nq_then_r ?_
        | with_reducible refine nq_blk_n ?_
        | with_reducible refine nq_blk_r ?_
        | with_reducible refine nq_blk_hit ?_
        | with_reducible refine nq_blk_miss rfl ?_
        | with_reducible refine nd_nil ?_
    | refine nx_cond_t rfl ?_ | refine nx_cond_f rfl ?_
    | refine nl_pass hF rfl rfl rfl ?_
    | refine nd_pass rfl rfl rfl rfl rfl ?_
    | refine nd_pass2 rfl rfl rfl (fun c => by exact (fun h => by cases h)) a_allK rfl rfl ?_
    | refine nd_pass3 rfl rfl rfl (fun c => by exact (fun h => by cases h)) rfl rfl ?_
    | (with_reducible refine hQ1 _ _ _ ?_; clear hQ1 Q1)
    | (refine nd_region (id := 13) hF [0, 0, 1, 0, 1, 2, 0, 1, 0, 0, 0, 0, 0] [0, 1, 2, 3, 4, 6, 7, 8, 9, 10, 5, 11, 12] _ _ (by kernel_rfl) (by kernel_rfl) sub2_same ?_; intro Q1 hQ1))
      all_goals (try (exfalso; dsimp only at *; omega))
      refine nx_end [] rfl () (fun a w ha hw => res_tmp Try.results3 rfl ha) (by exact a_subR) (by exact a_holds2)
end Law22
end Go.Proofs.Ytinofjenoapeaaa
end

section
namespace Go.Proofs.Ytinofjenoapeaaa.planHolds
open Go.ChangeShapes Go.WideShapes Go.ChangeAt Go.RowKit
open Go.ChangeMaps (open_string shut_string)
set_option linter.unusedVariables false
open Go.Proofs.Ytinofjenoapeaaa
theorem own : ownKnob Try.prog.godebug = none := by kernel_rfl
theorem laidOut : laidOutB Try.prog = true := by kernel_rfl
set_option maxRecDepth 100000 in
theorem lifted (os : Os) (started : os.Started) (H : Type) (enc : TypeId × Value → H) :
    ReturnsInHanded {} Try.checked os 3 .any (Rows.planHoldsSpec.pre6 enc Try.prog Try.f3 Rows.planHoldsRow.domain false) (Rows.planHoldsSpec.post enc Try.prog Try.f3 false true false false) := by
  refine returnsInHanded_of_change_sized (C := Try.checked) own started (by kernel_rfl) Try.func3
    (ChangeSpec.witness6 (enc := enc) (C := Try.checked) false ⟨#[], #[.slice none 0 0, .int .i64 0, .int .u8 0], []⟩ 8 (by kernel_rfl) (by kernel_rfl) (by kernel_rfl) (by kernel_rfl)) ?_
  intro W base args ds gs before hval0 hW hcnd hsz0 _
  have hsz : (DataW.weightsEach Try.prog (Try.f3.params.toList ++ Rows.planHoldsSpec.plain.varTypes Try.prog) (ds ++ gs)).all (· ≤ reachBytes) = true := hsz0
  have hval : ∀ (j : Nat) t v, Try.f3.params[j]? = some t → args[j]? = some v → Value.okWide Try.prog W .any base t v := hval0
  have hW' := hW
  obtain ⟨p, q, hA0, hV, rfl, hfz, hnd⟩ := hW
  have hA : DataW.TrodAll enc Try.prog W 0 (fun _ => true) true Try.f3.params.toList args.toList ds p := hA0
  rw [Try.params3] at hA hval hsz
  obtain ⟨v0, vs0, d0, ds0, p0, q0, hargs, rfl, rfl, h0, r0⟩ := trodAll_cons hA
  obtain ⟨v1, vs1, d1, ds1, p1, q1, rfl, rfl, rfl, h1, r1⟩ := trodAll_cons r0
  obtain ⟨v2, vs2, d2, ds2, p2, q2, rfl, rfl, rfl, h2, r2⟩ := trodAll_cons r1
  obtain ⟨rfl, rfl, rfl⟩ := trodAll_nil r2
  obtain rfl : args = #[v0, v1, v2] := by cases args; simp_all
  obtain ⟨rfl, rfl⟩ := trodVars_none hV
  have k0 := h0
  have lt0 : ∀ x ∈ p0, x.block < W.heap.size := by obtain ⟨m, hm⟩ := k0; exact DataW.trod_lt m _ _ _ hm
  obtain ⟨a0, len0, cap0, rfl⟩ := okWide_slice Try.underlying22 (hval 0 22 v0 rfl rfl)
  obtain ⟨L0, I0, l0⟩ := its_open h0
  have z0 := slice_bound hsz (j := 0) rfl rfl Try.underlying22 (by kernel_rfl : _ = 88) h0
  obtain ⟨a1, rfl, rfl, rfl, w1⟩ := open_int Try.underlying3 (hval 1 3 v1 rfl rfl) h1
  obtain ⟨a2, rfl, rfl, rfl, w2⟩ := open_int Try.underlying5 (hval 2 5 v2 rfl rfl) h2
  clear hA0 hval0 hsz0 hsz
  refine ((Ct.retB (v := .bool true) (R := [SlC 9 (.slice a0 len0 cap0) (L0.map It2.v)]) (Law22.law_ct _ ⟨_, _, _, rfl⟩ L0 I0.ok a1 a2 (by have := wf_u8 w2; omega) List.mem_cons_self (by omega)) I0.ch)).mono fun e W' ⟨he, bel⟩ => ?_
  subst he
  exact ⟨_, rfl, _, _, _, [], _, [], hW', trodAll_mk1 (shut_bool Try.underlying4 _), (trodAll_cons_mk (Below.trod laidOut (by kernel_rfl) (of_decide_eq_true (by kernel_rfl)) k0 bel lt0) (trodAll_cons_mk (shut_int Try.underlying3 w1) (trodAll_cons_mk (shut_int Try.underlying5 w2) trodAll_mk0))), rfl, bel.frame _, fun h => by cases h⟩
theorem over : Rows.planHoldsRow.holds Try.pinned (OpenSpec.ofChange Rows.planHoldsSpec) :=
  OpenClaim.holds_of_wide 3 Try.f3 rfl rfl rfl rfl rfl rfl rfl ⟨rfl, rfl, rfl, rfl, rfl⟩ rfl rfl rfl rfl rfl (by kernel_rfl) Try.func3 (by kernel_rfl)
    (of_decide_eq_true (by kernel_rfl)) (by unfold Func.isWrapper; first | (rw [if_pos (by decide +kernel)]; kernel_rfl) | (rw [if_neg (by decide +kernel)]; exact ⟨rfl, rfl⟩))
    (fun os started H enc _ => lifted os started H enc)
theorem proved : Rows.PlanHoldsSaid := over
end Go.Proofs.Ytinofjenoapeaaa.planHolds
namespace Go.Proofs.Ytinofjenoapeaaa
/-- The row, under a short name, for the claim. -/
theorem planHolds_holds : Rows.PlanHoldsSaid := planHolds.proved
end Go.Proofs.Ytinofjenoapeaaa
end
