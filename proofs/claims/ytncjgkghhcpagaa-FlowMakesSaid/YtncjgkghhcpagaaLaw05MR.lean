/- The statement FlowMakesSaid: it returns true at every input, and leaves the input as it was. No condition. -/
import Derived.Test.YtncjgkghhcpagaaRows
import Derived.Test.YtncjgkghhcpagaaRowArr
import Derived.WalkKit
import Derived.ProofKit
import Derived.OpenShut
import Derived.ShutString
import Derived.ChangeOld
import Derived.Below
import Derived.SizedLaws
import Derived.Test.YtncjgkghhcpagaaLaw05M
import Derived.Test.YtncjgkghhcpagaaRowInts
namespace Go.Proofs.Ytncjgkghhcpagaa.flowMakes
open Go.ChangeShapes Go.WideShapes Go.ChangeAt Go.RowKit
open Go.ChangeMaps (open_string shut_string)
set_option linter.unusedVariables false
open Go.Proofs.Ytncjgkghhcpagaa
theorem own : ownKnob Try.prog.godebug = none := by kernel_rfl
theorem laidOut : laidOutB Try.prog = true := by kernel_rfl
set_option maxRecDepth 100000 in
theorem lifted (os : Os) (started : os.Started) (H : Type) (enc : TypeId × Value → H) :
    ReturnsInHanded {} Try.checked os 5 .any (Rows.flowMakesSpec.pre6 enc Try.prog Try.f5 Rows.flowMakesRow.domain false) (Rows.flowMakesSpec.post enc Try.prog Try.f5 false true false false) := by
  refine returnsInHanded_of_change_sized (C := Try.checked) own started (by kernel_rfl) Try.func5
    (ChangeSpec.witness6 (enc := enc) (C := Try.checked) false ⟨#[], #[.slice none 0 0, .slice none 0 0, .agg #[.int .i64 0, .int .i64 0]], []⟩ 8 (by kernel_rfl) (by kernel_rfl) (by kernel_rfl) (by kernel_rfl)) ?_
  intro W base args ds gs before hval0 hW hcnd hsz0 _
  have hsz : (DataW.weightsEach Try.prog (Try.f5.params.toList ++ Rows.flowMakesSpec.plain.varTypes Try.prog) (ds ++ gs)).all (· ≤ reachBytes) = true := hsz0
  have hval : ∀ (j : Nat) t v, Try.f5.params[j]? = some t → args[j]? = some v → Value.okWide Try.prog W .any base t v := hval0
  have hW' := hW
  obtain ⟨p, q, hA0, hV, rfl, hfz, hnd⟩ := hW
  have hA : DataW.TrodAll enc Try.prog W 0 (fun _ => true) true Try.f5.params.toList args.toList ds p := hA0
  rw [Try.params5] at hA hval hsz
  obtain ⟨v0, vs0, d0, ds0, p0, q0, hargs, rfl, rfl, h0, r0⟩ := trodAll_cons hA
  obtain ⟨v1, vs1, d1, ds1, p1, q1, rfl, rfl, rfl, h1, r1⟩ := trodAll_cons r0
  obtain ⟨v2, vs2, d2, ds2, p2, q2, rfl, rfl, rfl, h2, r2⟩ := trodAll_cons r1
  obtain ⟨rfl, rfl, rfl⟩ := trodAll_nil r2
  obtain rfl : args = #[v0, v1, v2] := by cases args; simp_all
  obtain ⟨rfl, rfl⟩ := trodVars_none hV
  have k0 := h0
  have lt0 : ∀ x ∈ p0, x.block < W.heap.size := by obtain ⟨m, hm⟩ := k0; exact DataW.trod_lt m _ _ _ hm
  obtain ⟨a0, len0, cap0, rfl⟩ := okWide_slice Try.underlying22 (hval 0 22 v0 rfl rfl)
  obtain ⟨L0, I0, l0, w0, y0⟩ := ints_open hsz (j := 0) rfl rfl Try.underlying22 Try.underlying3 (by kernel_rfl) (B := 8) (by kernel_rfl) h0
  have k1 := h1
  have lt1 : ∀ x ∈ p1, x.block < W.heap.size := by obtain ⟨m, hm⟩ := k1; exact DataW.trod_lt m _ _ _ hm
  obtain ⟨a1, len1, cap1, rfl⟩ := okWide_slice Try.underlying22 (hval 1 22 v1 rfl rfl)
  obtain ⟨L1, I1, l1, w1, y1⟩ := ints_open hsz (j := 1) rfl rfl Try.underlying22 Try.underlying3 (by kernel_rfl) (B := 8) (by kernel_rfl) h1
  have k2 := h2
  have lt2 : ∀ x ∈ p2, x.block < W.heap.size := by obtain ⟨m, hm⟩ := k2; exact DataW.trod_lt m _ _ _ hm
  obtain ⟨L2, l2, e2, w2⟩ := arr_open Try.underlying45 Try.underlying3 (by kernel_rfl) (by kernel_rfl) (hval 2 45 v2 rfl rfl) h2
  obtain ⟨a2_0, a2_1, rfl⟩ : ∃ a2_0 a2_1, L2 = [a2_0, a2_1] := by match L2, l2 with | [a2_0, a2_1], _ => exact ⟨_, _, rfl⟩
  have e2_ : v2 = .agg #[.int .i64 a2_0, .int .i64 a2_1] := e2
  clear e2
  subst e2_
  have w2_0 := w2 a2_0 (by simp)
  have w2_1 := w2 a2_1 (by simp)
  clear hA0 hval0 hsz0 hsz
  refine ((Ct.retB (v := .bool true) (R := [SlC 1 (.slice a0 len0 cap0) (L0.map (.int .i64)), SlC 1 (.slice a1 len1 cap1) (L1.map (.int .i64))]) (Law05.makes_ct _ _ ⟨_, _, _, rfl⟩ ⟨_, _, _, rfl⟩ L0 L1 a2_0 a2_1 (wf_i64 w2_1) (by simp) (by simp) (by omega) (by omega)) (fun r hr => by rcases List.mem_cons.1 hr with rfl | hr; exact ints_ch I0; obtain rfl := List.mem_singleton.1 hr; exact ints_ch I1))).mono fun e W' ⟨he, bel⟩ => ?_
  subst he
  exact ⟨_, rfl, _, _, _, [], _, [], hW', trodAll_mk1 (shut_bool Try.underlying4 _), (trodAll_cons_mk (Below.trod laidOut (by kernel_rfl) (of_decide_eq_true (by kernel_rfl)) k0 bel lt0) (trodAll_cons_mk (Below.trod laidOut (by kernel_rfl) (of_decide_eq_true (by kernel_rfl)) k1 bel lt1) (trodAll_cons_mk (Below.trod laidOut (by kernel_rfl) (of_decide_eq_true (by kernel_rfl)) k2 bel lt2) trodAll_mk0))), rfl, bel.frame _, fun h => by cases h⟩
theorem over : Rows.flowMakesRow.holds Try.pinned (OpenSpec.ofChange Rows.flowMakesSpec) :=
  OpenClaim.holds_of_wide 5 Try.f5 rfl rfl rfl rfl rfl rfl rfl ⟨rfl, rfl, rfl, rfl, rfl⟩ rfl rfl rfl rfl rfl (by kernel_rfl) Try.func5 (by kernel_rfl)
    (of_decide_eq_true (by kernel_rfl)) (by unfold Func.isWrapper; first | (rw [if_pos (by decide +kernel)]; kernel_rfl) | (rw [if_neg (by decide +kernel)]; exact ⟨rfl, rfl⟩))
    (fun os started H enc _ => lifted os started H enc)
theorem proved : Rows.FlowMakesSaid := over
end Go.Proofs.Ytncjgkghhcpagaa.flowMakes
namespace Go.Proofs.Ytncjgkghhcpagaa
/-- The row, under a short name, for the claim. -/
theorem flowMakes_holds : Rows.FlowMakesSaid := flowMakes.proved
end Go.Proofs.Ytncjgkghhcpagaa
