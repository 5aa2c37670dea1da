/- The statement MarksPlaySaid: it returns true at every input, and leaves the input as it was. No condition. -/
import Derived.Test.YtigbglagfbbmjaaRows
import Derived.Test.YtigbglagfbbmjaaRowArr
import Derived.WalkKit
import Derived.ProofKit
import Derived.OpenShut
import Derived.ShutString
import Derived.ChangeOld
import Derived.Below
import Derived.SizedLaws
import Derived.Test.YtigbglagfbbmjaaLaw12P
import Derived.Test.YtigbglagfbbmjaaRowOp
namespace Go.Proofs.Ytigbglagfbbmjaa
open Go.RowKit Go.Shelf
namespace Law12
variable {W0 : World} {X : Nat → Prop} {R C : List Ch}
theorem play_ct (kb n0 : Int) (s : Value) (hs : IsSl s) (L : List Opn) (hL : ∀ p ∈ L, p.wf) (h0 : SlC 2 s (L.map Opn.v) ∈ R) (h1 : ∀ p ∈ L, SlC 2 p.s (p.ws.map Wr.v) ∈ R) (hm : L.length ≤ 10000000000000) :
    Ct Try.prog 10 [.int .i64 kb, .int .i64 n0, s] W0 X R C Unit (fun _ => .bool true) (fun _ => R) (fun _ => C) := by
  by_cases h : 1 ≤ kb ∧ kb ≤ 64 ∧ 0 ≤ n0 ∧ n0 ≤ 1099511627776
  · obtain ⟨k, rfl⟩ := Int.eq_ofNat_of_zero_le (show 0 ≤ kb by omega)
    exact playO_ct k n0 (by omega) s hs L hL h0 h1 hm
  · exact playE_ct kb n0 s h
end Law12
end Go.Proofs.Ytigbglagfbbmjaa
namespace Go.Proofs.Ytigbglagfbbmjaa.marksPlay
open Go.ChangeShapes Go.WideShapes Go.ChangeAt Go.RowKit
open Go.ChangeMaps (open_string shut_string)
set_option linter.unusedVariables false
open Go.Proofs.Ytigbglagfbbmjaa
theorem own : ownKnob Try.prog.godebug = none := by kernel_rfl
theorem laidOut : laidOutB Try.prog = true := by kernel_rfl
set_option maxRecDepth 100000 in
theorem lifted (os : Os) (started : os.Started) (H : Type) (enc : TypeId × Value → H) :
    ReturnsInHanded {} Try.checked os 10 .any (Rows.marksPlaySpec.pre6 enc Try.prog Try.f10 Rows.marksPlayRow.domain false) (Rows.marksPlaySpec.post enc Try.prog Try.f10 false true false false) := by
  refine returnsInHanded_of_change_sized (C := Try.checked) own started (by kernel_rfl) Try.func10
    (ChangeSpec.witness6 (enc := enc) (C := Try.checked) false ⟨#[], #[.int .i64 0, .int .i64 0, .slice none 0 0], []⟩ 8 (by kernel_rfl) (by kernel_rfl) (by kernel_rfl) (by kernel_rfl)) ?_
  intro W base args ds gs before hval0 hW hcnd hsz0 _
  have hsz : (DataW.weightsEach Try.prog (Try.f10.params.toList ++ Rows.marksPlaySpec.plain.varTypes Try.prog) (ds ++ gs)).all (· ≤ reachBytes) = true := hsz0
  have hval : ∀ (j : Nat) t v, Try.f10.params[j]? = some t → args[j]? = some v → Value.okWide Try.prog W .any base t v := hval0
  have hW' := hW
  obtain ⟨p, q, hA0, hV, rfl, hfz, hnd⟩ := hW
  have hA : DataW.TrodAll enc Try.prog W 0 (fun _ => true) true Try.f10.params.toList args.toList ds p := hA0
  rw [Try.params10] at hA hval hsz
  obtain ⟨v0, vs0, d0, ds0, p0, q0, hargs, rfl, rfl, h0, r0⟩ := trodAll_cons hA
  obtain ⟨v1, vs1, d1, ds1, p1, q1, rfl, rfl, rfl, h1, r1⟩ := trodAll_cons r0
  obtain ⟨v2, vs2, d2, ds2, p2, q2, rfl, rfl, rfl, h2, r2⟩ := trodAll_cons r1
  obtain ⟨rfl, rfl, rfl⟩ := trodAll_nil r2
  obtain rfl : args = #[v0, v1, v2] := by cases args; simp_all
  obtain ⟨rfl, rfl⟩ := trodVars_none hV
  obtain ⟨a0, rfl, rfl, rfl, w0⟩ := open_int Try.underlying3 (hval 0 3 v0 rfl rfl) h0
  obtain ⟨a1, rfl, rfl, rfl, w1⟩ := open_int Try.underlying3 (hval 1 3 v1 rfl rfl) h1
  have k2 := h2
  have lt2 : ∀ x ∈ p2, x.block < W.heap.size := by obtain ⟨m, hm⟩ := k2; exact DataW.trod_lt m _ _ _ hm
  obtain ⟨a2, len2, cap2, rfl⟩ := okWide_slice Try.underlying76 (hval 2 76 v2 rfl rfl)
  obtain ⟨L2, I2, l2⟩ := ops_open Try.underlying76 h2
  have z2 := slice_bound hsz (j := 2) rfl rfl Try.underlying76 (by kernel_rfl : _ = 32) h2
  clear hA0 hval0 hsz0 hsz
  refine ((Ct.retB (v := .bool true) (R := OpsS.chs (.slice a2 len2 cap2) L2) (Law12.play_ct a0 a1 _ ⟨_, _, _, rfl⟩ L2 (fun p hp => (I2.inner p hp).1) List.mem_cons_self (fun p hp => List.mem_cons_of_mem _ (List.mem_map.2 ⟨p, hp, rfl⟩)) (by omega)) I2.ch)).mono fun e W' ⟨he, bel⟩ => ?_
  subst he
  exact ⟨_, rfl, _, _, _, [], _, [], hW', trodAll_mk1 (shut_bool Try.underlying4 _), (trodAll_cons_mk (shut_int Try.underlying3 w0) (trodAll_cons_mk (shut_int Try.underlying3 w1) (trodAll_cons_mk (Below.trod laidOut (by kernel_rfl) (of_decide_eq_true (by kernel_rfl)) k2 bel lt2) trodAll_mk0))), rfl, bel.frame _, fun h => by cases h⟩
theorem over : Rows.marksPlayRow.holds Try.pinned (OpenSpec.ofChange Rows.marksPlaySpec) :=
  OpenClaim.holds_of_wide 10 Try.f10 rfl rfl rfl rfl rfl rfl rfl ⟨rfl, rfl, rfl, rfl, rfl⟩ rfl rfl rfl rfl rfl (by kernel_rfl) Try.func10 (by kernel_rfl)
    (of_decide_eq_true (by kernel_rfl)) (by unfold Func.isWrapper; first | (rw [if_pos (by decide +kernel)]; kernel_rfl) | (rw [if_neg (by decide +kernel)]; exact ⟨rfl, rfl⟩))
    (fun os started H enc _ => lifted os started H enc)
theorem proved : Rows.MarksPlaySaid := over
end Go.Proofs.Ytigbglagfbbmjaa.marksPlay
namespace Go.Proofs.Ytigbglagfbbmjaa
/-- The row, under a short name, for the claim. -/
theorem marksPlay_holds : Rows.MarksPlaySaid := marksPlay.proved
end Go.Proofs.Ytigbglagfbbmjaa
