/- The contract of slices.Values at one element type: what the iterator value gives. Condition: the slice reads as the list. -/
import Derived.Test.YtigbglagfbbmjaaQ4
import Derived.Test.YtigbglagfbbmjaaProg
import Derived.Lib.Hide
namespace Go.Proofs.Ytigbglagfbbmjaa
open Go.RowKit Go.Shelf
set_option linter.unusedSimpArgs false
set_option linter.unusedVariables false
attribute [local go_sem] Oper.semAt_some

namespace Item
set_option maxRecDepth 100000 in
set_option maxHeartbeats 400000 in
theorem values1 (Bs : Nat) (sv : Value) (xs : List Value) (w : World) (hv : ∀ x ∈ xs, VOf Try.prog 35 x) (hm : xs.length ≤ maxLen) (hbs : BoxV w Bs 22 sv) (hs : SliceAt w 9 sv xs) :
    SeqOf Try.prog (fun v => #[v]) xs (valFp Bs sv) w 142 #[.pointer (some ⟨Bs, 0, none⟩)] := by
  intro W y J Jx O hW hO hJ hJx hY h0
  have hbs' : BoxV W Bs 22 sv := (hW Bs (.inl rfl)).2.trans hbs
  have hs' : SliceAt W 9 sv xs := hs.same (fun b hb => (hW b (.inr hb)).2)
  have hFp : ∀ k, valFp Bs sv k → k < W.heap.size := fun k hk => (hW k hk).1
  have hF := isWide_wide
  unfold maxLen at hm
  have HV := Lib.hid hv
  have HJ := Lib.hid hJ
  have HJx := Lib.hid hJx
  have HY := Lib.hid hY
  have HO := Lib.hid hO
  have HFp := Lib.hid hFp
  clear hW hbs hs hv hJ hJx hY hO hFp
  obtain ⟨A, c, rfl, hc, hA, hx⟩ := hs'
  have HX := Lib.hid hx
  clear hx hA hc
  refine calls_enter Try.func142 rfl ?_
  simp only [Try.ntmps142, List.size_toArray, List.length_cons, List.length_nil, Nat.reduceAdd, Nat.reduceSub, Array.replicate_succ, Array.replicate_zero, List.push_toArray, List.append_toArray, List.nil_append, List.cons_append]
  have hcell := hbs'.cell rfl
  gi_wp2_with fail
  gi_loopw [7] (fun i wr => ∃ pre post O', xs = pre ++ post ∧ i = .int .i64 pre.length ∧ J pre O' wr ∧ Apart (valFp Bs (.slice A xs.length c)) O' wr ∧ W.heap.size ≤ wr.heap.size ∧ (∀ k, valFp Bs (.slice A xs.length c) k → wr.heap[k]? = W.heap[k]?))
    (fun i wr => xs.length - (intOf i).toNat)
  case atStart => exact ⟨[], xs, O, rfl, rfl, h0, HO.out, Nat.le_refl _, fun _ _ => rfl⟩
  case round =>
    obtain ⟨pre, post, O', he, rfl, hj, hap, hsz, hsame⟩ := hrel
    have hlen : xs.length = pre.length + post.length := by rw [he]; simp
    cases post with
    | nil =>
      have hlt : ¬ ((pre.length : Int) < xs.length) := by rw [he]; simp
      have HE := Lib.hid he
      have HL := Lib.hid hlen
      clear he hlen
      gi_wp2
      go_end0
      exact ⟨rfl, .inl ⟨O', by rw [HE.out]; simpa using hj⟩⟩
    | cons x post =>
      have hlt : ((pre.length : Int) < xs.length) := by rw [hlen]; simp; omega
      have hlt2 : (pre.length : Int) < 9223372036854775807 := by omega
      obtain ⟨b, o, rfl, hr⟩ := HX.out pre.length x (by rw [he]; simp)
      have hvx := HV.out x (by rw [he]; simp)
      have hr' : wr.rangeAt b (o + pre.length * 9) (cv x).toList := fun j u hu => (World.cell?_of_block (hsame b (.inr rfl))).trans (hr j u hu)
      have hxs : (9 : Nat) = (cv x).size := by have := hvx.size; rw [show (Try.prog.info? 35).map (·.size) = some 9 from by kernel_rfl] at this; simpa using this
      have hbx := BoxV.new wr 35 x
      have HE := Lib.hid he
      have HL := Lib.hid hlen
      have HXS := Lib.hid hxs
      have HVX := Lib.hid hvx
      have HSM := Lib.hid hsame
      have HAP := Lib.hid hap
      have HR := Lib.hid hr'
      have HB := Lib.hid hbx
      clear he hlen hxs hvx hr' hr hbx hsame hap
      gi_wp2_with ((with_reducible show wpListIn _ _ _ _ _ _ _ _); (first | (refine wpListIn_newv (v := x) hF rfl rfl 35 rfl Try.zeroValue35 _ _ rfl rfl rfl HVX.out HXS.out ?_) | (refine wpListIn_loadv (v := x) hF rfl 35 _ rfl rfl HVX.out HR.out ?_) | (refine wpListIn_loadbox (v := x) hF rfl 35 _ rfl rfl HB.out HVX.out ?_) | (refine wpListIn_ycall (y := y) (args := #[x]) hF rfl rfl rfl rfl ?_)))
      have hap0 := HAP.out
      have hFa : ∀ k, valFp Bs (.slice (some ⟨b, o, none⟩) xs.length c) k → k < (wr.alloc (.cells (cv x) 35)).heap.size := fun k hk => by have := HFp.out k hk; simp; omega
      refine (HY.out pre x post _ O' HE.out (HJ.out _ _ _ _ hj (Touch.alloc _ _ _))).mono ?_
      rintro e B (⟨rfl, O'', hj3, hst⟩ | ⟨rfl, O'', hjx, hst⟩)
      · have HAP3 := Lib.hid ((hap0.grow (by simp)).step hFa hst)
        have HSM3 : Hid (∀ k, valFp Bs (.slice (some ⟨b, o, none⟩) xs.length c) k → B.heap[k]? = W.heap[k]?) := fun k hk =>
          (hst.same (hap0.grow (by simp)) hFa hk).trans ((Below.heap_alloc _ _ _ (by have := HFp.out k hk; omega)).trans (HSM.out k hk))
        have hszB : W.heap.size ≤ B.heap.size := by have := hst.touch.size; simp at this; omega
        have HST := Lib.hid hst
        clear hst hap0 hFa
        dsimp only [yNext]
        gi_wp2_with fail
        go_roundw
        case rel => exact ⟨pre ++ [x], post, O'', by rw [HE.out]; simp, by simp, hj3, HAP3.out, hszB, HSM3.out⟩
        case measure => have := HL.out; simp [intOf]; omega
      · clear hap0 hFa
        have HST := Lib.hid hst
        clear hst
        dsimp only [yNext]
        gi_wp2_with fail
        refine bodyPost_ret (results_none rfl _ _ _) rfl ?_
        exact ⟨rfl, .inr ⟨O'', hjx⟩⟩

end Item
end Go.Proofs.Ytigbglagfbbmjaa
