/- The contract of flow.Keep at one element type: it gives those of the sequence that are so. Condition: the arguments are an iterator value and a predicate. -/
import Derived.Test.YtigbglagfbbmjaaFlowItem
namespace Go.Proofs.Ytigbglagfbbmjaa
open Go.RowKit Go.Shelf
set_option linter.unusedSimpArgs false
set_option linter.unusedVariables false
attribute [local go_sem] Oper.semAt_some
namespace Item

theorem vof_seq (s : Value) (h : ∃ f lb, s = .func f #[] lb) : VOf Try.prog 108 s := by
  obtain ⟨f, lb, rfl⟩ := h
  exact vof_one Try.underlying108 rfl (by kernel_rfl) rfl rfl
theorem vof_fn (s : Value) (h : ∃ f lb, s = .func f #[] lb) : VOf Try.prog 110 s := by
  obtain ⟨f, lb, rfl⟩ := h
  exact vof_one Try.underlying110 rfl (by kernel_rfl) rfl rfl

def keepI (p : Value → Bool) (J : List Value → (Nat → Prop) → World → Prop) (FA : Nat → Prop) (W1 : World) (pre : List Value) (Oi : Nat → Prop) (A : World) : Prop :=
  ∃ Oo, J (pre.filter p) Oo A ∧ (∀ k, Oo k → Oi k) ∧ Apart FA Oo A ∧ (∀ k, FA k → A.heap[k]? = W1.heap[k]?)
def keepIx (Jx : Unit → (Nat → Prop) → World → Prop) (c : Code) (Oi : Nat → Prop) (A : World) : Prop := c = .ret ∧ ∃ Oo, Jx () Oo A ∧ (∀ k, Oo k → Oi k)
def keepM (tm : Value → Nat → Array Value) (p : Value → Bool) (J : List Value → (Nat → Prop) → World → Prop) (FA : Nat → Prop) (W1 : World) (pre : List Value) (x : Value) (O1 : Nat → Prop) (a1 : Act) (A : World) : Prop :=
  ∃ X Oo, a1 = { tmps := tm x X, defers := [] } ∧ BoxV A X 35 x ∧ O1 X ∧ ¬ Oo X ∧ J (pre.filter p) Oo A ∧ (∀ k, Oo k → O1 k) ∧ Apart FA Oo A ∧ (∀ k, FA k → A.heap[k]? = W1.heap[k]?)

def keepFp (B0 B1 : Nat) (Fs Fp : Nat → Prop) : Nat → Prop := fun k => k = B0 ∨ k = B1 ∨ Fs k ∨ Fp k

set_option maxRecDepth 100000 in
set_option maxHeartbeats 400000 in
theorem keep1 (B0 B1 : Nat) (s f : Value) (xs : List Value) (p : Value → Bool) (Fs Fp : Nat → Prop) (w : World) (hs : IsSeq Try.prog xs Fs w s) (hp : IsPred Try.prog xs p Fp w f) (hv : ∀ x ∈ xs, VOf Try.prog 35 x)
    (hb0 : BoxV w B0 108 s) (hb1 : BoxV w B1 110 f) :
    SeqOf Try.prog (fun v => #[v]) (xs.filter p) (keepFp B0 B1 Fs Fp) w 138 #[.pointer (some ⟨B0, 0, none⟩), .pointer (some ⟨B1, 0, none⟩)] := by
  intro W y J Jx O hW hO hJ hJx hY h0
  obtain ⟨gs, ls, rfl, egs, hseq, hfs⟩ := hs
  obtain ⟨gp, lp, rfl, egp, hfp, hpred⟩ := hp
  have c0 : BoxV W B0 108 (.func (.func gs) #[] ls) := (hW B0 (.inl rfl)).2.trans hb0
  have c1 : BoxV W B1 110 (.func (.func gp) #[] lp) := (hW B1 (.inr (.inl rfl))).2.trans hb1
  have hF := isWide_wide
  obtain ⟨W1, hW1⟩ : ∃ W1, W1 = W.alloc (.cells (cv y) 110) := ⟨_, rfl⟩
  have hs1 : W1.heap.size = W.heap.size + 1 := by rw [hW1]; simp
  have hold : ∀ k, k < W.heap.size → W1.heap[k]? = W.heap[k]? := fun k hk => by rw [hW1]; exact Below.heap_alloc _ _ _ hk
  have d0 : BoxV W1 B0 108 (.func (.func gs) #[] ls) := (hold B0 c0.lt).trans c0
  have d1 : BoxV W1 B1 110 (.func (.func gp) #[] lp) := (hold B1 c1.lt).trans c1
  have dy : BoxV W1 W.heap.size 110 y := by rw [hW1]; exact BoxV.new _ _ _
  have vs := vof_seq (.func (.func gs) #[] ls) ⟨_, _, rfl⟩
  have vf := vof_fn (.func (.func gp) #[] lp) ⟨_, _, rfl⟩
  have ege := (enters_of Try.func137 (by kernel_rfl) rfl)
  have D0 := Lib.hid d0
  have VS := Lib.hid vs
  have HW1 := Lib.hid hW1
  have HY := Lib.hid hY
  have HV := Lib.hid hv
  have HW := Lib.hid hW
  have HO := Lib.hid hO
  have HJ := Lib.hid hJ
  have HJx := Lib.hid hJx
  have HSEQ := Lib.hid hseq
  have HPRED := Lib.hid hpred
  have HOLD := Lib.hid hold
  have HS1 := Lib.hid hs1
  have D1 := Lib.hid d1
  have DY := Lib.hid dy
  have VF := Lib.hid vf
  have HFS := Lib.hid hfs
  have egso := (enters_of Try.func139 (by kernel_rfl) rfl)
  clear hY hv hW hO hJ hJx hseq hpred hold d0 c0 c1 vs hb0 hb1 hfs hfp hW1 hs1 d1 dy vf
  (refine calls_enterM Try.func138 rfl ?_; simp only [Try.ntmps138, List.size_toArray, List.length_cons, List.length_nil, Nat.reduceAdd, Nat.reduceSub, Array.replicate_succ, Array.replicate_zero, List.push_toArray, List.append_toArray, List.nil_append, List.cons_append])
  gi_wp2_with ((with_reducible show wpListIn _ _ _ _ _ _ _ _); (first | (refine wpListIn_boxv (v := y) hF rfl 110 _ rfl rfl ?_; rw [← HW1.out]) | (refine wpListIn_loadbox (v := .func (.func gs) #[] ls) hF rfl 108 _ rfl rfl D0.out VS.out ?_) | (refine wpListIn_callf hF 137 rfl rfl ege (each_some gs ls W1) rfl ?_; rintro e w1 ⟨rfl, rfl⟩; dsimp only [yNext])))
  -- what stays as it is in W1 throughout: the box of yield, and all that this iterator stands on
  obtain ⟨FA, hFA⟩ : ∃ FA : Nat → Prop, FA = fun k => k = W.heap.size ∨ keepFp B0 B1 Fs Fp k := ⟨_, rfl⟩
  have fa_lt : ∀ k, FA k → k < W1.heap.size := fun k hk => by
    rw [hFA] at hk; rw [HS1.out]
    rcases hk with rfl | hk
    · omega
    · have := (HW.out k hk).1; omega
  have fa_k : ∀ k, keepFp B0 B1 Fs Fp k → FA k := fun k hk => by rw [hFA]; exact .inr hk
  have fa_y : FA W.heap.size := by rw [hFA]; exact .inl rfl
  have FALT := Lib.hid fa_lt
  have FAK := Lib.hid fa_k
  have FAY := Lib.hid fa_y
  have HFA := Lib.hid hFA
  clear fa_lt fa_k fa_y hFA
  have hJ1 := HJ.out
  have hJx1 := HJx.out
  refine wpIn_rangeSeq hF rfl (gf := gs) (lb := ls) rfl egs (encs := fun v => #[v]) (xs := xs) (Fp := Fs) (w0 := w) HSEQ.out ?hFp (fun _ => rfl)
    (keepI p J FA W1) (keepIx Jx) ?hI ?hIx O ?hO ?h0
    (keepM (fun x X => #[y, .pointer (some ⟨B0, 0, none⟩), .pointer (some ⟨B1, 0, none⟩), .pointer (some ⟨W.heap.size, 0, none⟩), .pointer (some ⟨X, 0, none⟩), .func (.func gs) #[] ls, .func (.func gs) #[] ls, x, undef, undef, undef, undef, undef, undef, undef, undef, undef, undef]) p J FA W1) ?hM ?assign ?body ?done ?stop
  case hFp => exact fun k hk => ⟨FALT.out k (FAK.out k (.inr (.inr (.inl hk)))), (HOLD.out k (HW.out k (.inr (.inr (.inl hk)))).1).trans (HW.out k (.inr (.inr (.inl hk)))).2⟩
  case hI =>
    rintro pre Oi A B ⟨Oo, hj, hsub, hap, hsm⟩ ht
    exact ⟨Oo, hJ1 _ _ _ _ hj (ht.mono fun i _ hi => ⟨by have := HS1.out; omega, fun h => hi.2 (hsub i h)⟩), hsub, hap.grow ht.size, fun k hk => (ht.block k (lt_of_same (FALT.out k hk) (hsm k hk)) (fun h => by have := FALT.out k hk; omega)).trans (hsm k hk)⟩
  case hIx =>
    rintro c Oi A B ⟨rfl, Oo, hj, hsub⟩ ht
    exact ⟨rfl, Oo, hJx1 _ _ _ _ hj (ht.mono fun i _ hi => ⟨by have := HS1.out; omega, fun h => hi.2 (hsub i h)⟩), hsub⟩
  case hO => exact fun k hk => ⟨by have := (HO.out k hk).1; have := HS1.out; omega, fun hf => (HO.out k hk).2 (.inr (.inr (.inl hf)))⟩
  case h0 =>
    refine ⟨O, hJ1 _ _ _ _ h0 (by rw [HW1.out]; exact Touch.alloc _ _ _), fun _ h => h, fun k hk => ⟨by have := (HO.out k hk).1; have := HS1.out; omega, fun hf => ?_⟩, fun _ _ => rfl⟩
    have := HO.out k hk
    rw [HFA.out] at hf
    rcases hf with rfl | hf
    · omega
    · exact this.2 hf
  case hM =>
    rintro a1 x pre O1 A B ⟨X, Oo, rfl, hb, hX, hnX, hj, hsub, hap, hsm⟩ ht
    exact ⟨X, Oo, rfl, hb.touch ht (fun h => h.2 hX), hX, hnX, hJ1 _ _ _ _ hj (ht.mono fun i _ hi => ⟨by have := HS1.out; omega, fun h => hi.2 (hsub i h)⟩), hsub, hap.grow ht.size, fun k hk => (ht.block k (lt_of_same (FALT.out k hk) (hsm k hk)) (fun h => by have := FALT.out k hk; omega)).trans (hsm k hk)⟩
  case assign =>
    rintro l pre x post Oi A hx ⟨Oo, hj, hsub, hap, hsm⟩ hsz hlt
    have hvx := HV.out x (by rw [hx]; simp)
    have hxs : (9 : Nat) = (cv x).size := by have := hvx.size; rw [show (Try.prog.info? 35).map (·.size) = some 9 from by kernel_rfl] at this; simpa using this
    have HVX := Lib.hid hvx
    have HXS := Lib.hid hxs
    have HX := Lib.hid hx
    have HJ1 := Lib.hid hj
    have HSUB := Lib.hid hsub
    have HAP := Lib.hid hap
    have HSM := Lib.hid hsm
    have HLT := Lib.hid hlt
    clear hvx hxs hx hj hsub hap hsm hlt hJ1 hJx1
    have hF' := isWide_wide.inRound l
    rw [fold1]
    gi_wp2_with ((with_reducible show wpListIn _ _ _ _ _ _ _ _); (refine wpListIn_newv (v := x) hF' rfl rfl 35 rfl Try.zeroValue35 _ _ rfl rfl rfl HVX.out HXS.out ?_))
    refine ⟨fun k => Oi k ∨ k = A.heap.size, ⟨A.heap.size, Oo, rfl, BoxV.new _ _ _, .inr rfl, fun h => by have := (HAP.out _ h).1; omega, HJ.out _ _ _ _ HJ1.out (Touch.alloc _ _ _), fun k h => .inl (HSUB.out k h), HAP.out.grow (by simp), fun k hk => (Below.heap_alloc _ _ _ (by have := FALT.out k hk; omega)).trans (HSM.out k hk)⟩, Touch.alloc _ _ _, ?_⟩
    rintro k (h | rfl)
    · exact ⟨.inl h, by have := HLT.out k h; simp; omega⟩
    · exact ⟨.inr (Nat.le_refl _), by simp⟩
  case body =>
    rintro l pre x post Oi a1 A hx ⟨X, Oo, rfl, hb, hX, hnX, hj, hsub, hap, hsm⟩ hsz hlt
    have hmem : x ∈ xs := by rw [hx]; simp
    have hvx := HV.out x hmem
    have e1 : BoxV A B1 110 (.func (.func gp) #[] lp) := (hsm B1 (FAK.out _ (.inr (.inl rfl)))).trans D1.out
    have ey : BoxV A W.heap.size 110 y := (hsm _ FAY.out).trans DY.out
    have hxlt : X < A.heap.size := hb.lt
    have hpc := fun (w' : World) (hw' : Below A.heap.size A w') => HPRED.out w' (fun k hk => by
      have h1 := FAK.out k (.inr (.inr (.inr hk)))
      have h2 := HW.out k (.inr (.inr (.inr hk)))
      have h3 : k < A.heap.size := lt_of_same (FALT.out k h1) (hsm k h1)
      exact ⟨Nat.lt_of_lt_of_le h3 hw'.size, (hw'.block k h3).trans ((hsm k h1).trans ((HOLD.out k h2.1).trans h2.2))⟩) x hmem
    have hF' := isWide_wide.inRound l
    have HVX := Lib.hid hvx
    have HX := Lib.hid hx
    have HJ1 := Lib.hid hj
    have HSUB := Lib.hid hsub
    have HAP := Lib.hid hap
    have HSM := Lib.hid hsm
    have HLT := Lib.hid hlt
    have HBX := Lib.hid hb
    have HPC := Lib.hid hpc
    have E1 := Lib.hid e1
    have EY := Lib.hid ey
    have HNX := Lib.hid hnX
    have HXO := Lib.hid hX
    clear hvx hx hj hsub hap hsm hlt hJ1 hJx1 hb hpc e1 ey hnX hX hmem
    dsimp only
    cases hpx : p x with
    | true =>
      have hfil : xs.filter p = pre.filter p ++ x :: post.filter p := by rw [HX.out]; simp [hpx]
      have hY := HY.out (pre.filter p) x (post.filter p)
      have vy := vof_fn y (YCall.isFunc (hY A Oo hfil HJ1.out))
      have HPX := Lib.hid hpx
      have HFIL := Lib.hid hfil
      have HYY := Lib.hid hY
      have VY := Lib.hid vy
      clear hpx hfil hY vy
      gi_wp2_with fail
      refine wpIn_region_head hF' 7 (fun w' => Below A.heap.size A w') (by kernel_rfl) (by kernel_rfl) ((Below.refl _ _).drew) ?_
      refine hList_loadbox (v := .func (.func gp) #[] lp) rfl rfl rfl VF.out (fun w' hw' => (hw'.block _ E1.out.lt).trans E1.out) ?_
      simp only [Act.put, List.setIfInBounds_toArray, List.set_cons_zero, List.set_cons_succ]
      refine hList_callf (v := .func (.func gp) #[] lp) 139 rfl rfl egso rfl (fun w' hw' => (so_some gp lp w').mono (by rintro e w2 ⟨rfl, rfl⟩; exact ⟨rfl, hw'⟩)) ?_
      simp only [Act.put, List.setIfInBounds_toArray, List.set_cons_zero, List.set_cons_succ]
      refine hList_loadbox (v := x) rfl rfl rfl HVX.out (fun w' hw' => (hw'.block _ hxlt).trans HBX.out) ?_
      simp only [Act.put, List.setIfInBounds_toArray, List.set_cons_zero, List.set_cons_succ]
      refine hList_call (v := .bool true) (g := gp) (lb := lp) (args := #[x]) rfl rfl rfl rfl egp (fun w' hw' => (HPC.out w' hw').mono (by rintro e w2 ⟨rfl, hb2⟩; exact ⟨by rw [HPX.out], hw'.trans (hb2.mono hw'.size)⟩)) ?_
      simp only [Act.put, List.setIfInBounds_toArray, List.set_cons_zero, List.set_cons_succ]
      refine hList_move (v := .bool true) rfl rfl rfl ?_
      simp only [Act.put, List.setIfInBounds_toArray, List.set_cons_zero, List.set_cons_succ]
      refine hList_loadbox (v := y) rfl rfl rfl VY.out (fun w' hw' => (hw'.block _ EY.out.lt).trans EY.out) ?_
      simp only [Act.put, List.setIfInBounds_toArray, List.set_cons_zero, List.set_cons_succ]
      refine hList_loadbox (v := x) rfl rfl rfl HVX.out (fun w' hw' => (hw'.block _ hxlt).trans HBX.out) ?_
      simp only [Act.put, List.setIfInBounds_toArray, List.set_cons_zero, List.set_cons_succ]
      refine hList_nil ?_
      intro w' hw'
      refine wpListIn_ycall hF' rfl rfl (y := y) (args := #[x]) rfl rfl ?_
      have htw : Touch Oo A w' := Touch.of_fresh hw'
      refine (HYY.out w' Oo HFIL.out (HJ.out _ _ _ _ HJ1.out (Touch.of_fresh hw'))).mono ?_
      rintro e B (⟨rfl, O2, hj2, hst⟩ | ⟨rfl, O2, hjx, hst⟩)
      · dsimp only [yNext]
        have HJ2 := Lib.hid hj2
        have HST := Lib.hid hst
        have HW' := Lib.hid hw'
        clear hj2 hst htw hw'
        gi_wp2_with fail
        have hfw : ∀ k, FA k → k < w'.heap.size := fun k hk => by have := lt_of_same (FALT.out k hk) (HSM.out k hk); have := HW'.out.size; omega
        refine ⟨fun k => Oi k ∨ O2 k, ⟨O2, by rw [List.filter_append]; simp [HPX.out]; exact HJ2.out, fun k h => .inr h, (HAP.out.grow HW'.out.size).step hfw HST.out, fun k hk => (HST.out.same (HAP.out.grow HW'.out.size) hfw hk).trans ((HW'.out.block k (lt_of_same (FALT.out k hk) (HSM.out k hk))).trans (HSM.out k hk))⟩,
          (Touch.of_fresh HW'.out).trans (HST.out.touch.mono fun i _ h => HSUB.out i h), ?_⟩
        rintro k (h | h)
        · exact ⟨.inl h, by have := HLT.out k h; have := HW'.out.size; have := HST.out.touch.size; omega⟩
        · have h2 := HST.out.own k h
          exact ⟨h2.1.imp (HSUB.out k) (fun h3 => by have := HW'.out.size; omega), h2.2⟩
      · dsimp only [yNext]
        have HJ2 := Lib.hid hjx
        have HST := Lib.hid hst
        have HW' := Lib.hid hw'
        clear hjx hst htw hw'
        gi_wp2_with fail
        refine ⟨fun k => Oi k ∨ O2 k, ⟨rfl, O2, HJ2.out, fun k h => .inr h⟩, (Touch.of_fresh HW'.out).trans (HST.out.touch.mono fun i _ h => HSUB.out i h), ?_⟩
        rintro k (h | h)
        · exact ⟨.inl h, by have := HLT.out k h; have := HW'.out.size; have := HST.out.touch.size; omega⟩
        · have h2 := HST.out.own k h
          exact ⟨h2.1.imp (HSUB.out k) (fun h3 => by have := HW'.out.size; omega), h2.2⟩
    | false =>
      have HPX := Lib.hid hpx
      clear hpx
      gi_wp2_with fail
      refine wpIn_region_head hF' 7 (fun w' => Below A.heap.size A w') (by kernel_rfl) (by kernel_rfl) ((Below.refl _ _).drew) ?_
      refine hList_loadbox (v := .func (.func gp) #[] lp) rfl rfl rfl VF.out (fun w' hw' => (hw'.block _ E1.out.lt).trans E1.out) ?_
      simp only [Act.put, List.setIfInBounds_toArray, List.set_cons_zero, List.set_cons_succ]
      refine hList_callf (v := .func (.func gp) #[] lp) 139 rfl rfl egso rfl (fun w' hw' => (so_some gp lp w').mono (by rintro e w2 ⟨rfl, rfl⟩; exact ⟨rfl, hw'⟩)) ?_
      simp only [Act.put, List.setIfInBounds_toArray, List.set_cons_zero, List.set_cons_succ]
      refine hList_loadbox (v := x) rfl rfl rfl HVX.out (fun w' hw' => (hw'.block _ hxlt).trans HBX.out) ?_
      simp only [Act.put, List.setIfInBounds_toArray, List.set_cons_zero, List.set_cons_succ]
      refine hList_call (v := .bool false) (g := gp) (lb := lp) (args := #[x]) rfl rfl rfl rfl egp (fun w' hw' => (HPC.out w' hw').mono (by rintro e w2 ⟨rfl, hb2⟩; exact ⟨by rw [HPX.out], hw'.trans (hb2.mono hw'.size)⟩)) ?_
      simp only [Act.put, List.setIfInBounds_toArray, List.set_cons_zero, List.set_cons_succ]
      refine hList_move (v := .bool false) rfl rfl rfl ?_
      simp only [Act.put, List.setIfInBounds_toArray, List.set_cons_zero, List.set_cons_succ]
      refine hList_skip rfl ?_
      simp only [Act.put, List.setIfInBounds_toArray, List.set_cons_zero, List.set_cons_succ]
      refine hList_skip rfl ?_
      simp only [Act.put, List.setIfInBounds_toArray, List.set_cons_zero, List.set_cons_succ]
      refine hList_nil ?_
      intro w' hw'
      refine wpListIn_pass hF' rfl ?_
      simp only [Act.put, List.setIfInBounds_toArray, List.set_cons_zero, List.set_cons_succ]
      refine wpListIn_pass hF' rfl ?_
      simp only [Act.put, List.setIfInBounds_toArray, List.set_cons_zero, List.set_cons_succ]
      have HW' := Lib.hid hw'
      clear hw'
      gi_wp2_with fail
      have hsz' := HW'.out.size
      refine ⟨Oi, ⟨Oo, by rw [List.filter_append]; simp [HPX.out]; exact HJ.out _ _ _ _ HJ1.out (Touch.of_fresh HW'.out), HSUB.out, HAP.out.grow hsz', fun k hk => (HW'.out.block k (lt_of_same (FALT.out k hk) (HSM.out k hk))).trans (HSM.out k hk)⟩, Touch.of_fresh HW'.out, fun k h => ⟨.inl h, by have := HLT.out k h; omega⟩⟩
  case done =>
    rintro D Oi B hD hnD hlt ⟨Oo, hj, hsub, hap, hsm⟩ hK
    have HJ2 := Lib.hid hj
    have HSUB := Lib.hid hsub
    have HK := Lib.hid hK
    have HND := Lib.hid hnD
    clear hj hsub hap hsm hK hlt hJ1 hJx1 hnD
    gi_wp2_with fail
    refine leaves_one HK.out (results_none rfl _ _ _) ⟨rfl, .inl ⟨Oo, HJ.out _ _ _ _ HJ2.out (Touch.putObj _ _ _ ⟨by have := HS1.out; omega, fun h => HND.out (HSUB.out _ h)⟩)⟩⟩
  case stop =>
    rintro D c Oi B hD hnD hlt ⟨rfl, Oo, hj, hsub⟩ hK
    have HJ2 := Lib.hid hj
    have HSUB := Lib.hid hsub
    have HK := Lib.hid hK
    have HND := Lib.hid hnD
    clear hj hsub hK hlt hJ1 hJx1 hnD
    gi_wp2_with fail
    refine leaves_one HK.out (results_none rfl _ _ _) ⟨rfl, .inr ⟨Oo, HJx.out _ _ _ _ HJ2.out (Touch.putObj _ _ _ ⟨by have := HS1.out; omega, fun h => HND.out (HSUB.out _ h)⟩)⟩⟩

theorem keep (s f : Value) (xs : List Value) (p : Value → Bool) (Fs Fp : Nat → Prop) (w : World) (hs : IsSeq Try.prog xs Fs w s) (hp : IsPred Try.prog xs p Fp w f) (hv : ∀ x ∈ xs, VOf Try.prog 35 x) :
    Calls Try.prog 115 #[s, f] w (fun e w' => ∃ s', e = .returned s' ∧ IsSeq Try.prog (xs.filter p) (fun k => Fs k ∨ Fp k ∨ (w.heap.size ≤ k ∧ k < w'.heap.size)) w' s' ∧ Below w.heap.size w w') := by
  refine (keep0 s f w).mono ?_
  rintro e w' ⟨rfl, rfl⟩
  have hb : Below w.heap.size w ((w.alloc (.cells (cv s) 108)).alloc (.cells (cv f) 110)) := ((Below.refl _ _).alloc (Nat.le_refl _) _).alloc (by simp) _
  have b1 : BoxV ((w.alloc (.cells (cv s) 108)).alloc (.cells (cv f) 110)) (w.heap.size + 1) 110 f := by have := BoxV.new (w.alloc (.cells (cv s) 108)) 110 f; rwa [World.size_alloc] at this
  have b0 : BoxV ((w.alloc (.cells (cv s) 108)).alloc (.cells (cv f) 110)) w.heap.size 108 s := (BoxV.new w 108 s).alloc _
  have h1 := keep1 w.heap.size (w.heap.size + 1) s f xs p Fs Fp _ (hs.later hb) (hp.later hb) hv b0 b1
  obtain ⟨gs, ls, _, _, _, hfs⟩ := hs
  obtain ⟨gp, lp, _, _, hfp, _⟩ := hp
  refine ⟨_, rfl, ⟨_, _, rfl, (enters_of Try.func138 (by kernel_rfl) rfl), h1.mono ?_, ?_⟩, hb⟩
  · rintro k (rfl | rfl | h | h)
    · exact .inr (.inr ⟨Nat.le_refl _, by simp; omega⟩)
    · exact .inr (.inr ⟨by omega, by simp⟩)
    · exact .inl h
    · exact .inr (.inl h)
  · rintro k (h | h | h)
    · have := hfs k h; simp; omega
    · have := hfp k h; simp; omega
    · exact h.2

def findI (BR : Nat) (zero : Value) (w : World) (pre : List Value) (Oi : Nat → Prop) (A : World) : Prop := pre = [] ∧ BoxV A BR 35 zero ∧ BoxV A (BR + 1) 4 (.bool false) ∧ Oi BR ∧ Oi (BR + 1) ∧ Below BR w A
def findIx (BR : Nat) (v : Value) (some? : Bool) (w : World) (c : Code) (Oi : Nat → Prop) (A : World) : Prop := c = .ret ∧ some? = true ∧ VOf Try.prog 35 v ∧ BoxV A BR 35 v ∧ BoxV A (BR + 1) 4 (.bool true) ∧ Oi BR ∧ Oi (BR + 1) ∧ Below BR w A
def findM (tm : Value → Nat → Array Value) (BR : Nat) (zero : Value) (w : World) (pre : List Value) (x : Value) (O1 : Nat → Prop) (a1 : Act) (A : World) : Prop :=
  ∃ X, a1 = { tmps := tm x X, defers := [] } ∧ BoxV A X 35 x ∧ O1 X ∧ BR + 1 < X ∧ findI BR zero w pre O1 A

theorem vof_zero : VOf Try.prog 35 (.agg #[.int .i64 0, .int .i64 0, .int .i64 0, .int .i64 0, .int .i64 0, .int .i64 0, .int .i64 0, .int .i64 0, .slice none 0 0]) := ⟨by kernel_rfl, by kernel_rfl, .inl ⟨_, Try.underlying35, rfl, rfl⟩⟩
theorem vof_bool (b : Bool) : VOf Try.prog 4 (.bool b) := vof_one Try.underlying4 rfl (by kernel_rfl) rfl rfl

set_option maxRecDepth 100000 in
set_option maxHeartbeats 400000 in
theorem find (s f : Value) (xs : List Value) (p : Value → Bool) (Fs Fp : Nat → Prop) (w : World) (hs : IsSeq Try.prog xs Fs w s) (hp : IsPred Try.prog xs p Fp w f) (hv : ∀ x ∈ xs, VOf Try.prog 35 x) :
    Calls Try.prog 82 #[s, f] w (fun e w' => e = .returned (.tuple #[(xs.find? p).getD (.agg #[.int .i64 0, .int .i64 0, .int .i64 0, .int .i64 0, .int .i64 0, .int .i64 0, .int .i64 0, .int .i64 0, .slice none 0 0]), .bool (xs.find? p).isSome]) ∧ Below w.heap.size w w') := by
  have hF := isWide_wide
  obtain ⟨W2, hW2⟩ : ∃ W2, W2 = (w.alloc (.cells (cv (.agg #[.int .i64 0, .int .i64 0, .int .i64 0, .int .i64 0, .int .i64 0, .int .i64 0, .int .i64 0, .int .i64 0, .slice none 0 0])) 35)).alloc (.cells (cv (.bool false)) 4) := ⟨_, rfl⟩
  have hb2 : Below w.heap.size w W2 := by rw [hW2]; exact ((Below.refl _ _).alloc (Nat.le_refl _) _).alloc (by simp) _
  have hsz2 : W2.heap.size = w.heap.size + 2 := by rw [hW2]; simp
  have bR : BoxV W2 w.heap.size 35 (.agg #[.int .i64 0, .int .i64 0, .int .i64 0, .int .i64 0, .int .i64 0, .int .i64 0, .int .i64 0, .int .i64 0, .slice none 0 0]) := by rw [hW2]; exact (BoxV.new w 35 (.agg #[.int .i64 0, .int .i64 0, .int .i64 0, .int .i64 0, .int .i64 0, .int .i64 0, .int .i64 0, .int .i64 0, .slice none 0 0])).alloc _
  have bO : BoxV W2 (w.heap.size + 1) 4 (.bool false) := by rw [hW2]; have := BoxV.new (w.alloc (.cells (cv (.agg #[.int .i64 0, .int .i64 0, .int .i64 0, .int .i64 0, .int .i64 0, .int .i64 0, .int .i64 0, .int .i64 0, .slice none 0 0])) 35)) 4 (.bool false); rwa [World.size_alloc] at this
  have hk := keep s f xs p Fs Fp W2 (hs.later hb2) (hp.later hb2) hv
  have hf2 : ∀ k, Fs k ∨ Fp k → k < w.heap.size := by
    obtain ⟨_, _, _, _, _, hfs⟩ := hs
    obtain ⟨_, _, _, _, hfp, _⟩ := hp
    rintro k (h | h)
    · exact hfs k h
    · exact hfp k h
  have egk := (enters_of Try.func115 (by kernel_rfl) rfl)
  have HW2 := Lib.hid hW2
  have HB2 := Lib.hid hb2
  have HSZ2 := Lib.hid hsz2
  have BR := Lib.hid bR
  have BO := Lib.hid bO
  have HK := Lib.hid hk
  have HV := Lib.hid hv
  have HF2 := Lib.hid hf2
  clear hW2 hb2 hsz2 bR bO hk hv hs hp hf2
  (refine calls_enterM Try.func82 rfl ?_; simp only [Try.ntmps82, List.size_toArray, List.length_cons, List.length_nil, Nat.reduceAdd, Nat.reduceSub, Array.replicate_succ, Array.replicate_zero, List.push_toArray, List.append_toArray, List.nil_append, List.cons_append])
  gi_wp2_with ((with_reducible show wpListIn _ _ _ _ _ _ _ _); (first | (refine wpListIn_allocv (z := (.agg #[.int .i64 0, .int .i64 0, .int .i64 0, .int .i64 0, .int .i64 0, .int .i64 0, .int .i64 0, .int .i64 0, .slice none 0 0])) hF rfl 35 rfl Try.zeroValue35 ?_) | (refine wpListIn_allocv (z := .bool false) hF rfl 4 rfl Try.zeroValue4 ?_; rw [← HW2.out]) | (refine wpListIn_callf hF 115 rfl rfl egk HK.out rfl ?_)))
  rintro e w3 ⟨s', rfl, ⟨g3, l3, rfl, eg3, hseq3, hfs3⟩, hb3⟩
  have hsz3 := hb3.size
  have hFP : ∀ k, (Fs k ∨ Fp k ∨ (W2.heap.size ≤ k ∧ k < w3.heap.size)) → k < w3.heap.size ∧ (k < w.heap.size ∨ w.heap.size + 2 ≤ k) := by
    rintro k (h | h | h)
    · have := HF2.out k (.inl h); have := HSZ2.out; omega
    · have := HF2.out k (.inr h); have := HSZ2.out; omega
    · have := HSZ2.out; omega
  have c0 : BoxV w3 w.heap.size 35 (.agg #[.int .i64 0, .int .i64 0, .int .i64 0, .int .i64 0, .int .i64 0, .int .i64 0, .int .i64 0, .int .i64 0, .slice none 0 0]) := (hb3.block _ BR.out.lt).trans BR.out
  have c1 : BoxV w3 (w.heap.size + 1) 4 (.bool false) := (hb3.block _ BO.out.lt).trans BO.out
  have hb0 : Below w.heap.size w w3 := HB2.out.trans (hb3.mono (by have := HSZ2.out; omega))
  have HSEQ := Lib.hid hseq3
  have HFP := Lib.hid hFP
  have C0 := Lib.hid c0
  have C1 := Lib.hid c1
  have HB0 := Lib.hid hb0
  have HS3 := Lib.hid hsz3
  have hsz : w.heap.size + 2 ≤ w3.heap.size := by have := HSZ2.out; omega
  clear hseq3 hFP c0 c1 hb0 hb3 hfs3 hsz3
  dsimp only [yNext]
  gi_wp2_with fail
  refine wpIn_rangeSeq hF rfl (gf := g3) (lb := l3) rfl eg3 (encs := fun v => #[v]) (xs := xs.filter p) (w0 := w3) HSEQ.out (fun k hk => ⟨(HFP.out k hk).1, rfl⟩) (fun _ => rfl)
    (findI w.heap.size (.agg #[.int .i64 0, .int .i64 0, .int .i64 0, .int .i64 0, .int .i64 0, .int .i64 0, .int .i64 0, .int .i64 0, .slice none 0 0]) w) (findIx w.heap.size ((xs.find? p).getD (.agg #[.int .i64 0, .int .i64 0, .int .i64 0, .int .i64 0, .int .i64 0, .int .i64 0, .int .i64 0, .int .i64 0, .slice none 0 0])) (xs.find? p).isSome w) ?hI ?hIx (fun k => k = w.heap.size ∨ k = w.heap.size + 1) ?hO ?h0
    (findM (fun x X => #[s, f, undef, undef, .pointer (some ⟨w.heap.size, 0, none⟩), .pointer (some ⟨w.heap.size + 1, 0, none⟩), .pointer (some ⟨X, 0, none⟩), undef, s, f, .func (.func g3) #[] l3, x, undef, undef]) w.heap.size (.agg #[.int .i64 0, .int .i64 0, .int .i64 0, .int .i64 0, .int .i64 0, .int .i64 0, .int .i64 0, .int .i64 0, .slice none 0 0]) w) ?hM ?assign ?body ?done ?stop
  case hI =>
    rintro pre Oi A B ⟨rfl, h1, h2, o1, o2, hb⟩ ht
    exact ⟨rfl, h1.touch ht (fun h => by have := h.1; omega), h2.touch ht (fun h => by have := h.1; omega), o1, o2, hb.trans (ht.below (by have := h1.lt; omega) (fun k hk h => by have := h.1; omega))⟩
  case hIx =>
    rintro c Oi A B ⟨rfl, hs, hv, h1, h2, o1, o2, hb⟩ ht
    exact ⟨rfl, hs, hv, h1.touch ht (fun h => by have := h.1; omega), h2.touch ht (fun h => by have := h.1; omega), o1, o2, hb.trans (ht.below (by have := h1.lt; omega) (fun k hk h => by have := h.1; omega))⟩
  case hO =>
    rintro k (rfl | rfl)
    · exact ⟨by omega, fun h => by have := (HFP.out _ h).2; omega⟩
    · exact ⟨by omega, fun h => by have := (HFP.out _ h).2; omega⟩
  case h0 => exact ⟨rfl, C0.out, C1.out, .inl rfl, .inr rfl, HB0.out⟩
  case hM =>
    rintro a1 x pre O1 A B ⟨X, rfl, hb, hX, hne, rfl, h1, h2, o1, o2, hb'⟩ ht
    exact ⟨X, rfl, hb.touch ht (fun h => h.2 hX), hX, hne, rfl, h1.touch ht (fun h => by have := h.1; omega), h2.touch ht (fun h => by have := h.1; omega), o1, o2, hb'.trans (ht.below (by have := h1.lt; omega) (fun k hk h => by have := h.1; omega))⟩
  case assign =>
    rintro l pre x post Oi A hx ⟨rfl, h1, h2, o1, o2, hb⟩ hsz' hlt
    have hmem : x ∈ xs := by have : x ∈ xs.filter p := by rw [hx]; simp
                             exact (List.mem_filter.1 this).1
    have hvx := HV.out x hmem
    have hxs : (9 : Nat) = (cv x).size := by have := hvx.size; rw [show (Try.prog.info? 35).map (·.size) = some 9 from by kernel_rfl] at this; simpa using this
    have HVX := Lib.hid hvx
    have HXS := Lib.hid hxs
    have HI : Hid (findI w.heap.size (.agg #[.int .i64 0, .int .i64 0, .int .i64 0, .int .i64 0, .int .i64 0, .int .i64 0, .int .i64 0, .int .i64 0, .slice none 0 0]) w [] Oi A) := ⟨rfl, h1, h2, o1, o2, hb⟩
    have HLT := Lib.hid hlt
    clear hvx hxs hx h1 h2 o1 o2 hb hlt hmem
    have hF' := isWide_wide.inRound l
    rw [fold1]
    gi_wp2_with ((with_reducible show wpListIn _ _ _ _ _ _ _ _); (refine wpListIn_newv (v := x) hF' rfl rfl 35 rfl Try.zeroValue35 _ _ rfl rfl rfl HVX.out HXS.out ?_))
    obtain ⟨_, h1, h2, o1, o2, hb⟩ := HI.out
    refine ⟨fun k => Oi k ∨ k = A.heap.size, ⟨A.heap.size, rfl, BoxV.new _ _ _, .inr rfl, by omega, rfl, h1.alloc _, h2.alloc _, .inl o1, .inl o2, hb.alloc (by omega) _⟩, Touch.alloc _ _ _, ?_⟩
    rintro k (h | rfl)
    · exact ⟨.inl h, by have := HLT.out k h; simp; omega⟩
    · exact ⟨.inr (Nat.le_refl _), by simp⟩
  case body =>
    rintro l pre x post Oi a1 A hx ⟨X, rfl, hb, hX, hne, rfl, h1, h2, o1, o2, hb'⟩ hsz' hlt
    have hmem : x ∈ xs := by have : x ∈ xs.filter p := by rw [hx]; simp
                             exact (List.mem_filter.1 this).1
    have hvx := HV.out x hmem
    have hxs : (cv (.agg #[.int .i64 0, .int .i64 0, .int .i64 0, .int .i64 0, .int .i64 0, .int .i64 0, .int .i64 0, .int .i64 0, .slice none 0 0])).size = (cv x).size := by have := hvx.size; rw [show (Try.prog.info? 35).map (·.size) = some (cv (.agg #[.int .i64 0, .int .i64 0, .int .i64 0, .int .i64 0, .int .i64 0, .int .i64 0, .int .i64 0, .int .i64 0, .slice none 0 0])).size from by kernel_rfl] at this; simpa using this
    have hfind : xs.find? p = some x := by rw [← List.head?_filter, hx]; rfl
    have hF' := isWide_wide.inRound l
    have hvt := vof_bool true
    have n1 : BoxV (A.setRow w.heap.size (cv x)) (w.heap.size + 1) 4 (.bool false) := h2.setOther _ _ (by omega)
    have HVX := Lib.hid hvx
    have HXS := Lib.hid hxs
    have HVT := Lib.hid hvt
    have HBX := Lib.hid hb
    have H1 := Lib.hid h1
    have H2 := Lib.hid h2
    have N1 := Lib.hid n1
    have HB := Lib.hid hb'
    have HF := Lib.hid hfind
    have HLT := Lib.hid hlt
    clear hvx hxs hvt hb h1 h2 n1 hb' hfind hmem hx hlt
    dsimp only
    gi_wp2_with ((with_reducible show wpListIn _ _ _ _ _ _ _ _); (first | (refine wpListIn_loadbox (v := x) hF' rfl 35 _ rfl rfl HBX.out HVX.out ?_) | (refine wpListIn_storev (v := x) hF' rfl 35 _ _ rfl rfl rfl H1.out HVX.out HXS.out ?_) | (refine wpListIn_storev (v := .bool true) hF' rfl 4 _ _ rfl rfl rfl N1.out HVT.out rfl ?_)))
    refine ⟨Oi, ⟨rfl, by rw [HF.out]; rfl, by rw [HF.out]; exact HVX.out, by rw [HF.out]; exact (H1.out.set x).setOther _ _ (by omega), N1.out.set _, o1, o2, (HB.out.trans ((Touch.setRow (S := fun k => w.heap.size ≤ k) A _ _ (Nat.le_refl _)).below (by omega) (fun k hk h => by omega))).trans ((Touch.setRow (S := fun k => w.heap.size ≤ k) _ _ _ (by omega)).below (by simp; omega) (fun k hk h => by omega))⟩, (Touch.setRow _ _ _ o1).trans (Touch.setRow _ _ _ o2), fun k h => ⟨.inl h, by simp; exact HLT.out k h⟩⟩
  case done =>
    rintro D Oi B hD hnD hlt ⟨hnil, h1, h2, o1, o2, hb⟩ hK
    have hfind : xs.find? p = none := by rw [← List.head?_filter, hnil]; rfl
    have hbz := BoxV.new B 35 (.agg #[.int .i64 0, .int .i64 0, .int .i64 0, .int .i64 0, .int .i64 0, .int .i64 0, .int .i64 0, .int .i64 0, .slice none 0 0])
    have n0 : BoxV (B.alloc (.cells (cv (.agg #[.int .i64 0, .int .i64 0, .int .i64 0, .int .i64 0, .int .i64 0, .int .i64 0, .int .i64 0, .int .i64 0, .slice none 0 0])) 35)) w.heap.size 35 (.agg #[.int .i64 0, .int .i64 0, .int .i64 0, .int .i64 0, .int .i64 0, .int .i64 0, .int .i64 0, .int .i64 0, .slice none 0 0]) := h1.alloc _
    have n1 : BoxV ((B.alloc (.cells (cv (.agg #[.int .i64 0, .int .i64 0, .int .i64 0, .int .i64 0, .int .i64 0, .int .i64 0, .int .i64 0, .int .i64 0, .slice none 0 0])) 35)).setRow w.heap.size (cv (.agg #[.int .i64 0, .int .i64 0, .int .i64 0, .int .i64 0, .int .i64 0, .int .i64 0, .int .i64 0, .int .i64 0, .slice none 0 0]))) (w.heap.size + 1) 4 (.bool false) := (h2.alloc _).setOther _ _ (by omega)
    have hvz := vof_zero
    have hvf := vof_bool false
    have HBZ := Lib.hid hbz
    have HVZ := Lib.hid hvz
    have HVF := Lib.hid hvf
    have HF := Lib.hid hfind
    have H1 := Lib.hid h1
    have H2 := Lib.hid h2
    have N0 := Lib.hid n0
    have N1 := Lib.hid n1
    have HB := Lib.hid hb
    have HK := Lib.hid hK
    have HND := Lib.hid hnD
    have hlt1 := h1.lt
    clear hbz hvz hvf hfind h1 h2 n0 n1 hb hK hnil hlt hnD
    gi_wp2_with ((with_reducible show wpListIn _ _ _ _ _ _ _ _); (first | (refine wpListIn_allocv (z := (.agg #[.int .i64 0, .int .i64 0, .int .i64 0, .int .i64 0, .int .i64 0, .int .i64 0, .int .i64 0, .int .i64 0, .slice none 0 0])) hF rfl 35 rfl Try.zeroValue35 ?_) | (refine wpListIn_loadbox (v := (.agg #[.int .i64 0, .int .i64 0, .int .i64 0, .int .i64 0, .int .i64 0, .int .i64 0, .int .i64 0, .int .i64 0, .slice none 0 0])) hF rfl 35 _ rfl rfl HBZ.out HVZ.out ?_) | (refine wpListIn_storev (v := (.agg #[.int .i64 0, .int .i64 0, .int .i64 0, .int .i64 0, .int .i64 0, .int .i64 0, .int .i64 0, .int .i64 0, .slice none 0 0])) hF rfl 35 _ _ rfl rfl rfl N0.out HVZ.out rfl ?_) | (refine wpListIn_storev (v := .bool false) hF rfl 4 _ _ rfl rfl rfl N1.out HVF.out rfl ?_)))
    have hDne : w.heap.size + 2 ≤ D := by omega
    have hD2 : (((B.alloc (.cells (cv (.agg #[.int .i64 0, .int .i64 0, .int .i64 0, .int .i64 0, .int .i64 0, .int .i64 0, .int .i64 0, .int .i64 0, .slice none 0 0])) 35)).setRow w.heap.size (cv (.agg #[.int .i64 0, .int .i64 0, .int .i64 0, .int .i64 0, .int .i64 0, .int .i64 0, .int .i64 0, .int .i64 0, .slice none 0 0]))).setRow (w.heap.size + 1) (cv (.bool false))).heap[D]? = some (.deferred (some [])) := by
      rw [setRow_other _ _ _ _ (by omega), setRow_other _ _ _ _ (by omega)]
      exact (Below.heap_alloc _ _ _ (Array.getElem?_eq_some_iff.1 HK.out).1).trans HK.out
    refine leaves_one hD2 (results_box2 (B := w.heap.size) (C := w.heap.size + 1) rfl rfl rfl (v := (.agg #[.int .i64 0, .int .i64 0, .int .i64 0, .int .i64 0, .int .i64 0, .int .i64 0, .int .i64 0, .int .i64 0, .slice none 0 0])) (u := .bool false) ((((N0.out.set _).setOther _ _ (by omega))).touch (Touch.putObj (S := fun k => k = D) _ _ _ rfl) (by omega)) ((N1.out.set _).touch (Touch.putObj (S := fun k => k = D) _ _ _ rfl) (by omega)) HVZ.out HVF.out) ⟨?_, ?_⟩
    · rw [HF.out]; rfl
    · refine (((HB.out.alloc (by omega) _).trans ((Touch.setRow (S := fun k => w.heap.size ≤ k) _ _ _ (Nat.le_refl _)).below (by simp; omega) (fun k hk h => by omega))).trans ((Touch.setRow (S := fun k => w.heap.size ≤ k) _ _ _ (by omega)).below (by simp; omega) (fun k hk h => by omega))).trans ((Touch.putObj (S := fun k => w.heap.size ≤ k) _ _ _ (by omega)).below (by simp; omega) (fun k hk h => by omega))
  case stop =>
    rintro D c Oi B hD hnD hlt ⟨rfl, hsm, hv, h1, h2, o1, o2, hb⟩ hK
    have HV1 := Lib.hid hv
    have H1 := Lib.hid h1
    have H2 := Lib.hid h2
    have HB := Lib.hid hb
    have HK := Lib.hid hK
    have HSM := Lib.hid hsm
    have hlt1 := h1.lt
    clear hv h1 h2 hb hK hlt hnD hsm
    gi_wp2_with fail
    have hDne : w.heap.size + 2 ≤ D := by omega
    refine leaves_one HK.out (results_box2 (B := w.heap.size) (C := w.heap.size + 1) rfl rfl rfl (v := (xs.find? p).getD (.agg #[.int .i64 0, .int .i64 0, .int .i64 0, .int .i64 0, .int .i64 0, .int .i64 0, .int .i64 0, .int .i64 0, .slice none 0 0])) (u := .bool true) (H1.out.touch (Touch.putObj (S := fun k => k = D) _ _ _ rfl) (by omega)) (H2.out.touch (Touch.putObj (S := fun k => k = D) _ _ _ rfl) (by omega)) HV1.out (vof_bool true)) ⟨by rw [HSM.out], ?_⟩
    exact HB.out.trans ((Touch.putObj (S := fun k => w.heap.size ≤ k) _ _ _ (by omega)).below (by omega) (fun k hk h => by omega))

end Item
end Go.Proofs.Ytigbglagfbbmjaa
