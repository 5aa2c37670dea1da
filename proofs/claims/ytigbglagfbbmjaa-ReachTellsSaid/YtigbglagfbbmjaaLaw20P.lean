/- The walk of ReachParts. Condition: the slice holds the items, the numbers fit their type. -/
import Derived.Test.YtigbglagfbbmjaaLaw20E
import Derived.Test.YtigbglagfbbmjaaQ6
namespace Go.Proofs.Ytigbglagfbbmjaa
open Go.RowKit Go.Shelf
set_option linter.unusedSimpArgs false
set_option linter.unusedVariables false
attribute [local go_sem] Oper.semAt_some
namespace Reach

/-- How far two slices of ints are alike. -/
def sameRel (n : Nat) (w : World) (v : Value) (wr : World) : Prop := ∃ i : Nat, i ≤ n ∧ v = .int .i64 i ∧ Below w.heap.size w wr

set_option maxRecDepth 100000 in
set_option maxHeartbeats 400000 in
theorem parts_calls (sv : Value) (L : List Itm) (t n0 n1 n2 : Int) (h0 : 0 ≤ n0 ∧ n0 ≤ 255) (h1 : 0 ≤ n1 ∧ n1 ≤ 255) (h2 : 0 ≤ n2 ∧ n2 ≤ 255) (w : World) (h : Items w sv L) :
    Calls Try.prog 4 #[sv, .int .i64 t, .agg #[.int .u8 n0, .int .u8 n1, .int .u8 n2]] w (trueEnd w) := by
  have hF := isWide_wide
  have egf := (enters_of Try.func15 (by kernel_rfl) rfl)
  have egc := (enters_of Try.func16 (by kernel_rfl) rfl)
  have egl := (enters_of Try.func18 (by kernel_rfl) rfl)
  obtain ⟨W1, hW1⟩ : ∃ W1, W1 = w.alloc (.cells #[.int .u8 n0, .int .u8 n1, .int .u8 n2] 30) := ⟨_, rfl⟩
  obtain ⟨h01, h02⟩ := h0
  obtain ⟨h11, h12⟩ := h1
  obtain ⟨h21, h22⟩ := h2
  have hfc := first_calls W1
  have hs1 : W1.heap.size = w.heap.size + 1 := by rw [hW1]; simp
  have hb1 : Below w.heap.size w W1 := by rw [hW1]; exact (Below.refl _ _).alloc (Nat.le_refl _) _
  have hit := h.later hb1
  have hc0 : W1.heap[w.heap.size]? = some (.cells #[.int .u8 n0, .int .u8 n1, .int .u8 n2] 30) := by rw [hW1]; exact World.alloc_heap_new w _
  obtain ⟨A, c, rfl, hc, hA, hx⟩ := h.at_
  rw [List.length_map] at *
  have HW1 := Lib.hid hW1.symm
  have HS1 := Lib.hid hs1
  have HB1 := Lib.hid hb1
  have HI := Lib.hid hit
  have HFC := Lib.hid hfc
  have HC0 := Lib.hid hc0
  clear h hx hfc hA hc hW1 hs1 hb1 hit hc0
  (refine calls_enter Try.func4 rfl ?_; simp only [Try.ntmps4, List.size_toArray, List.length_cons, List.length_nil, Nat.reduceAdd, Nat.reduceSub, Array.replicate_succ, Array.replicate_zero, List.push_toArray, List.append_toArray, List.nil_append, List.cons_append])
  gi_wp2_with ((with_reducible show wpListIn _ _ _ _ _ _ _ _); (rw [HW1.out]; refine wpListIn_callf hF 15 rfl rfl egf HFC.out rfl ?_))
  rintro e w1 ⟨rfl, hb2⟩
  have HB2 := Lib.hid hb2
  clear hb2
  dsimp only [yNext]
  by_cases hn : (L.length : Int) > 40
  · gi_wp2_with fail
    go_ret
    exact ⟨rfl, HB1.out.trans (HB2.out.mono (by have := HS1.out; omega))⟩
  · have hn' : (L.length : Int) ≤ 40 := by omega
    have hblk : w1.heap[w.heap.size]? = some (.cells #[.int .u8 n0, .int .u8 n1, .int .u8 n2] 30) := (HB2.out.block _ (by have := HS1.out; omega)).trans HC0.out
    have c0 : w1.cell? ⟨w.heap.size, 0, none⟩ = some (.int .u8 n0) := by rw [cell_of_row w1 _ _ _ _ _ hblk]; rfl
    have c1 : w1.cell? ⟨w.heap.size, 1, none⟩ = some (.int .u8 n1) := by rw [cell_of_row w1 _ _ _ _ _ hblk]; rfl
    have c2 : w1.cell? ⟨w.heap.size, 2, none⟩ = some (.int .u8 n2) := by rw [cell_of_row w1 _ _ _ _ _ hblk]; rfl
    have C0 := Lib.hid c0
    have C1 := Lib.hid c1
    have C2 := Lib.hid c2
    have hv8 : ∀ n, VOf Try.prog 5 (.int .u8 n) := fun n => vof_one Try.underlying5 rfl (by kernel_rfl) rfl rfl
    have HV8 := Lib.hid hv8
    clear hblk c0 c1 c2 hv8
    gi_wp2_with fail
    refine wpIn_region_head hF 11 (fun w' => Below w1.heap.size w1 w') (by kernel_rfl) (by kernel_rfl) ((Below.refl _ _).drew) ?_
    (refine hList_val (v := ?_) (by rfl) (fun c h => by cases h) (fun _ _ => ?_) ?_; rotate_left; (go_simp; first | done | rfl); simp only [Act.put, List.setIfInBounds_toArray, List.set_cons_zero, List.set_cons_succ])
    refine hList_cell (v := .int .u8 n0) rfl rfl rfl (HV8.out _) rfl (fun w' hw' => (hw'.cell (World.block_lt_of_cell? w1 _ C0.out)).trans C0.out) ?_
    simp only [Act.put, List.setIfInBounds_toArray, List.set_cons_zero, List.set_cons_succ]
    (refine hList_val (v := ?_) (by rfl) (fun c h => by cases h) (fun _ _ => ?_) ?_; rotate_left; (go_simp; first | done | rfl); simp only [Act.put, List.setIfInBounds_toArray, List.set_cons_zero, List.set_cons_succ])
    (refine hList_val (v := ?_) (by rfl) (fun c h => by cases h) (fun _ _ => ?_) ?_; rotate_left; (go_simp; first | done | rfl); simp only [Act.put, List.setIfInBounds_toArray, List.set_cons_zero, List.set_cons_succ])
    refine hList_cell (v := .int .u8 n0) rfl rfl rfl (HV8.out _) rfl (fun w' hw' => (hw'.cell (World.block_lt_of_cell? w1 _ C0.out)).trans C0.out) ?_
    simp only [Act.put, List.setIfInBounds_toArray, List.set_cons_zero, List.set_cons_succ]
    (refine hList_val (v := ?_) (by rfl) (fun c h => by cases h) (fun _ _ => ?_) ?_; rotate_left; (go_simp; first | done | rfl); simp only [Act.put, List.setIfInBounds_toArray, List.set_cons_zero, List.set_cons_succ])
    (refine hList_val (v := ?_) (by rfl) (fun c h => by cases h) (fun _ _ => ?_) ?_; rotate_left; (go_simp; first | done | rfl); simp only [Act.put, List.setIfInBounds_toArray, List.set_cons_zero, List.set_cons_succ])
    refine hList_cell (v := .int .u8 n1) rfl rfl rfl (HV8.out _) rfl (fun w' hw' => (hw'.cell (World.block_lt_of_cell? w1 _ C1.out)).trans C1.out) ?_
    simp only [Act.put, List.setIfInBounds_toArray, List.set_cons_zero, List.set_cons_succ]
    (refine hList_val (v := ?_) (by rfl) (fun c h => by cases h) (fun _ _ => ?_) ?_; rotate_left; (go_simp; first | done | rfl); simp only [Act.put, List.setIfInBounds_toArray, List.set_cons_zero, List.set_cons_succ])
    (refine hList_val (v := ?_) (by rfl) (fun c h => by cases h) (fun _ _ => ?_) ?_; rotate_left; (go_simp; first | done | rfl); simp only [Act.put, List.setIfInBounds_toArray, List.set_cons_zero, List.set_cons_succ])
    (refine hList_val (v := ?_) (by rfl) (fun c h => by cases h) (fun _ _ => ?_) ?_; rotate_left; (go_simp; first | done | rfl); simp only [Act.put, List.setIfInBounds_toArray, List.set_cons_zero, List.set_cons_succ])
    refine hList_nil ?_
    intro w2 hb3
    have HB3 := Lib.hid hb3
    clear hb3
    obtain ⟨q, hq⟩ : ∃ q, q = last L t n0 := ⟨_, rfl⟩
    have hl : Calls Try.prog 18 _ w2 (RetB w2 (.int .i64 q)) := hq ▸ last_calls _ L t n0 w2 (HI.out.later (HB2.out.trans (HB3.out.mono HB2.out.size)))
    have HL := Lib.hid hl
    have HQ := Lib.hid hq
    clear hl hq
    gi_wp2_with ((with_reducible show wpListIn _ _ _ _ _ _ _ _); (refine wpListIn_callf hF 18 rfl rfl egl HL.out rfl ?_))
    rintro e w3 ⟨rfl, hb4⟩
    have hit3 := HI.out.later ((HB2.out.trans (HB3.out.mono HB2.out.size)).trans (hb4.mono (by have := HB2.out.size; have := HB3.out.size; omega)))
    have hcc := cover_calls _ L t n0 (n0 + n1) w3 hit3
    have HCC := Lib.hid hcc
    have HI3 := Lib.hid hit3
    have HB4 := Lib.hid hb4
    have hiff := cover_iff L t _ n0 (n0 + n1) (Nat.le_refl _)
    rw [← HQ.out] at hiff
    have HIFF := Lib.hid hiff
    clear hcc hit3 hb4 hiff
    dsimp only [yNext]
    gi_wp2_with ((with_reducible show wpListIn _ _ _ _ _ _ _ _); (refine wpListIn_callf hF 16 rfl rfl egc HCC.out rfl ?_))
    rintro e w4 (⟨v, zs, hz, rfl, hv, hvb, hzl, hb5⟩ | ⟨hz, rfl, hb5⟩)
    · have hto : n0 + n1 ≤ q := HIFF.out.1 (by rw [hz]; rfl)
      obtain ⟨A', c', rfl, _⟩ := id hv
      rw [List.length_map] at *
      have hc2' : w4.cell? ⟨w.heap.size, 2, none⟩ = some (.int .u8 n2) := by
        have h1 := C2.out
        have h2 := (HB3.out.cell (World.block_lt_of_cell? w1 _ h1)).trans h1
        have h3 := (HB4.out.cell (World.block_lt_of_cell? w2 _ h2)).trans h2
        exact (hb5.cell (World.block_lt_of_cell? w3 _ h3)).trans h3
      have HZ := Lib.hid hz
      have HV := Lib.hid hv
      have HVB := Lib.hid hvb
      have HZL := Lib.hid hzl
      have HB5 := Lib.hid hb5
      clear hz hv hvb hzl hb5
      dsimp only [yNext]
      have hm0 : 0 ≤ n2 % (n0 + n1 - n0 + 1) := Int.emod_nonneg _ (by omega)
      have hm1 : n2 % (n0 + n1 - n0 + 1) ≤ n1 := by have := Int.emod_lt_of_pos n2 (show 0 < n0 + n1 - n0 + 1 by omega); omega
      have hcc2 := cover_calls _ L t n0 (n0 + n2 % (n0 + n1 - n0 + 1)) w4 (HI3.out.later HB5.out)
      have HCC2 := Lib.hid hcc2
      clear hcc2
      gi_wp2_with ((with_reducible show wpListIn _ _ _ _ _ _ _ _); (refine wpListIn_callf hF 16 rfl rfl egc HCC2.out rfl ?_))
      obtain ⟨ys, rest, hys, hzy⟩ := cover_parts L t _ n0 (n0 + n2 % (n0 + n1 - n0 + 1)) (n0 + n1) zs (Nat.le_refl _) (by omega) HZ.out
      rintro e w5 (⟨v2, ys', hz2, rfl, hv2, hvb2, hzl2, hb6⟩ | ⟨hz2, rfl, hb6⟩)
      rotate_left
      · rw [hys] at hz2; cases hz2
      rw [hys] at hz2; cases hz2
      have hlen : ys.length ≤ zs.length := by rw [hzy]; simp
      have hV5 : IntsAt w5 (.slice A' zs.length c') zs := HV.out.later hb6
      obtain ⟨A2, c2, rfl, _, _, hx2⟩ := hv2
      obtain ⟨A0, c0, e0, _, _, hx0⟩ := hV5
      injection e0 with e0 _ _
      subst e0
      rw [List.length_map] at *
      have HX0 := Lib.hid hx0
      have HX2 := Lib.hid hx2
      have HB6 := Lib.hid hb6
      have HZY := Lib.hid hzy
      clear hx0 hx2 hb6 hzy hys hvb2 
      dsimp only [yNext]
      gi_wp2_with fail
      gi_loopw [82] (fun v wr => sameRel ys.length w5 v wr) (fun v wr => ys.length - (intOf v).toNat)
      case atStart => exact ⟨0, Nat.zero_le _, rfl, Below.refl _ _⟩
      case round =>
        obtain ⟨i, hi, rfl, hb⟩ := hrel
        by_cases hlt : i < ys.length
        · have hz : zs[i]? = some ys[i] := by rw [HZY.out, List.getElem?_append_left hlt]; simp
          obtain ⟨b2, o2, rfl, hr2⟩ := HX2.out i (.int .i64 ys[i]) (by simp [hlt])
          obtain ⟨b0, o0, rfl, hr0⟩ := HX0.out i (.int .i64 ys[i]) (by simp [hz])
          have h2 := hr2 0 _ rfl
          have h0 := hr0 0 _ rfl
          have H2 := Lib.hid ((hb.cell (World.block_lt_of_cell? w5 _ h2)).trans h2)
          have H0 := Lib.hid ((hb.cell (World.block_lt_of_cell? w5 _ h0)).trans h0)
          have hlti : (i : Int) < ys.length := by omega
          have hltz : (i : Int) < zs.length := by omega
          have hi63 : (i : Int) < 9223372036854775807 := by have := HZL.out; omega
          have HB := Lib.hid hb
          have HVI := Lib.hid (fun n => vof_one (v := .int .i64 n) Try.underlying3 rfl (by kernel_rfl) rfl rfl)
          clear hz hr2 hr0 h2 h0 hb
          gi_wp2_with fail
          refine wpIn_region_head hF 8 (fun w' => Below wr.heap.size wr w') (by kernel_rfl) (by kernel_rfl) ((Below.refl _ _).drew) ?_
          (refine hList_val (v := ?_) (by rfl) (fun c h => by cases h) (fun _ _ => ?_) ?_; rotate_left; (go_simp; first | done | rfl); simp only [Act.put, List.setIfInBounds_toArray, List.set_cons_zero, List.set_cons_succ])
          (refine hList_val (v := ?_) (by rfl) (fun c h => by cases h) (fun _ _ => ?_) ?_; rotate_left; (go_simp; first | done | rfl); simp only [Act.put, List.setIfInBounds_toArray, List.set_cons_zero, List.set_cons_succ])
          (refine hList_val (v := ?_) (by rfl) (fun c h => by cases h) (fun _ _ => ?_) ?_; rotate_left; (go_simp; first | done | rfl); simp only [Act.put, List.setIfInBounds_toArray, List.set_cons_zero, List.set_cons_succ])
          refine hList_cell (v := .int .i64 ys[i]) rfl rfl rfl (HVI.out _) rfl (fun w' hw' => (hw'.cell (World.block_lt_of_cell? wr _ (by simpa using H2.out))).trans (by simpa using H2.out)) ?_
          simp only [Act.put, List.setIfInBounds_toArray, List.set_cons_zero, List.set_cons_succ]
          (refine hList_val (v := ?_) (by rfl) (fun c h => by cases h) (fun _ _ => ?_) ?_; rotate_left; (go_simp; first | done | rfl); simp only [Act.put, List.setIfInBounds_toArray, List.set_cons_zero, List.set_cons_succ])
          (refine hList_val (v := ?_) (by rfl) (fun c h => by cases h) (fun _ _ => ?_) ?_; rotate_left; (go_simp; first | done | rfl); simp only [Act.put, List.setIfInBounds_toArray, List.set_cons_zero, List.set_cons_succ])
          (refine hList_val (v := ?_) (by rfl) (fun c h => by cases h) (fun _ _ => ?_) ?_; rotate_left; (go_simp; first | done | rfl); simp only [Act.put, List.setIfInBounds_toArray, List.set_cons_zero, List.set_cons_succ])
          refine hList_cell (v := .int .i64 ys[i]) rfl rfl rfl (HVI.out _) rfl (fun w' hw' => (hw'.cell (World.block_lt_of_cell? wr _ (by simpa using H0.out))).trans (by simpa using H0.out)) ?_
          simp only [Act.put, List.setIfInBounds_toArray, List.set_cons_zero, List.set_cons_succ]
          refine hList_nil ?_
          intro w6 hb7
          have HB7 := Lib.hid hb7
          clear hb7
          gi_wp2_with fail
          go_roundw
          case rel => exact ⟨i + 1, by omega, by simp, HB.out.trans (HB7.out.mono HB.out.size)⟩
          case measure => simp [intOf]; omega
        · have hnlt : ¬ ((i : Int) < ys.length) := by omega
          have HB := Lib.hid hb
          clear hb
          gi_wp2_with fail
          go_ret
          have z1 := HS1.out
          have z2 := HB2.out.size
          have z3 := HB3.out.size
          have z4 := HB4.out.size
          have z5 := HB5.out.size
          have z6 := HB6.out.size
          exact ⟨rfl, HB1.out.trans ((HB2.out.mono (by omega)).trans ((HB3.out.mono (by omega)).trans ((HB4.out.mono (by omega)).trans ((HB5.out.mono (by omega)).trans ((HB6.out.mono (by omega)).trans (HB.out.mono (by omega)))))))⟩
    · have hto : ¬ (n0 + n1 ≤ q) := fun h => by have := HIFF.out.2 h; rw [hz] at this; cases this
      have HB5 := Lib.hid hb5
      clear hz hb5
      dsimp only [yNext]
      gi_wp2_with fail
      go_ret
      have z1 := HS1.out
      have z2 := HB2.out.size
      have z3 := HB3.out.size
      have z4 := HB4.out.size
      exact ⟨rfl, HB1.out.trans ((HB2.out.mono (by omega)).trans ((HB3.out.mono (by omega)).trans ((HB4.out.mono (by omega)).trans (HB5.out.mono (by omega)))))⟩
end Reach
end Go.Proofs.Ytigbglagfbbmjaa
