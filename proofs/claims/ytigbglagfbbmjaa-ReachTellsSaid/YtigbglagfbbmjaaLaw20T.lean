/- The walk of ReachTells. Condition: the slice holds the items. -/
import Derived.Test.YtigbglagfbbmjaaLaw20P
import Derived.Test.YtigbglagfbbmjaaRef20
namespace Go.Proofs.Ytigbglagfbbmjaa
open Go.RowKit Go.Shelf
set_option linter.unusedSimpArgs false
set_option linter.unusedVariables false
attribute [local go_sem] Oper.semAt_some
namespace Reach

/-- What a call of Cover leaves, in one form. -/
def coverBoth (L : List Itm) (t fr to : Int) (w : World) (e : Ending) (w' : World) : Prop :=
  ∃ A c zs, e = .returned (.tuple #[.slice A zs.length c, .bool (cover L t fr to).isSome]) ∧ zs = (cover L t fr to).getD [] ∧ IntsAt w' (.slice A zs.length c) zs ∧ zs.length ≤ L.length ∧ Below w.heap.size w w'
theorem coverBoth_of {L : List Itm} {t fr to : Int} {w : World} {e : Ending} {w' : World} (h : coverEnd L t fr to w e w') : coverBoth L t fr to w e w' := by
  rcases h with ⟨v, zs, hz, rfl, hv, hvb, hzl, hb⟩ | ⟨hz, rfl, hb⟩
  · obtain ⟨A, c, rfl, _⟩ := id hv
    rw [List.length_map] at *
    exact ⟨A, c, zs, by rw [hz]; rfl, by rw [hz]; rfl, hv, hzl, hb⟩
  · exact ⟨none, 0, [], by rw [hz]; rfl, by rw [hz]; rfl, ⟨none, 0, rfl, Nat.le_refl _, (fun _ => rfl), fun i x hx => by simp at hx⟩, Nat.zero_le _, hb⟩

set_option maxRecDepth 100000 in
set_option maxHeartbeats 1000000 in
theorem tells_calls (sv : Value) (L : List Itm) (t n0 n1 : Int) (w : World) (h : Items w sv L) :
    Calls Try.prog 3 #[sv, .int .i64 t, .agg #[.int .i64 n0, .int .i64 n1]] w (trueEnd w) := by
  have hF := isWide_wide
  have egf := (enters_of Try.func15 (by kernel_rfl) rfl)
  have egc := (enters_of Try.func16 (by kernel_rfl) rfl)
  have egl := (enters_of Try.func18 (by kernel_rfl) rfl)
  have egrc := (enters_of Try.func17 (by kernel_rfl) rfl)
  have egrl := (enters_of Try.func19 (by kernel_rfl) rfl)
  obtain ⟨W1, hW1⟩ : ∃ W1, W1 = w.alloc (.cells #[.int .i64 n0, .int .i64 n1] 23) := ⟨_, rfl⟩
  have hfc := first_calls W1
  have hs1 : W1.heap.size = w.heap.size + 1 := by rw [hW1]; simp
  have hb1 : Below w.heap.size w W1 := by rw [hW1]; exact (Below.refl _ _).alloc (Nat.le_refl _) _
  have hit := h.later hb1
  have hc0 : W1.heap[w.heap.size]? = some (.cells #[.int .i64 n0, .int .i64 n1] 23) := by rw [hW1]; exact World.alloc_heap_new w _
  obtain ⟨A, c, rfl, hc, hA, hx⟩ := h.at_
  rw [List.length_map] at *
  have HW1 := Lib.hid hW1.symm
  have HS1 := Lib.hid hs1
  have HB1 := Lib.hid hb1
  have HI := Lib.hid hit
  have HFC := Lib.hid hfc
  have HC0 := Lib.hid hc0
  clear h hx hfc hA hc hW1 hs1 hb1 hit hc0
  (refine calls_enter Try.func3 rfl ?_; simp only [Try.ntmps3, List.size_toArray, List.length_cons, List.length_nil, Nat.reduceAdd, Nat.reduceSub, Array.replicate_succ, Array.replicate_zero, List.push_toArray, List.append_toArray, List.nil_append, List.cons_append])
  gi_wp2_with ((with_reducible show wpListIn _ _ _ _ _ _ _ _); (rw [HW1.out]; refine wpListIn_callf hF 15 rfl rfl egf HFC.out rfl ?_))
  rintro e w1 ⟨rfl, hb2⟩
  have HB2 := Lib.hid hb2
  clear hb2
  dsimp only [yNext]
  by_cases hn : (L.length : Int) > 40
  · gi_wp2_with fail
    go_ret
    exact ⟨rfl, HB1.out.trans (HB2.out.mono (by have := HS1.out; omega))⟩
  · have hn' : (L.length : Int) ≤ 40 := by omega
    have hblk : w1.heap[w.heap.size]? = some (.cells #[.int .i64 n0, .int .i64 n1] 23) := (HB2.out.block _ (by have := HS1.out; omega)).trans HC0.out
    have c0 : w1.cell? ⟨w.heap.size, 0, none⟩ = some (.int .i64 n0) := by rw [cell_of_row w1 _ _ _ _ _ hblk]; rfl
    have c1 : w1.cell? ⟨w.heap.size, 1, none⟩ = some (.int .i64 n1) := by rw [cell_of_row w1 _ _ _ _ _ hblk]; rfl
    have hcc := (cover_calls _ L t n0 n1 w1 (HI.out.later HB2.out)).mono fun e w' h => coverBoth_of h
    have HCC := Lib.hid hcc
    have HBLK := Lib.hid hblk
    clear hblk hcc
    gi_wp2_with ((with_reducible show wpListIn _ _ _ _ _ _ _ _); (refine wpListIn_callf hF 16 rfl rfl egc HCC.out rfl ?_))
    rintro e w2 ⟨Ax, cx, zs, rfl, hzs, hx, hzl, hb3⟩
    have c0' : w2.cell? ⟨w.heap.size, 0, none⟩ = some (.int .i64 n0) := (hb3.cell (World.block_lt_of_cell? w1 _ c0)).trans c0
    have c1' : w2.cell? ⟨w.heap.size, 1, none⟩ = some (.int .i64 n1) := (hb3.cell (World.block_lt_of_cell? w1 _ c1)).trans c1
    have hcc := (rcover_calls _ L t n1 _ n0 w2 (Nat.lt_succ_self _) ((HI.out.later HB2.out).later hb3)).mono fun e w' h => coverBoth_of h
    have HCC2 := Lib.hid hcc
    have HZS := Lib.hid hzs
    have HX := Lib.hid hx
    have HZL := Lib.hid hzl
    have HB3 := Lib.hid hb3
    clear hcc hzs hx hzl hb3 c0 c1
    dsimp only [yNext]
    gi_wp2_with ((with_reducible show wpListIn _ _ _ _ _ _ _ _); (refine wpListIn_callf hF 17 rfl rfl egrc HCC2.out rfl ?_))
    rintro e w3 ⟨Ay, cy, zs', rfl, hzs', hy, _, hb4⟩
    have hzz : zs' = zs := hzs'.trans HZS.out.symm
    subst hzz
    have hx3 : IntsAt w3 (.slice Ax zs'.length cx) zs' := HX.out.later hb4
    have C0 := Lib.hid ((hb4.cell (World.block_lt_of_cell? w2 _ c0')).trans c0')
    have HI3 := Lib.hid (((HI.out.later HB2.out).later HB3.out).later hb4)
    have HX3 := Lib.hid hx3
    have HY3 := Lib.hid hy
    have HB4 := Lib.hid hb4
    have HVI := Lib.hid (fun n => vof_one (P := Try.prog) (T := 3) (v := .int .i64 n) Try.underlying3 rfl (by kernel_rfl) rfl rfl)
    obtain ⟨bb, hbb⟩ : ∃ bb, bb = (cover L t n0 n1).isSome := ⟨_, rfl⟩
    rw [← hbb]
    clear hzs' hy hb4 hx3 c0' c1' hbb
    dsimp only [yNext]
    gi_wp2_with fail
    refine wpIn_region_head hF 22 (fun w' => Below w3.heap.size w3 w') (by kernel_rfl) (by kernel_rfl) ((Below.refl _ _).drew) ?_
    (refine hList_val (v := ?_) (by rfl) (fun c h => by cases h) (fun _ _ => ?_) ?_; rotate_left; (go_simp; first | done | rfl); simp only [Act.put, List.setIfInBounds_toArray, List.set_cons_zero, List.set_cons_succ])
    (refine hList_val (v := ?_) (by rfl) (fun c h => by cases h) (fun _ _ => ?_) ?_; rotate_left; (go_simp; first | done | rfl); simp only [Act.put, List.setIfInBounds_toArray, List.set_cons_zero, List.set_cons_succ])
    (refine hList_val (v := ?_) (by rfl) (fun c h => by cases h) (fun _ _ => ?_) ?_; rotate_left; (go_simp; first | done | rfl); simp only [Act.put, List.setIfInBounds_toArray, List.set_cons_zero, List.set_cons_succ])
    (refine hList_val (v := ?_) (by rfl) (fun c h => by cases h) (fun _ _ => ?_) ?_; rotate_left; (go_simp; first | done | rfl); simp only [Act.put, List.setIfInBounds_toArray, List.set_cons_zero, List.set_cons_succ])
    (refine hList_val (v := ?_) (by rfl) (fun c h => by cases h) (fun _ _ => ?_) ?_; rotate_left; (go_simp; first | done | rfl); simp only [Act.put, List.setIfInBounds_toArray, List.set_cons_zero, List.set_cons_succ])
    (refine hList_val (v := ?_) (by rfl) (fun c h => by cases h) (fun _ _ => ?_) ?_; rotate_left; (go_simp; first | done | rfl); simp only [Act.put, List.setIfInBounds_toArray, List.set_cons_zero, List.set_cons_succ])
    (refine hList_val (v := ?_) (by rfl) (fun c h => by cases h) (fun _ _ => ?_) ?_; rotate_left; (go_simp; first | done | rfl); simp only [Act.put, List.setIfInBounds_toArray, List.set_cons_zero, List.set_cons_succ])
    (refine hList_val (v := ?_) (by rfl) (fun c h => by cases h) (fun _ _ => ?_) ?_; rotate_left; (go_simp; first | done | rfl); simp only [Act.put, List.setIfInBounds_toArray, List.set_cons_zero, List.set_cons_succ])
    (refine hList_val (v := ?_) (by rfl) (fun c h => by cases h) (fun _ _ => ?_) ?_; rotate_left; (go_simp; first | done | rfl); simp only [Act.put, List.setIfInBounds_toArray, List.set_cons_zero, List.set_cons_succ])
    (refine hList_val (v := ?_) (by rfl) (fun c h => by cases h) (fun _ _ => ?_) ?_; rotate_left; (go_simp; first | done | rfl); simp only [Act.put, List.setIfInBounds_toArray, List.set_cons_zero, List.set_cons_succ])
    (refine hList_val (v := ?_) (by rfl) (fun c h => by cases h) (fun _ _ => ?_) ?_; rotate_left; (go_simp; first | done | rfl); simp only [Act.put, List.setIfInBounds_toArray, List.set_cons_zero, List.set_cons_succ])
    (refine hList_val (v := ?_) (by rfl) (fun c h => by cases h) (fun _ _ => ?_) ?_; rotate_left; (go_simp; first | done | rfl); simp only [Act.put, List.setIfInBounds_toArray, List.set_cons_zero, List.set_cons_succ])
    (refine hList_val (v := ?_) (by rfl) (fun c h => by cases h) (fun _ _ => ?_) ?_; rotate_left; (go_simp; first | done | rfl); simp only [Act.put, List.setIfInBounds_toArray, List.set_cons_zero, List.set_cons_succ])
    (refine hList_val (v := ?_) (by rfl) (fun c h => by cases h) (fun _ _ => ?_) ?_; rotate_left; (go_simp; first | done | rfl); simp only [Act.put, List.setIfInBounds_toArray, List.set_cons_zero, List.set_cons_succ])
    refine hList_cell (v := .int .i64 n0) rfl rfl rfl (HVI.out _) rfl (fun w' hw' => (hw'.cell (World.block_lt_of_cell? w3 _ C0.out)).trans C0.out) ?_
    simp only [Act.put, List.setIfInBounds_toArray, List.set_cons_zero, List.set_cons_succ]
    refine hList_callf (v := .int .i64 (last L t n0)) 18 rfl rfl egl rfl (fun w' hw' => (last_calls _ L t n0 w' (HI3.out.later hw')).mono (by rintro e w2 ⟨rfl, hb⟩; exact ⟨rfl, hw'.trans (hb.mono hw'.size)⟩)) ?_
    simp only [Act.put, List.setIfInBounds_toArray, List.set_cons_zero, List.set_cons_succ]
    (refine hList_val (v := ?_) (by rfl) (fun c h => by cases h) (fun _ _ => ?_) ?_; rotate_left; (go_simp; first | done | rfl); simp only [Act.put, List.setIfInBounds_toArray, List.set_cons_zero, List.set_cons_succ])
    (refine hList_val (v := ?_) (by rfl) (fun c h => by cases h) (fun _ _ => ?_) ?_; rotate_left; (go_simp; first | done | rfl); simp only [Act.put, List.setIfInBounds_toArray, List.set_cons_zero, List.set_cons_succ])
    (refine hList_val (v := ?_) (by rfl) (fun c h => by cases h) (fun _ _ => ?_) ?_; rotate_left; (go_simp; first | done | rfl); simp only [Act.put, List.setIfInBounds_toArray, List.set_cons_zero, List.set_cons_succ])
    refine hList_cell (v := .int .i64 n0) rfl rfl rfl (HVI.out _) rfl (fun w' hw' => (hw'.cell (World.block_lt_of_cell? w3 _ C0.out)).trans C0.out) ?_
    simp only [Act.put, List.setIfInBounds_toArray, List.set_cons_zero, List.set_cons_succ]
    refine hList_callf (v := .int .i64 (last L t n0)) 19 rfl rfl egrl rfl (fun w' hw' => (rlast_calls _ L t _ n0 w' (Nat.lt_succ_self _) (HI3.out.later hw')).mono (by rintro e w2 ⟨rfl, hb⟩; exact ⟨rfl, hw'.trans (hb.mono hw'.size)⟩)) ?_
    simp only [Act.put, List.setIfInBounds_toArray, List.set_cons_zero, List.set_cons_succ]
    (refine hList_val (v := ?_) (by rfl) (fun c h => by cases h) (fun _ _ => ?_) ?_; rotate_left; (go_simp; first | done | rfl); simp only [Act.put, List.setIfInBounds_toArray, List.set_cons_zero, List.set_cons_succ])
    refine hList_nil ?_
    intro w4 hb5
    simp only [List.drop_succ_cons, List.drop_zero]
    obtain ⟨Ax', cx', ex, _, _, hx⟩ := HX3.out
    obtain ⟨Ay', cy', ey, _, _, hy⟩ := HY3.out
    injection ex with ex ex1 ex2
    injection ey with ey ey1 ey2
    clear ex1 ex2 ey1 ey2
    subst ex ey
    have HX4 := Lib.hid hx
    have HY4 := Lib.hid hy
    have HB5 := Lib.hid hb5
    clear hx hy hb5
    gi_wp2_with fail
    gi_loopw [62] (fun v wr => sameRel zs'.length w4 v wr) (fun v wr => zs'.length - (intOf v).toNat)
    case atStart => exact ⟨0, Nat.zero_le _, rfl, Below.refl _ _⟩
    case round =>
      obtain ⟨i, hi, rfl, hb⟩ := hrel
      by_cases hlt : i < zs'.length
      · obtain ⟨b2, o2, rfl, hr2⟩ := HX4.out i (.int .i64 zs'[i]) (by simp [hlt])
        obtain ⟨b0, o0, rfl, hr0⟩ := HY4.out i (.int .i64 zs'[i]) (by simp [hlt])
        have h2 := hr2 0 _ rfl
        have h0 := hr0 0 _ rfl
        have h2 := (HB5.out.cell (World.block_lt_of_cell? w3 _ h2)).trans h2
        have h0 := (HB5.out.cell (World.block_lt_of_cell? w3 _ h0)).trans h0
        have H2 := Lib.hid ((hb.cell (World.block_lt_of_cell? w4 _ h2)).trans h2)
        have H0 := Lib.hid ((hb.cell (World.block_lt_of_cell? w4 _ h0)).trans h0)
        have hlti : (i : Int) < zs'.length := by omega
        have hi63 : (i : Int) < 9223372036854775807 := by have := HZL.out; omega
        have HB := Lib.hid hb
        clear hr2 hr0 h2 h0 hb
        gi_wp2_with fail
        refine wpIn_region_head hF 8 (fun w' => Below wr.heap.size wr w') (by kernel_rfl) (by kernel_rfl) ((Below.refl _ _).drew) ?_
        (refine hList_val (v := ?_) (by rfl) (fun c h => by cases h) (fun _ _ => ?_) ?_; rotate_left; (go_simp; first | done | rfl); simp only [Act.put, List.setIfInBounds_toArray, List.set_cons_zero, List.set_cons_succ])
        (refine hList_val (v := ?_) (by rfl) (fun c h => by cases h) (fun _ _ => ?_) ?_; rotate_left; (go_simp; first | done | rfl); simp only [Act.put, List.setIfInBounds_toArray, List.set_cons_zero, List.set_cons_succ])
        (refine hList_val (v := ?_) (by rfl) (fun c h => by cases h) (fun _ _ => ?_) ?_; rotate_left; (go_simp; first | done | rfl); simp only [Act.put, List.setIfInBounds_toArray, List.set_cons_zero, List.set_cons_succ])
        refine hList_cell (v := .int .i64 zs'[i]) rfl rfl rfl (HVI.out _) rfl (fun w' hw' => (hw'.cell (World.block_lt_of_cell? wr _ (by simpa using H2.out))).trans (by simpa using H2.out)) ?_
        simp only [Act.put, List.setIfInBounds_toArray, List.set_cons_zero, List.set_cons_succ]
        (refine hList_val (v := ?_) (by rfl) (fun c h => by cases h) (fun _ _ => ?_) ?_; rotate_left; (go_simp; first | done | rfl); simp only [Act.put, List.setIfInBounds_toArray, List.set_cons_zero, List.set_cons_succ])
        (refine hList_val (v := ?_) (by rfl) (fun c h => by cases h) (fun _ _ => ?_) ?_; rotate_left; (go_simp; first | done | rfl); simp only [Act.put, List.setIfInBounds_toArray, List.set_cons_zero, List.set_cons_succ])
        (refine hList_val (v := ?_) (by rfl) (fun c h => by cases h) (fun _ _ => ?_) ?_; rotate_left; (go_simp; first | done | rfl); simp only [Act.put, List.setIfInBounds_toArray, List.set_cons_zero, List.set_cons_succ])
        refine hList_cell (v := .int .i64 zs'[i]) rfl rfl rfl (HVI.out _) rfl (fun w' hw' => (hw'.cell (World.block_lt_of_cell? wr _ (by simpa using H0.out))).trans (by simpa using H0.out)) ?_
        simp only [Act.put, List.setIfInBounds_toArray, List.set_cons_zero, List.set_cons_succ]
        refine hList_nil ?_
        intro w6 hb7
        have HB7 := Lib.hid hb7
        clear hb7
        gi_wp2_with fail
        go_roundw
        case rel => exact ⟨i + 1, by omega, by simp, HB.out.trans (HB7.out.mono HB.out.size)⟩
        case measure => simp [intOf]; omega
      · have hnlt : ¬ ((i : Int) < zs'.length) := by omega
        have HB := Lib.hid hb
        clear hb
        gi_wp2_with fail
        go_ret
        have z1 := HS1.out
        have z2 := HB2.out.size
        have z3 := HB3.out.size
        have z4 := HB4.out.size
        have z5 := HB5.out.size
        exact ⟨rfl, HB1.out.trans ((HB2.out.mono (by omega)).trans ((HB3.out.mono (by omega)).trans ((HB4.out.mono (by omega)).trans ((HB5.out.mono (by omega)).trans (HB.out.mono (by omega))))))⟩
end Reach
end Go.Proofs.Ytigbglagfbbmjaa
