/- What package breviarylaw20 asks ahead of its statements. No condition. -/
import Derived.Test.YtigbglagfbbmjaaReach
namespace Go.Proofs.Ytigbglagfbbmjaa
open Go.RowKit Go.Shelf
set_option linter.unusedSimpArgs false
set_option linter.unusedVariables false
attribute [local go_sem] Oper.semAt_some
namespace Reach

set_option maxRecDepth 100000 in
set_option maxHeartbeats 400000 in
theorem count1 (x : Itm) (N m : Nat) (hm : m < 1000) (w : World) (hN : BoxV w N 3 (.int .i64 m)) :
    Calls Try.prog 75 #[x.v, .pointer (some ⟨N, 0, none⟩)] w (fun e w' => e = .returned (.bool true) ∧ BoxV w' N 3 (.int .i64 ((m + 1 : Nat) : Int)) ∧ Touch (fun k => k = N) w w') := by
  have hc : (w.alloc (.cells #[.int .i64 x.id, .int .i64 x.kind, .int .i64 x.tl, .int .i64 x.num, .int .i64 x.a, .int .i64 x.b, .int .i64 x.par, .int .i64 x.len, x.ext] 35)).cell? ⟨N, 0, none⟩ = some (.int .i64 m) := (World.cell?_alloc_lt w _ _ hN.lt).trans (hN.cell rfl)
  have hfr : (w.alloc (.cells #[.int .i64 x.id, .int .i64 x.kind, .int .i64 x.tl, .int .i64 x.num, .int .i64 x.a, .int .i64 x.b, .int .i64 x.par, .int .i64 x.len, x.ext] 35)).frozen? ⟨N, 0, none⟩ = false := (hN.alloc _).frozen
  (refine calls_enter Try.func75 rfl ?_; simp only [Try.ntmps75, List.size_toArray, List.length_cons, List.length_nil, Nat.reduceAdd, Nat.reduceSub, Array.replicate_succ, Array.replicate_zero, List.push_toArray, List.append_toArray, List.nil_append, List.cons_append])
  gi_wp2
  go_ret
  exact ⟨rfl, (hN.alloc (.cells (cv x.v) 35)).setCell rfl rfl, ((Touch.alloc _ _ _).trans (Touch.setCell (S := fun k => k = N) _ _ _ rfl))⟩

def L0 : List Itm := [⟨7, 1, 1, 0, 3, 5, 0, 0, .slice none 0 0⟩, ⟨4, 1, 1, 0, 0, 3, 0, 0, .slice none 0 0⟩]
theorem n11 : nextSeg L0 1 1 = some ⟨4, 1, 1, 0, 0, 3, 0, 0, .slice none 0 0⟩ := by simp [nextSeg, L0, segB, nextB]
theorem n13 : nextSeg L0 1 3 = some ⟨7, 1, 1, 0, 3, 5, 0, 0, .slice none 0 0⟩ := by simp [nextSeg, L0, segB, nextB]
theorem n15 : nextSeg L0 1 5 = none := by simp [nextSeg, L0, segB, nextB]
theorem n10 : nextSeg L0 1 0 = some ⟨4, 1, 1, 0, 0, 3, 0, 0, .slice none 0 0⟩ := by simp [nextSeg, L0, segB, nextB]
theorem n20 : nextSeg L0 2 0 = none := by simp [nextSeg, L0, segB, nextB]
theorem c14 : cover L0 1 1 4 = some [4, 7] := by rw [cover_some (by decide) n11, cover_some (by decide) n13, cover_done (by decide)]; rfl
theorem c16 : cover L0 1 1 6 = none := by rw [cover_some (by decide) n11, cover_some (by decide) n13, cover_none (by decide) n15]; rfl
theorem l10 : last L0 1 0 = 5 := by rw [last_some n10, last_some n13, last_none n15]
theorem l20 : last L0 2 0 = 0 := by rw [last_none n20]

set_option maxRecDepth 100000 in
set_option maxHeartbeats 400000 in
theorem first_calls (w : World) : Calls Try.prog 15 #[] w (fun e w' => e = .returned (.bool true) ∧ Below w.heap.size w w') := by
  have hF := isWide_wide
  have egc := (enters_of Try.func16 (by kernel_rfl) rfl)
  have egs := (enters_of Try.func74 (by kernel_rfl) rfl)
  have egl := (enters_of Try.func18 (by kernel_rfl) rfl)
  obtain ⟨W1, hW1⟩ : ∃ W1, W1 = w.alloc (.cells (cellsOf (L0.map Itm.v)).toArray 35) := ⟨_, rfl⟩
  have hs1 : W1.heap.size = w.heap.size + 1 := by rw [hW1]; simp
  have hb1 : Below w.heap.size w W1 := by rw [hW1]; exact (Below.refl _ _).alloc (Nat.le_refl _) _
  have hit : Items W1 (.slice (some ⟨w.heap.size, 0, none⟩) 2 2) L0 := by
    refine ⟨SliceAt.of_block (xs := L0.map Itm.v) (k := 9) ?_ (by rw [hW1]; exact World.alloc_heap_new w _) (by simp [L0]), ?_, by simp [L0]⟩
    · intro x hx; obtain ⟨y, _, rfl⟩ := List.mem_map.1 hx; rfl
    · intro x hx; simp [L0] at hx; rcases hx with rfl | rfl <;> exact ⟨_, _, _, rfl⟩
  have hcc := cover_calls _ L0 1 1 4 W1 hit
  have hW1' : w.alloc (.cells #[.int .i64 7, .int .i64 1, .int .i64 1, .int .i64 0, .int .i64 3, .int .i64 5, .int .i64 0, .int .i64 0, .slice none 0 0, .int .i64 4, .int .i64 1, .int .i64 1, .int .i64 0, .int .i64 0, .int .i64 3, .int .i64 0, .int .i64 0, .slice none 0 0] 35) = W1 := hW1.symm
  have HW1 := Lib.hid hW1'
  have HS1 := Lib.hid hs1
  have HB1 := Lib.hid hb1
  have HIT := Lib.hid hit
  have HCC := Lib.hid hcc
  clear hW1 hW1' hs1 hb1 hit hcc
  (refine calls_enter Try.func15 rfl ?_; simp only [Try.ntmps15, List.size_toArray, List.length_cons, List.length_nil, Nat.reduceAdd, Nat.reduceSub, Array.replicate_succ, Array.replicate_zero, List.push_toArray, List.append_toArray, List.nil_append, List.cons_append])
  gi_wp2_with ((with_reducible show wpListIn _ _ _ _ _ _ _ _); (rw [HW1.out]; refine wpListIn_callf hF 16 rfl rfl egc HCC.out rfl ?_))
  rintro e w2 (⟨v, zs, hz, rfl, hv, hvb, hzl, hb2⟩ | ⟨hz, _⟩)
  rotate_left
  · rw [c14] at hz; cases hz
  rw [c14] at hz; cases hz
  obtain ⟨A, c, rfl, hc, hA, hx⟩ := hv
  obtain ⟨b, o, rfl, h0⟩ := hx 0 _ rfl
  obtain ⟨b', o', e', h1⟩ := hx 1 _ rfl
  cases e'
  have h0 := h0 0 _ rfl
  have h1 := h1 0 _ rfl
  have hblt := hvb b rfl
  have hcc := cover_calls _ L0 1 1 6 w2 (HIT.out.later hb2)
  have HCC2 := Lib.hid hcc
  have H0 := Lib.hid h0
  have H1 := Lib.hid h1
  have HB2 := Lib.hid hb2
  have HBLT := Lib.hid hblt
  clear hcc h0 h1 hb2 hvb hblt hx hA hzl hc
  dsimp only [yNext]
  gi_wp2_with ((with_reducible show wpListIn _ _ _ _ _ _ _ _); (refine wpListIn_callf hF 16 rfl rfl egc HCC2.out rfl ?_))
  rintro e w3 (⟨v, zs, hz, rfl, hv, hvb, hzl, hb3⟩ | ⟨hz, rfl, hb3⟩)
  · rw [c16] at hz; cases hz
  dsimp only [yNext]
  obtain ⟨W4, hW4⟩ : ∃ W4, W4 = w3.alloc (.cells (cv (.int .i64 0)) 3) := ⟨_, rfl⟩
  have hs4 : W4.heap.size = w3.heap.size + 1 := by rw [hW4]; simp
  have hbx : BoxV W4 w3.heap.size 3 (.int .i64 0) := by rw [hW4]; exact BoxV.new _ _ _
  have hb4 : Below W1.heap.size W1 W4 := by rw [hW4]; exact ((HB2.out.trans (hb3.mono HB2.out.size)).alloc (by have := HB2.out.size; have := hb3.size; omega) _)
  have hW4' : w3.alloc (.cells #[.int .i64 0] 3) = W4 := hW4.symm
  have hsg := segments _ L0 1 W4 (HIT.out.later hb4)
  have hc0 : W4.heap[b]? = w2.heap[b]? := by
    have := H0.out
    rw [hW4]
    exact (Below.heap_alloc w3 _ b (Nat.lt_of_lt_of_le (World.block_lt_of_cell? w2 _ this) hb3.size)).trans (hb3.block b (World.block_lt_of_cell? w2 _ this))
  have hsz3 := hb3.size
  have HW4 := Lib.hid hW4'
  have HS4 := Lib.hid hs4
  have HBX := Lib.hid hbx
  have HB4 := Lib.hid hb4
  have HSG := Lib.hid hsg
  have HC0 := Lib.hid hc0
  have HSZ3 := Lib.hid hsz3
  clear hW4 hW4' hs4 hbx hb4 hsg hc0 hsz3 hb3 hz
  gi_wp2_with ((with_reducible show wpListIn _ _ _ _ _ _ _ _); (rw [HW4.out]; refine wpListIn_callf hF 74 rfl rfl egs HSG.out rfl ?_))
  rintro e w5 ⟨s, rfl, hs, hb5⟩
  have hflt : L0.filter (segB 1) = L0 := by simp [L0, segB]
  rw [hflt] at hs
  obtain ⟨g, lb, rfl, eg, hcall⟩ := hs.drive w3.heap.size 75 (by intro h; have := HS4.out; omega) (by have := HS4.out; have := hb5.size; omega) (enters_of Try.func75 (by kernel_rfl) rfl) (fun pre w => BoxV w w3.heap.size 3 (.int .i64 ((pre.length : Nat) : Int)))
    (fun pre A B hA _ hB => hB.trans hA)
    (fun pre x post A hx hsz hA => by
      have hl : pre.length < 1000 := by have := congrArg List.length hx; simp [L0] at this; omega
      have hm : x ∈ L0.map Itm.v := by rw [hx]; simp
      obtain ⟨y, hy, rfl⟩ := List.mem_map.1 hm
      refine (count1 y w3.heap.size pre.length hl A hA).mono ?_
      rintro e B ⟨rfl, hB, ht⟩
      exact ⟨rfl, by simpa using hB, ht⟩)
    ((hb5.block _ (by have := HS4.out; omega)).trans HBX.out)
  have q := fun (f : Fn) (x y : Array Value) (w : World) => run_neq_func_nil (P := Try.prog) Try.underlying108 f x y w
  have HB5 := Lib.hid hb5
  have HCALL := Lib.hid hcall
  clear hb5 hcall hs hflt
  dsimp only [yNext]
  gi_wp2_with ((with_reducible show wpListIn _ _ _ _ _ _ _ _); (refine wpListIn_callc hF rfl rfl rfl eg HCALL.out rfl ?_))
  rintro e w6 ⟨rfl, hbx6, ht6⟩
  have z1 := HS1.out
  have z2 := HB2.out.size
  have z3 := HSZ3.out
  have z4 := HS4.out
  have z5 := HB5.out.size
  have hb6 : Below w3.heap.size W4 w6 := (HB5.out.mono (by omega)).trans (ht6.below (by omega) (fun k hk h => by omega))
  have hb7 : Below W1.heap.size W1 w6 := HB4.out.trans (hb6.mono (by omega))
  have hit6 := HIT.out.later hb7
  have hcb : w6.heap[b]? = w2.heap[b]? := (hb6.block b (by have := World.block_lt_of_cell? w2 _ H0.out; dsimp only at this; omega)).trans HC0.out
  have h0 : w6.cell? ⟨b, o, none⟩ = some (.int .i64 4) := (World.cell?_of_block hcb).trans (by have := H0.out; simpa using this)
  have h1 : w6.cell? ⟨b, o + 1, none⟩ = some (.int .i64 7) := (World.cell?_of_block hcb).trans (by have := H1.out; simpa using this)
  have h2 : w6.cell? ⟨w3.heap.size, 0, none⟩ = some (.int .i64 2) := hbx6.cell rfl
  have hl1 := last_calls _ L0 1 0 w6 hit6
  rw [l10] at hl1
  have HL1 := Lib.hid hl1
  have HIT6 := Lib.hid hit6
  have HB7 := Lib.hid hb7
  clear hb6 hb7 hit6 hcb hl1 z1 z2 z3 z4 z5 hbx6 ht6 q
  dsimp only [yNext]
  gi_wp2_with ((with_reducible show wpListIn _ _ _ _ _ _ _ _); (refine wpListIn_callf hF 18 rfl rfl egl HL1.out rfl ?_))
  rintro e w7 ⟨rfl, hb8⟩
  have hl2 := last_calls _ L0 2 0 w7 (HIT6.out.later hb8)
  rw [l20] at hl2
  have h3 : w7.cell? ⟨w3.heap.size, 0, none⟩ = some (.int .i64 2) := (hb8.cell (World.block_lt_of_cell? w6 _ h2)).trans h2
  have HL2 := Lib.hid hl2
  have H3 := Lib.hid h3
  have HB8 := Lib.hid hb8
  clear hl2 hb8 h3 h0 h1 h2
  dsimp only [yNext]
  gi_wp2_with ((with_reducible show wpListIn _ _ _ _ _ _ _ _); (refine wpListIn_callf hF 18 rfl rfl egl HL2.out rfl ?_))
  rintro e w8 ⟨rfl, hb9⟩
  have h4 : w8.cell? ⟨w3.heap.size, 0, none⟩ = some (.int .i64 2) := (hb9.cell (World.block_lt_of_cell? w7 _ H3.out)).trans H3.out
  have HB9 := Lib.hid hb9
  clear hb9
  dsimp only [yNext]
  gi_wp2_with fail
  go_ret
  have z1 := HS1.out
  have z2 := HB7.out.size
  have z3 := HB8.out.size
  exact ⟨rfl, HB1.out.trans ((HB7.out.mono (by omega)).trans ((HB8.out.mono (by omega)).trans (HB9.out.mono (by omega))))⟩
end Reach
end Go.Proofs.Ytigbglagfbbmjaa
