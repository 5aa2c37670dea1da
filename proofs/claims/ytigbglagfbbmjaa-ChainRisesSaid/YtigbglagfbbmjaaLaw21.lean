/- What package breviarylaw21 asks ahead of its statements. No condition. -/
import Derived.Test.YtigbglagfbbmjaaChain4
namespace Go.Proofs.Ytigbglagfbbmjaa
open Go.RowKit Go.Shelf
set_option linter.unusedSimpArgs false
set_option linter.unusedVariables false
attribute [local go_sem] Oper.semAt_some
namespace Chain

set_option maxRecDepth 100000 in
set_option maxHeartbeats 400000 in
theorem count1 (x : Itm) (N m : Nat) (hm : m < 1000) (w : World) (hN : BoxV w N 3 (.int .i64 m)) :
    Calls Try.prog 80 #[x.v, .pointer (some ⟨N, 0, none⟩)] w (fun e w' => e = .returned (.bool true) ∧ BoxV w' N 3 (.int .i64 ((m + 1 : Nat) : Int)) ∧ Touch (fun k => k = N) w w') := by
  have hc : (w.alloc (.cells #[.int .i64 x.id, .int .i64 x.kind, .int .i64 x.tl, .int .i64 x.num, .int .i64 x.a, .int .i64 x.b, .int .i64 x.par, .int .i64 x.len, x.ext] 35)).cell? ⟨N, 0, none⟩ = some (.int .i64 m) := (World.cell?_alloc_lt w _ _ hN.lt).trans (hN.cell rfl)
  have hfr : (w.alloc (.cells #[.int .i64 x.id, .int .i64 x.kind, .int .i64 x.tl, .int .i64 x.num, .int .i64 x.a, .int .i64 x.b, .int .i64 x.par, .int .i64 x.len, x.ext] 35)).frozen? ⟨N, 0, none⟩ = false := (hN.alloc _).frozen
  (refine calls_enter Try.func80 rfl ?_; simp only [Try.ntmps80, List.size_toArray, List.length_cons, List.length_nil, Nat.reduceAdd, Nat.reduceSub, Array.replicate_succ, Array.replicate_zero, List.push_toArray, List.append_toArray, List.nil_append, List.cons_append])
  gi_wp2
  go_ret
  exact ⟨rfl, (hN.alloc (.cells (cv x.v) 35)).setCell rfl rfl, ((Touch.alloc _ _ _).trans (Touch.setCell (S := fun k => k = N) _ _ _ rfl))⟩

def i2 : Itm := ⟨2, 2, 1, 0, 1, 2, 0, 0, .slice none 0 0⟩
def i5 : Itm := ⟨5, 3, 1, 0, 3, 4, 2, 0, .slice none 0 0⟩
def L1 : List Itm := [i2, i5]
theorem at12 : atX L1 2 = i2 := rfl
theorem at15 : atX L1 5 = i5 := rfl
theorem ok12 : atOk L1 2 = true := by decide
theorem ok15 : atOk L1 5 = true := by decide
theorem up15 : upOk L1 i5 = true := by decide
theorem ch2 : chainOf L1 2 = some [i2] := by rw [chainOf, ok12, if_pos rfl, at12, chainUp_full rfl]
theorem ch5 : chainOf L1 5 = some [i5, i2] := by rw [chainOf, ok15, if_pos rfl, at15, chainUp_up (by decide) up15, show i5.par = 2 from rfl, at12, chainUp_full rfl]; rfl
theorem ch5' : chainOf [i5] 5 = none := by rw [chainOf, show atOk [i5] 5 = true by decide, if_pos rfl, show atX [i5] 5 = i5 from rfl, chainUp_none (by decide) (by decide)]
theorem bk3 : backupsOf L1 1 3 = [i2] := by
  have h1 : backupsB L1 1 3 i2 = true := by rw [backupsB, show i2.id = 2 from rfl, ch2]; decide
  have h2 : backupsB L1 1 3 i5 = false := by rw [backupsB, show i5.id = 5 from rfl, ch5]; decide
  show List.filter (backupsB L1 1 3) (i2 :: i5 :: []) = _
  rw [List.filter_cons, h1, List.filter_cons, h2]; rfl
theorem bk9 : backupsOf L1 1 9 = [i2, i5] := by
  have h1 : backupsB L1 1 9 i2 = true := by rw [backupsB, show i2.id = 2 from rfl, ch2]; decide
  have h2 : backupsB L1 1 9 i5 = true := by rw [backupsB, show i5.id = 5 from rfl, ch5]; decide
  show List.filter (backupsB L1 1 9) (i2 :: i5 :: []) = _
  rw [List.filter_cons, h1, List.filter_cons, h2]; rfl
theorem bs : bestOf L1 1 0 3 = (i2, true) := by rw [bestOf, bk3]; rfl

set_option maxRecDepth 100000 in
set_option maxHeartbeats 2000000 in
theorem first_calls (w : World) : Calls Try.prog 20 #[] w (RetB w (.bool true)) := by
  have hF := isWide_wide
  have ego := (enters_of Try.func21 (by kernel_rfl) rfl)
  have egb := (enters_of Try.func78 (by kernel_rfl) rfl)
  have egs := (enters_of Try.func79 (by kernel_rfl) rfl)
  obtain ⟨W1, hW1⟩ : ∃ W1, W1 = w.alloc (.cells (cellsOf (L1.map Itm.v)).toArray 35) := ⟨_, rfl⟩
  have hs1 : W1.heap.size = w.heap.size + 1 := by rw [hW1]; simp
  have hb1 : Below w.heap.size w W1 := by rw [hW1]; exact (Below.refl _ _).alloc (Nat.le_refl _) _
  have hat : SliceAt W1 9 (.slice (some ⟨w.heap.size, 0, none⟩) 2 2) (L1.map Itm.v) := SliceAt.of_block (xs := L1.map Itm.v) (k := 9) (fun x hx => by obtain ⟨y, _, rfl⟩ := List.mem_map.1 hx; rfl) (by rw [hW1]; exact World.alloc_heap_new w _) (by simp [L1])
  have hok : ∀ x ∈ L1, x.ok := fun x hx => by
    simp [L1] at hx
    rcases hx with rfl | rfl <;> exact ⟨_, _, _, rfl⟩
  have hit : Items W1 (.slice (some ⟨w.heap.size, 0, none⟩) 2 2) L1 := ⟨hat, hok, by simp [L1]⟩
  have hit2 : Items W1 (.slice (some ⟨w.heap.size, 9, none⟩) 1 1) [i5] := by
    refine ⟨⟨some ⟨w.heap.size, 9, none⟩, 1, rfl, Nat.le_refl _, (fun h => by cases h), fun i x hx => ?_⟩, fun x hx => hok x (by simp at hx; rw [hx]; simp [L1]), by simp⟩
    match i, hx with
    | 0, hx =>
      simp at hx
      subst hx
      obtain ⟨A, c, e, _, _, hel⟩ := hat
      obtain ⟨b, o, e2, hr⟩ := hel 1 i5.v rfl
      injection e with e3 _ _
      rw [← e3] at e2
      injection e2 with e4
      injection e4 with e5 e6
      subst e5 e6
      exact ⟨_, _, rfl, by simpa using hr⟩
  have hoc := of_calls _ L1 5 W1 hit
  have hW1' : w.alloc (.cells #[.int .i64 2, .int .i64 2, .int .i64 1, .int .i64 0, .int .i64 1, .int .i64 2, .int .i64 0, .int .i64 0, .slice none 0 0, .int .i64 5, .int .i64 3, .int .i64 1, .int .i64 0, .int .i64 3, .int .i64 4, .int .i64 2, .int .i64 0, .slice none 0 0] 35) = W1 := hW1.symm
  have HW1 := Lib.hid hW1'
  have HS1 := Lib.hid hs1
  have HB1 := Lib.hid hb1
  have HIT := Lib.hid hit
  have HIT2 := Lib.hid hit2
  have HOC := Lib.hid hoc
  clear hW1 hW1' hs1 hb1 hit hit2 hoc hat hok
  (refine calls_enter Try.func20 rfl ?_; simp only [Try.ntmps20, List.size_toArray, List.length_cons, List.length_nil, Nat.reduceAdd, Nat.reduceSub, Array.replicate_succ, Array.replicate_zero, List.push_toArray, List.append_toArray, List.nil_append, List.cons_append])
  gi_wp2_with ((with_reducible show wpListIn _ _ _ _ _ _ _ _); (rw [HW1.out]; refine wpListIn_callf hF 21 rfl rfl ego HOC.out rfl ?_))
  rintro e w2 (⟨A, c, zs, hz, rfl, hv, hzl, hb2⟩ | ⟨hz, _⟩)
  rotate_left
  · rw [ch5] at hz; cases hz
  rw [ch5] at hz; cases hz
  obtain ⟨A', c', e0, hc, hA, hx⟩ := hv
  injection e0 with e1 e2 e3
  subst e1 e3
  clear e2
  obtain ⟨b, o, rfl, h0⟩ := hx 0 (.int .i64 2) rfl
  obtain ⟨b', o', e', h1⟩ := hx 1 (.int .i64 5) rfl
  cases e'
  have h0 := h0 0 _ rfl
  have h1 := h1 0 _ rfl
  have hoc := of_calls _ [i5] 5 w2 (HIT2.out.later hb2)
  have HOC2 := Lib.hid hoc
  have H0 := Lib.hid h0
  have H1 := Lib.hid h1
  have HB2 := Lib.hid hb2
  clear hoc h0 h1 hb2 hx hA hzl hc
  dsimp only [yNext]
  gi_wp2_with ((with_reducible show wpListIn _ _ _ _ _ _ _ _); (refine wpListIn_callf hF 21 rfl rfl ego HOC2.out rfl ?_))
  rintro e w3 (⟨A, c', zs, hz, rfl, hv, hzl, hb3⟩ | ⟨hz, rfl, hb3⟩)
  · rw [ch5'] at hz; cases hz
  have hbc := best_calls _ L1 1 0 3 w3 (HIT.out.later (HB2.out.trans (hb3.mono HB2.out.size)))
  rw [bs] at hbc
  have HBC := Lib.hid hbc
  have HB3 := Lib.hid hb3
  clear hb3 hz hbc
  dsimp only [yNext]
  gi_wp2_with ((with_reducible show wpListIn _ _ _ _ _ _ _ _); (refine wpListIn_callf hF 78 rfl rfl egb HBC.out rfl ?_))
  rintro e w4 ⟨rfl, hb4⟩
  obtain ⟨W5, hW5⟩ : ∃ W5, W5 = (w4.alloc (.cells (cv i2.v) 35)).alloc (.cells (cv (.int .i64 0)) 3) := ⟨_, rfl⟩
  have hs5 : W5.heap.size = w4.heap.size + 2 := by rw [hW5]; simp
  have hbi : BoxV W5 w4.heap.size 35 i2.v := by rw [hW5]; exact (BoxV.new _ _ _).alloc _
  have hbn : BoxV W5 (w4.heap.size + 1) 3 (.int .i64 0) := by rw [hW5]; have := BoxV.new (w4.alloc (.cells (cv i2.v) 35)) 3 (.int .i64 0); rwa [World.size_alloc] at this
  have hb5 : Below w4.heap.size w4 W5 := by rw [hW5]; exact ((Below.refl _ _).alloc (Nat.le_refl _) _).alloc (by simp) _
  have z1 := HB2.out.size
  have z2 := HB3.out.size
  have z3 := hb4.size
  have hb05 : Below W1.heap.size W1 W5 := HB2.out.trans ((HB3.out.mono z1).trans ((hb4.mono (by omega)).trans (hb5.mono (by omega))))
  have hsg := backups_calls _ L1 1 9 W5 (HIT.out.later hb05)
  rw [bk9] at hsg
  have hvi : VOf Try.prog 35 i2.v := vof_item i2 ⟨_, _, _, rfl⟩
  have hblt : b < w2.heap.size := World.block_lt_of_cell? w2 _ H0.out
  have hc25 : W5.heap[b]? = w2.heap[b]? := ((HB3.out.trans ((hb4.mono z2).trans (hb5.mono (by omega)))).block b hblt)
  have HVI := Lib.hid hvi
  have HW5 := Lib.hid hW5
  have HS5 := Lib.hid hs5
  have HBI := Lib.hid hbi
  have HBN := Lib.hid hbn
  have HB05 := Lib.hid hb05
  have HSG := Lib.hid hsg
  have HC25 := Lib.hid hc25
  have HBL := Lib.hid hblt
  have HZ : Hid (w2.heap.size ≤ w4.heap.size) := by show w2.heap.size ≤ w4.heap.size; omega
  clear hb4 hW5 hs5 hbi hbn hb5 hb05 hsg hvi hc25 hblt z1 z2 z3
  dsimp only [yNext]
  gi_wp2_with ((with_reducible show wpListIn _ _ _ _ _ _ _ _); (first | (refine wpListIn_newv (v := i2.v) hF rfl rfl 35 rfl Try.zeroValue35 _ _ rfl rfl rfl HVI.out rfl ?_) | (refine wpListIn_newv (v := .int .i64 0) hF rfl rfl 3 rfl Try.zeroValue3 _ _ rfl rfl rfl (vof_one Try.underlying3 rfl (by kernel_rfl) rfl rfl) rfl ?_; rw [← HW5.out]) | (refine wpListIn_callf hF 79 rfl rfl egs HSG.out rfl ?_)))
  rintro e w6 ⟨s, rfl, hs, hb6⟩
  obtain ⟨g, lb, rfl, eg, hcall⟩ := hs.drive (w4.heap.size + 1) 80 (by
      intro h
      have h5 := HS5.out
      rcases h with h | h
      · have := rowFp_lt HIT.out h
        have := HS1.out
        have := HB2.out.size
        have := HZ.out
        omega
      · omega) (by have := HS5.out; have := hb6.size; omega) (enters_of Try.func80 (by kernel_rfl) rfl) (fun pre w => BoxV w (w4.heap.size + 1) 3 (.int .i64 ((pre.length : Nat) : Int)))
    (fun pre A B hA _ hB => hB.trans hA)
    (fun pre x post A hx hsz hA => by
      have hl : pre.length < 1000 := by have := congrArg List.length hx; simp at this; omega
      have hm : x ∈ [i2, i5].map Itm.v := by rw [hx]; simp
      obtain ⟨y, hy, rfl⟩ := List.mem_map.1 hm
      refine (count1 y (w4.heap.size + 1) pre.length hl A hA).mono ?_
      rintro e B ⟨rfl, hB, ht⟩
      exact ⟨rfl, by simpa using hB, ht⟩)
    ((hb6.block _ (by have := HS5.out; omega)).trans HBN.out)
  have q := fun (f : Fn) (x y : Array Value) (w : World) => run_neq_func_nil (P := Try.prog) Try.underlying108 f x y w
  have HB6 := Lib.hid hb6
  have HCALL := Lib.hid hcall
  clear hb6 hcall hs
  dsimp only [yNext]
  gi_wp2_with ((with_reducible show wpListIn _ _ _ _ _ _ _ _); (refine wpListIn_callc hF rfl rfl rfl eg HCALL.out rfl ?_))
  rintro e w7 ⟨rfl, hbx7, ht7⟩
  have z5 := HS5.out
  have z6 := HB6.out.size
  have z7 := HZ.out
  have hsame : ∀ k, k < w4.heap.size + 1 → w7.heap[k]? = W5.heap[k]? := fun k hk => (ht7.block k (by omega) (by omega)).trans (HB6.out.block k (by omega))
  have hbt : BoxV w7 w4.heap.size 35 i2.v := (hsame _ (by omega)).trans HBI.out
  have hcb : w7.heap[b]? = w2.heap[b]? := (hsame b (by have := HBL.out; omega)).trans HC25.out
  have h0 : w7.cell? ⟨b, o, none⟩ = some (.int .i64 2) := (World.cell?_of_block hcb).trans (by have := H0.out; simpa using this)
  have h1 : w7.cell? ⟨b, o + 1, none⟩ = some (.int .i64 5) := (World.cell?_of_block hcb).trans (by have := H1.out; simpa using this)
  have h2 : w7.cell? ⟨w4.heap.size + 1, 0, none⟩ = some (.int .i64 2) := hbx7.cell rfl
  have h3 : w7.cell? ⟨w4.heap.size, 0, none⟩ = some (.int .i64 2) := by rw [cell_of_row w7 _ _ _ _ _ hbt]; rfl
  have fin : Below w.heap.size w w7 := by
    have y1 := HS1.out
    have y2 := HB05.out.size
    exact HB1.out.trans ((HB05.out.mono (by omega)).trans ((HB6.out.mono (by omega)).trans (ht7.below (by omega) (fun k hk h => by have := HB2.out.size; omega))))
  have FIN := Lib.hid fin
  clear hsame hbt hcb hbx7 ht7 q z5 z6 z7 fin
  dsimp only [yNext]
  gi_wp2_with fail
  go_ret
  exact ⟨rfl, FIN.out⟩
end Chain
end Go.Proofs.Ytigbglagfbbmjaa
