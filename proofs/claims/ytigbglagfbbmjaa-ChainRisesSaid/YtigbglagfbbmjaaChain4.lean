/- The contract of chain.Best: the best backup. Condition: the slice holds the items. -/
import Derived.Test.YtigbglagfbbmjaaChain3
namespace Go.Proofs.Ytigbglagfbbmjaa
open Go.RowKit Go.Shelf
set_option linter.unusedSimpArgs false
set_option linter.unusedVariables false
attribute [local go_sem] Oper.semAt_some
namespace Chain

def betterB (x y : Itm) : Bool := decide (x.a > y.a) || ((x.a == y.a) && decide (x.id > y.id))

set_option maxRecDepth 100000 in
set_option maxHeartbeats 400000 in
theorem better_calls (x y : Itm) (hx : x.ok) (hy : y.ok) (w : World) : Calls Try.prog 121 #[x.v, y.v] w (RetB w (.bool (betterB x y))) := by
  have hF := isWide_wide
  have fin : Below w.heap.size w ((w.alloc (.cells (cv x.v) 35)).alloc (.cells (cv y.v) 35)) := ((Below.refl _ _).alloc (Nat.le_refl _) _).alloc (by simp) _
  obtain ⟨W1, hW1⟩ : ∃ W1, W1 = (w.alloc (.cells (cv x.v) 35)).alloc (.cells (cv y.v) 35) := ⟨_, rfl⟩
  have hb2 : BoxV W1 w.heap.size 35 x.v := by rw [hW1]; exact (BoxV.new _ _ _).alloc _
  have hb3 : BoxV W1 (w.heap.size + 1) 35 y.v := by rw [hW1]; have := BoxV.new (w.alloc (.cells (cv x.v) 35)) 35 y.v; rwa [World.size_alloc] at this
  have c0 : W1.cell? ⟨w.heap.size, 0, none⟩ = some (.int .i64 x.id) := by rw [cell_of_row W1 _ _ _ _ _ hb2]; rfl
  have c4 : W1.cell? ⟨w.heap.size, 4, none⟩ = some (.int .i64 x.a) := by rw [cell_of_row W1 _ _ _ _ _ hb2]; rfl
  have d0 : W1.cell? ⟨w.heap.size + 1, 0, none⟩ = some (.int .i64 y.id) := by rw [cell_of_row W1 _ _ _ _ _ hb3]; rfl
  have d4 : W1.cell? ⟨w.heap.size + 1, 4, none⟩ = some (.int .i64 y.a) := by rw [cell_of_row W1 _ _ _ _ _ hb3]; rfl
  rw [← hW1] at fin
  have HW1 := Lib.hid hW1
  have FIN := Lib.hid fin
  have HS : Hid ((w.alloc (.cells (cv x.v) 35)).heap.size = w.heap.size + 1) := World.size_alloc _ _
  clear hW1 fin hb2 hb3
  by_cases h1 : x.a > y.a
  · (refine calls_enter Try.func121 rfl ?_; simp only [Try.ntmps121, List.size_toArray, List.length_cons, List.length_nil, Nat.reduceAdd, Nat.reduceSub, Array.replicate_succ, Array.replicate_zero, List.push_toArray, List.append_toArray, List.nil_append, List.cons_append])
    gi_wp2_with ((with_reducible show wpListIn _ _ _ _ _ _ _ _); (first | (refine wpListIn_boxv (v := x.v) hF rfl 35 (.tmp 0) rfl rfl ?_) | (refine wpListIn_boxv (v := y.v) hF rfl 35 (.tmp 1) rfl rfl ?_; rw [← HW1.out])))
    go_ret
    exact ⟨by rw [betterB, decide_eq_true h1]; rfl, FIN.out⟩
  · have H1 := Lib.hid h1
    by_cases h2 : x.a = y.a
    · have H2 := Lib.hid h2
      (refine calls_enter Try.func121 rfl ?_; simp only [Try.ntmps121, List.size_toArray, List.length_cons, List.length_nil, Nat.reduceAdd, Nat.reduceSub, Array.replicate_succ, Array.replicate_zero, List.push_toArray, List.append_toArray, List.nil_append, List.cons_append])
      gi_wp2_with ((with_reducible show wpListIn _ _ _ _ _ _ _ _); (first | (refine wpListIn_boxv (v := x.v) hF rfl 35 (.tmp 0) rfl rfl ?_) | (refine wpListIn_boxv (v := y.v) hF rfl 35 (.tmp 1) rfl rfl ?_; rw [← HW1.out])))
      go_ret
      exact ⟨by rw [betterB, decide_eq_false (show ¬ x.a > y.a by omega), h2]; simp, FIN.out⟩
    · have H2 := Lib.hid h2
      (refine calls_enter Try.func121 rfl ?_; simp only [Try.ntmps121, List.size_toArray, List.length_cons, List.length_nil, Nat.reduceAdd, Nat.reduceSub, Array.replicate_succ, Array.replicate_zero, List.push_toArray, List.append_toArray, List.nil_append, List.cons_append])
      gi_wp2_with ((with_reducible show wpListIn _ _ _ _ _ _ _ _); (first | (refine wpListIn_boxv (v := x.v) hF rfl 35 (.tmp 0) rfl rfl ?_) | (refine wpListIn_boxv (v := y.v) hF rfl 35 (.tmp 1) rfl rfl ?_; rw [← HW1.out])))
      go_ret
      exact ⟨by rw [betterB, decide_eq_false (show ¬ x.a > y.a by omega), beq_eq_false_iff_ne.2 (show x.a ≠ y.a by omega)]; rfl, FIN.out⟩

def bestStep (least : Int) (s : Itm × Bool) (x : Itm) : Itm × Bool := if decide (least ≤ x.a) && (!s.2 || betterB x s.1) then (x, true) else s
def bestSt (least : Int) (pre : List Value) : Itm × Bool := pre.foldl (fun s v => bestStep least s (toItm v)) (zItm, false)
def bestOf (L : List Itm) (t least most : Int) : Itm × Bool := (backupsOf L t most).foldl (bestStep least) (zItm, false)
theorem bestSt_map (least : Int) (xs : List Itm) : bestSt least (xs.map Itm.v) = xs.foldl (bestStep least) (zItm, false) := by
  unfold bestSt
  rw [List.foldl_map]
  rfl
theorem bestSt_snoc (least : Int) (pre : List Value) (x : Itm) : bestSt least (pre ++ [x.v]) = bestStep least (bestSt least pre) x := by
  unfold bestSt
  rw [List.foldl_append]
  rfl
def bestI (B : Nat) (least : Int) (w : World) (pre : List Value) (Oi : Nat → Prop) (A : World) : Prop :=
  BoxV A (B + 2) 35 (bestSt least pre).1.v ∧ BoxV A (B + 3) 4 (.bool (bestSt least pre).2) ∧ (bestSt least pre).1.ok ∧ BoxV A B 3 (.int .i64 least) ∧ BoxV A (B + 1) 35 zItm.v ∧ Oi (B + 2) ∧ Oi (B + 3) ∧ ¬ Oi B ∧ ¬ Oi (B + 1) ∧ Below B w A
def bestIx (c : Code) (Oi : Nat → Prop) (A : World) : Prop := False
def bestM (tm : Value → Nat → Array Value) (B : Nat) (least : Int) (w : World) (pre : List Value) (x : Value) (O1 : Nat → Prop) (a1 : Act) (A : World) : Prop :=
  ∃ X, a1 = { tmps := tm x X, defers := [] } ∧ BoxV A X 35 x ∧ O1 X ∧ B + 3 < X ∧ bestI B least w pre O1 A

set_option maxRecDepth 100000 in
set_option maxHeartbeats 2000000 in
theorem best_calls (sv : Value) (L : List Itm) (t least most : Int) (w : World) (h : Items w sv L) :
    Calls Try.prog 78 #[sv, .int .i64 t, .int .i64 least, .int .i64 most] w (RetB w (.tuple #[(bestOf L t least most).1.v, .bool (bestOf L t least most).2])) := by
  have hF := isWide_wide
  have egk := (enters_of Try.func79 (by kernel_rfl) rfl)
  have egt := (enters_of Try.func121 (by kernel_rfl) rfl)
  obtain ⟨W1, hW1⟩ : ∃ W1, W1 = (((w.alloc (.cells (cv (.int .i64 least)) 3)).alloc (.cells (cv zItm.v) 35)).alloc (.cells (cv zItm.v) 35)).alloc (.cells (cv (.bool false)) 4) := ⟨_, rfl⟩
  have hw1 : Below w.heap.size w W1 := by rw [hW1]; exact ((((Below.refl _ _).alloc (Nat.le_refl _) _).alloc (by simp) _).alloc (by simp; omega) _).alloc (by simp; omega) _
  have hs1 : W1.heap.size = w.heap.size + 4 := by rw [hW1]; simp
  have b0 : BoxV W1 w.heap.size 3 (.int .i64 least) := by rw [hW1]; exact (((BoxV.new _ _ _).alloc _).alloc _).alloc _
  have b1 : BoxV W1 (w.heap.size + 1) 35 zItm.v := by
    rw [hW1]; have := ((BoxV.new (w.alloc (.cells (cv (.int .i64 least)) 3)) 35 zItm.v).alloc (.cells (cv zItm.v) 35)).alloc (.cells (cv (.bool false)) 4); rwa [World.size_alloc] at this
  have b2 : BoxV W1 (w.heap.size + 2) 35 zItm.v := by
    rw [hW1]; have := (BoxV.new ((w.alloc (.cells (cv (.int .i64 least)) 3)).alloc (.cells (cv zItm.v) 35)) 35 zItm.v).alloc (.cells (cv (.bool false)) 4); rwa [World.size_alloc, World.size_alloc] at this
  have b3 : BoxV W1 (w.heap.size + 3) 4 (.bool false) := by
    rw [hW1]; have := BoxV.new (((w.alloc (.cells (cv (.int .i64 least)) 3)).alloc (.cells (cv zItm.v) 35)).alloc (.cells (cv zItm.v) 35)) 4 (.bool false); rwa [World.size_alloc, World.size_alloc, World.size_alloc] at this
  have hk := backups_calls sv L t most W1 (h.later hw1)
  have hvb : ∀ b, VOf Try.prog 4 (.bool b) := fun b => vof_one Try.underlying4 rfl (by kernel_rfl) rfl rfl
  have HVB := Lib.hid hvb
  have HI := Lib.hid h
  have HW1 := Lib.hid hW1
  have HWB := Lib.hid hw1
  have HS1 := Lib.hid hs1
  have B0 := Lib.hid b0
  have B1 := Lib.hid b1
  have B2 := Lib.hid b2
  have B3 := Lib.hid b3
  have HK := Lib.hid hk
  clear h hW1 hw1 hs1 b0 b1 b2 b3 hk hvb
  (refine calls_enterM Try.func78 rfl ?_; simp only [Try.ntmps78, List.size_toArray, List.length_cons, List.length_nil, Nat.reduceAdd, Nat.reduceSub, Array.replicate_succ, Array.replicate_zero, List.push_toArray, List.append_toArray, List.nil_append, List.cons_append])
  gi_wp2_with ((with_reducible show wpListIn _ _ _ _ _ _ _ _); (first | (refine wpListIn_boxv (v := .int .i64 least) hF rfl 3 _ rfl rfl ?_) | (refine wpListIn_newv (v := .bool false) hF rfl rfl 4 rfl Try.zeroValue4 _ _ rfl rfl rfl (HVB.out false) rfl ?_; rw [← HW1.out]) | (refine wpListIn_allocv (z := zItm.v) hF rfl 35 rfl Try.zeroValue35 ?_) | (refine wpListIn_callf hF 79 rfl rfl egk HK.out rfl ?_)))
  rintro e w3 ⟨s, rfl, ⟨g3, l3, rfl, eg3, hseq3, hfs3⟩, hb3⟩
  have hFP : ∀ k, (rowFp L sv k ∨ (W1.heap.size ≤ k ∧ k < w3.heap.size)) → k < w3.heap.size ∧ (k < w.heap.size ∨ w.heap.size + 4 ≤ k) := fun k hk => by
    have := hb3.size
    have := HS1.out
    rcases hk with h | h
    · have := rowFp_lt HI.out h; omega
    · omega
  have HB3 := Lib.hid hb3
  have HSEQ := Lib.hid hseq3
  have HFP := Lib.hid hFP
  clear hb3 hseq3 hfs3 hFP
  dsimp only [yNext]
  gi_wp2_with fail
  have hI0 : bestI w.heap.size least w [] (fun k => k = w.heap.size + 2 ∨ k = w.heap.size + 3) w3 := by
    have z := HS1.out
    exact ⟨(HB3.out.block _ B2.out.lt).trans B2.out, (HB3.out.block _ B3.out.lt).trans B3.out, zItm_ok, (HB3.out.block _ B0.out.lt).trans B0.out, (HB3.out.block _ B1.out.lt).trans B1.out, .inl rfl, .inr rfl, by omega, by omega, HWB.out.trans (HB3.out.mono (by omega))⟩
  have HI0 := Lib.hid hI0
  have hz3 : w.heap.size + 4 ≤ w3.heap.size := by have := HS1.out; have := HB3.out.size; omega
  clear hI0
  refine wpIn_rangeSeq hF rfl (gf := g3) (lb := l3) rfl eg3 (encs := fun v => #[v]) (xs := (backupsOf L t most).map Itm.v) (w0 := w3) HSEQ.out (fun k hk => ⟨(HFP.out k hk).1, rfl⟩) (fun _ => rfl)
    (bestI w.heap.size least w) bestIx ?hI ?hIx (fun k => k = w.heap.size + 2 ∨ k = w.heap.size + 3) ?hO HI0.out
    (bestM (fun x X => #[sv, .int .i64 t, .int .i64 least, .int .i64 most, undef, undef, .pointer (some ⟨w.heap.size, 0, none⟩), undef, .pointer (some ⟨w.heap.size + 1, 0, none⟩), .bool false, .pointer (some ⟨w.heap.size + 1 + 1, 0, none⟩), .pointer (some ⟨w.heap.size + 1 + 1 + 1, 0, none⟩), .pointer (some ⟨X, 0, none⟩), sv, .int .i64 t, .int .i64 most, .func (.func g3) #[] l3, x, undef, undef, undef, undef, undef, undef, undef, undef, undef, undef, undef, undef, undef, undef, undef, undef]) w.heap.size least w) ?hM ?assign ?body ?done ?stop
  case hI =>
    rintro pre Oi A B ⟨h1, h2, h3, h4, h5, o1, o2, o3, o4, hb⟩ ht
    exact ⟨h1.touch ht (fun h => by have := h.1; omega), h2.touch ht (fun h => by have := h.1; omega), h3, h4.touch ht (fun h => by have := h.1; omega), h5.touch ht (fun h => by have := h.1; omega), o1, o2, o3, o4, hb.trans (ht.below (by have := h4.lt; omega) (fun k hk h => by have := h.1; omega))⟩
  case hIx => exact fun c Oi A B h _ => h.elim
  case hO =>
    rintro k (rfl | rfl)
    · exact ⟨by omega, fun h => by have := (HFP.out _ h).2; omega⟩
    · exact ⟨by omega, fun h => by have := (HFP.out _ h).2; omega⟩
  case hM =>
    rintro a1 x pre O1 A B ⟨X, rfl, hb, hX, hne, h1, h2, h3, h4, h5, o1, o2, o3, o4, hb'⟩ ht
    exact ⟨X, rfl, hb.touch ht (fun h => h.2 hX), hX, hne, h1.touch ht (fun h => by have := h.1; omega), h2.touch ht (fun h => by have := h.1; omega), h3, h4.touch ht (fun h => by have := h.1; omega), h5.touch ht (fun h => by have := h.1; omega), o1, o2, o3, o4, hb'.trans (ht.below (by have := h4.lt; omega) (fun k hk h => by have := h.1; omega))⟩
  case assign =>
    rintro l pre x post Oi A hx hi hsz' hlt
    obtain ⟨y, hy, rfl⟩ : ∃ y ∈ backupsOf L t most, y.v = x := List.mem_map.1 (by rw [hx]; simp)
    have hvx := vof_item y (HI.out.ok y (List.mem_filter.1 hy).1)
    have HVX := Lib.hid hvx
    have HII := Lib.hid hi
    have HLT := Lib.hid hlt
    clear hvx hx hi hlt hy
    have hF' := isWide_wide.inRound l
    rw [fold1]
    gi_wp2_with ((with_reducible show wpListIn _ _ _ _ _ _ _ _); (refine wpListIn_newv (v := y.v) hF' rfl rfl 35 rfl Try.zeroValue35 _ _ rfl rfl rfl HVX.out rfl ?_))
    obtain ⟨h1, h2, h3, h4, h5, o1, o2, o3, o4, hb⟩ := HII.out
    refine ⟨fun k => Oi k ∨ k = A.heap.size, ⟨A.heap.size, rfl, BoxV.new _ _ _, .inr rfl, by omega, h1.alloc _, h2.alloc _, h3, h4.alloc _, h5.alloc _, .inl o1, .inl o2, (fun h => h.elim o3 (fun e => by omega)), (fun h => h.elim o4 (fun e => by omega)), hb.alloc (by omega) _⟩, Touch.alloc _ _ _, ?_⟩
    rintro k (h | rfl)
    · exact ⟨.inl h, by have := HLT.out k h; simp; omega⟩
    · exact ⟨.inr (Nat.le_refl _), by simp⟩
  case body =>
    rintro l pre x post Oi a1 A hx ⟨X, rfl, hbX, hX, hne, hi⟩ hsz' hlt
    obtain ⟨y, hy, rfl⟩ : ∃ y ∈ backupsOf L t most, y.v = x := List.mem_map.1 (by rw [hx]; simp)
    have hyok := HI.out.ok y (List.mem_filter.1 hy).1
    have hvx := vof_item y hyok
    have hF' := isWide_wide.inRound l
    have hsn := bestSt_snoc least pre y
    obtain ⟨⟨g, fd⟩, hg⟩ : ∃ s, s = bestSt least pre := ⟨_, rfl⟩
    rw [← hg] at hsn
    obtain ⟨h1, h2, h3, h4, h5, o1, o2, o3, o4, hb⟩ := hi
    rw [← hg] at h1 h2 h3
    have hvg := vof_item g h3
    have c4 : A.cell? ⟨X, 4, none⟩ = some (.int .i64 y.a) := by rw [cell_of_row A _ _ _ _ _ hbX]; rfl
    have cl : A.cell? ⟨w.heap.size, 0, none⟩ = some (.int .i64 least) := h4.cell rfl
    have cf : A.cell? ⟨w.heap.size + 1 + 1 + 1, 0, none⟩ = some (.bool fd) := h2.cell rfl
    have keep : ∀ B, Below A.heap.size A B → bestSt least (pre ++ [y.v]) = (g, fd) → rangePostQ (bestI w.heap.size least w) bestIx (pre ++ [y.v]) Oi A .normal { tmps := #[], defers := [] } B := fun B hB hst => by
      have ht : Touch Oi A B := Touch.of_fresh hB
      refine ⟨Oi, ⟨?_, ?_, ?_, (hB.block _ h4.lt).trans h4, (hB.block _ h5.lt).trans h5, o1, o2, o3, o4, hb.trans (hB.mono (by omega))⟩, ht, fun k hk => ⟨.inl hk, by have := hlt k hk; have := hB.size; omega⟩⟩
      · rw [hst]; exact (hB.block _ h1.lt).trans h1
      · rw [hst]; exact (hB.block _ h2.lt).trans h2
      · rw [hst]; exact h3
    have take : ∀ B, Below A.heap.size A B → bestSt least (pre ++ [y.v]) = (y, true) → rangePostQ (bestI w.heap.size least w) bestIx (pre ++ [y.v]) Oi A .normal { tmps := #[], defers := [] } ((B.setRow (w.heap.size + 2) (cv y.v)).setRow (w.heap.size + 3) (cv (.bool true))) := fun B hB hst => by
      have e1 : BoxV B (w.heap.size + 2) 35 g.v := (hB.block _ h1.lt).trans h1
      have e2 : BoxV B (w.heap.size + 3) 4 (.bool fd) := (hB.block _ h2.lt).trans h2
      have e4 : BoxV B w.heap.size 3 (.int .i64 least) := (hB.block _ h4.lt).trans h4
      have e5 : BoxV B (w.heap.size + 1) 35 zItm.v := (hB.block _ h5.lt).trans h5
      refine ⟨Oi, ⟨?_, ?_, ?_, (e4.setOther _ _ (by omega)).setOther _ _ (by omega), (e5.setOther _ _ (by omega)).setOther _ _ (by omega), o1, o2, o3, o4, ?_⟩, ((Touch.of_fresh hB).trans (Touch.setRow _ _ _ o1)).trans (Touch.setRow _ _ _ o2), fun k hk => ⟨.inl hk, by have := hlt k hk; have := hB.size; simp; omega⟩⟩
      · rw [hst]; exact (e1.set _).setOther _ _ (by omega)
      · rw [hst]; exact (e2.setOther _ _ (by omega)).set _
      · rw [hst]; exact hyok
      · exact (((hb.trans (hB.mono (by omega))).trans ((Touch.setRow (S := fun k => w.heap.size ≤ k) _ _ _ (by omega)).below (by have := e4.lt; omega) (fun k hk h => by omega))).trans ((Touch.setRow (S := fun k => w.heap.size ≤ k) _ _ _ (by omega)).below (by have := e4.lt; simp; omega) (fun k hk h => by omega)))
    have H1 := Lib.hid h1
    have H2 := Lib.hid h2
    have HBX := Lib.hid hbX
    have HVX := Lib.hid hvx
    have HVG := Lib.hid hvg
    have KEEP := Lib.hid keep
    have TAKE := Lib.hid take
    have HSN := Lib.hid hsn
    have HBT := Lib.hid (better_calls y g hyok h3 A)
    clear h1 h2 hbX hvx hvg keep take hsn hx hg h3 h4 h5 hb hlt hy hyok
    dsimp only
    by_cases ha : least ≤ y.a
    · cases fd with
      | false =>
        gi_wp2_with ((with_reducible show wpListIn _ _ _ _ _ _ _ _); (first | (refine wpListIn_pass hF' rfl ?_) | (refine wpListIn_loadbox (v := y.v) hF' rfl 35 _ rfl rfl HBX.out HVX.out ?_) | (refine wpListIn_storev (v := y.v) hF' rfl 35 _ _ rfl rfl rfl H1.out HVX.out rfl ?_) | (refine wpListIn_storev (v := .bool true) hF' rfl 4 _ _ rfl rfl rfl (H2.out.setOther _ _ (by omega)) (HVB.out true) rfl ?_)))
        exact TAKE.out A (Below.refl _ _) (by rw [HSN.out, bestStep]; simp [ha])
      | true =>
        gi_wp2_with ((with_reducible show wpListIn _ _ _ _ _ _ _ _); (first | (refine wpListIn_loadbox (v := y.v) hF' rfl 35 _ rfl rfl HBX.out HVX.out ?_) | (refine wpListIn_loadbox (v := g.v) hF' rfl 35 _ rfl rfl H1.out HVG.out ?_) | (refine wpListIn_callf hF' 121 rfl rfl egt HBT.out rfl ?_)))
        rintro e B ⟨rfl, hB⟩
        have e1 : BoxV B (w.heap.size + 2) 35 g.v := (hB.block _ H1.out.lt).trans H1.out
        have e2 : BoxV B (w.heap.size + 3) 4 (.bool true) := (hB.block _ H2.out.lt).trans H2.out
        have eX : BoxV B X 35 y.v := (hB.block _ HBX.out.lt).trans HBX.out
        have E1 := Lib.hid e1
        have E2 := Lib.hid e2
        have EX := Lib.hid eX
        have HB := Lib.hid hB
        clear e1 e2 eX hB
        obtain ⟨bb, hbb⟩ : ∃ bb, bb = betterB y g := ⟨_, rfl⟩
        rw [← hbb]
        have HBB := Lib.hid hbb
        clear hbb
        dsimp only [yNext]
        cases bb with
        | true =>
          gi_wp2_with ((with_reducible show wpListIn _ _ _ _ _ _ _ _); (first | (refine wpListIn_loadbox (v := y.v) hF' rfl 35 _ rfl rfl EX.out HVX.out ?_) | (refine wpListIn_storev (v := y.v) hF' rfl 35 _ _ rfl rfl rfl E1.out HVX.out rfl ?_) | (refine wpListIn_storev (v := .bool true) hF' rfl 4 _ _ rfl rfl rfl (E2.out.setOther _ _ (by omega)) (HVB.out true) rfl ?_)))
          exact TAKE.out B HB.out (by rw [HSN.out, bestStep]; simp [ha, ← HBB.out])
        | false =>
          gi_wp2_with fail
          exact KEEP.out B HB.out (by rw [HSN.out, bestStep]; simp [← HBB.out])
    · gi_wp2_with ((with_reducible show wpListIn _ _ _ _ _ _ _ _); (refine wpListIn_pass hF' rfl ?_))
      exact KEEP.out A (Below.refl _ _) (by rw [HSN.out, bestStep]; simp; omega)
  case done =>
    rintro D Oi B hD hnD hlt ⟨h1, h2, h3, h4, h5, o1, o2, o3, o4, hb⟩ hK
    have hbo : bestOf L t least most = bestSt least ((backupsOf L t most).map Itm.v) := (bestSt_map least _).symm
    obtain ⟨⟨g, fd⟩, hg⟩ : ∃ s, s = bestSt least ((backupsOf L t most).map Itm.v) := ⟨_, rfl⟩
    rw [← hg] at h1 h2 h3 hbo
    have hvg := vof_item g h3
    have l1 : ∀ d w', boxG (w.heap.size + 1) B 35 zItm.v g.v d w' → BoxV w' (w.heap.size + 2) 35 g.v := fun d w' hw' => h1.touch hw'.1 (by omega)
    have l2 : ∀ d w', boxG (w.heap.size + 1) B 35 zItm.v g.v d w' → BoxV w' (w.heap.size + 3) 4 (.bool fd) := fun d w' hw' => h2.touch hw'.1 (by omega)
    have L1 := Lib.hid l1
    have L2 := Lib.hid l2
    have H5 := Lib.hid h5
    have HVG := Lib.hid hvg
    have HB := Lib.hid hb
    have HK := Lib.hid hK
    have HBO := Lib.hid hbo
    clear h1 h2 h3 h4 h5 hvg hb hK hbo hg l1 l2 hnD hlt o1 o2 o3 o4
    gi_wp2_with fail
    refine wpIn_region_free hF (oneD 2 (boxG (w.heap.size + 1) B 35 zItm.v g.v)) (by kernel_rfl) (by kernel_rfl) ⟨Touch.drew _ _, H5.out⟩ ?_
    refine gList_loadbox (v := g.v) (by decide) rfl rfl rfl HVG.out L1.out ?_
    simp only [Act.put, List.setIfInBounds_toArray, List.set_cons_zero, List.set_cons_succ]
    refine gList_loadbox (v := .bool fd) (by decide) rfl rfl rfl (HVB.out fd) L2.out ?_
    simp only [Act.put, List.setIfInBounds_toArray, List.set_cons_zero, List.set_cons_succ]
    refine gList_store (v := g.v) (v0 := zItm.v) (T' := 35) rfl (by simp) rfl rfl rfl rfl HVG.out (fun w' hw' => hw'.2) rfl (fun w' hw' => hw'.store) ?_
    simp only [Act.put, List.setIfInBounds_toArray, List.set_cons_zero, List.set_cons_succ]
    (refine gList_val (v := ?_) (by decide) (by rfl) (fun c h => by cases h) (fun _ => ?_) ?_; rotate_left; (go_simp; first | done | rfl); simp only [Act.put, List.setIfInBounds_toArray, List.set_cons_zero, List.set_cons_succ])
    refine gList_nil ?_
    intro listed w5 hall hd
    have hd := oneD_done hall (by decide) hd
    have HD := Lib.hid hd
    clear hall hd
    gi_wp2_with fail
    have hDK : w5.heap[D]? = some (.deferred (some [])) := HD.out.1.heap HK.out (by omega)
    refine leaves_one hDK (results_box_tmp (B := w.heap.size + 1) (v := g.v) (u := .bool fd) rfl rfl rfl (BoxV.touch HD.out.2 (Touch.putObj (S := fun k => k = D) _ _ _ rfl) (by omega)) HVG.out) ⟨by rw [HBO.out], ?_⟩
    have z1 := HB.out.size
    have z2 := HD.out.1.size
    exact (HB.out.trans (HD.out.1.below (by omega) (fun k hk h => by omega))).trans ((Touch.putObj (S := fun k => w.heap.size ≤ k) _ _ _ (by omega)).below (by omega) (fun k hk h => by omega))
  case stop =>
    rintro D c Oi B hD hnD hlt h hK
    exact h.elim
end Chain
end Go.Proofs.Ytigbglagfbbmjaa
