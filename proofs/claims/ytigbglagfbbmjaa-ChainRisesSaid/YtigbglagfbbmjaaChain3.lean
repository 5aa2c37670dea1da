/- The contracts of chain.Backups and chain.Best: the backups of a timeline that have a chain, and the best one. Condition: the slice holds the items. -/
import Derived.Test.YtigbglagfbbmjaaChain2
namespace Go.Proofs.Ytigbglagfbbmjaa
open Go.RowKit Go.Shelf
set_option linter.unusedSimpArgs false
set_option linter.unusedVariables false
attribute [local go_sem] Oper.semAt_some
namespace Chain

def backupsB (L : List Itm) (t most : Int) (x : Itm) : Bool := backB x && (x.tl == t) && decide (x.b ≤ most) && (chainOf L x.id).isSome

set_option maxRecDepth 100000 in
set_option maxHeartbeats 1000000 in
theorem backups1_calls (sv : Value) (L : List Itm) (t most : Int) (x : Itm) (hx : x.ok) (B1 B2 B3 : Nat) (w : World) (h : Items w sv L) (hb1 : BoxV w B1 3 (.int .i64 t)) (hb2 : BoxV w B2 3 (.int .i64 most)) (hb3 : BoxV w B3 22 sv) :
    Calls Try.prog 122 #[x.v, .pointer (some ⟨B1, 0, none⟩), .pointer (some ⟨B2, 0, none⟩), .pointer (some ⟨B3, 0, none⟩)] w (RetB w (.bool (backupsB L t most x))) := by
  have hF := isWide_wide
  have egb := (enters_of Try.func85 (by kernel_rfl) rfl)
  have ego := (enters_of Try.func21 (by kernel_rfl) rfl)
  obtain ⟨W1, hW1⟩ : ∃ W1, W1 = w.alloc (.cells (cv x.v) 35) := ⟨_, rfl⟩
  have hw1 : Below w.heap.size w W1 := by rw [hW1]; exact (Below.refl _ _).alloc (Nat.le_refl _) _
  have hs1 : W1.heap.size = w.heap.size + 1 := by rw [hW1]; simp
  have hbx : BoxV W1 w.heap.size 35 x.v := by rw [hW1]; exact BoxV.new _ _ _
  have hvx := vof_item x hx
  have hbc := backup_calls x W1
  have hvs : VOf Try.prog 22 sv := by obtain ⟨A, c, rfl, _⟩ := h.at_; exact vof_one Try.underlying22 rfl (by kernel_rfl) rfl rfl
  have HVS := Lib.hid hvs
  have HI := Lib.hid h
  have HB1 := Lib.hid hb1
  have HB2 := Lib.hid hb2
  have HB3 := Lib.hid hb3
  have HW1 := Lib.hid hW1
  have HWB := Lib.hid hw1
  have HS1 := Lib.hid hs1
  have HBX := Lib.hid hbx
  have HVX := Lib.hid hvx
  have HBC := Lib.hid hbc
  clear h hb1 hb2 hb3 hW1 hw1 hs1 hbx hvx hbc hx hvs
  (refine calls_enter Try.func122 rfl ?_; simp only [Try.ntmps122, List.size_toArray, List.length_cons, List.length_nil, Nat.reduceAdd, Nat.reduceSub, Array.replicate_succ, Array.replicate_zero, List.push_toArray, List.append_toArray, List.nil_append, List.cons_append])
  gi_wp2_with ((with_reducible show wpListIn _ _ _ _ _ _ _ _); (first | (refine wpListIn_boxv (v := x.v) hF rfl 35 _ rfl rfl ?_; rw [← HW1.out]) | (refine wpListIn_loadbox (v := x.v) hF rfl 35 _ rfl rfl HBX.out HVX.out ?_) | (refine wpListIn_callf hF 85 rfl rfl egb HBC.out rfl ?_)))
  rintro e w2 ⟨rfl, hw2⟩
  have hb2 : Below w.heap.size w w2 := HWB.out.trans (hw2.mono HWB.out.size)
  have hbx2 : BoxV w2 w.heap.size 35 x.v := (hw2.block _ HBX.out.lt).trans HBX.out
  have c0 : w2.cell? ⟨w.heap.size, 0, none⟩ = some (.int .i64 x.id) := by rw [cell_of_row w2 _ _ _ _ _ hbx2]; rfl
  have c2 : w2.cell? ⟨w.heap.size, 2, none⟩ = some (.int .i64 x.tl) := by rw [cell_of_row w2 _ _ _ _ _ hbx2]; rfl
  have c5 : w2.cell? ⟨w.heap.size, 5, none⟩ = some (.int .i64 x.b) := by rw [cell_of_row w2 _ _ _ _ _ hbx2]; rfl
  have d1 : w2.cell? ⟨B1, 0, none⟩ = some (.int .i64 t) := (BoxV.cell ((hb2.block _ HB1.out.lt).trans HB1.out) rfl)
  have d2 : w2.cell? ⟨B2, 0, none⟩ = some (.int .i64 most) := (BoxV.cell ((hb2.block _ HB2.out.lt).trans HB2.out) rfl)
  have d3 : BoxV w2 B3 22 sv := (hb2.block _ HB3.out.lt).trans HB3.out
  have hoc := of_calls sv L x.id w2 (HI.out.later hb2)
  have HOC := Lib.hid hoc
  have HBW2 := Lib.hid hb2
  have D3 := Lib.hid d3
  obtain ⟨bb, hbb⟩ : ∃ bb, bb = backB x := ⟨_, rfl⟩
  have hres : backupsB L t most x = (bb && (x.tl == t) && decide (x.b ≤ most) && (chainOf L x.id).isSome) := by rw [hbb]; rfl
  have HRES := Lib.hid hres
  rw [← hbb]
  clear hb2 hbx2 d3 hoc hres hbb hw2
  dsimp only [yNext]
  cases bb with
  | false =>
    gi_wp2_with fail
    go_ret
    exact ⟨by rw [HRES.out]; rfl, HBW2.out⟩
  | true =>
    by_cases h1 : x.tl = t
    · by_cases h2 : x.b > most
      · gi_wp2_with fail
        go_ret
        exact ⟨by rw [HRES.out]; simp; omega, HBW2.out⟩
      · have h2' : x.b ≤ most := by omega
        gi_wp2_with ((with_reducible show wpListIn _ _ _ _ _ _ _ _); (first | (refine wpListIn_loadbox (v := sv) hF rfl 22 _ rfl rfl D3.out HVS.out ?_) | (refine wpListIn_callf hF 21 rfl rfl ego HOC.out rfl ?_)))
        rintro e w3 (⟨A, c, zs, hz, rfl, _, _, hb3⟩ | ⟨hz, rfl, hb3⟩)
        · have HB3' := Lib.hid hb3
          have HZ := Lib.hid hz
          clear hb3 hz
          dsimp only [yNext]
          gi_wp2_with fail
          go_ret
          exact ⟨by rw [HRES.out, HZ.out]; simp; omega, HBW2.out.trans (HB3'.out.mono HBW2.out.size)⟩
        · have HB3' := Lib.hid hb3
          have HZ := Lib.hid hz
          clear hb3 hz
          dsimp only [yNext]
          gi_wp2_with fail
          go_ret
          exact ⟨by rw [HRES.out, HZ.out]; simp, HBW2.out.trans (HB3'.out.mono HBW2.out.size)⟩
    · gi_wp2_with fail
      go_ret
      exact ⟨by rw [HRES.out]; simp; intro h; exact absurd h h1, HBW2.out⟩

/-- What the predicate stands on. -/
def rowFp (L : List Itm) (sv : Value) : Nat → Prop := fun k => sliceBlk sv k ∧ L ≠ []
theorem rowFp_lt {w : World} {sv : Value} {L : List Itm} (h : Items w sv L) {k : Nat} (hk : rowFp L sv k) : k < w.heap.size := by
  obtain ⟨A, c, rfl, hc, hA, hx⟩ := h.at_
  obtain ⟨h1, h2⟩ := hk
  cases L with
  | nil => exact absurd rfl h2
  | cons x L =>
    obtain ⟨b, o, rfl, hr⟩ := hx 0 x.v rfl
    have := World.block_lt_of_cell? w _ (hr 0 (.int .i64 x.id) rfl)
    have e : b = k := h1
    rw [← e]; exact this
def backFp (B1 B2 B3 : Nat) (L : List Itm) (sv : Value) : Nat → Prop := fun k => k = B1 ∨ k = B2 ∨ k = B3 ∨ rowFp L sv k
theorem items_same {w W : World} {sv : Value} {L : List Itm} (h : Items w sv L) (hs : ∀ k, rowFp L sv k → W.heap[k]? = w.heap[k]?) : Items W sv L := by
  refine ⟨?_, h.ok, h.small⟩
  obtain ⟨A, c, rfl, hc, hA, hx⟩ := h.at_
  refine ⟨A, c, rfl, hc, hA, fun i x hi => ?_⟩
  obtain ⟨b, o, rfl, hr⟩ := hx i x hi
  exact ⟨b, o, rfl, fun j u hu => (World.cell?_of_block (hs b ⟨rfl, fun h => by rw [h] at hi; simp at hi⟩)).trans (hr j u hu)⟩
theorem backups1_pred (sv : Value) (L M : List Itm) (t most : Int) (hM : ∀ x ∈ M, x.ok) (B1 B2 B3 : Nat) (w : World) (h : Items w sv L) (hb1 : BoxV w B1 3 (.int .i64 t)) (hb2 : BoxV w B2 3 (.int .i64 most)) (hb3 : BoxV w B3 22 sv) :
    IsPred Try.prog (M.map Itm.v) (fun v => backupsB L t most (toItm v)) (backFp B1 B2 B3 L sv) w (.func (.func 122) #[] #[.pointer (some ⟨B1, 0, none⟩), .pointer (some ⟨B2, 0, none⟩), .pointer (some ⟨B3, 0, none⟩)]) := by
  refine ⟨_, _, rfl, (enters_of Try.func122 (by kernel_rfl) rfl), ?_, fun W hW v hv => ?_⟩
  · rintro k (rfl | rfl | rfl | h')
    · exact hb1.lt
    · exact hb2.lt
    · exact hb3.lt
    · exact rowFp_lt h h'
  · obtain ⟨x, hx, rfl⟩ := List.mem_map.1 hv
    exact backups1_calls sv L t most x (hM x hx) B1 B2 B3 W (items_same h (fun k hk => (hW k (.inr (.inr (.inr hk)))).2)) ((hW B1 (.inl rfl)).2.trans hb1) ((hW B2 (.inr (.inl rfl))).2.trans hb2) ((hW B3 (.inr (.inr (.inl rfl)))).2.trans hb3)

def backupsOf (L : List Itm) (t most : Int) : List Itm := L.filter (backupsB L t most)

set_option maxRecDepth 100000 in
set_option maxHeartbeats 1000000 in
theorem backups_calls (sv : Value) (L : List Itm) (t most : Int) (w : World) (h : Items w sv L) :
    Calls Try.prog 79 #[sv, .int .i64 t, .int .i64 most] w (fun e w' => ∃ s, e = .returned s ∧ IsSeq Try.prog ((backupsOf L t most).map Itm.v) (fun k => rowFp L sv k ∨ (w.heap.size ≤ k ∧ k < w'.heap.size)) w' s ∧ Below w.heap.size w w') := by
  have hF := isWide_wide
  have ego := (enters_of Try.func83 (by kernel_rfl) rfl)
  have egk := (enters_of Try.func115 (by kernel_rfl) rfl)
  obtain ⟨W1, hW1⟩ : ∃ W1, W1 = ((w.alloc (.cells (cv sv) 22)).alloc (.cells (cv (.int .i64 t)) 3)).alloc (.cells (cv (.int .i64 most)) 3) := ⟨_, rfl⟩
  have hw1 : Below w.heap.size w W1 := by rw [hW1]; exact (((Below.refl _ _).alloc (Nat.le_refl _) _).alloc (by simp) _).alloc (by simp; omega) _
  have hs1 : W1.heap.size = w.heap.size + 3 := by rw [hW1]; simp
  have b3 : BoxV W1 w.heap.size 22 sv := by rw [hW1]; exact ((BoxV.new _ _ _).alloc _).alloc _
  have b1 : BoxV W1 (w.heap.size + 1) 3 (.int .i64 t) := by rw [hW1]; have := (BoxV.new (w.alloc (.cells (cv sv) 22)) 3 (.int .i64 t)).alloc (.cells (cv (.int .i64 most)) 3); rwa [World.size_alloc] at this
  have b2 : BoxV W1 (w.heap.size + 2) 3 (.int .i64 most) := by rw [hW1]; have := BoxV.new ((w.alloc (.cells (cv sv) 22)).alloc (.cells (cv (.int .i64 t)) 3)) 3 (.int .i64 most); rwa [World.size_alloc, World.size_alloc] at this
  have hof := Item.flowOf sv (L.map Itm.v) W1 (h.later hw1).at_ (h.later hw1).vof h.size
  have hvs : VOf Try.prog 22 sv := by obtain ⟨A, c, rfl, _⟩ := h.at_; exact vof_one Try.underlying22 rfl (by kernel_rfl) rfl rfl
  have HVS := Lib.hid hvs
  have HI := Lib.hid h
  have HW1 := Lib.hid hW1
  have HWB := Lib.hid hw1
  have HS1 := Lib.hid hs1
  have B1 := Lib.hid b1
  have B2 := Lib.hid b2
  have B3 := Lib.hid b3
  have HOF := Lib.hid hof
  clear h hW1 hw1 hs1 b1 b2 b3 hof hvs
  (refine calls_enter Try.func79 rfl ?_; simp only [Try.ntmps79, List.size_toArray, List.length_cons, List.length_nil, Nat.reduceAdd, Nat.reduceSub, Array.replicate_succ, Array.replicate_zero, List.push_toArray, List.append_toArray, List.nil_append, List.cons_append])
  gi_wp2_with ((with_reducible show wpListIn _ _ _ _ _ _ _ _); (first | (refine wpListIn_boxv (v := sv) hF rfl 22 _ rfl rfl ?_) | (refine wpListIn_boxv (v := .int .i64 t) hF rfl 3 (.tmp 1) rfl rfl ?_) | (refine wpListIn_boxv (v := .int .i64 most) hF rfl 3 (.tmp 2) rfl rfl ?_; rw [← HW1.out]) | (refine wpListIn_loadbox (v := sv) hF rfl 22 _ rfl rfl B3.out HVS.out ?_) | (refine wpListIn_callf hF 83 rfl rfl ego HOF.out rfl ?_)))
  rintro e w2 ⟨s, rfl, hs, hb2⟩
  have hp := (backups1_pred sv L L t most HI.out.ok (w.heap.size + 1) (w.heap.size + 2) w.heap.size W1 (HI.out.later HWB.out) B1.out B2.out B3.out).later hb2
  have hk := Item.keep s (.func (.func 122) #[] #[.pointer (some ⟨w.heap.size + 1, 0, none⟩), .pointer (some ⟨w.heap.size + 2, 0, none⟩), .pointer (some ⟨w.heap.size, 0, none⟩)]) (L.map Itm.v) (fun v => backupsB L t most (toItm v)) _ _ w2 hs hp HI.out.vof
  have hz2 := hb2.size
  have HZ2 := Lib.hid hz2
  have HK := Lib.hid hk
  have HB2 := Lib.hid hb2
  clear hs hb2 hk hz2 hp
  dsimp only [yNext]
  gi_wp2_with ((with_reducible show wpListIn _ _ _ _ _ _ _ _); (refine wpListIn_callf hF 115 rfl rfl egk HK.out rfl ?_))
  rintro e w3 ⟨s3, rfl, hs3, hb3⟩
  have HS3 := Lib.hid hs3
  have HB3 := Lib.hid hb3
  clear hs3 hb3
  dsimp only [yNext]
  gi_wp2_with fail
  go_ret
  have z1 := HS1.out
  have z2 := HZ2.out
  have z3 := HB3.out.size
  refine ⟨_, rfl, ?_, HWB.out.trans ((HB2.out.mono (by omega)).trans (HB3.out.mono (by omega)))⟩
  have hs := HS3.out
  rw [filter_items L (backupsB L t most)] at hs
  refine hs.mono ?_ ?_
  · rintro k (h | (rfl | rfl | rfl | h) | h)
    · exact .inr (by omega)
    · exact .inr (by omega)
    · exact .inr (by omega)
    · exact .inr (by omega)
    · exact .inl h
    · exact .inr (by omega)
  · rintro k (h | h)
    · have := rowFp_lt HI.out h; omega
    · exact h.2

end Chain
end Go.Proofs.Ytigbglagfbbmjaa
