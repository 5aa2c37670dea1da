/- The contracts of package reach: its segments, the next one, what is covered. Condition: the slice holds the items. -/
import Derived.Test.YtigbglagfbbmjaaItem
namespace Go.Proofs.Ytigbglagfbbmjaa
open Go.RowKit Go.Shelf
set_option linter.unusedSimpArgs false
set_option linter.unusedVariables false
attribute [local go_sem] Oper.semAt_some
namespace Reach

def segB (t : Int) (x : Itm) : Bool := x.kind == 1 && x.tl == t
def nextB (n : Int) (x : Itm) : Bool := decide (x.a ≤ n) && decide (n < x.b)

set_option maxRecDepth 100000 in
set_option maxHeartbeats 400000 in
theorem seg1 (x : Itm) (t : Int) (B : Nat) (w : World) (hB : w.cell? ⟨B, 0, none⟩ = some (.int .i64 t)) (hlt : B < w.heap.size) :
    Calls Try.prog 119 #[x.v, .pointer (some ⟨B, 0, none⟩)] w (fun e w' => e = .returned (.bool (segB t x)) ∧ Below w.heap.size w w') := by
  have hc : (w.alloc (.cells #[.int .i64 x.id, .int .i64 x.kind, .int .i64 x.tl, .int .i64 x.num, .int .i64 x.a, .int .i64 x.b, .int .i64 x.par, .int .i64 x.len, x.ext] 35)).cell? ⟨B, 0, none⟩ = some (.int .i64 t) := (World.cell?_alloc_lt w _ _ hlt).trans hB
  cases h1 : (x.kind == 1) with
  | true =>
    (refine calls_enter Try.func119 rfl ?_; simp only [Try.ntmps119, List.size_toArray, List.length_cons, List.length_nil, Nat.reduceAdd, Nat.reduceSub, Array.replicate_succ, Array.replicate_zero, List.push_toArray, List.append_toArray, List.nil_append, List.cons_append])
    gi_wp2
    go_ret
    exact ⟨by rw [segB, h1, Bool.true_and]; rfl, (Below.refl _ _).alloc (Nat.le_refl _) _⟩
  | false =>
    (refine calls_enter Try.func119 rfl ?_; simp only [Try.ntmps119, List.size_toArray, List.length_cons, List.length_nil, Nat.reduceAdd, Nat.reduceSub, Array.replicate_succ, Array.replicate_zero, List.push_toArray, List.append_toArray, List.nil_append, List.cons_append])
    gi_wp2
    go_ret
    exact ⟨by rw [segB, h1, Bool.false_and]; rfl, (Below.refl _ _).alloc (Nat.le_refl _) _⟩

set_option maxRecDepth 100000 in
set_option maxHeartbeats 400000 in
theorem next1 (x : Itm) (n : Int) (B : Nat) (w : World) (hB : w.cell? ⟨B, 0, none⟩ = some (.int .i64 n)) (hlt : B < w.heap.size) :
    Calls Try.prog 120 #[x.v, .pointer (some ⟨B, 0, none⟩)] w (fun e w' => e = .returned (.bool (nextB n x)) ∧ Below w.heap.size w w') := by
  have hc : (w.alloc (.cells #[.int .i64 x.id, .int .i64 x.kind, .int .i64 x.tl, .int .i64 x.num, .int .i64 x.a, .int .i64 x.b, .int .i64 x.par, .int .i64 x.len, x.ext] 35)).cell? ⟨B, 0, none⟩ = some (.int .i64 n) := (World.cell?_alloc_lt w _ _ hlt).trans hB
  cases h1 : decide (x.a ≤ n) with
  | true =>
    (refine calls_enter Try.func120 rfl ?_; simp only [Try.ntmps120, List.size_toArray, List.length_cons, List.length_nil, Nat.reduceAdd, Nat.reduceSub, Array.replicate_succ, Array.replicate_zero, List.push_toArray, List.append_toArray, List.nil_append, List.cons_append])
    gi_wp2
    go_ret
    exact ⟨by rw [nextB, h1, Bool.true_and]; rfl, (Below.refl _ _).alloc (Nat.le_refl _) _⟩
  | false =>
    (refine calls_enter Try.func120 rfl ?_; simp only [Try.ntmps120, List.size_toArray, List.length_cons, List.length_nil, Nat.reduceAdd, Nat.reduceSub, Array.replicate_succ, Array.replicate_zero, List.push_toArray, List.append_toArray, List.nil_append, List.cons_append])
    gi_wp2
    go_ret
    exact ⟨by rw [nextB, h1, Bool.false_and]; rfl, (Below.refl _ _).alloc (Nat.le_refl _) _⟩

/-- The closures, as predicates on the items. -/
theorem seg1_pred (L : List Itm) (t : Int) (B : Nat) (w : World) (hb : BoxV w B 3 (.int .i64 t)) : IsPred Try.prog (L.map Itm.v) (fun v => segB t (toItm v)) (fun k => k = B) w (.func (.func 119) #[] #[.pointer (some ⟨B, 0, none⟩)]) := by
  refine ⟨_, _, rfl, (enters_of Try.func119 (by kernel_rfl) rfl), fun k hk => hk ▸ hb.lt, fun W hW v hv => ?_⟩
  obtain ⟨x, _, rfl⟩ := List.mem_map.1 hv
  have hb' : BoxV W B 3 (.int .i64 t) := (hW B rfl).2.trans hb
  exact seg1 x t B W (hb'.cell rfl) hb'.lt
theorem next1_pred (L : List Itm) (n : Int) (B : Nat) (w : World) (hb : BoxV w B 3 (.int .i64 n)) : IsPred Try.prog (L.map Itm.v) (fun v => nextB n (toItm v)) (fun k => k = B) w (.func (.func 120) #[] #[.pointer (some ⟨B, 0, none⟩)]) := by
  refine ⟨_, _, rfl, (enters_of Try.func120 (by kernel_rfl) rfl), fun k hk => hk ▸ hb.lt, fun W hW v hv => ?_⟩
  obtain ⟨x, _, rfl⟩ := List.mem_map.1 hv
  have hb' : BoxV W B 3 (.int .i64 n) := (hW B rfl).2.trans hb
  exact next1 x n B W (hb'.cell rfl) hb'.lt

set_option maxRecDepth 100000 in
set_option maxHeartbeats 400000 in
theorem segments (sv : Value) (L : List Itm) (t : Int) (w : World) (h : Items w sv L) :
    Calls Try.prog 74 #[sv, .int .i64 t] w (fun e w' => ∃ s, e = .returned s ∧ IsSeq Try.prog ((L.filter (segB t)).map Itm.v) (fun k => w.heap.size ≤ k ∧ k < w'.heap.size) w' s ∧ Below w.heap.size w w') := by
  have hF := isWide_wide
  obtain ⟨W1, hW1⟩ : ∃ W1, W1 = w.alloc (.cells (cv (.int .i64 t)) 3) := ⟨_, rfl⟩
  have hb1 : Below w.heap.size w W1 := by rw [hW1]; exact (Below.refl _ _).alloc (Nat.le_refl _) _
  have hs1 : W1.heap.size = w.heap.size + 1 := by rw [hW1]; simp
  have hbx : BoxV W1 w.heap.size 3 (.int .i64 t) := by rw [hW1]; exact BoxV.new _ _ _
  have hof := Item.flowOf sv (L.map Itm.v) W1 (h.later hb1).at_ (h.later hb1).vof h.size
  have ego := (enters_of Try.func83 (by kernel_rfl) rfl)
  have egk := (enters_of Try.func115 (by kernel_rfl) rfl)
  have HW1 := Lib.hid hW1
  have HB1 := Lib.hid hb1
  have HS1 := Lib.hid hs1
  have HBX := Lib.hid hbx
  have HOF := Lib.hid hof
  have HI := Lib.hid h
  clear hW1 hb1 hs1 hbx hof h
  (refine calls_enter Try.func74 rfl ?_; simp only [Try.ntmps74, List.size_toArray, List.length_cons, List.length_nil, Nat.reduceAdd, Nat.reduceSub, Array.replicate_succ, Array.replicate_zero, List.push_toArray, List.append_toArray, List.nil_append, List.cons_append])
  gi_wp2_with ((with_reducible show wpListIn _ _ _ _ _ _ _ _); (first | (refine wpListIn_boxv (v := .int .i64 t) hF rfl 3 _ rfl rfl ?_; rw [← HW1.out]) | (refine wpListIn_callf hF 83 rfl rfl ego HOF.out rfl ?_)))
  rintro e w2 ⟨s, rfl, hs, hb2⟩
  have hz2 := hb2.size
  have hk := Item.keep s (.func (.func 119) #[] #[.pointer (some ⟨w.heap.size, 0, none⟩)]) (L.map Itm.v) (fun v => segB t (toItm v)) _ (fun k => k = w.heap.size) w2 hs
    ((seg1_pred L t w.heap.size W1 HBX.out).later hb2) HI.out.vof
  have HZ2 := Lib.hid hz2
  have HK := Lib.hid hk
  have HB2 := Lib.hid hb2
  clear hs hb2 hk hz2
  dsimp only [yNext]
  gi_wp2_with ((with_reducible show wpListIn _ _ _ _ _ _ _ _); (refine wpListIn_callf hF 115 rfl rfl egk HK.out rfl ?_))
  rintro e w3 ⟨s3, rfl, hs3, hb3⟩
  have HS3 := Lib.hid hs3
  have HB3 := Lib.hid hb3
  clear hs3 hb3
  dsimp only [yNext]
  gi_wp2_with fail
  go_ret
  have z1 := HS1.out
  have z2 := HZ2.out
  have z3 := HB3.out.size
  refine ⟨s3, rfl, ?_, HB1.out.trans ((HB2.out.mono (by omega)).trans (HB3.out.mono (by omega)))⟩
  rw [← filter_items]
  refine HS3.out.mono ?_ (fun k hk => hk.2)
  rintro k (⟨h1, h2⟩ | rfl | ⟨h1, h2⟩)
  · omega
  · omega
  · omega

/-- The first of the timeline's segments that has what is behind n. -/
def nextSeg (L : List Itm) (t n : Int) : Option Itm := (L.filter (segB t)).find? (nextB n)

set_option maxRecDepth 100000 in
set_option maxHeartbeats 400000 in
theorem next (sv : Value) (L : List Itm) (t n : Int) (w : World) (h : Items w sv L) :
    Calls Try.prog 76 #[sv, .int .i64 t, .int .i64 n] w (fun e w' => e = .returned (.tuple #[((nextSeg L t n).getD zItm).v, .bool (nextSeg L t n).isSome]) ∧ Below w.heap.size w w') := by
  have hF := isWide_wide
  obtain ⟨W1, hW1⟩ : ∃ W1, W1 = (w.alloc (.cells (cv (.int .i64 n)) 3)).alloc (.cells (cv zItm.v) 35) := ⟨_, rfl⟩
  have hb1 : Below w.heap.size w W1 := by rw [hW1]; exact ((Below.refl _ _).alloc (Nat.le_refl _) _).alloc (by simp) _
  have hs1 : W1.heap.size = w.heap.size + 2 := by rw [hW1]; simp
  have hbx : BoxV W1 w.heap.size 3 (.int .i64 n) := by rw [hW1]; exact (BoxV.new _ _ _).alloc _
  have hbr : BoxV W1 (w.heap.size + 1) 35 zItm.v := by rw [hW1]; have := BoxV.new (w.alloc (.cells (cv (.int .i64 n)) 3)) 35 zItm.v; rwa [World.size_alloc] at this
  have hsg := segments sv L t W1 (h.later hb1)
  have hok : ∀ y ∈ L.filter (segB t), y.ok := fun y hy => h.ok y (List.mem_filter.1 hy).1
  have egs := (enters_of Try.func74 (by kernel_rfl) rfl)
  have egf := (enters_of Try.func82 (by kernel_rfl) rfl)
  have HW1 := Lib.hid hW1
  have HB1 := Lib.hid hb1
  have HS1 := Lib.hid hs1
  have HBX := Lib.hid hbx
  have HBR := Lib.hid hbr
  have HSG := Lib.hid hsg
  have HOK := Lib.hid hok
  clear hW1 hb1 hs1 hbx hbr hsg hok h
  (refine calls_enter Try.func76 rfl ?_; simp only [Try.ntmps76, List.size_toArray, List.length_cons, List.length_nil, Nat.reduceAdd, Nat.reduceSub, Array.replicate_succ, Array.replicate_zero, List.push_toArray, List.append_toArray, List.nil_append, List.cons_append])
  gi_wp2_with ((with_reducible show wpListIn _ _ _ _ _ _ _ _); (first | (refine wpListIn_boxv (v := .int .i64 n) hF rfl 3 _ rfl rfl ?_) | (refine wpListIn_allocv (z := zItm.v) hF rfl 35 rfl Try.zeroValue35 ?_; rw [← HW1.out]) | (refine wpListIn_callf hF 74 rfl rfl egs HSG.out rfl ?_)))
  rintro e w2 ⟨s, rfl, hs, hb2⟩
  have hz2 := hb2.size
  have hk := Item.find s (.func (.func 120) #[] #[.pointer (some ⟨w.heap.size, 0, none⟩)]) ((L.filter (segB t)).map Itm.v) (fun v => nextB n (toItm v)) _ (fun k => k = w.heap.size) w2 hs
    ((next1_pred (L.filter (segB t)) n w.heap.size W1 HBX.out).later hb2) (fun v hv => by obtain ⟨x, hx, rfl⟩ := List.mem_map.1 hv; exact vof_item x (HOK.out x hx))
  rw [find_items] at hk
  have hbr2 : BoxV w2 (w.heap.size + 1) 35 zItm.v := (hb2.block _ HBR.out.lt).trans HBR.out
  have HZ2 := Lib.hid hz2
  have HK := Lib.hid hk
  have HB2 := Lib.hid hb2
  have HBR2 := Lib.hid hbr2
  clear hs hb2 hk hz2 hbr2
  dsimp only [yNext]
  gi_wp2_with ((with_reducible show wpListIn _ _ _ _ _ _ _ _); (refine wpListIn_callf hF 82 rfl rfl egf HK.out rfl ?_))
  rintro e w3 ⟨rfl, hb3⟩
  obtain ⟨r, hr⟩ : ∃ r, r = nextSeg L t n := ⟨_, rfl⟩
  have hv : ((List.find? (nextB n) (L.filter (segB t))).map Itm.v).getD zItm.v = (r.getD zItm).v := by rw [getD_items, hr]; rfl
  have hsome : ((List.find? (nextB n) (L.filter (segB t))).map Itm.v).isSome = r.isSome := by rw [hr, nextSeg]; cases List.find? (nextB n) (L.filter (segB t)) <;> rfl
  have hrok : (r.getD zItm).ok := by
    cases hq : r with
    | none => exact zItm_ok
    | some y => rw [hr] at hq; exact HOK.out y (List.mem_of_find?_eq_some hq)
  have hvf := vof_item _ hrok
  have hbr3 : BoxV w3 (w.heap.size + 1) 35 zItm.v := (hb3.block _ HBR2.out.lt).trans HBR2.out
  rw [show (.agg #[.int .i64 0, .int .i64 0, .int .i64 0, .int .i64 0, .int .i64 0, .int .i64 0, .int .i64 0, .int .i64 0, .slice none 0 0] : Value) = zItm.v from rfl, hv, hsome]
  have HVF := Lib.hid hvf
  have HB3 := Lib.hid hb3
  have HBR3 := Lib.hid hbr3
  have HR := Lib.hid hr
  clear hv hsome hrok hvf hb3 hbr3 hr
  dsimp only [yNext]
  gi_wp2_with ((with_reducible show wpListIn _ _ _ _ _ _ _ _); (refine wpListIn_storev (v := (r.getD zItm).v) hF rfl 35 _ _ rfl rfl rfl HBR3.out HVF.out rfl ?_))
  have z1 := HS1.out
  have z2 := HZ2.out
  have z3 := HB3.out.size
  refine bodyPost_ret (results_box_tmp (B := w.heap.size + 1) (v := (r.getD zItm).v) (u := .bool r.isSome) rfl rfl rfl (HBR3.out.set _) HVF.out) rfl ⟨by rw [HR.out], ?_⟩
  exact (HB1.out.trans ((HB2.out.mono (by omega)).trans (HB3.out.mono (by omega)))).trans ((Touch.setRow (S := fun k => w.heap.size ≤ k) _ _ _ (by omega)).below (by omega) (fun k hk h => by omega))

/-! ### what is covered, as plain functions -/
theorem nextSeg_spec {L : List Itm} {t n : Int} {x : Itm} (h : nextSeg L t n = some x) : x ∈ L ∧ x.kind = 1 ∧ x.tl = t ∧ x.a ≤ n ∧ n < x.b := by
  have h1 := List.mem_of_find?_eq_some h
  have h2 := List.find?_some h
  obtain ⟨h3, h4⟩ := List.mem_filter.1 h1
  simp [segB] at h4
  simp [nextB] at h2
  exact ⟨h3, h4.1, h4.2, h2.1, h2.2⟩
/-- How many items end behind n. -/
def above (L : List Itm) (n : Int) : Nat := (L.filter fun x => decide (n < x.b)).length
theorem above_lt {L : List Itm} {n m : Int} {x : Itm} (hx : x ∈ L) (h1 : n < x.b) (h2 : m = x.b) : above L m < above L n := by
  subst h2
  unfold above
  induction L with
  | nil => cases hx
  | cons y L ih =>
    have hle : (L.filter fun z => decide (x.b < z.b)).length ≤ (L.filter fun z => decide (n < z.b)).length := by
      clear ih hx
      induction L with
      | nil => simp
      | cons z L ih =>
        simp only [List.filter_cons]
        by_cases hz : x.b < z.b
        · rw [if_pos (by simpa using hz), if_pos (by simp; omega)]; simp only [List.length_cons]; omega
        · rw [if_neg (by simpa using hz)]
          split
          · simp only [List.length_cons]; omega
          · exact ih
    rcases List.mem_cons.1 hx with rfl | hx
    · simp only [List.filter_cons]
      rw [if_neg (by simp), if_pos (by simpa using h1)]
      simp only [List.length_cons]; omega
    · have := ih hx
      simp only [List.filter_cons]
      by_cases hy : x.b < y.b
      · rw [if_pos (by simpa using hy), if_pos (by simp; omega)]; simp only [List.length_cons]; omega
      · rw [if_neg (by simpa using hy)]
        split
        · simp only [List.length_cons]; omega
        · exact this
theorem above_le (L : List Itm) (n : Int) : above L n ≤ L.length := List.length_filter_le _ _

/-- The Ids that cover what is behind 'fr' up to 'to'; none where they don't. -/
def cover (L : List Itm) (t : Int) (fr to : Int) : Option (List Int) :=
  if fr < to then
    match h : nextSeg L t fr with
    | none => none
    | some x => (cover L t x.b to).map (x.id :: ·)
  else some []
termination_by above L fr
decreasing_by
  have := nextSeg_spec h
  exact above_lt this.1 this.2.2.2.2 rfl
/-- The last commit that is covered. -/
def last (L : List Itm) (t : Int) (fr : Int) : Int :=
  match h : nextSeg L t fr with
  | none => fr
  | some x => last L t x.b
termination_by above L fr
decreasing_by
  have := nextSeg_spec h
  exact above_lt this.1 this.2.2.2.2 rfl
theorem cover_done {L : List Itm} {t fr to : Int} (h : ¬ fr < to) : cover L t fr to = some [] := by rw [cover, if_neg h]
theorem cover_none {L : List Itm} {t fr to : Int} (h : fr < to) (hn : nextSeg L t fr = none) : cover L t fr to = none := by
  rw [cover, if_pos h]; split
  · rfl
  · rename_i x hx; rw [hn] at hx; cases hx
theorem cover_some {L : List Itm} {t fr to : Int} {x : Itm} (h : fr < to) (hn : nextSeg L t fr = some x) : cover L t fr to = (cover L t x.b to).map (x.id :: ·) := by
  rw [cover, if_pos h]; split
  · rename_i hx; rw [hn] at hx; cases hx
  · rename_i y hy; rw [hn] at hy; cases hy; rfl
theorem last_none {L : List Itm} {t fr : Int} (hn : nextSeg L t fr = none) : last L t fr = fr := by
  rw [last]; split
  · rfl
  · rename_i x hx; rw [hn] at hx; cases hx
theorem last_some {L : List Itm} {t fr : Int} {x : Itm} (hn : nextSeg L t fr = some x) : last L t fr = last L t x.b := by
  rw [last]; split
  · rename_i hx; rw [hn] at hx; cases hx
  · rename_i y hy; rw [hn] at hy; cases hy; rfl

/-- A slice of ints that reads as zs. -/
abbrev IntsAt (w : World) (v : Value) (zs : List Int) : Prop := SliceAt w 1 v (zs.map (Value.int .i64))
theorem cellsOf_ints (zs : List Int) : cellsOf (zs.map (Value.int .i64)) = zs.map (Value.int .i64) := by
  unfold cellsOf
  induction zs with
  | nil => rfl
  | cons z zs ih => simp only [List.map_cons, List.flatten_cons] at ih ⊢; rw [ih]; rfl
theorem IntsAt.of_owns {w : World} {base : Nat} {v : Value} {zs : List Int} {n : Nat} {e : TypeId} (h : w.ownsRow base e 1 v n (zs.map (Value.int .i64))) (hn : n = zs.length) (hnil : v = .slice none 0 0 → zs = []) : IntsAt w v zs := by
  refine SliceAt.of_owns (base := base) (e := e) (n := n) (fun x hx => ?_) (by rw [cellsOf_ints]; exact h) (by simpa using hn) (fun h => by rw [hnil h]; rfl)
  obtain ⟨z, _, rfl⟩ := List.mem_map.1 hx; rfl

set_option maxRecDepth 100000 in
set_option maxHeartbeats 400000 in
theorem last_calls (sv : Value) (L : List Itm) (t n : Int) (w : World) (h : Items w sv L) :
    Calls Try.prog 18 #[sv, .int .i64 t, .int .i64 n] w (fun e w' => e = .returned (.int .i64 (last L t n)) ∧ Below w.heap.size w w') := by
  have hF := isWide_wide
  have egn := (enters_of Try.func76 (by kernel_rfl) rfl)
  have HI := Lib.hid h
  clear h
  (refine calls_enter Try.func18 rfl ?_; simp only [Try.ntmps18, List.size_toArray, List.length_cons, List.length_nil, Nat.reduceAdd, Nat.reduceSub, Array.replicate_succ, Array.replicate_zero, List.push_toArray, List.append_toArray, List.nil_append, List.cons_append])
  gi_wp2_with fail
  gi_loopw [2] (fun v wr => ∃ m, v = .int .i64 m ∧ last L t n = last L t m ∧ Below w.heap.size w wr) (fun v wr => above L (intOf v))
  case atStart => exact ⟨n, rfl, rfl, Below.refl _ _⟩
  case round =>
    obtain ⟨m, rfl, hl, hb⟩ := hrel
    have hn := next sv L t m wr (HI.out.later hb)
    obtain ⟨r, hr⟩ : ∃ r, r = nextSeg L t m := ⟨_, rfl⟩
    rw [← hr] at hn
    have hrok : (r.getD zItm).ok := by
      cases hq : r with
      | none => exact zItm_ok
      | some y => rw [hr] at hq; exact HI.out.ok y (nextSeg_spec hq).1
    have hvf := vof_item _ hrok
    have HVF := Lib.hid hvf
    have HN := Lib.hid hn
    have HL := Lib.hid hl
    have HB := Lib.hid hb
    have HR := Lib.hid hr
    clear hrok hvf hn hl hb hr
    gi_wp2_with ((with_reducible show wpListIn _ _ _ _ _ _ _ _); (refine wpListIn_callf hF 76 rfl rfl egn HN.out rfl ?_))
    rintro e w1 ⟨rfl, hb1⟩
    have HB1 := Lib.hid hb1
    clear hb1
    dsimp only [yNext]
    cases r with
    | none =>
      gi_wp2_with ((with_reducible show wpListIn _ _ _ _ _ _ _ _); (refine wpListIn_newv (v := zItm.v) hF rfl rfl 35 rfl Try.zeroValue35 _ _ rfl rfl rfl HVF.out rfl ?_))
      go_ret
      exact ⟨by rw [HL.out, last_none HR.out.symm]; rfl, (HB.out.trans (HB1.out.mono HB.out.size)).alloc (by have := HB.out.size; have := HB1.out.size; omega) _⟩
    | some x =>
      have hc : (w1.alloc (.cells (cv x.v) 35)).cell? ⟨w1.heap.size, 5, none⟩ = some (.int .i64 x.b) := World.cell?_alloc_new _ _ _ _
      gi_wp2_with ((with_reducible show wpListIn _ _ _ _ _ _ _ _); (refine wpListIn_newv (v := x.v) hF rfl rfl 35 rfl Try.zeroValue35 _ _ rfl rfl rfl HVF.out rfl ?_))
      have hsp := nextSeg_spec HR.out.symm
      go_roundw
      case rel => exact ⟨x.b, rfl, by rw [HL.out, last_some HR.out.symm], (HB.out.trans (HB1.out.mono HB.out.size)).alloc (by have := HB.out.size; have := HB1.out.size; omega) _⟩
      case measure => exact above_lt hsp.1 hsp.2.2.2.2 rfl

theorem info3 : (Try.prog.info? 3).map (fun i => (i.zero, i.size, i.bytes)) = some (some (.int .i64 0), 1, 8) := by kernel_rfl

def coverEnd (L : List Itm) (t fr to : Int) (w : World) (e : Ending) (w' : World) : Prop :=
  (∃ v zs, cover L t fr to = some zs ∧ e = .returned (.tuple #[v, .bool true]) ∧ IntsAt w' v zs ∧ (∀ b, sliceBlk v b → w.heap.size ≤ b) ∧ zs.length ≤ L.length ∧ Below w.heap.size w w') ∨
  (cover L t fr to = none ∧ e = .returned (.tuple #[.slice none 0 0, .bool false]) ∧ Below w.heap.size w w')
def coverRel (L : List Itm) (t fr to : Int) (w : World) (out at_ : Value) (wr : World) : Prop :=
  ∃ acc m, at_ = .int .i64 m ∧ wr.ownsRow w.heap.size 3 1 out acc.length (acc.map (Value.int .i64)) ∧ (out = .slice none 0 0 → acc = []) ∧ cover L t fr to = (cover L t m to).map (acc ++ ·) ∧ acc.length + above L m ≤ L.length ∧ Below w.heap.size w wr

set_option maxRecDepth 100000 in
set_option maxHeartbeats 400000 in
theorem cover_calls (sv : Value) (L : List Itm) (t n to : Int) (w : World) (h : Items w sv L) :
    Calls Try.prog 16 #[sv, .int .i64 t, .int .i64 n, .int .i64 to] w (coverEnd L t n to w) := by
  have hF := isWide_wide
  have egn := (enters_of Try.func76 (by kernel_rfl) rfl)
  obtain ⟨i0, hi, hz0, hz1, hz2⟩ := info_parts info3
  have HI := Lib.hid h
  clear h
  (refine calls_enter Try.func16 rfl ?_; simp only [Try.ntmps16, List.size_toArray, List.length_cons, List.length_nil, Nat.reduceAdd, Nat.reduceSub, Array.replicate_succ, Array.replicate_zero, List.push_toArray, List.append_toArray, List.nil_append, List.cons_append])
  gi_wp2_with fail
  gi_loopw [10, 11] (fun o v wr => coverRel L t n to w o v wr) (fun _ v wr => above L (intOf v))
  case atStart => exact ⟨[], n, rfl, World.ownsRow_nil _ _ _ _, fun _ => rfl, by cases cover L t n to <;> simp, by simpa using above_le L n, Below.refl _ _⟩
  case round =>
    obtain ⟨acc, m, rfl, hown, hnil, hl, hlen, hb⟩ := hrel
    have hn := next sv L t m wr (HI.out.later hb)
    obtain ⟨r, hr⟩ : ∃ r, r = nextSeg L t m := ⟨_, rfl⟩
    rw [← hr] at hn
    have hrok : (r.getD zItm).ok := by
      cases hq : r with
      | none => exact zItm_ok
      | some y => rw [hr] at hq; exact HI.out.ok y (nextSeg_spec hq).1
    have hvf := vof_item _ hrok
    have HVF := Lib.hid hvf
    have HN := Lib.hid hn
    have HL := Lib.hid hl
    have HB := Lib.hid hb
    have HR := Lib.hid hr
    have HOWN := Lib.hid hown
    have HNIL := Lib.hid hnil
    have HLEN := Lib.hid hlen
    clear hrok hvf hn hl hb hr hown hnil hlen
    by_cases hlt : m < to
    · gi_wp2_with ((with_reducible show wpListIn _ _ _ _ _ _ _ _); (refine wpListIn_callf hF 76 rfl rfl egn HN.out rfl ?_))
      rintro e w1 ⟨rfl, hb1⟩
      have HB1 := Lib.hid hb1
      clear hb1
      dsimp only [yNext]
      cases r with
      | none =>
        gi_wp2_with ((with_reducible show wpListIn _ _ _ _ _ _ _ _); (refine wpListIn_newv (v := zItm.v) hF rfl rfl 35 rfl Try.zeroValue35 _ _ rfl rfl rfl HVF.out rfl ?_))
        go_ret2
        exact .inr ⟨by rw [HL.out, cover_none hlt HR.out.symm]; rfl, rfl, (HB.out.trans (HB1.out.mono HB.out.size)).alloc (by have := HB.out.size; have := HB1.out.size; omega) _⟩
      | some x =>
        have hc : (w1.alloc (.cells (cv x.v) 35)).cell? ⟨w1.heap.size, 5, none⟩ = some (.int .i64 x.b) := World.cell?_alloc_new _ _ _ _
        have hc0 : (w1.alloc (.cells (cv x.v) 35)).cell? ⟨w1.heap.size, 0, none⟩ = some (.int .i64 x.id) := World.cell?_alloc_new _ _ _ _
        have z1 := HB.out.size
        have z2 := HB1.out.size
        have hsp := nextSeg_spec HR.out.symm
        have hab := above_lt hsp.1 hsp.2.2.2.2 rfl
        have hsm := HI.out.small
        have hlen := HLEN.out
        have hown1 : (w1.alloc (.cells (cv x.v) 35)).ownsRow w.heap.size 3 1 u10 acc.length (acc.map (Value.int .i64)) := by
          have hg : wr.grownBy w1 none := ⟨HB1.out.os, HB1.out.tape, HB1.out.output, HB1.out.size, fun k hk _ => HB1.out.block k hk⟩
          exact (HOWN.out.kept hg (by cases u10.ownBlock <;> simp)).alloc _
        have HO1 := Lib.hid hown1
        have HAB := Lib.hid hab
        have HSM := Lib.hid hsm
        have HSP := Lib.hid hsp
        have HLEN2 := Lib.hid hlen
        clear hsp hab hsm hown1 hlen
        gi_wp2_with (first | ((with_reducible show wpListIn _ _ _ _ _ _ _ _); (refine wpListIn_newv (v := x.v) hF rfl rfl 35 rfl Try.zeroValue35 _ _ rfl rfl rfl HVF.out rfl ?_)) | (gi_at_builtin; refine wpListIn_append_own _ rfl _ _ 25 rfl w.heap.size 3 i0 (.int .i64 0) 1 8 Try.underlying25 hi hz0 hz1 hz2 rfl (by decide) _ _ _ rfl (HO1.out.alloc _) ⟨w1.heap.size + 1, 0, none⟩ 1 1 [.int .i64 x.id] rfl rfl ?_ ?_ ?_ ?_ ?_ ?_))
        · intro j u hj
          match j, hj with
          | 0, hj => simp at hj; subst hj; simp [Addr.add]
        · intro u hu; simp at hu; subst hu; rfl
        · have := HLEN2.out; have := HSM.out; have := HAB.out; unfold maxLen; omega
        · have := HLEN2.out; have := HSM.out; have := HAB.out; omega
        · simp; omega
        · intro v' w2 hown2 hgrow hnn
          have hne : ∀ k, u10.ownBlock = some k → w.heap.size ≤ k ∧ k < wr.heap.size := fun k hk => HOWN.out.lt k hk
          have hc2 : w2.cell? ⟨w1.heap.size, 5, none⟩ = some (.int .i64 x.b) := hgrow.cell ((World.cell?_alloc_lt _ _ _ (by simp)).trans hc) (fun e => by have := hne w1.heap.size e.symm; omega)
          have HO2 := Lib.hid hown2
          have HG := Lib.hid hgrow
          have HNN := Lib.hid hnn
          have HNE := Lib.hid hne
          clear hown2 hgrow hnn hne hc hc0
          gi_wp2_with fail
          go_roundw
          case rel =>
            refine ⟨acc ++ [x.id], x.b, rfl, by simpa using HO2.out, fun h => absurd h (by simpa using HNN.out), ?_, ?_, ?_⟩
            · rw [HL.out, cover_some hlt HR.out.symm]
              cases cover L t x.b to <;> simp
            · have := HLEN2.out; have := HAB.out; simp; omega
            · exact (((HB.out.trans (HB1.out.mono z1)).alloc (by omega) _).alloc (by simp; omega) _).grown HG.out (by simp; omega) (fun k e => (HNE.out k e).1)
          case measure => exact HAB.out
    · gi_wp2_with fail
      go_ret2
      have hle := HLEN.out
      exact .inl ⟨_, acc, by rw [HL.out, cover_done (show ¬ m < to by omega)]; simp, rfl, IntsAt.of_owns HOWN.out rfl HNIL.out, fun b hb => (sliceBlk_owns HOWN.out b hb).1, by omega, HB.out⟩

end Reach
end Go.Proofs.Ytigbglagfbbmjaa
