/- The contract of chain.Of: an item's chain. Condition: the slice holds the items. -/
import Derived.Test.YtigbglagfbbmjaaChain
import Derived.Test.YtigbglagfbbmjaaRev
namespace Go.Proofs.Ytigbglagfbbmjaa
open Go.RowKit Go.Shelf
set_option linter.unusedSimpArgs false
set_option linter.unusedVariables false
attribute [local go_sem] Oper.semAt_some
namespace Chain

/-- How many items have an Id under n. -/
def under (L : List Itm) (n : Int) : Nat := (L.filter fun x => decide (x.id < n)).length
theorem under_lt {L : List Itm} {n m : Int} {x : Itm} (hx : x ∈ L) (h1 : x.id < n) (h2 : m = x.id) : under L m < under L n := by
  subst h2
  unfold under
  induction L with
  | nil => cases hx
  | cons y L ih =>
    have hle : (L.filter fun z => decide (z.id < x.id)).length ≤ (L.filter fun z => decide (z.id < n)).length := by
      clear ih hx
      induction L with
      | nil => simp
      | cons z L ih =>
        simp only [List.filter_cons]
        by_cases hz : z.id < x.id
        · rw [if_pos (by simpa using hz), if_pos (by simp; omega)]; simp only [List.length_cons]; omega
        · rw [if_neg (by simpa using hz)]
          split
          · simp only [List.length_cons]; omega
          · exact ih
    rcases List.mem_cons.1 hx with rfl | hx
    · simp only [List.filter_cons]
      rw [if_neg (by simp), if_pos (by simpa using h1)]
      simp only [List.length_cons]; omega
    · have := ih hx
      simp only [List.filter_cons]
      by_cases hy : y.id < x.id
      · rw [if_pos (by simpa using hy), if_pos (by simp; omega)]; simp only [List.length_cons]; omega
      · rw [if_neg (by simpa using hy)]
        split
        · simp only [List.length_cons]; omega
        · exact this
theorem under_mem {L : List Itm} {x : Itm} (hx : x ∈ L) : under L x.id + 1 ≤ L.length := by
  unfold under
  induction L with
  | nil => cases hx
  | cons y L ih =>
    rcases List.mem_cons.1 hx with rfl | hx
    · simp only [List.filter_cons]
      rw [if_neg (by simp)]
      have := List.length_filter_le (fun z : Itm => decide (z.id < x.id)) L
      simp only [List.length_cons]; omega
    · have := ih hx
      simp only [List.filter_cons]
      split <;> simp only [List.length_cons] <;> omega
theorem byId_spec {L : List Itm} {id : Int} {x : Itm} (h : byId L id = some x) : x ∈ L ∧ x.id = id :=
  ⟨List.mem_of_find?_eq_some h, by simpa using List.find?_some h⟩

/-- May x be what its child leans on? -/
def upB (x child : Itm) : Bool := (x.tl == child.tl) && decide (x.id < child.id) && decide (x.b ≤ child.a)
def upOk (L : List Itm) (child : Itm) : Bool := atOk L child.par && upB (atX L child.par) child
theorem upOk_mem {L : List Itm} {child : Itm} (h : upOk L child = true) : byId L child.par = some (atX L child.par) ∧ atX L child.par ∈ L ∧ (atX L child.par).id < child.id := by
  simp only [upOk, atOk, upB, Bool.and_eq_true, decide_eq_true_eq] at h
  have h1 : byId L child.par = some (atX L child.par) := by
    unfold atX
    cases hq : byId L child.par with
    | none => rw [hq] at h; simp at h
    | some y => rfl
  exact ⟨h1, (byId_spec h1).1, h.2.1.2⟩
/-- An item's chain, from it down to what it leans on at last. -/
def chainUp (L : List Itm) (x : Itm) : Option (List Itm) :=
  if x.kind = 2 then some [x] else if h : upOk L x = true then (chainUp L (atX L x.par)).map (x :: ·) else none
termination_by under L x.id
decreasing_by exact under_lt (upOk_mem h).2.1 (upOk_mem h).2.2 rfl
def chainOf (L : List Itm) (id : Int) : Option (List Itm) := if atOk L id then chainUp L (atX L id) else none
theorem chainUp_full {L : List Itm} {x : Itm} (h : x.kind = 2) : chainUp L x = some [x] := by rw [chainUp, if_pos h]
theorem chainUp_up {L : List Itm} {x : Itm} (h : x.kind ≠ 2) (hu : upOk L x = true) : chainUp L x = (chainUp L (atX L x.par)).map (x :: ·) := by rw [chainUp, if_neg h, dif_pos hu]
theorem chainUp_none {L : List Itm} {x : Itm} (h : x.kind ≠ 2) (hu : upOk L x = false) : chainUp L x = none := by rw [chainUp, if_neg h, dif_neg (by rw [hu]; simp)]

/-- The Ids of some items. -/
def ids (xs : List Itm) : List Value := (xs.map Itm.id).map (Value.int .i64)
theorem ids_snoc (xs : List Itm) (x : Itm) : ids (xs ++ [x]) = ids xs ++ [.int .i64 x.id] := by simp [ids]
/-- The slice value v reads as zs. -/
def Reads (w : World) (v : Value) (zs : List Int) : Prop := SliceAt w 1 v (zs.map (Value.int .i64))
def ofEnd (L : List Itm) (id : Int) (w : World) (e : Ending) (w' : World) : Prop :=
  (∃ A c zs, chainOf L id = some zs ∧ e = .returned (.tuple #[.slice A zs.length c, .bool true]) ∧ Reads w' (.slice A zs.length c) (zs.map Itm.id).reverse ∧ zs.length ≤ L.length ∧ Below w.heap.size w w') ∨
  (chainOf L id = none ∧ e = .returned (.tuple #[.slice none 0 0, .bool false]) ∧ Below w.heap.size w w')
def ofRel (L : List Itm) (id : Int) (sv : Value) (w : World) (B0 B8 b1 : Nat) (out okv : Value) (wr : World) : Prop :=
  ∃ acc x ok, okv = .bool ok ∧ wr.ownsRow b1 3 1 out acc.length (ids acc) ∧ (out = .slice none 0 0 → acc = []) ∧ BoxV wr B8 35 x.v ∧ x.ok ∧ BoxV wr B0 22 sv ∧
    chainOf L id = (if ok then (chainUp L x).map (acc ++ ·) else none) ∧ acc.length + (if ok then under L x.id + 1 else 0) ≤ L.length ∧ (ok = true → x ∈ L) ∧ Below w.heap.size w wr ∧ b1 ≤ wr.heap.size
def ofM (L : List Itm) (w : World) (B8 : Nat) (okv : Value) : Nat := match okv, w.heap[B8]? with
  | .bool true, some (.cells cs _ _) => under L (intAt cs 0) + 1
  | _, _ => 0
theorem ofM_true {L : List Itm} {w : World} {B8 : Nat} {x : Itm} (h : BoxV w B8 35 x.v) : ofM L w B8 (.bool true) = under L x.id + 1 := by
  unfold ofM; rw [h]; rfl
theorem ofM_false {L : List Itm} {w : World} {B8 : Nat} : ofM L w B8 (.bool false) = 0 := rfl

theorem info3 : (Try.prog.info? 3).map (fun i => (i.zero, i.size, i.bytes)) = some (some (.int .i64 0), 1, 8) := by kernel_rfl
theorem cellsOf_ids (zs : List Int) : cellsOf (zs.map (Value.int .i64)) = zs.map (Value.int .i64) := by
  unfold cellsOf
  induction zs with
  | nil => rfl
  | cons z zs ih => simp only [List.map_cons, List.flatten_cons] at ih ⊢; rw [ih]; rfl

set_option maxRecDepth 100000 in
set_option maxHeartbeats 2000000 in
theorem of_calls (sv : Value) (L : List Itm) (id : Int) (w : World) (h : Items w sv L) : Calls Try.prog 21 #[sv, .int .i64 id] w (ofEnd L id w) := by
  have hF := isWide_wide
  have ega := (enters_of Try.func81 (by kernel_rfl) rfl)
  have egr := (enters_of Try.func86 (by kernel_rfl) rfl)
  obtain ⟨i0, hi0, hz0, hz1, hz2⟩ := info_parts info3
  obtain ⟨W1, hW1⟩ : ∃ W1, W1 = w.alloc (.cells (cv sv) 22) := ⟨_, rfl⟩
  have hb1 : Below w.heap.size w W1 := by rw [hW1]; exact (Below.refl _ _).alloc (Nat.le_refl _) _
  have hs1 : W1.heap.size = w.heap.size + 1 := by rw [hW1]; simp
  have hb0 : BoxV W1 w.heap.size 22 sv := by rw [hW1]; exact BoxV.new _ _ _
  have hat : Calls Try.prog 81 (#[.int .i64 id] ++ #[.pointer (some ⟨w.heap.size, 0, none⟩)]) W1 _ := at_calls sv L id w.heap.size W1 (h.later hb1) hb0
  have hxok : ∀ i, (atX L i).ok := fun i => by
    rw [atX]
    cases hq : byId L i with
    | none => exact zItm_ok
    | some y => exact h.ok y (byId_spec hq).1
  have hsmall := h.small
  have HI := Lib.hid h
  have HW1 := Lib.hid hW1
  have HB1 := Lib.hid hb1
  have HS1 := Lib.hid hs1
  have HB0 := Lib.hid hb0
  have HAT := Lib.hid hat
  have HOK := Lib.hid hxok
  have HI0 := Lib.hid hi0
  have HZ0 := Lib.hid hz0
  have HZ1 := Lib.hid hz1
  have HZ2 := Lib.hid hz2
  clear h hW1 hb1 hs1 hb0 hat hxok hi0 hz0 hz1 hz2
  (refine calls_enter Try.func21 rfl ?_; simp only [Try.ntmps21, List.size_toArray, List.length_cons, List.length_nil, Nat.reduceAdd, Nat.reduceSub, Array.replicate_succ, Array.replicate_zero, List.push_toArray, List.append_toArray, List.nil_append, List.cons_append])
  gi_wp2_with ((with_reducible show wpListIn _ _ _ _ _ _ _ _); (first | (refine wpListIn_boxv (v := sv) hF rfl 22 _ rfl rfl ?_; rw [← HW1.out]) | (refine wpListIn_callc hF rfl rfl rfl ega HAT.out rfl ?_)))
  rintro e w2 ⟨rfl, hb2⟩
  have hvf := vof_item _ (HOK.out id)
  have hb02 : BoxV w2 w.heap.size 22 sv := (hb2.block _ HB0.out.lt).trans HB0.out
  have HVF := Lib.hid hvf
  have HB2 := Lib.hid hb2
  have HB02 := Lib.hid hb02
  obtain ⟨x0, hx0⟩ : ∃ x0, x0 = atX L id := ⟨_, rfl⟩
  obtain ⟨ok0, hok0⟩ : ∃ ok0, ok0 = atOk L id := ⟨_, rfl⟩
  have hstart : ofRel L id sv w w.heap.size w2.heap.size (w2.heap.size + 1) (.slice none 0 0) (.bool ok0) (w2.alloc (.cells (cv x0.v) 35)) := by
    refine ⟨[], x0, ok0, rfl, World.ownsRow_nil _ _ _ _, fun _ => rfl, BoxV.new _ _ _, hx0 ▸ HOK.out id, hb02.alloc _, ?_, ?_, ?_, ?_, by simp⟩
    · rw [chainOf, ← hok0, ← hx0]
      cases ok0 with
      | true => cases chainUp L x0 <;> simp
      | false => simp
    · cases ok0 with
      | false => simp
      | true =>
        have : byId L id = some x0 := by
          unfold atOk at hok0
          rw [hx0, atX]
          cases hq : byId L id with
          | none => rw [hq] at hok0; simp at hok0
          | some y => rfl
        have := under_mem (byId_spec this).1
        simp; omega
    · intro hok
      have : byId L id = some x0 := by
        rw [hok] at hok0
        unfold atOk at hok0
        rw [hx0, atX]
        cases hq : byId L id with
        | none => rw [hq] at hok0; simp at hok0
        | some y => rfl
      exact (byId_spec this).1
    · exact (HB1.out.trans (hb2.mono HB1.out.size)).alloc (by have := HB1.out.size; have := hb2.size; omega) _
  have HST := Lib.hid hstart
  rw [← hx0] at HVF ⊢
  rw [← hok0]
  clear hvf hb2 hb02 hx0 hok0 hstart
  dsimp only [yNext]
  gi_wp2_with ((with_reducible show wpListIn _ _ _ _ _ _ _ _); (refine wpListIn_newv (v := x0.v) hF rfl rfl 35 rfl Try.zeroValue35 _ _ rfl rfl rfl HVF.out rfl ?_))
  gi_loopw [6, 9] (fun out okv wr => ofRel L id sv w w.heap.size w2.heap.size (w2.heap.size + 1) out okv wr) (fun out okv wr => ofM L wr w2.heap.size okv)
  case atStart => exact HST.out
  case round =>
    obtain ⟨acc, x, ok, rfl, hown, hnil, hbx, hxok, hb0, hch, hlen, hmem, hb, hb1⟩ := hrel
    have z0 : w.heap.size < w2.heap.size := by have := HS1.out; have := HB2.out.size; omega
    cases ok with
    | false =>
      have HCH := Lib.hid hch
      have HB := Lib.hid hb
      clear hown hnil hbx hb0 hch hlen hmem hb hb1 hxok z0
      gi_wp2_with fail
      go_ret2
      exact .inr ⟨HCH.out.trans (by simp), rfl, HB.out⟩
    | true =>
      have c0 : wr.cell? ⟨w2.heap.size, 0, none⟩ = some (.int .i64 x.id) := by rw [cell_of_row wr _ _ _ _ _ hbx]; rfl
      have hvx := vof_item x hxok
      have hlen' : acc.length + (under L x.id + 1) ≤ L.length := by simpa using hlen
      have hxm := hmem rfl
      have HXM := Lib.hid hxm
      have HOWN := Lib.hid hown
      have HNIL := Lib.hid hnil
      have HBX := Lib.hid hbx
      have HB0R := Lib.hid hb0
      have HCH := Lib.hid hch
      have HLEN := Lib.hid hlen'
      have HB := Lib.hid hb
      have HBB := Lib.hid hb1
      have HVX := Lib.hid hvx
      have HZ := Lib.hid z0
      have HXOK := Lib.hid hxok
      clear hown hnil hbx hb0 hch hlen hmem hb hb1 hvx hlen' hxok z0 hxm
      have hm1 : acc.length + 1 ≤ maxLen := by have := HLEN.out; unfold maxLen; omega
      have hm2 : (acc.length + 1) * 8 ≤ 140737488355328 := by have := HLEN.out; omega
      have hm3 : w2.heap.size + 1 ≤ (wr.alloc (.cells #[.int .i64 x.id] 3)).heap.size := by have := HBB.out; simp; omega
      have hnc : (wr.alloc (.cells #[.int .i64 x.id] 3)).cell? ⟨wr.heap.size, 0, none⟩ = some (.int .i64 x.id) := World.cell?_alloc_new _ _ _ _
      have HM1 := Lib.hid hm1
      have HM2 := Lib.hid hm2
      have HM3 := Lib.hid hm3
      have HNC := Lib.hid hnc
      clear hm1 hm2 hm3 hnc
      gi_wp2_with (first | (gi_at_builtin; refine wpListIn_append_one _ rfl _ _ 25 rfl (w2.heap.size + 1) 3 i0 (.int .i64 0) 8 Try.underlying25 HI0.out HZ0.out HZ1.out HZ2.out rfl _ _ _ rfl (HOWN.out.alloc _) ⟨wr.heap.size, 0, none⟩ (.int .i64 x.id) rfl HNC.out rfl HM1.out HM2.out HM3.out ?_))
      · intro g cap w3 hown3 hgrow
        have hown3' : w3.ownsRow (w2.heap.size + 1) 3 1 (.slice (some ⟨g, 0, none⟩) (acc.length + 1) cap) (acc ++ [x]).length (ids (acc ++ [x])) := by rw [ids_snoc, show (acc ++ [x]).length = acc.length + 1 by simp]; exact hown3
        have hgrow : (wr.alloc (.cells #[.int .i64 x.id] 3)).grownBy w3 u6.ownBlock := hgrow
        have hrow : ∀ k, k < w2.heap.size + 1 → some k ≠ u6.ownBlock := fun k hk e => by have := (HOWN.out.lt k e.symm).1; omega
        have hw3 : wr.heap.size ≤ w3.heap.size := by have := hgrow.size; simp at this; omega
        have hblk : ∀ k, k < w2.heap.size + 1 → w3.heap[k]? = wr.heap[k]? := fun k hk => (hgrow.block k (by have := HBB.out; simp; omega) (hrow k hk)).trans (Below.heap_alloc _ _ k (by have := HBB.out; omega))
        have hbx3 : BoxV w3 w2.heap.size 35 x.v := (hblk _ (by omega)).trans HBX.out
        have hb03 : BoxV w3 w.heap.size 22 sv := (hblk _ (by have := HZ.out; omega)).trans HB0R.out
        have hbw3 : Below w.heap.size w w3 := ((HB.out.alloc (by have := HB.out.size; omega) _)).grown hgrow (by have := HB.out.size; simp; omega) (fun k e => by have := (HOWN.out.lt k e).1; have := HZ.out; omega)
        have c1 : w3.cell? ⟨w2.heap.size, 1, none⟩ = some (.int .i64 x.kind) := by rw [cell_of_row w3 _ _ _ _ _ hbx3]; rfl
        have HOWN3 := Lib.hid hown3'
        have HBX3 := Lib.hid hbx3
        have HB03 := Lib.hid hb03
        have HBW3 := Lib.hid hbw3
        have HW3 := Lib.hid hw3
        clear hown3 hown3' hgrow hrow hblk hbx3 hb03 hbw3 hw3 c0
        by_cases hk : x.kind = 2
        · have hrev := rev_ints w3 (w2.heap.size + 1) (acc ++ [x]).length _ ((acc ++ [x]).map Itm.id) HOWN3.out (by simp) (by have := HLEN.out; simp; omega)
          have HREV := Lib.hid hrev
          clear hrev
          gi_wp2_with ((with_reducible show wpListIn _ _ _ _ _ _ _ _); (refine wpListIn_callf hF 86 rfl rfl egr HREV.out rfl ?_))
          rintro e w4 ⟨rfl, ⟨A, c, e1, hA, hc, hx⟩, ht⟩
          have hres : ofEnd L id w (.returned (.tuple #[.slice (some ⟨g, 0, none⟩) (acc.length + 1) cap, .bool true])) w4 := by
            refine .inl ⟨some ⟨g, 0, none⟩, cap, acc ++ [x], ?_, ?_, ?_, ?_, ?_⟩
            · rw [HCH.out, chainUp_full hk]; simp
            · simp
            · injection e1 with e2 e3 e4
              subst e2 e4
              exact ⟨_, _, by simp, by simpa using hc, hA, hx⟩
            · have := HLEN.out; simp; omega
            · exact HBW3.out.trans (ht.below HBW3.out.size (fun k hk hs => by
                have h1 : g = k := hs
                have := sliceBlk_owns HOWN3.out g rfl
                have := HZ.out
                omega))
          have HRES := Lib.hid hres
          clear e1 hA hc hx ht hres
          dsimp only [yNext]
          gi_wp2_with fail
          go_ret2
          exact HRES.out
        · obtain ⟨W4, hW4⟩ : ∃ W4, W4 = w3.alloc (.cells (cv x.v) 35) := ⟨_, rfl⟩
          have hb4 : Below w3.heap.size w3 W4 := by rw [hW4]; exact (Below.refl _ _).alloc (Nat.le_refl _) _
          have hs4 : W4.heap.size = w3.heap.size + 1 := by rw [hW4]; simp
          have hb10 : BoxV W4 w3.heap.size 35 x.v := by rw [hW4]; exact BoxV.new _ _ _
          have c6 : W4.cell? ⟨w3.heap.size, 6, none⟩ = some (.int .i64 x.par) := by rw [cell_of_row W4 _ _ _ _ _ hb10]; rfl
          have hb04 : BoxV W4 w.heap.size 22 sv := (hb4.block _ HB03.out.lt).trans HB03.out
          have hat2 : Calls Try.prog 81 (#[.int .i64 x.par] ++ #[.pointer (some ⟨w.heap.size, 0, none⟩)]) W4 _ := at_calls sv L x.par w.heap.size W4 (HI.out.later (HBW3.out.trans (hb4.mono HBW3.out.size))) hb04
          have hvy := vof_item _ (HOK.out x.par)
          have HVY := Lib.hid hvy
          have HW4 := Lib.hid hW4
          have HB4 := Lib.hid hb4
          have HS4 := Lib.hid hs4
          have HB10 := Lib.hid hb10
          have HB04 := Lib.hid hb04
          have HAT2 := Lib.hid hat2
          have HK := Lib.hid hk
          clear hW4 hb4 hs4 hb10 hb04 hat2 hvy
          gi_wp2_with ((with_reducible show wpListIn _ _ _ _ _ _ _ _); (first | (refine wpListIn_loadbox (v := x.v) hF rfl 35 _ rfl rfl HBX3.out HVX.out ?_) | (refine wpListIn_newv (v := x.v) hF rfl rfl 35 rfl Try.zeroValue35 _ _ rfl rfl rfl HVX.out rfl ?_; rw [← HW4.out]) | (refine wpListIn_callc (args := #[.int .i64 x.par]) (lb := #[.pointer (some ⟨w.heap.size, 0, none⟩)]) hF rfl rfl rfl ega HAT2.out rfl ?_)))
          rintro e w5 ⟨rfl, hb5⟩
          obtain ⟨y, hy⟩ : ∃ y, y = atX L x.par := ⟨_, rfl⟩
          obtain ⟨ok1, hok1⟩ : ∃ ok1, ok1 = atOk L x.par := ⟨_, rfl⟩
          have hup : upOk L x = (ok1 && ((y.tl == x.tl) && decide (y.id < x.id) && decide (y.b ≤ x.a))) := by rw [upOk, upB, hy, hok1]
          rw [← hy] at HVY ⊢
          rw [← hok1]
          have hbx5 : BoxV w5 w2.heap.size 35 x.v := (hb5.block _ (by have := HS4.out; have := HBX3.out.lt; omega)).trans ((HB4.out.block _ HBX3.out.lt).trans HBX3.out)
          obtain ⟨W6, hW6⟩ : ∃ W6, W6 = w5.setRow w2.heap.size (cv y.v) := ⟨_, rfl⟩
          have hbx6 : BoxV W6 w2.heap.size 35 y.v := by rw [hW6]; exact hbx5.set _
          have ht6 : Touch (fun k => k = w2.heap.size) w5 W6 := by rw [hW6]; exact Touch.setRow _ _ _ rfl
          have hne : w2.heap.size ≠ w3.heap.size := by have := HBX3.out.lt; omega
          have hb105 : BoxV w5 w3.heap.size 35 x.v := (hb5.block _ HB10.out.lt).trans HB10.out
          have hb106 : BoxV W6 w3.heap.size 35 x.v := hb105.touch ht6 (fun e => hne e.symm)
          have d0 : W6.cell? ⟨w2.heap.size, 0, none⟩ = some (.int .i64 y.id) := by rw [cell_of_row W6 _ _ _ _ _ hbx6]; rfl
          have d2 : W6.cell? ⟨w2.heap.size, 2, none⟩ = some (.int .i64 y.tl) := by rw [cell_of_row W6 _ _ _ _ _ hbx6]; rfl
          have d5 : W6.cell? ⟨w2.heap.size, 5, none⟩ = some (.int .i64 y.b) := by rw [cell_of_row W6 _ _ _ _ _ hbx6]; rfl
          have e0 : W6.cell? ⟨w3.heap.size, 0, none⟩ = some (.int .i64 x.id) := by rw [cell_of_row W6 _ _ _ _ _ hb106]; rfl
          have e2 : W6.cell? ⟨w3.heap.size, 2, none⟩ = some (.int .i64 x.tl) := by rw [cell_of_row W6 _ _ _ _ _ hb106]; rfl
          have e4 : W6.cell? ⟨w3.heap.size, 4, none⟩ = some (.int .i64 x.a) := by rw [cell_of_row W6 _ _ _ _ _ hb106]; rfl
          have hT : Touch (fun k => k = w2.heap.size) w3 W6 := ((Touch.of_fresh HB4.out).trans ((Touch.of_below hb5).mono (fun k hk h => by have := HS4.out; omega))).trans ht6
          have fin : ∀ ok2, ok2 = upOk L x → ofRel L id sv w w.heap.size w2.heap.size (w2.heap.size + 1) (.slice (some ⟨g, 0, none⟩) (acc.length + 1) cap) (.bool ok2) W6 ∧
              ofM L W6 w2.heap.size (.bool ok2) < ofM L wr w2.heap.size (.bool true) := by
            rintro ok2 rfl
            have hz := HZ.out
            constructor
            · refine ⟨acc ++ [x], y, upOk L x, rfl, ?_, (fun h => by cases h), hbx6, hy ▸ HOK.out x.par, HB03.out.touch hT (by omega), ?_, ?_, ?_, HBW3.out.trans (hT.below HBW3.out.size (fun k hk h => by omega)), ?_⟩
              · have hg0 : (World.grownBy w3 W6 (some w2.heap.size)) := ⟨hT.os, hT.tape, hT.output, hT.size, fun k hk hne => hT.block k hk (fun e => hne (by rw [e]))⟩
                exact HOWN3.out.kept hg0 (.inr (fun h => by have := (HOWN3.out.lt _ h).1; omega))
              · rw [HCH.out]
                cases hq : upOk L x with
                | true => rw [chainUp_up hk hq, ← hy]; cases chainUp L y <;> simp
                | false => rw [chainUp_none hk hq]; rfl
              · have hl := HLEN.out
                cases hq : upOk L x with
                | true =>
                  have hm := upOk_mem hq
                  rw [← hy] at hm
                  have := under_lt hm.2.1 hm.2.2 rfl
                  simp; omega
                | false => simp; omega
              · intro hq
                have hm := upOk_mem hq
                rw [← hy] at hm
                exact hm.2.1
              · have := HW3.out; have := hT.size; have := HBB.out; omega
            · rw [ofM_true HBX.out]
              cases hq : upOk L x with
              | true =>
                have hm := upOk_mem hq
                rw [← hy] at hm
                have := under_lt hm.2.1 hm.2.2 rfl
                rw [ofM_true hbx6]; omega
              | false => rw [ofM_false]; omega
          have FIN := Lib.hid fin
          have HUP := Lib.hid hup
          have HBX5 := Lib.hid hbx5
          have HW6 := Lib.hid hW6
          clear fin hup hbx5 hW6 hbx6 ht6 hne hb105 hb106 hT hy hok1 hb5 c1 c6
          dsimp only [yNext]
          cases ok1 with
          | false =>
            gi_wp2_with ((with_reducible show wpListIn _ _ _ _ _ _ _ _); (refine wpListIn_storev (v := y.v) hF rfl 35 _ _ rfl rfl rfl HBX5.out HVY.out rfl ?_; rw [← HW6.out]))
            go_roundw
            case rel => exact (FIN.out false (by rw [HUP.out]; rfl)).1
            case measure => exact (FIN.out false (by rw [HUP.out]; rfl)).2
          | true =>
            gi_wp2_with ((with_reducible show wpListIn _ _ _ _ _ _ _ _); (refine wpListIn_storev (v := y.v) hF rfl 35 _ _ rfl rfl rfl HBX5.out HVY.out rfl ?_; rw [← HW6.out]))
            all_goals first
              | exact FIN.out _ (by rw [HUP.out]; simp; intros; omega)
              | exact FIN.out _ (by rw [HUP.out]; simp; intros; constructor <;> omega)

end Chain
end Go.Proofs.Ytigbglagfbbmjaa
