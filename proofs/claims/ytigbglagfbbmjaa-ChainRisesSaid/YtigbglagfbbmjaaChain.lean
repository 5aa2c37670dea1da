/- The contracts of package chain: a backup, an item by its Id, a chain. Condition: the slice holds the items. -/
import Derived.Test.YtigbglagfbbmjaaItem
import Derived.Test.YtigbglagfbbmjaaQ7
namespace Go.Proofs.Ytigbglagfbbmjaa
open Go.RowKit Go.Shelf
set_option linter.unusedSimpArgs false
set_option linter.unusedVariables false
attribute [local go_sem] Oper.semAt_some
namespace Chain

def backB (x : Itm) : Bool := (x.kind == 2 || x.kind == 3) && decide (x.a ≤ x.b)
def byId (L : List Itm) (id : Int) : Option Itm := L.find? fun x => x.id == id
def atX (L : List Itm) (id : Int) : Itm := (byId L id).getD zItm
def atOk (L : List Itm) (id : Int) : Bool := (byId L id).isSome && backB (atX L id)

set_option maxRecDepth 100000 in
set_option maxHeartbeats 400000 in
theorem backup_calls (x : Itm) (w : World) : Calls Try.prog 85 #[x.v] w (RetB w (.bool (backB x))) := by
  cases h1 : (x.kind == 2) with
  | true =>
    (refine calls_enter Try.func85 rfl ?_; simp only [Try.ntmps85, List.size_toArray, List.length_cons, List.length_nil, Nat.reduceAdd, Nat.reduceSub, Array.replicate_succ, Array.replicate_zero, List.push_toArray, List.append_toArray, List.nil_append, List.cons_append])
    gi_wp2
    go_ret
    exact ⟨by rw [backB, h1]; rfl, (Below.refl _ _).alloc (Nat.le_refl _) _⟩
  | false =>
    cases h2 : (x.kind == 3) with
    | true =>
      (refine calls_enter Try.func85 rfl ?_; simp only [Try.ntmps85, List.size_toArray, List.length_cons, List.length_nil, Nat.reduceAdd, Nat.reduceSub, Array.replicate_succ, Array.replicate_zero, List.push_toArray, List.append_toArray, List.nil_append, List.cons_append])
      gi_wp2
      go_ret
      exact ⟨by rw [backB, h1, h2]; rfl, (Below.refl _ _).alloc (Nat.le_refl _) _⟩
    | false =>
      (refine calls_enter Try.func85 rfl ?_; simp only [Try.ntmps85, List.size_toArray, List.length_cons, List.length_nil, Nat.reduceAdd, Nat.reduceSub, Array.replicate_succ, Array.replicate_zero, List.push_toArray, List.append_toArray, List.nil_append, List.cons_append])
      gi_wp2
      go_ret
      exact ⟨by rw [backB, h1, h2]; rfl, (Below.refl _ _).alloc (Nat.le_refl _) _⟩

set_option maxRecDepth 100000 in
set_option maxHeartbeats 400000 in
theorem of11_calls (x : Itm) (id : Int) (B : Nat) (w : World) (hB : w.cell? ⟨B, 0, none⟩ = some (.int .i64 id)) (hlt : B < w.heap.size) :
    Calls Try.prog 84 #[x.v, .pointer (some ⟨B, 0, none⟩)] w (fun e w' => e = .returned (.bool (x.id == id)) ∧ Below w.heap.size w w') := by
  have hc : (w.alloc (.cells #[.int .i64 x.id, .int .i64 x.kind, .int .i64 x.tl, .int .i64 x.num, .int .i64 x.a, .int .i64 x.b, .int .i64 x.par, .int .i64 x.len, x.ext] 35)).cell? ⟨B, 0, none⟩ = some (.int .i64 id) := (World.cell?_alloc_lt w _ _ hlt).trans hB
  (refine calls_enter Try.func84 rfl ?_; simp only [Try.ntmps84, List.size_toArray, List.length_cons, List.length_nil, Nat.reduceAdd, Nat.reduceSub, Array.replicate_succ, Array.replicate_zero, List.push_toArray, List.append_toArray, List.nil_append, List.cons_append])
  gi_wp2
  go_ret
  exact ⟨rfl, (Below.refl _ _).alloc (Nat.le_refl _) _⟩
theorem of11_pred (L : List Itm) (id : Int) (B : Nat) (w : World) (hb : BoxV w B 3 (.int .i64 id)) : IsPred Try.prog (L.map Itm.v) (fun v => (toItm v).id == id) (fun k => k = B) w (.func (.func 84) #[] #[.pointer (some ⟨B, 0, none⟩)]) := by
  refine ⟨_, _, rfl, (enters_of Try.func84 (by kernel_rfl) rfl), fun k hk => hk ▸ hb.lt, fun W hW v hv => ?_⟩
  obtain ⟨x, _, rfl⟩ := List.mem_map.1 hv
  have hb' : BoxV W B 3 (.int .i64 id) := (hW B rfl).2.trans hb
  exact of11_calls x id B W (hb'.cell rfl) hb'.lt

set_option maxRecDepth 100000 in
set_option maxHeartbeats 400000 in
theorem at_calls (sv : Value) (L : List Itm) (id : Int) (B : Nat) (w : World) (h : Items w sv L) (hB : BoxV w B 22 sv) :
    Calls Try.prog 81 #[.int .i64 id, .pointer (some ⟨B, 0, none⟩)] w (RetB w (.tuple #[(atX L id).v, .bool (atOk L id)])) := by
  have hF := isWide_wide
  obtain ⟨W1, hW1⟩ : ∃ W1, W1 = (w.alloc (.cells (cv (.int .i64 id)) 3)).alloc (.cells (cv zItm.v) 35) := ⟨_, rfl⟩
  have hb1 : Below w.heap.size w W1 := by rw [hW1]; exact ((Below.refl _ _).alloc (Nat.le_refl _) _).alloc (by simp) _
  have hs1 : W1.heap.size = w.heap.size + 2 := by rw [hW1]; simp
  have hbx : BoxV W1 w.heap.size 3 (.int .i64 id) := by rw [hW1]; exact (BoxV.new _ _ _).alloc _
  have hbr : BoxV W1 (w.heap.size + 1) 35 zItm.v := by rw [hW1]; have := BoxV.new (w.alloc (.cells (cv (.int .i64 id)) 3)) 35 zItm.v; rwa [World.size_alloc] at this
  have hof := Item.flowOf sv (L.map Itm.v) W1 (h.later hb1).at_ (h.later hb1).vof h.size
  have hvs : VOf Try.prog 22 sv := by obtain ⟨A, c, rfl, _⟩ := h.at_; exact vof_one Try.underlying22 rfl (by kernel_rfl) rfl rfl
  have hbl : BoxV W1 B 22 sv := (hb1.block _ hB.lt).trans hB
  have ego := (enters_of Try.func83 (by kernel_rfl) rfl)
  have egf := (enters_of Try.func82 (by kernel_rfl) rfl)
  have egb := (enters_of Try.func85 (by kernel_rfl) rfl)
  have HW1 := Lib.hid hW1
  have HB1 := Lib.hid hb1
  have HS1 := Lib.hid hs1
  have HBX := Lib.hid hbx
  have HBR := Lib.hid hbr
  have HOF := Lib.hid hof
  have HOK := Lib.hid h.ok
  have HVS := Lib.hid hvs
  have HBL := Lib.hid hbl
  have HI := Lib.hid h
  clear hW1 hb1 hs1 hbx hbr hof h hvs hbl hB
  (refine calls_enter Try.func81 rfl ?_; simp only [Try.ntmps81, List.size_toArray, List.length_cons, List.length_nil, Nat.reduceAdd, Nat.reduceSub, Array.replicate_succ, Array.replicate_zero, List.push_toArray, List.append_toArray, List.nil_append, List.cons_append])
  gi_wp2_with ((with_reducible show wpListIn _ _ _ _ _ _ _ _); (first | (refine wpListIn_boxv (v := .int .i64 id) hF rfl 3 _ rfl rfl ?_) | (refine wpListIn_allocv (z := zItm.v) hF rfl 35 rfl Try.zeroValue35 ?_; rw [← HW1.out]) | (refine wpListIn_loadbox (v := sv) hF rfl 22 _ rfl rfl HBL.out HVS.out ?_) | (refine wpListIn_callf hF 83 rfl rfl ego HOF.out rfl ?_)))
  rintro e w2 ⟨s, rfl, hs, hb2⟩
  have hz2 := hb2.size
  have hk := Item.find s (.func (.func 84) #[] #[.pointer (some ⟨w.heap.size, 0, none⟩)]) (L.map Itm.v) (fun v => (toItm v).id == id) _ (fun k => k = w.heap.size) w2 hs
    ((of11_pred L id w.heap.size W1 HBX.out).later hb2) (fun v hv => by obtain ⟨x, hx, rfl⟩ := List.mem_map.1 hv; exact vof_item x (HOK.out x hx))
  rw [find_items L (fun x => x.id == id)] at hk
  have hbr2 : BoxV w2 (w.heap.size + 1) 35 zItm.v := (hb2.block _ HBR.out.lt).trans HBR.out
  have HZ2 := Lib.hid hz2
  have HK := Lib.hid hk
  have HB2 := Lib.hid hb2
  have HBR2 := Lib.hid hbr2
  clear hs hb2 hk hz2 hbr2
  dsimp only [yNext]
  gi_wp2_with ((with_reducible show wpListIn _ _ _ _ _ _ _ _); (refine wpListIn_callf hF 82 rfl rfl egf HK.out rfl ?_))
  rintro e w3 ⟨rfl, hb3⟩
  obtain ⟨g, hg⟩ : ∃ g, g = atX L id := ⟨_, rfl⟩
  obtain ⟨ok, hok⟩ : ∃ ok, ok = (byId L id).isSome := ⟨_, rfl⟩
  have hv : ((List.find? (fun x => x.id == id) L).map Itm.v).getD zItm.v = g.v := by rw [getD_items, hg]; rfl
  have hsome : ((List.find? (fun x => x.id == id) L).map Itm.v).isSome = ok := by rw [hok, byId]; cases List.find? (fun x => x.id == id) L <;> rfl
  have hgok : g.ok := by
    rw [hg, atX]
    cases hq : byId L id with
    | none => exact zItm_ok
    | some y => exact HOK.out y (List.mem_of_find?_eq_some hq)
  have hvf := vof_item _ hgok
  have hbr3 : BoxV w3 (w.heap.size + 1) 35 zItm.v := (hb3.block _ HBR2.out.lt).trans HBR2.out
  rw [show (.agg #[.int .i64 0, .int .i64 0, .int .i64 0, .int .i64 0, .int .i64 0, .int .i64 0, .int .i64 0, .int .i64 0, .slice none 0 0] : Value) = zItm.v from rfl, hv, hsome]
  have hres : (.tuple #[(atX L id).v, .bool (atOk L id)] : Value) = .tuple #[g.v, .bool (ok && backB g)] := by rw [hg, hok]; rfl
  have HRES := Lib.hid hres
  obtain ⟨W4, hW4⟩ : ∃ W4, W4 = w3.alloc (.cells (cv g.v) 35) := ⟨_, rfl⟩
  have hb4 : BoxV W4 w3.heap.size 35 g.v := by rw [hW4]; exact BoxV.new _ _ _
  have hr4 : BoxV W4 (w.heap.size + 1) 35 zItm.v := by rw [hW4]; exact hbr3.alloc _
  have hs4 : Below w3.heap.size w3 W4 := by rw [hW4]; exact (Below.refl _ _).alloc (Nat.le_refl _) _
  have HVF := Lib.hid hvf
  have HB3 := Lib.hid hb3
  have HW4 := Lib.hid hW4
  have HB4 := Lib.hid hb4
  have HR4 := Lib.hid hr4
  have HS4 := Lib.hid hs4
  clear hv hsome hgok hvf hb3 hbr3 hg hok hres hW4 hb4 hr4 hs4
  dsimp only [yNext]
  gi_wp2_with ((with_reducible show wpListIn _ _ _ _ _ _ _ _); (refine wpListIn_newv (v := g.v) hF rfl rfl 35 rfl Try.zeroValue35 _ _ rfl rfl rfl HVF.out rfl ?_; rw [← HW4.out]))
  have fin : ∀ w', BelowBox (w.heap.size + 1) W4 35 g.v w' → Below w.heap.size w w' := fun w' hw' => by
    have z1 := HS1.out
    have z2 := HZ2.out
    have z3 := HB3.out.size
    have z4 := HS4.out.size
    exact (HB1.out.trans ((HB2.out.mono (by omega)).trans ((HB3.out.mono (by omega)).trans (HS4.out.mono (by omega))))).trans (hw'.1.below (by omega) (fun k hk h => by omega))
  have FIN := Lib.hid fin
  have hbx4 : ∀ d w', boxG (w.heap.size + 1) W4 35 zItm.v g.v d w' → BoxV w' w3.heap.size 35 g.v := fun d w' hw' => HB4.out.touch hw'.1 (by have := HS1.out; have := HZ2.out; have := HB3.out.size; omega)
  have HBX4 := Lib.hid hbx4
  clear fin hbx4
  refine wpIn_region_free hF (oneD 6 (boxG (w.heap.size + 1) W4 35 zItm.v g.v)) (by kernel_rfl) (by kernel_rfl) ⟨Touch.drew _ _, HR4.out⟩ ?_
  refine gList_loadbox (v := g.v) (by decide) rfl rfl rfl HVF.out HBX4.out ?_
  simp only [Act.put, List.setIfInBounds_toArray, List.set_cons_zero, List.set_cons_succ]
  (refine gList_val (v := ?_) (by decide) (by rfl) (fun c h => by cases h) (fun _ => ?_) ?_; rotate_left; (go_simp; first | done | rfl); simp only [Act.put, List.setIfInBounds_toArray, List.set_cons_zero, List.set_cons_succ])
  (refine gList_val (v := ?_) (by decide) (by rfl) (fun c h => by cases h) (fun _ => ?_) ?_; rotate_left; (go_simp; first | done | rfl); simp only [Act.put, List.setIfInBounds_toArray, List.set_cons_zero, List.set_cons_succ])
  cases ok with
  | true =>
    refine gList_loadbox (v := g.v) (by decide) rfl rfl rfl HVF.out HBX4.out ?_
    simp only [Act.put, List.setIfInBounds_toArray, List.set_cons_zero, List.set_cons_succ]
    refine gList_callf (v := .bool (backB g)) 85 (by decide) rfl rfl egb rfl (fun d w' hw' => (backup_calls g w').mono (by rintro e w2 ⟨rfl, hb⟩; exact ⟨rfl, hw'.later hb⟩)) ?_
    simp only [Act.put, List.setIfInBounds_toArray, List.set_cons_zero, List.set_cons_succ]
    (refine gList_val (v := ?_) (by decide) (by rfl) (fun c h => by cases h) (fun _ => ?_) ?_; rotate_left; (go_simp; first | done | rfl); simp only [Act.put, List.setIfInBounds_toArray, List.set_cons_zero, List.set_cons_succ])
    refine gList_store (v := g.v) (v0 := zItm.v) (T' := 35) rfl (by simp) rfl rfl rfl rfl HVF.out (fun w' hw' => hw'.2) rfl (fun w' hw' => hw'.store) ?_
    simp only [Act.put, List.setIfInBounds_toArray, List.set_cons_zero, List.set_cons_succ]
    (refine gList_val (v := ?_) (by decide) (by rfl) (fun c h => by cases h) (fun _ => ?_) ?_; rotate_left; (go_simp; first | done | rfl); simp only [Act.put, List.setIfInBounds_toArray, List.set_cons_zero, List.set_cons_succ])
    refine gList_nil ?_
    intro listed w5 hall hd
    have hd := oneD_done hall (by decide) hd
    have HD := Lib.hid hd
    clear hall hd
    gi_wp2_with fail
    refine bodyPost_ret (results_box_tmp (B := w.heap.size + 1) (v := g.v) (u := .bool (backB g)) rfl rfl rfl HD.out.2 HVF.out) rfl ⟨congrArg Ending.returned HRES.out.symm, FIN.out _ ⟨HD.out.1, HD.out.2⟩⟩
  | false =>
    refine gList_skip (by decide) rfl ?_
    simp only [Act.put, List.setIfInBounds_toArray, List.set_cons_zero, List.set_cons_succ]
    refine gList_skip (by decide) rfl ?_
    simp only [Act.put, List.setIfInBounds_toArray, List.set_cons_zero, List.set_cons_succ]
    (refine gList_val (v := ?_) (by decide) (by rfl) (fun c h => by cases h) (fun _ => ?_) ?_; rotate_left; (go_simp; first | done | rfl); simp only [Act.put, List.setIfInBounds_toArray, List.set_cons_zero, List.set_cons_succ])
    refine gList_store (v := g.v) (v0 := zItm.v) (T' := 35) rfl (by simp) rfl rfl rfl rfl HVF.out (fun w' hw' => hw'.2) rfl (fun w' hw' => hw'.store) ?_
    simp only [Act.put, List.setIfInBounds_toArray, List.set_cons_zero, List.set_cons_succ]
    (refine gList_val (v := ?_) (by decide) (by rfl) (fun c h => by cases h) (fun _ => ?_) ?_; rotate_left; (go_simp; first | done | rfl); simp only [Act.put, List.setIfInBounds_toArray, List.set_cons_zero, List.set_cons_succ])
    refine gList_nil ?_
    intro listed w5 hall hd
    have hd := oneD_done hall (by decide) hd
    have HD := Lib.hid hd
    clear hall hd
    gi_wp2_with fail
    refine bodyPost_ret (results_box_tmp (B := w.heap.size + 1) (v := g.v) (u := .bool false) rfl rfl rfl HD.out.2 HVF.out) rfl ⟨congrArg Ending.returned HRES.out.symm, FIN.out _ ⟨HD.out.1, HD.out.2⟩⟩

end Chain
end Go.Proofs.Ytigbglagfbbmjaa
