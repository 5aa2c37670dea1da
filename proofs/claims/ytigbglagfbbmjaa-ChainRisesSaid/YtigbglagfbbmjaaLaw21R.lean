/- The walk of ChainRises. Condition: the slice holds the items, their numbers fit. -/
import Derived.Test.YtigbglagfbbmjaaLaw21
import Derived.Test.YtigbglagfbbmjaaMapV
import Derived.Test.YtigbglagfbbmjaaRowItem
namespace Go.Proofs.Ytigbglagfbbmjaa
open Go.RowKit Go.Shelf
set_option linter.unusedSimpArgs false
set_option linter.unusedVariables false
attribute [local go_sem] Oper.semAt_some
namespace Chain

/-! ### a chain rises -/
structure Link (up x : Itm) : Prop where
  kind : x.kind = 3
  par : x.par = up.id
  id : up.id < x.id
  a : up.a ≤ x.a
  b : up.b ≤ x.b
  tl : up.tl = x.tl
structure Good (L : List Itm) (ys : List Itm) (x : Itm) : Prop where
  mem : ∀ y ∈ ys, byId L y.id = some y
  full : ∀ y, ys[0]? = some y → y.kind = 2
  link : ∀ (i : Nat) (y up : Itm), ys[i + 1]? = some y → ys[i]? = some up → Link up y
  last : ys.getLast? = some x

theorem good_of (L : List Itm) : ∀ (m : Nat) (x : Itm) (xs : List Itm), under L x.id ≤ m → byId L x.id = some x → backB x = true → chainUp L x = some xs → Good L xs.reverse x := by
  intro m
  induction m with
  | zero =>
    intro x xs hm hx hb hc
    by_cases hk : x.kind = 2
    · rw [chainUp_full hk] at hc; cases hc
      exact ⟨by simpa using hx, by simpa using hk, by simp, by simp⟩
    · cases hu : upOk L x with
      | false => rw [chainUp_none hk hu] at hc; cases hc
      | true => have hm2 := upOk_mem hu; have := under_lt hm2.2.1 hm2.2.2 rfl; omega
  | succ m ih =>
    intro x xs hm hx hb hc
    by_cases hk : x.kind = 2
    · rw [chainUp_full hk] at hc; cases hc
      exact ⟨by simpa using hx, by simpa using hk, by simp, by simp⟩
    · cases hu : upOk L x with
      | false => rw [chainUp_none hk hu] at hc; cases hc
      | true =>
        rw [chainUp_up hk hu] at hc
        obtain ⟨ys, hy, rfl⟩ := Option.map_eq_some_iff.1 hc
        have hm2 := upOk_mem hu
        have hlt := under_lt hm2.2.1 hm2.2.2 rfl
        obtain ⟨y, hye⟩ : ∃ y, y = atX L x.par := ⟨_, rfl⟩
        rw [← hye] at hm2 hlt hy
        have hid : y.id = x.par := (byId_spec hm2.1).2
        have hby : byId L y.id = some y := by rw [hid]; exact hm2.1
        have hub := hu
        simp only [upOk, atOk, upB, ← hye, Bool.and_eq_true, decide_eq_true_eq, beq_iff_eq] at hub
        have g := ih y ys (by omega) hby hub.1.2 hy
        have hl : Link y x := by
          have h1 := hub.1.2
          simp only [backB, Bool.and_eq_true, Bool.or_eq_true, decide_eq_true_eq, beq_iff_eq] at h1 hb
          exact ⟨hb.1.resolve_left hk, hid.symm, hub.2.1.2, by omega, by omega, hub.2.1.1⟩
        rw [List.reverse_cons]
        have hne : ys.reverse ≠ [] := fun h => by have := g.last; rw [h] at this; cases this
        refine ⟨?_, ?_, ?_, by simp⟩
        · intro z hz
          rcases List.mem_append.1 hz with h | h
          · exact g.mem z h
          · simp at h; rw [h]; exact hx
        · intro z hz
          rw [List.getElem?_append_left (List.length_pos_iff.2 hne)] at hz
          exact g.full z hz
        · intro i z up hz hup
          rcases Nat.lt_trichotomy (i + 1) ys.reverse.length with h | h | h
          · rw [List.getElem?_append_left h] at hz
            rw [List.getElem?_append_left (by omega)] at hup
            exact g.link i z up hz hup
          · rw [List.getElem?_append_right (by omega), h, Nat.sub_self] at hz
            simp at hz
            subst hz
            rw [List.getElem?_append_left (by omega)] at hup
            have hlast := g.last
            rw [List.getLast?_eq_getElem?, ← h, Nat.add_sub_cancel, hup] at hlast
            cases hlast
            exact hl
          · rw [List.getElem?_eq_none (by simp at h ⊢; omega)] at hz; cases hz
theorem good_chain {L : List Itm} {id : Int} {xs : List Itm} (h : chainOf L id = some xs) : ∃ x, x.id = id ∧ Good L xs.reverse x := by
  unfold chainOf at h
  split at h
  · rename_i hok
    simp only [atOk, Bool.and_eq_true] at hok
    have hx : byId L id = some (atX L id) := by
      unfold atX
      cases hq : byId L id with
      | none => rw [hq] at hok; simp at hok
      | some y => rfl
    have hid := (byId_spec hx).2
    exact ⟨_, hid, good_of L _ _ xs (Nat.le_refl _) (by rw [hid]; exact hx) hok.2 h⟩
  · cases h

theorem byId_snoc (pre : List Itm) (x : Itm) (z : Int) : byId (pre ++ [x]) z = (byId pre z).or (if x.id = z then some x else none) := by
  unfold byId
  rw [List.find?_append]
  congr 1
  by_cases h : x.id = z
  · simp [h]
  · simp [h]
/-- The map's content behind the first items. -/
def firstF (pre : List Itm) : Int → Option Value := fun z => (byId pre z).map Itm.v
theorem firstF_old {pre : List Itm} {x : Itm} (h : (firstF pre x.id).isSome = true) : firstF (pre ++ [x]) = firstF pre := by
  funext z
  unfold firstF
  rw [byId_snoc]
  by_cases hz : x.id = z
  · subst hz
    simp [firstF] at h
    obtain ⟨y, hy⟩ := Option.isSome_iff_exists.1 h
    rw [hy]; rfl
  · simp [hz]
theorem firstF_new {pre : List Itm} {x : Itm} (h : (firstF pre x.id).isSome = false) : firstF (pre ++ [x]) = updF (firstF pre) x.id x.v := by
  funext z
  unfold firstF updF
  rw [byId_snoc]
  by_cases hz : x.id = z
  · subst hz
    simp [firstF] at h
    rw [h]; simp
  · rw [if_neg hz, if_neg (fun e => hz e.symm), Option.or_none]

def risesRel (L : List Itm) (BM : Nat) (w2 : World) (v : Value) (wr : World) : Prop :=
  ∃ pre post, L = pre ++ post ∧ v = .int .i64 pre.length ∧ MapV Try.prog 3 wr BM pre.length (firstF pre) ∧ Below w2.heap.size w2 wr
def risesRel2 (n : Nat) (w2 : World) (v : Value) (wr : World) : Prop := ∃ i : Nat, i ≤ n ∧ v = .int .i64 i ∧ Below w2.heap.size w2 wr

set_option maxRecDepth 100000 in
set_option maxHeartbeats 4000000 in
theorem rises_calls (sv : Value) (L : List Itm) (id : Int) (hid : (Lit.int .i64 id).wf = true) (hwf : ∀ x ∈ L, x.wf) (w : World) (h : Items w sv L) :
    Calls Try.prog 6 #[sv, .int .i64 id] w (RetB w (.bool true)) := by
  have hF := isWide_wide
  have egf := (enters_of Try.func20 (by kernel_rfl) rfl)
  have ego := (enters_of Try.func21 (by kernel_rfl) rfl)
  have hfc := first_calls w
  obtain ⟨A, c, rfl, hc, hA, hx⟩ := h.at_
  rw [List.length_map] at *
  have HI := Lib.hid h
  have HX := Lib.hid hx
  have HFC := Lib.hid hfc
  have HWF := Lib.hid hwf
  have HID := Lib.hid hid
  clear h hx hfc hA hc hwf hid
  (refine calls_enter Try.func6 rfl ?_; simp only [Try.ntmps6, List.size_toArray, List.length_cons, List.length_nil, Nat.reduceAdd, Nat.reduceSub, Array.replicate_succ, Array.replicate_zero, List.push_toArray, List.append_toArray, List.nil_append, List.cons_append])
  gi_wp2_with ((with_reducible show wpListIn _ _ _ _ _ _ _ _); (refine wpListIn_callf hF 20 rfl rfl egf HFC.out rfl ?_))
  rintro e w1 ⟨rfl, hb1⟩
  have HB1 := Lib.hid hb1
  have hoc := of_calls _ L id w1 (HI.out.later hb1)
  have HOC := Lib.hid hoc
  clear hb1 hoc
  dsimp only [yNext]
  by_cases hn : (L.length : Int) > 40
  · gi_wp2_with fail
    go_ret
    exact ⟨rfl, HB1.out⟩
  · have hn' : (L.length : Int) ≤ 40 := by omega
    gi_wp2_with ((with_reducible show wpListIn _ _ _ _ _ _ _ _); (refine wpListIn_callf hF 21 rfl rfl ego HOC.out rfl ?_))
    rintro e w2 (⟨A2, c2, zs, hz, rfl, hv, hzl, hb2⟩ | ⟨hz, rfl, hb2⟩)
    rotate_left
    · have HB2 := Lib.hid hb2
      clear hb2 hz
      dsimp only [yNext]
      gi_wp2_with fail
      go_ret
      exact ⟨rfl, HB1.out.trans (HB2.out.mono HB1.out.size)⟩
    · obtain ⟨top, htop, hg⟩ := good_chain hz
      have hmm := @run_makeMap Try.prog
      have hmv := MapV.made w2 Try.prog 3
      have HG := Lib.hid hg
      have HTOP := Lib.hid htop
      have HV := Lib.hid hv
      have HZL := Lib.hid hzl
      have HB2 := Lib.hid hb2
      have HMV := Lib.hid hmv
      clear hg htop hv hzl hb2 hz hmv
      dsimp only [yNext]
      gi_wp2_with fail
      gi_loopw [35] (fun v wr => risesRel L w2.heap.size w2 v wr) (fun v wr => L.length - (intOf v).toNat)
      case atStart => exact ⟨[], L, rfl, rfl, HMV.out, (Below.refl _ _).alloc (Nat.le_refl _) _⟩
      case round =>
        obtain ⟨pre, post, he, rfl, hmap, hb⟩ := hrel
        have hlen : L.length = pre.length + post.length := by rw [he]; simp
        cases post with
        | cons x post =>
          have hlt : ((pre.length : Int) < L.length) := by rw [hlen]; simp; omega
          have hlt2 : (pre.length : Int) < 9223372036854775807 := by omega
          have hxi : (L.map Itm.v)[pre.length]? = some x.v := by rw [he]; simp
          obtain ⟨b, o, rfl, hr⟩ := HX.out pre.length x.v hxi
          have hb0 : Below w.heap.size w wr := HB1.out.trans ((HB2.out.mono HB1.out.size).trans (hb.mono (by have := HB1.out.size; have := HB2.out.size; omega)))
          have hr' : wr.rangeAt b (o + pre.length * 9) (cv x.v).toList := fun j u hu => (hb0.cell (World.block_lt_of_cell? w _ (hr j u hu))).trans (hr j u hu)
          have hxm : x ∈ L := by rw [he]; simp
          have hvf := vof_item x (HI.out.ok x hxm)
          have hxw := (HWF.out x hxm).1
          have hc0 : (wr.alloc (.cells (cv x.v) 35)).cell? ⟨wr.heap.size, 0, none⟩ = some (.int .i64 x.id) := World.cell?_alloc_new _ _ _ _
          have hm1 : MapV Try.prog 3 (wr.alloc (.cells (cv x.v) 35)) w2.heap.size pre.length (firstF pre) := hmap.touch (Touch.alloc (fun _ => False) _ _) (fun h => h)
          have HE := Lib.hid he
          have HL := Lib.hid hlen
          have HB := Lib.hid hb
          have HR := Lib.hid hr'
          have HVF := Lib.hid hvf
          have HXW := Lib.hid hxw
          have HM1 := Lib.hid hm1
          have HN := Lib.hid hn'
          clear he hlen hb hr hr' hvf hxi hxw hm1 hb0 hmap hxm
          cases hq : byId pre x.id with
          | some y =>
            have hyok : y.ok := HI.out.ok y (by rw [HE.out]; exact List.mem_append_left _ (byId_spec hq).1)
            have hvy := vof_item y hyok
            have hfz : firstF pre x.id = some y.v := by rw [firstF, hq]; rfl
            have HVY := Lib.hid hvy
            have HFZ := Lib.hid hfz
            clear hyok hvy hfz hq
            gi_wp2_with ((with_reducible show wpListIn _ _ _ _ _ _ _ _); (first | (refine wpListIn_newv (v := x.v) hF rfl rfl 35 rfl Try.zeroValue35 _ _ rfl rfl rfl HVF.out rfl ?_) | (refine wpListIn_loadv (v := x.v) hF rfl 35 _ rfl rfl HVF.out HR.out ?_) | (refine wpListIn_lookupv_ok rfl _ _ 38 rfl 3 35 Try.underlying3 Try.underlying38 Try.zeroValue35 rfl HM1.out rfl HXW.out HFZ.out ?_) | (refine wpListIn_newv (v := y.v) hF rfl rfl 35 rfl Try.zeroValue35 _ _ rfl rfl rfl HVY.out rfl ?_)))
            go_roundw
            case rel => exact ⟨pre ++ [x], post, by rw [HE.out]; simp, by simp, by rw [firstF_old (by rw [HFZ.out]; rfl)]; exact (HM1.out.touch (Touch.alloc (fun _ => False) _ _) (fun h => h)).mono (by simp), (HB.out.alloc HB.out.size _).alloc (by have := HB.out.size; simp; omega) _⟩
            case measure => have := HL.out; simp [intOf]; simp at this; omega
          | none =>
            have hfz : firstF pre x.id = none := by rw [firstF, hq]; rfl
            obtain ⟨W5, hW5⟩ : ∃ W5, W5 = (wr.alloc (.cells (cv x.v) 35)).alloc (.cells (cv zItm.v) 35) := ⟨_, rfl⟩
            have hb5 : Below wr.heap.size wr W5 := by rw [hW5]; exact ((Below.refl _ _).alloc (Nat.le_refl _) _).alloc (by simp) _
            have hbx : BoxV W5 wr.heap.size 35 x.v := by rw [hW5]; exact (BoxV.new _ _ _).alloc _
            have hm5 : MapV Try.prog 3 W5 w2.heap.size pre.length (firstF pre) := by rw [hW5]; exact HM1.out.touch (Touch.alloc (fun _ => False) _ _) (fun h => h)
            have c50 : W5.cell? ⟨wr.heap.size, 0, none⟩ = some (.int .i64 x.id) := by rw [cell_of_row W5 _ _ _ _ _ hbx]; rfl
            have hroom : pre.length < maxLen := by have := HL.out; have := HN.out; unfold maxLen; omega
            have hvz := vof_item zItm zItm_ok
            have HVZ := Lib.hid hvz
            have HFZ := Lib.hid hfz
            have HW5 := Lib.hid hW5
            have HB5 := Lib.hid hb5
            have HBX := Lib.hid hbx
            have HM5 := Lib.hid hm5
            have HROOM := Lib.hid hroom
            clear hfz hq hW5 hb5 hbx hm5 hroom hvz
            gi_wp2_with ((with_reducible show wpListIn _ _ _ _ _ _ _ _); (first | (refine wpListIn_newv (v := x.v) hF rfl rfl 35 rfl Try.zeroValue35 _ _ rfl rfl rfl HVF.out rfl ?_) | (refine wpListIn_loadv (v := x.v) hF rfl 35 _ rfl rfl HVF.out HR.out ?_) | (refine wpListIn_loadbox (v := x.v) hF rfl 35 _ rfl rfl HBX.out HVF.out ?_) | (refine wpListIn_lookupv_ok rfl _ _ 38 rfl 3 35 Try.underlying3 Try.underlying38 Try.zeroValue35 rfl HM1.out rfl HXW.out HFZ.out ?_) | (refine wpListIn_newv (v := zItm.v) hF rfl rfl 35 rfl Try.zeroValue35 _ _ rfl rfl rfl HVZ.out rfl ?_; rw [← HW5.out]) | (refine wpListIn_mapUpdatev rfl _ _ _ 38 rfl 3 35 Try.underlying3 Try.underlying38 rfl HM5.out HROOM.out rfl rfl HXW.out ?_)))
            intro w6 hm6 ht6
            have HM6 := Lib.hid hm6
            have HT6 := Lib.hid ht6
            clear hm6 ht6
            gi_wp2_with fail
            go_roundw
            case rel =>
              have hm6 : MapV Try.prog 3 w6 w2.heap.size (pre.length + 1) (updF (firstF pre) x.id x.v) := HM6.out
              have ht6 : Touch (fun j => j = w2.heap.size) W5 w6 := HT6.out
              exact ⟨pre ++ [x], post, by rw [HE.out]; simp, by simp, by rw [firstF_new (by rw [HFZ.out]; rfl)]; exact hm6.mono (by simp), (HB.out.trans (HB5.out.mono HB.out.size)).trans (ht6.below (by have := HB.out.size; have := HB5.out.size; omega) (fun k hk h => by omega))⟩
            case measure => have := HL.out; simp [intOf]; simp at this; omega
        | nil =>
          have hnlt : ¬ ((pre.length : Int) < L.length) := by rw [hlen]; simp
          have hL : pre = L := by rw [he]; simp
          rw [hL] at hmap
          have hv : Reads wr (.slice A2 zs.length c2) (zs.map Itm.id).reverse := SliceAt.later HV.out hb
          obtain ⟨ys, hys⟩ : ∃ ys, ys = zs.reverse := ⟨_, rfl⟩
          have hgd : Good L ys top := by rw [hys]; exact HG.out
          have hvr : (zs.map Itm.id).reverse = ys.map Itm.id := by rw [hys, List.map_reverse]
          rw [hvr] at hv
          have hyl : ys.length = zs.length := by rw [hys]; simp
          obtain ⟨m, hm⟩ : ∃ m, ys.length = m + 1 := ⟨ys.length - 1, by have := hgd.last; cases ys with | nil => cases this | cons y ys => simp⟩
          rw [← hyl, hm] at hv ⊢
          have hle : m + 1 ≤ L.length := by have := HZL.out; omega
          have htop : ys[m]? = some top := by have := hgd.last; rw [List.getLast?_eq_getElem?, hm, Nat.add_sub_cancel] at this; exact this
          have hm63 : (m : Int) < 9223372036854775806 := by omega
          have HTP := Lib.hid htop
          obtain ⟨A3, c3, e3, _, _, hx3⟩ := hv
          have e3' : A2 = A3 := by injection e3
          subst e3'
          clear e3
          have HX3 := Lib.hid hx3
          have HGD := Lib.hid hgd
          have HMAP := Lib.hid hmap
          have HB := Lib.hid hb
          have HN := Lib.hid hn'
          have HTL := Lib.hid hyl
          have HM := Lib.hid hm
          clear he hlen hL hmap hb hx3 hgd hys hvr hyl hm htop
          obtain ⟨wa, hwa⟩ : ∃ wa, wa = wr := ⟨_, rfl⟩
          subst hwa
          gi_wp2_with fail
          gi_loopw [55] (fun v w3 => risesRel2 (m + 1) wa v w3) (fun v w3 => (m + 1) - (intOf v).toNat)
          case atStart => exact ⟨0, Nat.zero_le _, rfl, Below.refl _ _⟩
          case round =>
            obtain ⟨i, hi, rfl, hb⟩ := hrel
            by_cases hlt : i < m + 1
            · have hil : i < ys.length := by rw [HM.out]; exact hlt
              obtain ⟨y, hy⟩ : ∃ y, ys[i]? = some y := ⟨ys[i], by simp [hil]⟩
              obtain ⟨b, o, rfl, hr⟩ := HX3.out i (.int .i64 y.id) (by simp [hy])
              have hcell0 := hr 0 _ rfl
              have hci : wr.cell? ⟨b, o + i, none⟩ = some (.int .i64 y.id) := by have := (hb.cell (World.block_lt_of_cell? wa _ hcell0)).trans hcell0; simpa using this
              have hyb := HGD.out.mem y (List.mem_of_getElem? hy)
              have hym := (byId_spec hyb).1
              have hvy := vof_item y (HI.out.ok y hym)
              have hyw := (HWF.out y hym).1
              have hfy : firstF L y.id = some y.v := by rw [firstF, hyb]; rfl
              have hmr : MapV Try.prog 3 wr w2.heap.size L.length (firstF L) := HMAP.out.later hb
              have hlti : (i : Int) < ((m + 1 : Nat) : Int) := by omega
              obtain ⟨W4, hW4⟩ : ∃ W4, W4 = wr.alloc (.cells (cv y.v) 35) := ⟨_, rfl⟩
              have hb4 : Below wr.heap.size wr W4 := by rw [hW4]; exact (Below.refl _ _).alloc (Nat.le_refl _) _
              have hs4 : W4.heap.size = wr.heap.size + 1 := by rw [hW4]; simp
              have hbx4 : BoxV W4 wr.heap.size 35 y.v := by rw [hW4]; exact BoxV.new _ _ _
              have HVY := Lib.hid hvy
              have HYW := Lib.hid hyw
              have HFY := Lib.hid hfy
              have HMR := Lib.hid hmr
              have HB2R := Lib.hid hb
              have HW4 := Lib.hid hW4
              have HB4 := Lib.hid hb4
              have HS4 := Lib.hid hs4
              have HBX4 := Lib.hid hbx4
              have HYB := Lib.hid hyb
              clear hr hcell0 hyb hym hvy hyw hfy hmr hb hil hW4 hb4 hs4 hbx4
              rcases Nat.eq_zero_or_pos i with h0 | h0
              · subst h0
                have hk := HGD.out.full y hy
                have HY := Lib.hid hy
                clear hy
                have c1 : W4.cell? ⟨wr.heap.size, 1, none⟩ = some (.int .i64 2) := by rw [cell_of_row W4 _ _ _ _ _ HBX4.out, ← hk]; rfl
                have hci' : wr.cell? ⟨b, o, none⟩ = some (.int .i64 y.id) := by simpa using hci
                clear hci hk
                gi_wp2_with ((with_reducible show wpListIn _ _ _ _ _ _ _ _); (first | (refine wpListIn_lookupv hF rfl _ _ 38 rfl 3 35 Try.underlying3 Try.underlying38 Try.zeroValue35 rfl HMR.out rfl HYW.out HFY.out ?_) | (refine wpListIn_newv (v := y.v) hF rfl rfl 35 rfl Try.zeroValue35 _ _ rfl rfl rfl HVY.out rfl ?_; rw [← HW4.out])))
                go_roundw
                case rel => exact ⟨1, by omega, by simp, HB2R.out.trans (HB4.out.mono HB2R.out.size)⟩
                case measure => simp [intOf]
              · obtain ⟨j, hj⟩ : ∃ j, i = j + 1 := ⟨i - 1, by omega⟩
                have hi63 : (i : Int) < 9223372036854775807 := by omega
                have hi0 : (0 : Int) < i := by omega
                have hsub : (i : Int) - 1 = j := by omega
                have hjm : (j : Int) < ((m + 1 : Nat) : Int) := by omega
                have HJ := Lib.hid hj
                have hjl : j < ys.length := by rw [HM.out]; omega
                obtain ⟨up, hup⟩ : ∃ up, ys[j]? = some up := ⟨ys[j], by simp [hjl]⟩
                have hlk := HGD.out.link j y up (hj ▸ hy) hup
                obtain ⟨b', o', e', hr'⟩ := HX3.out j (.int .i64 up.id) (by simp [hup])
                cases e'
                have hcell1 := hr' 0 _ rfl
                have hcj : W4.cell? ⟨b, o + j, none⟩ = some (.int .i64 up.id) := by
                  have h1 := (HB2R.out.cell (World.block_lt_of_cell? wa _ hcell1)).trans hcell1
                  have := (HB4.out.cell (World.block_lt_of_cell? wr _ h1)).trans h1
                  simpa using this
                have hub := HGD.out.mem up (List.mem_of_getElem? hup)
                have hum := (byId_spec hub).1
                have hvu := vof_item up (HI.out.ok up hum)
                have huw := (HWF.out up hum).1
                have hfu : firstF L up.id = some up.v := by rw [firstF, hub]; rfl
                have hm4 : MapV Try.prog 3 W4 w2.heap.size L.length (firstF L) := HMR.out.later HB4.out
                obtain ⟨W5, hW5⟩ : ∃ W5, W5 = W4.alloc (.cells (cv up.v) 35) := ⟨_, rfl⟩
                have hb5 : Below W4.heap.size W4 W5 := by rw [hW5]; exact (Below.refl _ _).alloc (Nat.le_refl _) _
                have hbu : BoxV W5 W4.heap.size 35 up.v := by rw [hW5]; exact BoxV.new _ _ _
                have hby : BoxV W5 wr.heap.size 35 y.v := (hb5.block _ HBX4.out.lt).trans HBX4.out
                obtain ⟨l1, l2, l3, l4, l5, l6⟩ := hlk
                have d0 : W5.cell? ⟨wr.heap.size, 0, none⟩ = some (.int .i64 y.id) := by rw [cell_of_row W5 _ _ _ _ _ hby]; rfl
                have d1 : W5.cell? ⟨wr.heap.size, 1, none⟩ = some (.int .i64 3) := by rw [cell_of_row W5 _ _ _ _ _ hby, ← l1]; rfl
                have d2 : W5.cell? ⟨wr.heap.size, 2, none⟩ = some (.int .i64 y.tl) := by rw [cell_of_row W5 _ _ _ _ _ hby]; rfl
                have d4 : W5.cell? ⟨wr.heap.size, 4, none⟩ = some (.int .i64 y.a) := by rw [cell_of_row W5 _ _ _ _ _ hby]; rfl
                have d5 : W5.cell? ⟨wr.heap.size, 5, none⟩ = some (.int .i64 y.b) := by rw [cell_of_row W5 _ _ _ _ _ hby]; rfl
                have d6 : W5.cell? ⟨wr.heap.size, 6, none⟩ = some (.int .i64 up.id) := by rw [cell_of_row W5 _ _ _ _ _ hby, ← l2]; rfl
                have e0 : W5.cell? ⟨W4.heap.size, 0, none⟩ = some (.int .i64 up.id) := by rw [cell_of_row W5 _ _ _ _ _ hbu]; rfl
                have e2 : W5.cell? ⟨W4.heap.size, 2, none⟩ = some (.int .i64 y.tl) := by rw [cell_of_row W5 _ _ _ _ _ hbu, ← l6]; rfl
                have e4 : W5.cell? ⟨W4.heap.size, 4, none⟩ = some (.int .i64 up.a) := by rw [cell_of_row W5 _ _ _ _ _ hbu]; rfl
                have e5 : W5.cell? ⟨W4.heap.size, 5, none⟩ = some (.int .i64 up.b) := by rw [cell_of_row W5 _ _ _ _ _ hbu]; rfl
                have HVU := Lib.hid hvu
                have HUW := Lib.hid huw
                have HFU := Lib.hid hfu
                have HM4 := Lib.hid hm4
                have HW5 := Lib.hid hW5
                have HB5 := Lib.hid hb5
                clear hup hy hr' hcell1 hub hum hvu huw hfu hm4 hW5 hb5 hbu hby l1 l2 l6 hjl hj
                have hnz : ¬ ((i : Int) = 0) := by omega
                have hlti2 : (i : Int) < (m : Int) + 1 := by omega
                have hnz2 : ¬ (i = 0) := by omega
                have n1 : decide (y.id ≤ up.id) = false := by simp; omega
                have n2 : decide (y.a < up.a) = false := by simp; omega
                have n3 : decide (y.b < up.b) = false := by simp; omega
                have hvi : ∀ n, VOf Try.prog 3 (.int .i64 n) := fun n => vof_one Try.underlying3 rfl (by kernel_rfl) rfl rfl
                have hri : wr.rangeAt b (o + i * 1) (cv (.int .i64 y.id)).toList := rangeAt_one rfl (by simpa using hci)
                have hrj : W4.rangeAt b (o + j * 1) (cv (.int .i64 up.id)).toList := rangeAt_one rfl (by simpa using hcj)
                have HVI := Lib.hid hvi
                have HRI := Lib.hid hri
                have HRJ := Lib.hid hrj
                clear hvi hri hrj
                have hjm2 : (j : Int) < (m : Int) + 1 := by omega
                gi_wp2_with ((with_reducible show wpListIn _ _ _ _ _ _ _ _); (first | (refine wpListIn_loadv (v := .int .i64 y.id) hF rfl 3 _ rfl rfl (HVI.out _) HRI.out ?_) | (refine wpListIn_loadv (v := .int .i64 up.id) hF rfl 3 _ rfl rfl (HVI.out _) HRJ.out ?_) | (refine wpListIn_lookupv hF rfl _ _ 38 rfl 3 35 Try.underlying3 Try.underlying38 Try.zeroValue35 rfl HMR.out rfl HYW.out HFY.out ?_) | (refine wpListIn_lookupv hF rfl _ _ 38 rfl 3 35 Try.underlying3 Try.underlying38 Try.zeroValue35 rfl HM4.out rfl HUW.out HFU.out ?_) | (refine wpListIn_newv (v := y.v) hF rfl rfl 35 rfl Try.zeroValue35 _ _ rfl rfl rfl HVY.out rfl ?_; rw [← HW4.out]) | (refine wpListIn_newv (v := up.v) hF rfl rfl 35 rfl Try.zeroValue35 _ _ rfl rfl rfl HVU.out rfl ?_; rw [← HW5.out])))
                go_roundw
                case rel => exact ⟨i + 1, by omega, by simp, HB2R.out.trans ((HB4.out.mono HB2R.out.size).trans (HB5.out.mono (by have := HB2R.out.size; have := HB4.out.size; omega)))⟩
                case measure => simp [intOf]; omega
            · have hie : i = m + 1 := by omega
              subst hie
              obtain ⟨b, o, rfl, hr⟩ := HX3.out m (.int .i64 top.id) (by have := HTP.out; simp [this])
              have hcell0 := hr 0 _ rfl
              have hcm : wr.cell? ⟨b, o + m * 1 + 0, none⟩ = some (.int .i64 top.id) := (hb.cell (World.block_lt_of_cell? wa _ hcell0)).trans hcell0
              rw [HTOP.out] at hcm
              have hrm : wr.rangeAt b (o + m) (cv (.int .i64 id)).toList := rangeAt_one rfl (by simpa using hcm)
              have hvi : ∀ n, VOf Try.prog 3 (.int .i64 n) := fun n => vof_one Try.underlying3 rfl (by kernel_rfl) rfl rfl
              have HVI := Lib.hid hvi
              have HRM := Lib.hid hrm
              have HBB := Lib.hid hb
              have hnl : ¬ (((m + 1 : Nat) : Int) < ((m + 1 : Nat) : Int)) := by omega
              have hm0 : (0 : Int) < (m : Int) + 1 := by omega
              have hmm2 : (m : Int) < (m : Int) + 1 := by omega
              have hms : (m : Int) + 1 - 1 = (m : Int) := by omega
              clear hr hcell0 hcm hrm hvi hb hlt hi
              gi_wp2_with ((with_reducible show wpListIn _ _ _ _ _ _ _ _); (refine wpListIn_loadv (v := .int .i64 id) hF rfl 3 _ rfl rfl (HVI.out _) HRM.out ?_))
              go_ret
              have z1 := HB1.out.size
              have z2 := HB2.out.size
              have z3 := HB.out.size
              exact ⟨rfl, HB1.out.trans ((HB2.out.mono (by omega)).trans ((HB.out.mono (by omega)).trans (HBB.out.mono (by omega))))⟩
end Chain
end Go.Proofs.Ytigbglagfbbmjaa
