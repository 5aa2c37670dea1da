/- The document's answer for package reach, walked: it tells what package reach tells. Condition: the slice holds the items. -/
import Derived.Test.YtigbglagfbbmjaaQ5
import Derived.Test.YtigbglagfbbmjaaReach2
namespace Go.Proofs.Ytigbglagfbbmjaa
open Go.RowKit Go.Shelf
set_option linter.unusedSimpArgs false
set_option linter.unusedVariables false
attribute [local go_sem] Oper.semAt_some
namespace Reach

/-- Where the next segment lies. -/
def at_ (L : List Itm) (t n : Int) : Option Nat := L.findIdx? fun x => segB t x && nextB n x
theorem at_next (L : List Itm) (t n : Int) : nextSeg L t n = (at_ L t n).bind fun i => L[i]? := by
  unfold nextSeg at_
  rw [List.find?_filter]
  induction L with
  | nil => rfl
  | cons x L ih =>
    rw [List.find?_cons, List.findIdx?_cons]
    cases h : (segB t x && nextB n x) with
    | true => simp [h]
    | false =>
      rw [ih]
      cases List.findIdx? (fun x => segB t x && nextB n x) L <;> simp [h]
def atInt (L : List Itm) (t n : Int) : Int := match at_ L t n with | some i => i | none => -1
def atRel (L : List Itm) (t n : Int) (w : World) (v : Value) (wr : World) : Prop :=
  ∃ pre post, L = pre ++ post ∧ v = .int .i64 pre.length ∧ (∀ x ∈ pre, (segB t x && nextB n x) = false) ∧ Below w.heap.size w wr
theorem at_hit {L pre post : List Itm} {x : Itm} {t n : Int} (he : L = pre ++ x :: post) (hp : ∀ y ∈ pre, (segB t y && nextB n y) = false) (hx : (segB t x && nextB n x) = true) : atInt L t n = pre.length := by
  have : at_ L t n = some pre.length := by
    unfold at_
    rw [he, List.findIdx?_append, List.findIdx?_eq_none_iff.2 (by simpa using hp)]
    simp [List.findIdx?_cons, hx]
  rw [atInt, this]
theorem at_miss {L : List Itm} {t n : Int} (hp : ∀ y ∈ L, (segB t y && nextB n y) = false) : atInt L t n = -1 := by
  have : at_ L t n = none := by
    unfold at_
    exact List.findIdx?_eq_none_iff.2 (by simpa using hp)
  rw [atInt, this]

set_option maxRecDepth 100000 in
set_option maxHeartbeats 400000 in
theorem at_calls (sv : Value) (L : List Itm) (t n : Int) (w : World) (h : Items w sv L) :
    Calls Try.prog 77 #[sv, .int .i64 t, .int .i64 n] w (RetB w (.int .i64 (atInt L t n))) := by
  have hF := isWide_wide
  have hsmall : (L.length : Int) < 9223372036854775807 := by have := h.small; omega
  obtain ⟨A, c, rfl, hc, hA, hx⟩ := h.at_
  rw [List.length_map] at *
  have HI := Lib.hid h
  have HX := Lib.hid hx
  clear h hx hA hc
  (refine calls_enter Try.func77 rfl ?_; simp only [Try.ntmps77, List.size_toArray, List.length_cons, List.length_nil, Nat.reduceAdd, Nat.reduceSub, Array.replicate_succ, Array.replicate_zero, List.push_toArray, List.append_toArray, List.nil_append, List.cons_append])
  gi_wp2_with fail
  gi_loopw [11] (fun v wr => atRel L t n w v wr) (fun v wr => L.length - (intOf v).toNat)
  case atStart => exact ⟨[], L, rfl, rfl, by simp, Below.refl _ _⟩
  case round =>
    obtain ⟨pre, post, he, rfl, hpre, hb⟩ := hrel
    have hlen : L.length = pre.length + post.length := by rw [he]; simp
    cases post with
    | cons x post =>
      have hlt : ((pre.length : Int) < L.length) := by rw [hlen]; simp; omega
      have hlt2 : (pre.length : Int) < 9223372036854775807 := by omega
      have hxi : (L.map Itm.v)[pre.length]? = some x.v := by rw [he]; simp
      obtain ⟨b, o, rfl, hr⟩ := HX.out pre.length x.v hxi
      have hr' : wr.rangeAt b (o + pre.length * 9) (cv x.v).toList := fun j u hu => (hb.cell (World.block_lt_of_cell? w _ (hr j u hu))).trans (hr j u hu)
      have hxok : x.ok := HI.out.ok x (by rw [he]; simp)
      have hvf := vof_item x hxok
      have hc1 : (wr.alloc (.cells (cv x.v) 35)).cell? ⟨wr.heap.size, 1, none⟩ = some (.int .i64 x.kind) := World.cell?_alloc_new _ _ _ _
      have hc2 : (wr.alloc (.cells (cv x.v) 35)).cell? ⟨wr.heap.size, 2, none⟩ = some (.int .i64 x.tl) := World.cell?_alloc_new _ _ _ _
      have hc4 : (wr.alloc (.cells (cv x.v) 35)).cell? ⟨wr.heap.size, 4, none⟩ = some (.int .i64 x.a) := World.cell?_alloc_new _ _ _ _
      have hc5 : (wr.alloc (.cells (cv x.v) 35)).cell? ⟨wr.heap.size, 5, none⟩ = some (.int .i64 x.b) := World.cell?_alloc_new _ _ _ _
      have HE := Lib.hid he
      have HL := Lib.hid hlen
      have HB := Lib.hid hb
      have HR := Lib.hid hr'
      have HVF := Lib.hid hvf
      have HPRE := Lib.hid hpre
      have hbx := BoxV.new wr 35 zItm.v
      have HBX := Lib.hid hbx
      have hbz := hb.size
      have HBZ := Lib.hid hbz
      clear he hlen hb hr hr' hvf hpre hxi hxok hbz hbx
      obtain ⟨b1, hb1⟩ : ∃ b, (x.kind == 1) = b := ⟨_, rfl⟩
      obtain ⟨b2, hb2⟩ : ∃ b, (x.tl == t) = b := ⟨_, rfl⟩
      obtain ⟨b3, hb3⟩ : ∃ b, decide (x.a ≤ n) = b := ⟨_, rfl⟩
      obtain ⟨b4, hb4⟩ : ∃ b, decide (n < x.b) = b := ⟨_, rfl⟩
      have hwhole : (segB t x && nextB n x) = (b1 && b2 && (b3 && b4)) := by rw [← hb1, ← hb2, ← hb3, ← hb4]; rfl
      have HW := Lib.hid hwhole
      clear hwhole
      have hno : (segB t x && nextB n x) = false → ∀ y ∈ pre ++ [x], (segB t y && nextB n y) = false := fun hq y hy => by
        rcases List.mem_append.1 hy with h | h
        · exact HPRE.out y h
        · simp at h; rw [h]; exact hq
      have HNO := Lib.hid hno
      clear hno
      cases b1 with
      | false =>
        gi_wp2_with ((with_reducible show wpListIn _ _ _ _ _ _ _ _); (first | (refine wpListIn_loadv (v := x.v) hF rfl 35 _ rfl rfl HVF.out HR.out ?_) | (refine wpListIn_allocv (z := zItm.v) hF rfl 35 rfl Try.zeroValue35 ?_) | (refine wpListIn_storev (v := x.v) hF rfl 35 _ _ rfl rfl rfl HBX.out HVF.out rfl ?_; rw [World.setRow_alloc_new])))
        go_roundw
        case rel => exact ⟨pre ++ [x], post, by rw [HE.out]; simp, by simp, HNO.out (by rw [HW.out]; rfl), HB.out.alloc HB.out.size _⟩
        case measure => have := HL.out; simp [intOf]; simp at this; omega
      | true =>
        cases b2 with
        | false =>
          gi_wp2_with ((with_reducible show wpListIn _ _ _ _ _ _ _ _); (first | (refine wpListIn_loadv (v := x.v) hF rfl 35 _ rfl rfl HVF.out HR.out ?_) | (refine wpListIn_allocv (z := zItm.v) hF rfl 35 rfl Try.zeroValue35 ?_) | (refine wpListIn_storev (v := x.v) hF rfl 35 _ _ rfl rfl rfl HBX.out HVF.out rfl ?_; rw [World.setRow_alloc_new])))
          go_roundw
          case rel => exact ⟨pre ++ [x], post, by rw [HE.out]; simp, by simp, HNO.out (by rw [HW.out]; rfl), HB.out.alloc HB.out.size _⟩
          case measure => have := HL.out; simp [intOf]; simp at this; omega
        | true =>
          cases b3 with
          | false =>
            gi_wp2_with ((with_reducible show wpListIn _ _ _ _ _ _ _ _); (first | (refine wpListIn_loadv (v := x.v) hF rfl 35 _ rfl rfl HVF.out HR.out ?_) | (refine wpListIn_allocv (z := zItm.v) hF rfl 35 rfl Try.zeroValue35 ?_) | (refine wpListIn_storev (v := x.v) hF rfl 35 _ _ rfl rfl rfl HBX.out HVF.out rfl ?_; rw [World.setRow_alloc_new])))
            go_roundw
            case rel => exact ⟨pre ++ [x], post, by rw [HE.out]; simp, by simp, HNO.out (by rw [HW.out]; rfl), HB.out.alloc HB.out.size _⟩
            case measure => have := HL.out; simp [intOf]; simp at this; omega
          | true =>
            cases b4 with
            | false =>
              gi_wp2_with ((with_reducible show wpListIn _ _ _ _ _ _ _ _); (first | (refine wpListIn_loadv (v := x.v) hF rfl 35 _ rfl rfl HVF.out HR.out ?_) | (refine wpListIn_allocv (z := zItm.v) hF rfl 35 rfl Try.zeroValue35 ?_) | (refine wpListIn_storev (v := x.v) hF rfl 35 _ _ rfl rfl rfl HBX.out HVF.out rfl ?_; rw [World.setRow_alloc_new])))
              go_roundw
              case rel => exact ⟨pre ++ [x], post, by rw [HE.out]; simp, by simp, HNO.out (by rw [HW.out]; rfl), HB.out.alloc HB.out.size _⟩
              case measure => have := HL.out; simp [intOf]; simp at this; omega
            | true =>
              gi_wp2_with ((with_reducible show wpListIn _ _ _ _ _ _ _ _); (first | (refine wpListIn_loadv (v := x.v) hF rfl 35 _ rfl rfl HVF.out HR.out ?_) | (refine wpListIn_allocv (z := zItm.v) hF rfl 35 rfl Try.zeroValue35 ?_) | (refine wpListIn_storev (v := x.v) hF rfl 35 _ _ rfl rfl rfl HBX.out HVF.out rfl ?_; rw [World.setRow_alloc_new])))
              go_ret
              exact ⟨by rw [at_hit HE.out HPRE.out (by rw [HW.out]; rfl)]; rfl, HB.out.alloc HB.out.size _⟩
    | nil =>
      have hlt : ¬ ((pre.length : Int) < L.length) := by rw [hlen]; simp
      have hL : pre = L := by rw [he]; simp
      rw [hL] at hpre
      have HPRE := Lib.hid hpre
      have HB := Lib.hid hb
      clear he hlen hL hpre hb
      gi_wp2_with fail
      go_ret
      exact ⟨by rw [at_miss HPRE.out]; rfl, HB.out⟩

theorem atInt_none {L : List Itm} {t n : Int} (h : nextSeg L t n = none) : atInt L t n = -1 := by
  rw [at_next] at h
  cases hq : at_ L t n with
  | none => rw [atInt, hq]
  | some i =>
    rw [hq] at h
    simp at h
    obtain ⟨hi, _⟩ := List.findIdx?_eq_some_iff_getElem.1 (show List.findIdx? _ L = some i from hq)
    omega
theorem atInt_some {L : List Itm} {t n : Int} {x : Itm} (h : nextSeg L t n = some x) : ∃ i : Nat, atInt L t n = i ∧ L[i]? = some x := by
  rw [at_next] at h
  cases hq : at_ L t n with
  | none => rw [hq] at h; cases h
  | some i => rw [hq] at h; exact ⟨i, by rw [atInt, hq], h⟩

set_option maxRecDepth 100000 in
set_option maxHeartbeats 400000 in
theorem rlast_calls (sv : Value) (L : List Itm) (t : Int) : ∀ (m : Nat) (n : Int) (w : World), above L n < m → Items w sv L →
    Calls Try.prog 19 #[sv, .int .i64 t, .int .i64 n] w (RetB w (.int .i64 (last L t n))) := by
  have hF := isWide_wide
  have ega := (enters_of Try.func77 (by kernel_rfl) rfl)
  have egl := (enters_of Try.func19 (by kernel_rfl) rfl)
  intro m
  induction m with
  | zero => intro n w hm; omega
  | succ m ih =>
    intro n w hm h
    have hat := at_calls sv L t n w h
    obtain ⟨A, c, rfl, hc, hA, hx⟩ := h.at_
    rw [List.length_map] at *
    have HAT := Lib.hid hat
    have HI := Lib.hid h
    have HX := Lib.hid hx
    have IH := Lib.hid ih
    clear hat h ih hx hc hA
    rcases nextSeg_cases L t n with hn | ⟨x, hn, hx, hb, ha⟩
    · rw [atInt_none hn] at HAT
      rw [last_none hn]
      clear hn
      (refine calls_enter Try.func19 rfl ?_; simp only [Try.ntmps19, List.size_toArray, List.length_cons, List.length_nil, Nat.reduceAdd, Nat.reduceSub, Array.replicate_succ, Array.replicate_zero, List.push_toArray, List.append_toArray, List.nil_append, List.cons_append])
      gi_wp2_with ((with_reducible show wpListIn _ _ _ _ _ _ _ _); (refine wpListIn_callf hF 77 rfl rfl ega HAT.out rfl ?_))
      rintro e w1 ⟨rfl, hb1⟩
      dsimp only [yNext]
      gi_wp2_with fail
      go_ret
      exact ⟨rfl, hb1⟩
    · obtain ⟨i, hi, hxi⟩ := atInt_some hn
      rw [hi] at HAT
      rw [last_some hn]
      have hil : (i : Int) < L.length := by have := (List.getElem?_eq_some_iff.1 hxi).1; omega
      obtain ⟨b, o, rfl, hr⟩ := HX.out i x.v (by simp [hxi])
      have hsmall := HI.out.small
      clear hn hi hx hb
      (refine calls_enter Try.func19 rfl ?_; simp only [Try.ntmps19, List.size_toArray, List.length_cons, List.length_nil, Nat.reduceAdd, Nat.reduceSub, Array.replicate_succ, Array.replicate_zero, List.push_toArray, List.append_toArray, List.nil_append, List.cons_append])
      gi_wp2_with ((with_reducible show wpListIn _ _ _ _ _ _ _ _); (refine wpListIn_callf hF 77 rfl rfl ega HAT.out rfl ?_))
      rintro e w1 ⟨rfl, hb1⟩
      have hc5 : w1.cell? ⟨b, o + i * 9 + 5, none⟩ = some (.int .i64 x.b) := by
        have := hr 5 (.int .i64 x.b) rfl
        exact (hb1.cell (World.block_lt_of_cell? w _ this)).trans this
      have hrec := IH.out x.b w1 (by omega) (HI.out.later hb1)
      have HREC := Lib.hid hrec
      have HB1 := Lib.hid hb1
      have HR := Lib.hid hr
      clear hrec hb1 hr
      dsimp only [yNext]
      gi_wp2_with ((with_reducible show wpListIn _ _ _ _ _ _ _ _); (refine wpListIn_callf hF 19 rfl rfl egl HREC.out rfl ?_))
      rintro e w2 ⟨rfl, hb2⟩
      have HB2 := Lib.hid hb2
      clear hb2
      dsimp only [yNext]
      gi_wp2_with fail
      go_ret
      exact ⟨rfl, HB1.out.trans (HB2.out.mono HB1.out.size)⟩
set_option maxRecDepth 100000 in
set_option maxHeartbeats 400000 in
theorem rcover_calls (sv : Value) (L : List Itm) (t to : Int) : ∀ (m : Nat) (n : Int) (w : World), above L n < m → Items w sv L →
    Calls Try.prog 17 #[sv, .int .i64 t, .int .i64 n, .int .i64 to] w (coverEnd L t n to w) := by
  have hF := isWide_wide
  have ega := (enters_of Try.func77 (by kernel_rfl) rfl)
  have egc := (enters_of Try.func17 (by kernel_rfl) rfl)
  obtain ⟨i0, hi0, hz0, hz1, hz2⟩ := info_parts info3
  intro m
  induction m with
  | zero => intro n w hm; omega
  | succ m ih =>
    intro n w hm h
    by_cases hlt : to ≤ n
    · have HI := Lib.hid h
      clear h ih hi0 hz0 hz1 hz2
      (refine calls_enter Try.func17 rfl ?_; simp only [Try.ntmps17, List.size_toArray, List.length_cons, List.length_nil, Nat.reduceAdd, Nat.reduceSub, Array.replicate_succ, Array.replicate_zero, List.push_toArray, List.append_toArray, List.nil_append, List.cons_append])
      gi_wp2_with fail
      go_ret2
      exact .inl ⟨_, [], by rw [cover_done (show ¬ n < to by omega)], rfl, ⟨none, 0, rfl, Nat.le_refl _, (fun _ => rfl), fun i x hx => by simp at hx⟩, fun b hb => hb.elim, Nat.zero_le _, Below.refl _ _⟩
    · have hlt' : n < to := by omega
      have hat := at_calls sv L t n w h
      obtain ⟨A, c, rfl, hc, hA, hx⟩ := h.at_
      rw [List.length_map] at *
      have HAT := Lib.hid hat
      have HI := Lib.hid h
      have HX := Lib.hid hx
      have IH := Lib.hid ih
      have HI0 := Lib.hid hi0
      have HZ0 := Lib.hid hz0
      have HZ1 := Lib.hid hz1
      have HZ2 := Lib.hid hz2
      clear hat h ih hx hc hA hi0 hz0 hz1 hz2
      rcases nextSeg_cases L t n with hn | ⟨x, hn, hx, hb, ha⟩
      · rw [atInt_none hn] at HAT
        have HN := Lib.hid hn
        clear hn
        (refine calls_enter Try.func17 rfl ?_; simp only [Try.ntmps17, List.size_toArray, List.length_cons, List.length_nil, Nat.reduceAdd, Nat.reduceSub, Array.replicate_succ, Array.replicate_zero, List.push_toArray, List.append_toArray, List.nil_append, List.cons_append])
        gi_wp2_with ((with_reducible show wpListIn _ _ _ _ _ _ _ _); (refine wpListIn_callf hF 77 rfl rfl ega HAT.out rfl ?_))
        rintro e w1 ⟨rfl, hb1⟩
        dsimp only [yNext]
        gi_wp2_with fail
        go_ret2
        exact .inr ⟨cover_none hlt' HN.out, rfl, hb1⟩
      · obtain ⟨i, hi, hxi⟩ := atInt_some hn
        rw [hi] at HAT
        have hil : (i : Int) < L.length := by have := (List.getElem?_eq_some_iff.1 hxi).1; omega
        obtain ⟨b, o, rfl, hr⟩ := HX.out i x.v (by simp [hxi])
        have hsmall := HI.out.small
        have HN := Lib.hid hn
        clear hn hi hx hb
        (refine calls_enter Try.func17 rfl ?_; simp only [Try.ntmps17, List.size_toArray, List.length_cons, List.length_nil, Nat.reduceAdd, Nat.reduceSub, Array.replicate_succ, Array.replicate_zero, List.push_toArray, List.append_toArray, List.nil_append, List.cons_append])
        gi_wp2_with ((with_reducible show wpListIn _ _ _ _ _ _ _ _); (refine wpListIn_callf hF 77 rfl rfl ega HAT.out rfl ?_))
        rintro e w1 ⟨rfl, hb1⟩
        have hc5 : w1.cell? ⟨b, o + i * 9 + 5, none⟩ = some (.int .i64 x.b) := by
          have := hr 5 (.int .i64 x.b) rfl
          exact (hb1.cell (World.block_lt_of_cell? w _ this)).trans this
        have hc0 : w1.cell? ⟨b, o + i * 9, none⟩ = some (.int .i64 x.id) := by
          have := hr 0 (.int .i64 x.id) rfl
          exact (hb1.cell (World.block_lt_of_cell? w _ this)).trans this
        have hrec := IH.out x.b w1 (by omega) (HI.out.later hb1)
        have hlenb : above L x.b ≤ L.length := above_le L x.b
        have HREC := Lib.hid hrec
        have HB1 := Lib.hid hb1
        have HR := Lib.hid hr
        have HC0 := Lib.hid hc0
        have HLB := Lib.hid hlenb
        clear hrec hb1 hr hc0 hlenb
        dsimp only [yNext]
        gi_wp2_with ((with_reducible show wpListIn _ _ _ _ _ _ _ _); (refine wpListIn_callf hF 17 rfl rfl egc HREC.out rfl ?_))
        rintro e w2 (⟨v, zs, hz, rfl, hv, hvb, hzl, hb2⟩ | ⟨hz, rfl, hb2⟩)
        · have hzlen := cover_len L t _ x.b to zs (Nat.le_refl _) hz
          have hc0' : w2.cell? ⟨b, o + i * 9, none⟩ = some (.int .i64 x.id) := (hb2.cell (World.block_lt_of_cell? w1 _ HC0.out)).trans HC0.out
          have hv2 : IntsAt (w2.alloc (.cells #[.int .i64 x.id] 3)) v zs := SliceAt.touch hv (S := fun _ => False) (Touch.alloc _ _ _) (fun _ _ h => h)
          have z1 := HB1.out.size
          have z2 := hb2.size
          have hown : (w2.alloc (.cells #[.int .i64 x.id] 3)).ownsRow w.heap.size 3 1 (.slice (some ⟨w2.heap.size, 0, none⟩) 1 1) 1 [.int .i64 x.id] := owns_new (by omega) rfl (by decide)
          have HV := Lib.hid hv2
          have HOWN := Lib.hid hown
          have HZ := Lib.hid hz
          have HZL := Lib.hid hzlen
          have HB2 := Lib.hid hb2
          clear hv hv2 hown hz hzlen hb2 hvb hzl z1 z2
          dsimp only [yNext]
          gi_wp2_with (first | (gi_at_builtin; refine wpListIn_append_list _ rfl _ _ 25 rfl w.heap.size 3 i0 (.int .i64 0) 1 8 Try.underlying25 HI0.out HZ0.out HZ1.out HZ2.out rfl (by decide) _ _ _ rfl HOWN.out (zs.map (Value.int .i64)) rfl HV.out ?_ ?_ ?_ ?_ ?_ ?_))
          · intro y hy; obtain ⟨z, _, rfl⟩ := List.mem_map.1 hy; rfl
          · intro u hu; rw [cellsOf_ints] at hu; obtain ⟨z, _, rfl⟩ := List.mem_map.1 hu; rfl
          · have := HZL.out; have := HLB.out; simp; unfold maxLen; omega
          · have := HZL.out; have := HLB.out; simp; omega
          · have := HB1.out.size; have := HB2.out.size; simp; omega
          · intro v' w3 hown3 hg hnn
            rw [cellsOf_ints] at hown3
            have HOWN3 := Lib.hid hown3
            have HG := Lib.hid hg
            have HNN := Lib.hid hnn
            clear hown3 hg hnn
            gi_wp2_with fail
            go_ret2
            refine .inl ⟨_, x.id :: zs, by rw [cover_some hlt' HN.out, HZ.out]; rfl, rfl, IntsAt.of_owns HOWN3.out (by simp; omega) (fun h => absurd h (by simpa using HNN.out)), fun b hb => (sliceBlk_owns HOWN3.out b hb).1, ?_, ?_⟩
            · have := HZL.out; have := above_le L n; simp; omega
            · have z1 := HB1.out.size
              have z2 := HB2.out.size
              exact ((HB1.out.trans (HB2.out.mono z1)).alloc (by omega) _).grown HG.out (by simp; omega) (fun k e => (HOWN.out.lt k e).1)
        · have HB2 := Lib.hid hb2
          have HZ := Lib.hid hz
          clear hb2 hz
          dsimp only [yNext]
          gi_wp2_with fail
          go_ret2
          exact .inr ⟨by rw [cover_some hlt' HN.out, HZ.out]; rfl, rfl, HB1.out.trans (HB2.out.mono HB1.out.size)⟩
end Reach
end Go.Proofs.Ytigbglagfbbmjaa
