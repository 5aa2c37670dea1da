/- The walk of ReachEnds. Condition: the slice holds the items. -/
import Derived.Test.YtigbglagfbbmjaaLaw20
import Derived.Test.YtigbglagfbbmjaaReach2
namespace Go.Proofs.Ytigbglagfbbmjaa
open Go.RowKit Go.Shelf
set_option linter.unusedSimpArgs false
set_option linter.unusedVariables false
attribute [local go_sem] Oper.semAt_some
namespace Reach

def trueEnd (w : World) (e : Ending) (w' : World) : Prop := e = .returned (.bool true) ∧ Below w.heap.size w w'
def endsRel (L : List Itm) (w w1 : World) (v : Value) (wr : World) : Prop :=
  ∃ pre post, L = pre ++ post ∧ v = .int .i64 pre.length ∧ (∀ x ∈ pre, x.b ≤ 1152921504606846976) ∧ Below w1.heap.size w1 wr

set_option maxRecDepth 100000 in
set_option maxHeartbeats 400000 in
theorem ends_calls (sv : Value) (L : List Itm) (t fr : Int) (hf1 : -32768 ≤ fr) (hf2 : fr ≤ 32767) (w : World) (h : Items w sv L) :
    Calls Try.prog 5 #[sv, .int .i64 t, .int .i16 fr] w (trueEnd w) := by
  have hF := isWide_wide
  have egf := (enters_of Try.func15 (by kernel_rfl) rfl)
  have egc := (enters_of Try.func16 (by kernel_rfl) rfl)
  have egl := (enters_of Try.func18 (by kernel_rfl) rfl)
  have hfc := first_calls w
  obtain ⟨A, c, rfl, hc, hA, hx⟩ := h.at_
  rw [List.length_map] at *
  have HI := Lib.hid h
  have HX := Lib.hid hx
  have HFC := Lib.hid hfc
  clear h hx hfc hA hc
  (refine calls_enter Try.func5 rfl ?_; simp only [Try.ntmps5, List.size_toArray, List.length_cons, List.length_nil, Nat.reduceAdd, Nat.reduceSub, Array.replicate_succ, Array.replicate_zero, List.push_toArray, List.append_toArray, List.nil_append, List.cons_append])
  gi_wp2_with ((with_reducible show wpListIn _ _ _ _ _ _ _ _); (refine wpListIn_callf hF 15 rfl rfl egf HFC.out rfl ?_))
  rintro e w1 ⟨rfl, hb1⟩
  have HB1 := Lib.hid hb1
  clear hb1
  dsimp only [yNext]
  by_cases hn : (L.length : Int) > 40
  · gi_wp2_with fail
    go_ret
    exact ⟨rfl, HB1.out⟩
  · have hn' : (L.length : Int) ≤ 40 := by omega
    gi_wp2_with fail
    gi_loopw [21] (fun v wr => endsRel L w w1 v wr) (fun v wr => L.length - (intOf v).toNat)
    case atStart => exact ⟨[], L, rfl, rfl, by simp, Below.refl _ _⟩
    case round =>
      obtain ⟨pre, post, he, rfl, hpre, hb⟩ := hrel
      have hlen : L.length = pre.length + post.length := by rw [he]; simp
      have hI := (HI.out.later (HB1.out)).later hb
      cases post with
      | cons x post =>
        have hlt : ((pre.length : Int) < L.length) := by rw [hlen]; simp; omega
        have hlt2 : (pre.length : Int) < 9223372036854775807 := by omega
        have hxi : (L.map Itm.v)[pre.length]? = some x.v := by rw [he]; simp
        obtain ⟨b, o, rfl, hr⟩ := HX.out pre.length x.v hxi
        have hr' : wr.rangeAt b (o + pre.length * 9) (cv x.v).toList := fun j u hu => (hb.cell (by have := World.block_lt_of_cell? w _ (hr j u hu); have := HB1.out.size; omega)).trans ((HB1.out.cell (World.block_lt_of_cell? w _ (hr j u hu))).trans (hr j u hu))
        have hxok : x.ok := hI.ok x (by rw [he]; simp)
        have hvf := vof_item x hxok
        have hc5 : (wr.alloc (.cells (cv x.v) 35)).cell? ⟨wr.heap.size, 5, none⟩ = some (.int .i64 x.b) := World.cell?_alloc_new _ _ _ _
        have HE := Lib.hid he
        have HL := Lib.hid hlen
        have HB := Lib.hid hb
        have HR := Lib.hid hr'
        have HVF := Lib.hid hvf
        have HPRE := Lib.hid hpre
        clear he hlen hb hr hr' hvf hpre hI hxi hxok
        by_cases hbig : x.b > 1152921504606846976
        · gi_wp2_with ((with_reducible show wpListIn _ _ _ _ _ _ _ _); (first | (refine wpListIn_newv (v := x.v) hF rfl rfl 35 rfl Try.zeroValue35 _ _ rfl rfl rfl HVF.out rfl ?_) | (refine wpListIn_loadv (v := x.v) hF rfl 35 _ rfl rfl HVF.out HR.out ?_)))
          go_ret
          exact ⟨rfl, (HB1.out.trans (HB.out.mono HB1.out.size)).alloc (by have := HB1.out.size; have := HB.out.size; omega) _⟩
        · have hbig' : x.b ≤ 1152921504606846976 := by omega
          gi_wp2_with ((with_reducible show wpListIn _ _ _ _ _ _ _ _); (first | (refine wpListIn_newv (v := x.v) hF rfl rfl 35 rfl Try.zeroValue35 _ _ rfl rfl rfl HVF.out rfl ?_) | (refine wpListIn_loadv (v := x.v) hF rfl 35 _ rfl rfl HVF.out HR.out ?_)))
          go_roundw
          case rel =>
            refine ⟨pre ++ [x], post, by rw [HE.out]; simp, by simp, ?_, HB.out.alloc HB.out.size _⟩
            intro y hy
            rcases List.mem_append.1 hy with h | h
            · exact HPRE.out y h
            · simp at h; rw [h]; exact hbig'
          case measure => have := HL.out; simp [intOf]; simp at this; omega
      | nil =>
        have hlt : ¬ ((pre.length : Int) < L.length) := by rw [hlen]; simp
        have hL : pre = L := by rw [he]; simp
        rw [hL] at hpre
        obtain ⟨n, hnn⟩ : ∃ n, n = last L t fr := ⟨_, rfl⟩
        have hge := last_ge L t _ fr (Nat.le_refl _)
        rw [← hnn] at hge
        have hn1 : fr ≤ n := hge.1
        have hn2 : n ≤ 1152921504606846976 := by
          rcases hge.2 with h | ⟨x, hx, h⟩
          · omega
          · rw [h]; exact hpre x hx
        have hl := last_calls _ L t fr wr hI
        rw [← hnn] at hl
        have HL := Lib.hid hl
        have HB := Lib.hid hb
        have HII := Lib.hid hI
        have HNN := Lib.hid hnn
        clear he hlen hL hpre hge hl hb hI hnn
        gi_wp2_with ((with_reducible show wpListIn _ _ _ _ _ _ _ _); (refine wpListIn_callf hF 18 rfl rfl egl HL.out rfl ?_))
        rintro e w2 rfl hb2
        have hcc := cover_calls _ L t fr n w2 (HII.out.later hb2)
        have HB2 := Lib.hid hb2
        have HCC := Lib.hid hcc
        clear hb2 hcc
        dsimp only [yNext]
        gi_wp2_with ((with_reducible show wpListIn _ _ _ _ _ _ _ _); (refine wpListIn_callf hF 16 rfl rfl egc HCC.out rfl ?_))
        rintro e w3 (⟨v, zs, hz, rfl, hv, hvb, hzl, hb3⟩ | ⟨hz, rfl, hb3⟩)
        · have hcc2 := cover_calls _ L t fr (n + 1) w3 ((HII.out.later HB2.out).later hb3)
          have hno : cover L t fr (n + 1) = none := by
            have := cover_iff L t _ fr (n + 1) (Nat.le_refl _)
            rw [← HNN.out] at this
            cases hq : cover L t fr (n + 1) with
            | none => rfl
            | some q => rw [hq] at this; simp at this; omega
          have hpos := cover_pos L t fr n zs hz
          obtain ⟨A', c', rfl, _⟩ := hv
          rw [List.length_map]
          have hw1 : (decide (zs.length > 0) == decide (n > fr)) = true := by simp only [gt_iff_lt, hpos]; simp
          have HB3 := Lib.hid hb3
          have HCC2 := Lib.hid hcc2
          have HNO := Lib.hid hno
          have HPOS := Lib.hid hpos
          clear hb3 hcc2 hno hpos hz hvb hzl
          dsimp only [yNext]
          gi_wp2_with ((with_reducible show wpListIn _ _ _ _ _ _ _ _); (refine wpListIn_callf hF 16 rfl rfl egc HCC2.out rfl ?_))
          rintro e w4 (⟨v', zs', hz', _⟩ | ⟨hz', rfl, hb4⟩)
          · rw [HNO.out] at hz'; cases hz'
          · have HB4 := Lib.hid hb4
            clear hb4 hz'
            dsimp only [yNext]
            gi_wp2_with fail
            go_ret
            have z1 := HB1.out.size
            have z2 := HB.out.size
            have z3 := HB2.out.size
            have z4 := HB3.out.size
            exact ⟨rfl, HB1.out.trans ((HB.out.mono z1).trans ((HB2.out.mono (by omega)).trans ((HB3.out.mono (by omega)).trans (HB4.out.mono (by omega)))))⟩
        · have := cover_iff L t _ fr n (Nat.le_refl _)
          rw [← HNN.out, hz] at this
          simp at this
end Reach
end Go.Proofs.Ytigbglagfbbmjaa
