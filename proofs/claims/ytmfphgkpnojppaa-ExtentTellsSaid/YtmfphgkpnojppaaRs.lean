/- Contracts of extent.rising, extent.Apart. Condition: a list of extents. -/
import Derived.Test.YtmfphgkpnojppaaScK
import Derived.Test.YtmfphgkpnojppaaFkExt
import Derived.Test.YtmfphgkpnojppaaFvExt
import Derived.Test.YtmfphgkpnojppaaShelf
import Derived.WalkKit
namespace Go.Proofs.Ytmfphgkpnojppaa
open Go.RowKit Go.Shelf Go.Sort Go.Lib
set_option linter.unusedSimpArgs false
set_option linter.unusedVariables false
namespace Ex
variable {W0 : World} {X : Nat → Prop} {R C : List Ch}
theorem vofs (L : List Ext) : ∀ v ∈ L.map Ext.v, VOf Try.prog 39 v := fun v hv => by
  obtain ⟨x, _, rfl⟩ := List.mem_map.1 hv
  exact vofk (by kernel_rfl) rfl rfl
theorem isAgg_ext (w : World) : (isAgg 39).run Try.prog w = .ok true w := by simp [isAgg, run_underlying Try.underlying39]
theorem sizeOf_ext (w : World) : (Go.sizeOf 39).run Try.prog w = .ok 2 w := by
  have h : (Try.prog.info? 39).map (·.size) = some 2 := by kernel_rfl
  cases hi : Try.prog.info? 39 with
  | none => rw [hi] at h; cases h
  | some i =>
    rw [hi] at h
    have h2 : i.size = 2 := Option.some.inj h
    simp [sizeOf, typeInfo, hi, h2]
set_option maxHeartbeats 1000000 in
/-- The closure of rising: in whatever world: two blocks are laid. -/
theorem rising1_calls (x y : Ext) (W : World) : Calls Try.prog 28 #[.agg #[.int .i64 x.a, .int .i64 x.n], .agg #[.int .i64 y.a, .int .i64 y.n]] W fun e w' => e = .returned (.int .i64 (cfA x y)) ∧ ∃ q os', w' = grow (W.drewN q) os' := by
  have hcon := fun W' => Try.cmp_Compare_int x.a y.a W'
  unfold cfA
  generalize Lib.compareInt x.a y.a = r at hcon ⊢
  go_enter Try.func28, Try.ntmps28
  go_wp2_with (go_at_call 29; refine (hcon _).mono ?_; rintro e w' ⟨rfl, rfl⟩)
  go_ret
  exact ⟨rfl, 0, _, by rw [alloc_eq_grow, alloc_eq_grow, grow_grow]; rfl⟩
theorem cmpLays (blk off size : Nat) (w : World) : CmpLays Try.prog 28 #[] enc 2 cfA blk off size w := fun _ _ _ _ x y => rising1_calls x y _
theorem sortFunc_ct (v : Value) (L : List Ext) (h0 : L ≠ []) (hb : L.length < 4611686018427387904) :
    Ct Try.prog 32 [v, .func (.func 28) #[] #[]] W0 X R (RowC 39 2 v (L.map Ext.v) :: C) Unit (fun _ => .tuple #[]) (fun _ => R) (fun _ => RowC 39 2 v ((risL L).map Ext.v) :: C) := by
  intro w hw
  have hz : 0 < L.length := List.length_pos_iff.2 h0
  obtain ⟨O, hrow⟩ := hw.hasC (c := RowC 39 2 v (L.map Ext.v)) (by simp)
  obtain ⟨g, c, rfl, hO⟩ := RowC.len0 hrow (by simpa using hz)
  rw [List.length_map] at hrow ⊢
  rw [List.length_map] at hw
  have hrow2 := hrow
  obtain ⟨⟨h1, h2⟩, h3, h4, h5⟩ := hrow2
  rcases h2 with ⟨h2, _⟩ | ⟨g', cap, cur, e1, h6, h7, h8, h9, h10, h11⟩
  · cases h2
  obtain ⟨e2, e3, e4⟩ := Value.slice.inj e1
  obtain ⟨rfl, _, _⟩ := Addr.mk.inj (Option.some.inj e2)
  rw [List.length_map] at h11
  have eg : ∀ args w, (callFunc 28 args).run Try.prog w = .ok (.enter 28 args) w := enters_of Try.func28 (by kernel_rfl) rfl
  have hcon := AnyQ.slices_SortFunc_eq Try.laysSortFunc 2 (fun w => isAgg_ext w) (fun w => sizeOf_ext w) enc (fun _ => rfl) (fun x u hu => by simp [enc] at hu; rcases hu with rfl | rfl <;> rfl) cfA swoA 28 #[] g 0 c L.toArray w eg (cmpLays g 0 L.toArray.size w) (holds_rowV h7 h11) ((RowC 39 2 _ _).lt hrow g hO) (by simpa using hb)
  refine Calls.mono (show Calls Try.prog 32 #[.slice (some ⟨g, 0, none⟩) L.length c, .func (.func 28) #[] #[]] w _ from hcon) ?_
  rintro e w' ⟨rfl, n, os, rfl⟩
  refine ⟨(), rfl, hw.upd (fun O' hO' => ⟨O', ?_, ?_, fun k hk => .inl hk⟩)⟩
  · exact touch_putRowV n os _ ((hO'.2.2.2 g).2 rfl)
  · exact row_putV hO' (by have := (ris_sorts L).1.1; simpa using this) n os
end Ex
end Go.Proofs.Ytmfphgkpnojppaa
