/- Contracts of the small functions of flow and of slices.Values, slices.Clone at one element type. Conditions: the arguments read as lists. -/
import Derived.Test.YtigbglagfbbmjaaValsItem
namespace Go.Proofs.Ytigbglagfbbmjaa
open Go.RowKit Go.Shelf
set_option linter.unusedSimpArgs false
set_option linter.unusedVariables false
attribute [local go_sem] Oper.semAt_some
namespace Item

theorem each_some (g : Nat) (lb : Array Value) (w : World) : Calls Try.prog 137 #[.func (.func g) #[] lb] w (fun e w' => e = .returned (.func (.func g) #[] lb) ∧ w = w') := by
  (refine calls_enter Try.func137 rfl ?_; simp only [Try.ntmps137, List.size_toArray, List.length_cons, List.length_nil, Nat.reduceAdd, Nat.reduceSub, Array.replicate_succ, Array.replicate_zero, List.push_toArray, List.append_toArray, List.nil_append, List.cons_append])
  have q := fun (f : Fn) (x y : Array Value) (w : World) => run_eql_func_nil (P := Try.prog) Try.underlying108 f x y w
  gi_wp2
  go_ret
  exact ⟨rfl, rfl⟩

theorem so_some (g : Nat) (lb : Array Value) (w : World) : Calls Try.prog 139 #[.func (.func g) #[] lb] w (fun e w' => e = .returned (.func (.func g) #[] lb) ∧ w = w') := by
  (refine calls_enter Try.func139 rfl ?_; simp only [Try.ntmps139, List.size_toArray, List.length_cons, List.length_nil, Nat.reduceAdd, Nat.reduceSub, Array.replicate_succ, Array.replicate_zero, List.push_toArray, List.append_toArray, List.nil_append, List.cons_append])
  have q := fun (f : Fn) (x y : Array Value) (w : World) => run_eql_func_nil (P := Try.prog) Try.underlying110 f x y w
  gi_wp2
  go_ret
  exact ⟨rfl, rfl⟩

theorem values (sv : Value) (w : World) : Calls Try.prog 123 #[sv] w (fun e w' => e = .returned (.func (.func 142) #[] #[.pointer (some ⟨w.heap.size, 0, none⟩)]) ∧ w' = w.alloc (.cells (cv sv) 22)) := by
  (refine calls_enter Try.func123 rfl ?_; simp only [Try.ntmps123, List.size_toArray, List.length_cons, List.length_nil, Nat.reduceAdd, Nat.reduceSub, Array.replicate_succ, Array.replicate_zero, List.push_toArray, List.append_toArray, List.nil_append, List.cons_append])
  have hF := isWide_wide
  gi_wp2_with ((with_reducible show wpListIn _ _ _ _ _ _ _ _); (refine wpListIn_boxv (v := sv) hF rfl 22 _ rfl rfl ?_))
  go_ret
  exact ⟨rfl, rfl⟩

theorem info : (Try.prog.info? 35).map (fun i => (i.zero, i.size, i.bytes)) = some (some (.agg #[.int .i64 0, .int .i64 0, .int .i64 0, .int .i64 0, .int .i64 0, .int .i64 0, .int .i64 0, .int .i64 0, .slice none 0 0]), 9, 88) := by kernel_rfl

set_option maxHeartbeats 400000 in
theorem clone (sv : Value) (xs : List Value) (w : World) (hs : SliceAt w 9 sv xs) (hv : ∀ x ∈ xs, VOf Try.prog 35 x) (hm : xs.length * 88 ≤ 140737488355328) :
    Calls Try.prog 124 #[sv] w (fun e w' => ∃ v', e = .returned v' ∧ SliceAt w' 9 v' xs ∧ Below w.heap.size w w' ∧ ∀ b, sliceBlk v' b → w.heap.size ≤ b ∧ b < w'.heap.size) := by
  obtain ⟨i0, hi, hz0, hz1, hz2⟩ := info_parts info
  have hk : ∀ x ∈ xs, (cv x).size = 9 := fun x hx => by have := (hv x hx).size; rw [show (Try.prog.info? 35).map (·.size) = some 9 from by kernel_rfl] at this; simpa using this.symm
  have hl := cellsOf_len hk
  have h1 : ∀ u ∈ cellsOf xs, u.oneCell' = true := fun u hu => by
    obtain ⟨l, hl, hu⟩ := List.mem_flatten.1 hu
    obtain ⟨x, hx, rfl⟩ := List.mem_map.1 hl
    exact (Array.all_eq_true_iff_forall_mem.1 (hv x hx).one) u (by simpa using hu)
  have hF := isWide_wide
  obtain ⟨A, c, rfl, hc, hA, hx⟩ := id hs
  have HS := Lib.hid hs
  have HK := Lib.hid hk
  have HL := Lib.hid hl
  have H1 := Lib.hid h1
  have HV := Lib.hid hv
  have HX := Lib.hid hx
  have qT : ∀ (w : World) (a : Option Addr) (n c n' c' : Nat), (binOp .eql 22 (.slice a n c) (.slice none n' c')).run Try.prog w = .ok (.bool a.isNone) w := fun w a n c n' c' => Lib.run_eql_slice_nil w _ _ a n c n' c' Try.underlying22
  clear hs hk hl h1 hv hx hc hA
  cases A with
  | none =>
    obtain ⟨rfl, h0, rfl⟩ := HS.out.nil
    (refine calls_enter Try.func124 rfl ?_; simp only [Try.ntmps124, List.size_toArray, List.length_cons, List.length_nil, Nat.reduceAdd, Nat.reduceSub, Array.replicate_succ, Array.replicate_zero, List.push_toArray, List.append_toArray, List.nil_append, List.cons_append])
    gi_wp2_with fail
    go_ret
    exact ⟨_, rfl, ⟨none, 0, rfl, Nat.le_refl _, fun _ => rfl, fun i x hx => by simp at hx⟩, Below.refl _ _, fun b hb => hb.elim⟩
  | some ad =>
    (refine calls_enter Try.func124 rfl ?_; simp only [Try.ntmps124, List.size_toArray, List.length_cons, List.length_nil, Nat.reduceAdd, Nat.reduceSub, Array.replicate_succ, Array.replicate_zero, List.push_toArray, List.append_toArray, List.nil_append, List.cons_append])
    gi_wp2_with (first | (gi_at_builtin; refine wpListIn_append_own _ rfl _ _ 22 rfl w.heap.size 35 i0 (.agg #[.int .i64 0, .int .i64 0, .int .i64 0, .int .i64 0, .int .i64 0, .int .i64 0, .int .i64 0, .int .i64 0, .slice none 0 0]) 9 88 Try.underlying22 hi hz0 hz1 hz2 rfl (by decide) _ 0 [] rfl (World.ownsRow_made w #[] 0 (Nat.le_refl _) (Nat.zero_le _) rfl) ad xs.length c (cellsOf xs) rfl HL.out ?_ H1.out ?_ ?_ ?_ ?_))
    · intro j u hu
      exact (Touch.alloc (fun _ => False) w _).cell (SliceAt.cells HK.out HS.out j u hu) (fun h => h)
    · unfold maxLen; omega
    · omega
    · simp
    · intro v' w1 hown hgrow hnil
      have hown := Lib.hid hown
      have hgrow := Lib.hid hgrow
      have hnil := Lib.hid hnil
      gi_wp2_with fail
      go_ret
      have hb := sliceBlk_owns hown.out
      refine ⟨v', rfl, SliceAt.of_owns HK.out hown.out (by simp) (fun h => ?_), ?_, hb⟩
      · have := hnil.out h; exact this.elim
      · exact ((Below.refl _ _).alloc (Nat.le_refl _) _).grown hgrow.out (by simp) (fun k e => by simp [Value.ownBlock] at e; omega)

set_option maxHeartbeats 400000 in
theorem flowOf (sv : Value) (xs : List Value) (w : World) (hs : SliceAt w 9 sv xs) (hv : ∀ x ∈ xs, VOf Try.prog 35 x) (hm : xs.length * 88 ≤ 140737488355328) :
    Calls Try.prog 83 #[sv] w (fun e w' => ∃ s, e = .returned s ∧ IsSeq Try.prog xs (fun k => w.heap.size ≤ k ∧ k < w'.heap.size) w' s ∧ Below w.heap.size w w') := by
  have hc := Lib.hid (clone sv xs w hs hv hm)
  have HV := Lib.hid hv
  clear hs hv
  (refine calls_enter Try.func83 rfl ?_; simp only [Try.ntmps83, List.size_toArray, List.length_cons, List.length_nil, Nat.reduceAdd, Nat.reduceSub, Array.replicate_succ, Array.replicate_zero, List.push_toArray, List.append_toArray, List.nil_append, List.cons_append])
  have hF := isWide_wide
  have eg := (enters_of Try.func124 (by kernel_rfl) rfl)
  have eg2 := (enters_of Try.func123 (by kernel_rfl) rfl)
  gi_wp2_with ((with_reducible show wpListIn _ _ _ _ _ _ _ _); (refine wpListIn_callf hF 124 rfl rfl eg hc.out rfl ?_))
  rintro e w1 ⟨v', rfl, hs1, hb1, hblk⟩
  have HS1 := Lib.hid hs1
  have HB1 := Lib.hid hb1
  have HBLK := Lib.hid hblk
  clear hs1 hb1 hblk hc
  dsimp only [yNext]
  gi_wp2_with ((with_reducible show wpListIn _ _ _ _ _ _ _ _); (refine wpListIn_callf hF 123 rfl rfl eg2 (values v' w1) rfl ?_))
  rintro e w2 ⟨rfl, hw2⟩
  have HW2 := Lib.hid hw2
  clear hw2
  dsimp only [yNext]
  gi_wp2_with fail
  go_ret
  have hbx : BoxV w2 w1.heap.size 22 v' := by rw [HW2.out]; exact BoxV.new _ _ _
  have hsz := HB1.out.size
  have hsz2 : w2.heap.size = w1.heap.size + 1 := by rw [HW2.out]; simp
  have hsv : SliceAt w2 9 v' xs := by rw [HW2.out]; exact HS1.out.touch (Touch.alloc (fun _ => False) _ _) (fun _ _ h => h)
  refine ⟨_, rfl, ⟨_, _, rfl, enters_of Try.func142 (by kernel_rfl) rfl, (values1 _ v' xs w2 HV.out (by unfold maxLen; omega) hbx hsv).mono ?_, fun k hk => hk.2⟩, ?_⟩
  · rintro k (rfl | hk)
    · exact ⟨hsz, by omega⟩
    · have := HBLK.out k hk; exact ⟨this.1, by omega⟩
  · rw [HW2.out]; exact HB1.out.alloc hsz _

/-- Keep: the two boxes and the closure. -/
theorem keep0 (s f : Value) (w : World) : Calls Try.prog 115 #[s, f] w (fun e w' => e = .returned (.func (.func 138) #[] #[.pointer (some ⟨w.heap.size, 0, none⟩), .pointer (some ⟨w.heap.size + 1, 0, none⟩)]) ∧
    w' = (w.alloc (.cells (cv s) 108)).alloc (.cells (cv f) 110)) := by
  (refine calls_enter Try.func115 rfl ?_; simp only [Try.ntmps115, List.size_toArray, List.length_cons, List.length_nil, Nat.reduceAdd, Nat.reduceSub, Array.replicate_succ, Array.replicate_zero, List.push_toArray, List.append_toArray, List.nil_append, List.cons_append])
  have hF := isWide_wide
  gi_wp2_with ((with_reducible show wpListIn _ _ _ _ _ _ _ _); (first | (refine wpListIn_boxv (v := s) hF rfl 108 _ rfl rfl ?_) | (refine wpListIn_boxv (v := f) hF rfl 110 _ rfl rfl ?_)))
  go_ret
  exact ⟨rfl, rfl⟩

end Item
end Go.Proofs.Ytigbglagfbbmjaa
