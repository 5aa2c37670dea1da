/- Contracts of order.Map at whole numbers: New, find, Put, Get. Condition: the keys rise, and are not many. -/
import Derived.Test.YtinofjenoapeaaaGreatZ2
import Derived.Test.YtinofjenoapeaaaGreatShelf
import Derived.Lib.SlicesCompact
import Derived.Laws.CopyRow
import Derived.Lib.AppendZerosOnto
import Derived.Lib.Overlaps
import Derived.Test.YtinofjenoapeaaaGreatProg
section
namespace Go.Proofs.YtinofjenoapeaaaGreat
open Go.RowKit Go.Shelf
set_option linter.unusedSimpArgs false
set_option linter.unusedVariables false
section ops
variable {F : Fence} {m : Nat} {P : Program} {Q : Exit → Act → World → Prop} {K : Act → World → Prop} {n : Nat} {l : List (Nat × Value)} {d : List Deferred} {W0 : World} {X : Nat → Prop} {R C : List Ch} {o : Oper} {t : Nat} {v : Value}
/-- The types of slices of one-celled elements. -/
def sl1T (P : Program) (T : TypeId) : Bool := match P.underlying T with | some (.slice e) => (match P.info? e with | some i => i.size == 1 | none => false) | _ => false
theorem sl1T_spec {T : TypeId} (h : sl1T P T = true) : ∃ e i, P.underlying T = some (.slice e) ∧ P.info? e = some i ∧ i.size = 1 := by
  unfold sl1T at h
  split at h
  · rename_i e hu
    split at h
    · rename_i i hi; exact ⟨e, i, hu, hi, by simpa using h⟩
    · cases h
  · cases h
/-- copy into a part of an owned row of one-celled elements. -/
theorem on_copy (hF : IsWide F) {x y : Operand} {T T' e : TypeId} {g off dl dc sl sc rn rc : Nat} {a : Addr} {xs cs ys : List Value} {C' : List Ch} (ho : o.op = Op.call { callee := Callee.builtin Builtin.copy, args := #[x, y], argTypes := #[T, T'] }) (hd : o.dst = some t) (ht : Nat.blt t n = true)
    (hx : ev l x = some (.slice (some ⟨g, off, none⟩) dl dc)) (hy : ev l y = some (.slice (some a) sl sc)) (hT : sl1T P T = true) (hm : Turn C (RowC e 1 (.slice (some ⟨g, 0, none⟩) rn rc) xs) (RowC e 1 (.slice (some ⟨g, 0, none⟩) rn rc) ys) C') (hys : ys = putL xs cs off) (hn : cs.length = Nat.min sl dl) (hfit : off + cs.length ≤ xs.length)
    (hsrc : ∀ w, St W0 X R C w → ∀ j u, cs[j]? = some u → w.cell? (a.add j) = some u) (h1 : ∀ u ∈ cs, oneV u = true) (hx1 : ∀ u ∈ xs, oneV u = true)
    (h : Nx K n ((t, .int .i64 (cs.length : Int)) :: l) d W0 X R C') : Nx (OpN F m P o K Q) n l d W0 X R C := by
  subst hys
  have oc : ∀ u : Value, oneV u = true → cv u = #[u] ∧ u.oneCell' = true := fun u hu => by
    unfold oneV at hu
    split at hu <;> first | (cases hu; done) | exact ⟨rfl, rfl⟩
  have cells1 : ∀ zs : List Value, (∀ u ∈ zs, oneV u = true) → cellsOf zs = zs := fun zs => by
    induction zs with
    | nil => exact fun _ => rfl
    | cons z zs ih => intro hz; unfold cellsOf at ih ⊢; rw [List.map_cons, List.flatten_cons, ih (fun u hu => hz u (by simp [hu])), (oc z (hz z (by simp))).1]; rfl
  have hput : ∀ u ∈ putL xs cs off, oneV u = true := fun u hu => by
    unfold putL at hu
    rcases List.mem_append.1 hu with hu | hu
    · rcases List.mem_append.1 hu with hu | hu
      · exact hx1 u (List.mem_of_mem_take hu)
      · exact h1 u hu
    · exact hx1 u (List.mem_of_mem_drop hu)
  obtain ⟨e', i, hu, hi, hs⟩ := sl1T_spec hT
  refine on_world hF (fun c => by rw [ho]; exact (fun h => by cases h)) hd ht (ι := Unit) (fun _ => .int .i64 (cs.length : Int)) (fun _ => R) (fun _ => C') (fun A w ha hw => ?_) (fun _ => h)
  obtain ⟨O1, hrow⟩ : ∃ O, (RowC e 1 (.slice (some ⟨g, 0, none⟩) rn rc) xs).p O w := by
    obtain ⟨D, h1, h2⟩ := hm
    exact (hw.perm h1).hasC (c := RowC e 1 (.slice (some ⟨g, 0, none⟩) rn rc) xs) (by simp)
  have hrn : rn = xs.length := by obtain ⟨A', c, e1, _⟩ := RowC.sl hrow; injection e1
  have put := fun {O : Nat → Prop} {w : World} (h : (RowC e 1 (.slice (some ⟨g, 0, none⟩) rn rc) xs).p O w) => RowC.put (P := P) h (ys := putL xs cs off) (B := cs) (off := off) (by rw [hrn]; omega) (by rw [cells1 _ hput, cells1 _ hx1]) (fun y hy => by rw [(oc y (hput y hy)).1]; rfl) (putL_len hfit)
  obtain ⟨cur, hg, hfit2, hnew⟩ := put hrow
  have hrun := run_copy_row P w T T' o.type e' g off dl dc a sl sc cur e cs hu (by rw [hi]; simp [hs]) hg hn (hsrc w hw) hfit2 (fun u hu => (oc u (h1 u hu)).2)
  refine ⟨(), w.setRow g (putL cur.toList cs off).toArray, ?_, hw.turn hm (fun O hO => ?_)⟩
  · simp [execOp, ho, resolve, invoke, builtin, ha.eval hx, ha.eval hy, hrun, Sem.run_bind, Result.andThen, goInt, putL]
  · obtain ⟨cur2, hg2, _, hn2⟩ := put hO
    rw [hg] at hg2
    obtain ⟨rfl, _⟩ := Obj.cells.inj (Option.some.inj hg2)
    exact ⟨O, Touch.setRow _ _ _ ((hO.2.2.2 g).2 rfl), hn2, fun k hk => .inl hk⟩
/-- Parts of slices. -/
theorem yl_slice_l {G : World → Prop} {T : TypeId} {x lo : Operand} {g off len cap i : Nat} (ho : o.op = .slice T x (some lo) none none) (hx : ev l x = some (.slice (some ⟨g, off, none⟩) len cap)) (hl : ev l lo = some (.int .i64 (i : Int))) (hT : sl1T P T = true) (hi : i < len) (hc : len ≤ cap) : Yl P G n l d o (.slice (some ⟨g, off + i, none⟩) (len - i) (cap - i)) := ⟨(fun c => by rw [ho]; exact (fun h => by cases h)), (fun A w ha hw => by
    obtain ⟨e', inf, hu, hinf, hs⟩ := sl1T_spec hT
    have hel : P.elem T = e' := by simp [Program.elem, hu]
    have hr := run_slice_l w T (some ⟨g, off, none⟩) len cap (by rw [hel]; exact hu) .i64 (i : Int) (by omega) (by omega)
    have hr2 := run_sliceAt_slice w T (.slice (some ⟨g, off, none⟩) len cap) (some (.int .i64 (i : Int))) none none (by rw [hel]; exact hu)
    rw [hr, hel] at hr2
    have hsz : (sizeOf e').run P w = .ok 1 w := by simp [sizeOf, typeInfo, hinf, hs]
    rw [hsz] at hr2
    simp only [Result.andThen, sliced, Int.toNat_natCast, Nat.mul_one] at hr2
    rw [if_neg (by omega)] at hr2
    simp only [Option.map_some, Addr.add_mid] at hr2
    simp [execOp, ho, ha.eval hx, ha.eval hl, hr2, Sem.run_bind, Result.andThen])⟩
theorem yl_slice_h {G : World → Prop} {T : TypeId} {x hi : Operand} {a : Addr} {len cap i : Nat} (ho : o.op = .slice T x none (some hi) none) (hx : ev l x = some (.slice (some a) len cap)) (hl : ev l hi = some (.int .i64 (i : Int))) (hT : sl1T P T = true) (hc : i ≤ cap) : Yl P G n l d o (.slice (some a) i cap) := ⟨(fun c => by rw [ho]; exact (fun h => by cases h)), (fun A w ha hw => by
    obtain ⟨e', inf, hu, hinf, hs⟩ := sl1T_spec hT
    have hel : P.elem T = e' := by simp [Program.elem, hu]
    have hr := run_slice_h w T (some a) len cap (by rw [hel]; exact hu) .i64 (i : Int) (by omega) (by omega)
    have hr2 := run_sliceAt_slice w T (.slice (some a) len cap) none (some (.int .i64 (i : Int))) none (by rw [hel]; exact hu)
    rw [hr, hel] at hr2
    have hsz : (sizeOf e').run P w = .ok 1 w := by simp [sizeOf, typeInfo, hinf, hs]
    rw [hsz] at hr2
    have h0 : (some a).map (·.add (0 * 1)) = some a := by simp [Addr.add]
    simp only [Result.andThen, sliced, Int.toNat_natCast, h0, Nat.sub_zero, ite_self] at hr2
    simp [execOp, ho, ha.eval hx, ha.eval hl, hr2, Sem.run_bind, Result.andThen])⟩
end ops
namespace Rep
variable {W0 : World} {X : Nat → Prop} {R C : List Ch}
theorem mul1_ct (c : Nat) (hc : c < 18446744073709551616) : Ct Tryz.prog 99 [.int .u64 ((1 : Nat) : Int), .int .u64 (c : Int)] W0 X R C Unit (fun _ => .tuple #[.int .u64 0, .int .u64 (c : Int)]) (fun _ => R) (fun _ => C) := fun w hw => by
  refine (Tryz.bits_Mul 1 c (by decide) hc w).mono (fun e w' h => ⟨(), ?_, h.2 ▸ hw⟩)
  rw [h.1, Nat.one_mul, Nat.div_eq_of_lt hc, Nat.mod_eq_of_lt hc]; rfl
set_option maxRecDepth 100000 in
set_option maxHeartbeats 2000000 in
theorem rep_ct (s : Value) (z : Int) (c : Nat) (hs : SlC 1 s [.int .i64 z] ∈ R) (hsh : IsSl s) (hc : c ≤ 1000000) :
    Ct Tryz.prog 77 [s, .int .i64 (c : Int)] W0 X R C SV (fun v => v.1) (fun _ => R) (fun v => RowC 3 1 v.1 ((List.replicate c z).map (.int .i64)) :: C) := by
  intro w hw
  have hF := isWide_wide
  have hsl := hw.hasR hs
  obtain ⟨sa, sn, sc, rfl⟩ := hsh
  obtain ⟨_, ⟨A, c', e1, h2, h3, h4⟩, _⟩ := hsl
  obtain ⟨b, o, rfl, hrg⟩ := h4 0 _ rfl
  injection e1 with e1 e2 e3
  have e2 : sn = 1 := e2
  subst e1; subst e2
  have hsrc0 : ∀ {R' C' : List Ch}, SlC 1 (.slice (some ⟨b, o, none⟩) 1 sc) [.int .i64 z] ∈ R' → ∀ w, St W0 X R' C' w → ∀ j u, [Value.int .i64 z][j]? = some u → w.cell? ((⟨b, o, none⟩ : Addr).add j) = some u := fun hm w hw j u hj => by
    obtain ⟨_, ⟨A, c2, e1, _, _, h4⟩, _⟩ := hw.hasR hm
    injection e1 with e1 _ _
    match j, hj with
    | 0, hj =>
      obtain ⟨b', o', e, hr⟩ := h4 0 _ rfl
      rw [← e1] at e
      injection e with e; injection e with e1 e2
      subst e1; subst e2
      have := hr 0 (.int .i64 z) rfl
      simp at hj; subst hj
      simpa [Addr.add] using this
  refine calls_nx Tryz.func77 rfl Tryz.ntmps77 rfl ?_ hw
  by_cases h0 : c = 0
  · subst h0
    repeat' (first | ((first | with_reducible refine nl_op rfl ?_ | refine nd_go rfl rfl rfl ?_); intro K hK; (first | ((first | refine on_E hF rfl rfl ?_ | refine od_E rfl rfl ?_ | refine od_R rfl rfl ?_); (first | refine ⟨_, a_yl, ?_⟩ | refine ⟨_, (by first | exact yl_conv_u64 (S := 3) (T := 111) rfl rfl (by kernel_rfl) (by kernel_rfl) (by omega) | exact yl_conv_i (S := 111) (T := 3) rfl rfl (by kernel_rfl) (by kernel_rfl) (by omega)), ?_⟩)) | ((first | refine on_Ec hF rfl rfl ?_ | refine od_Ec rfl rfl ?_); refine ⟨_, _, _, a_yc, ?_, ?_⟩ <;> (intro hc; try exact a_cut hc)) | ((first | (refine od_act a_nd ?_; intro K2 hK2) | refine od_last a_nd ?_ | skip); (first | (refine on_callG hF (enters_of Tryz.func99 (by kernel_rfl) rfl) rfl rfl rfl rfl (mul1_ct 0 (by decide)) (fun _ => ?_)) | (refine on_makeSlice (e := 3) (k := 1) (by_ := 8) (z := .int .i64 0) (c := 0) hF rfl rfl rfl rfl (by kernel_rfl) Tryz.zeroValue3 (by omega) (by unfold maxLen; omega) (fun B => ?_)) | (refine on_copy (cs := []) (ys := []) hF rfl rfl rfl rfl rfl (by kernel_rfl) (by exact a_turn) rfl rfl (by simp) (fun w _ j u hj => by simp at hj) (fun u hu => by cases hu) (fun u hu => by cases hu) ?_) | (refine on_box hF rfl rfl rfl rfl (fun B => ?_)) | (refine on_store hF rfl rfl rfl rfl a_turn a_vof a_sz ?_) | (refine on_storeE hF rfl rfl rfl rfl a_turn a_om a_vof a_sz ?_) | (refine on_storeEF hF rfl rfl rfl rfl a_turn a_as (by decide) a_vof rfl ?_) | (refine on_storeF hF rfl rfl rfl rfl a_turn (by decide) a_vof rfl ?_)) <;> try (refine hK2 _ _ _ a_allK ?_; clear hK2 K2))) <;> (refine hK _ _ _ ?_; clear hK K)) | with_reducible (first | refine nx_seq ?_ | refine nx_region ?_ | refine nl_nil ?_ | refine nq_then_n ?_ | refine nx_block ?_ | refine nx_skip ?_ | refine nx_exit ?_ | refine nx_ret ?_ | refine nq_then_x ?_ | refine nq_then_r ?_ | refine nq_blk_n ?_ | refine nq_blk_r ?_ | refine nq_blk_hit ?_ | refine nq_blk_miss rfl ?_ | refine nd_nil ?_) | refine nx_cond_t rfl ?_ | refine nx_cond_f rfl ?_ | refine nl_pass hF rfl rfl rfl ?_ | refine nd_pass rfl rfl rfl rfl rfl ?_ | refine nd_pass2 rfl rfl rfl a_nd a_allK rfl rfl ?_ | refine nd_pass3 rfl rfl rfl a_nd rfl rfl ?_ | (with_reducible refine hQ1 _ _ _ ?_; clear hQ1 Q1) | (refine nd_region (id := 9) hF [0, 0, 0, 0, 0, 0, 0, 2, 0, 0] [0, 1, 2, 3, 4, 5, 6, 7, 8, 9] _ _ (by kernel_rfl) (by kernel_rfl) sub2_same ?_; intro Q1 hQ1))
    refine nx_loop (ι := Unit) (fun _ => [(7, .slice (some ⟨B, 0, none⟩) 0 0), (8, .int .i64 0)]) (fun _ => R) (fun _ => RowC 3 1 (.slice (some ⟨B, 0, none⟩) 0 0) [] :: C) (fun _ => 0) () (by exact a_sub) (by exact a_subR) (by exact a_holds) (fun i => ?_)
    repeat' (first | ((first | with_reducible refine nl_op rfl ?_ | refine nd_go rfl rfl rfl ?_); intro K hK; (first | ((first | refine on_E hF rfl rfl ?_ | refine od_E rfl rfl ?_ | refine od_R rfl rfl ?_); (first | refine ⟨_, a_yl, ?_⟩ | refine ⟨_, (by first | exact yl_conv_u64 (S := 3) (T := 111) rfl rfl (by kernel_rfl) (by kernel_rfl) (by omega) | exact yl_conv_i (S := 111) (T := 3) rfl rfl (by kernel_rfl) (by kernel_rfl) (by omega)), ?_⟩)) | ((first | refine on_Ec hF rfl rfl ?_ | refine od_Ec rfl rfl ?_); refine ⟨_, _, _, a_yc, ?_, ?_⟩ <;> (intro hc; try exact a_cut hc)) | ((first | (refine od_act a_nd ?_; intro K2 hK2) | refine od_last a_nd ?_ | skip); (first  | (refine on_box hF rfl rfl rfl rfl (fun B => ?_)) | (refine on_store hF rfl rfl rfl rfl a_turn a_vof a_sz ?_) | (refine on_storeE hF rfl rfl rfl rfl a_turn a_om a_vof a_sz ?_) | (refine on_storeEF hF rfl rfl rfl rfl a_turn a_as (by decide) a_vof rfl ?_) | (refine on_storeF hF rfl rfl rfl rfl a_turn (by decide) a_vof rfl ?_)) <;> try (refine hK2 _ _ _ a_allK ?_; clear hK2 K2))) <;> (refine hK _ _ _ ?_; clear hK K)) | with_reducible (first | refine nx_seq ?_ | refine nx_region ?_ | refine nl_nil ?_ | refine nq_then_n ?_ | refine nx_block ?_ | refine nx_skip ?_ | refine nx_exit ?_ | refine nx_ret ?_ | refine nq_then_x ?_ | refine nq_then_r ?_ | refine nq_blk_n ?_ | refine nq_blk_r ?_ | refine nq_blk_hit ?_ | refine nq_blk_miss rfl ?_ | refine nd_nil ?_) | refine nx_cond_t rfl ?_ | refine nx_cond_f rfl ?_ | refine nl_pass hF rfl rfl rfl ?_ | refine nd_pass rfl rfl rfl rfl rfl ?_ | refine nd_pass2 rfl rfl rfl a_nd a_allK rfl rfl ?_ | refine nd_pass3 rfl rfl rfl a_nd rfl rfl ?_ | (with_reducible refine hQ1 _ _ _ ?_; clear hQ1 Q1) | (refine nd_region (id := 9) hF [0, 0, 0, 0, 0, 0, 0, 2, 0, 0] [0, 1, 2, 3, 4, 5, 6, 7, 8, 9] _ _ (by kernel_rfl) (by kernel_rfl) sub2_same ?_; intro Q1 hQ1))
    refine nx_end [] rfl (⟨.slice (some ⟨B, 0, none⟩) 0 0, _, _, _, rfl⟩) (fun a w ha hw => res_tmp Tryz.results77 rfl ha) (by exact a_subR) (by exact a_holds2)
  · have hput0 : Value.int .i64 z :: List.replicate (c - 1) (Value.int .i64 0) = putL (List.replicate c (Value.int .i64 0)) [Value.int .i64 z] 0 := by
      obtain ⟨k, rfl⟩ : ∃ k, c = k + 1 := ⟨c - 1, by omega⟩
      simp [putL, List.replicate_succ]
    repeat' (first | ((first | with_reducible refine nl_op rfl ?_ | refine nd_go rfl rfl rfl ?_); intro K hK; (first | ((first | refine on_E hF rfl rfl ?_ | refine od_E rfl rfl ?_ | refine od_R rfl rfl ?_); (first | refine ⟨_, a_yl, ?_⟩ | refine ⟨_, (by first | exact yl_conv_u64 (S := 3) (T := 111) rfl rfl (by kernel_rfl) (by kernel_rfl) (by omega) | exact yl_conv_i (S := 111) (T := 3) rfl rfl (by kernel_rfl) (by kernel_rfl) (by omega)), ?_⟩)) | ((first | refine on_Ec hF rfl rfl ?_ | refine od_Ec rfl rfl ?_); refine ⟨_, _, _, a_yc, ?_, ?_⟩ <;> (intro hc; try exact a_cut hc)) | ((first | (refine od_act a_nd ?_; intro K2 hK2) | refine od_last a_nd ?_ | skip); (first | (refine on_callG hF (enters_of Tryz.func99 (by kernel_rfl) rfl) rfl rfl rfl rfl (mul1_ct c (by omega)) (fun _ => ?_)) | (refine on_makeSlice (e := 3) (k := 1) (by_ := 8) (z := .int .i64 0) (c := c) hF rfl rfl rfl rfl (by kernel_rfl) Tryz.zeroValue3 (by omega) (by unfold maxLen; omega) (fun B => ?_)) | (refine on_copy (cs := [.int .i64 z]) (ys := .int .i64 z :: List.replicate (c - 1) (.int .i64 0)) hF rfl rfl rfl rfl rfl (by kernel_rfl) (by exact a_turn) hput0 (by show 1 = min 1 c; omega) (by simp only [List.length_replicate, List.length_cons, List.length_nil]; omega) (hsrc0 hs) (fun u hu => by rw [List.mem_singleton.1 hu]; rfl) (fun u hu => by rw [List.eq_of_mem_replicate hu]; rfl) ?_) | (refine on_box hF rfl rfl rfl rfl (fun B => ?_)) | (refine on_store hF rfl rfl rfl rfl a_turn a_vof a_sz ?_) | (refine on_storeE hF rfl rfl rfl rfl a_turn a_om a_vof a_sz ?_) | (refine on_storeEF hF rfl rfl rfl rfl a_turn a_as (by decide) a_vof rfl ?_) | (refine on_storeF hF rfl rfl rfl rfl a_turn (by decide) a_vof rfl ?_)) <;> try (refine hK2 _ _ _ a_allK ?_; clear hK2 K2))) <;> (refine hK _ _ _ ?_; clear hK K)) | with_reducible (first | refine nx_seq ?_ | refine nx_region ?_ | refine nl_nil ?_ | refine nq_then_n ?_ | refine nx_block ?_ | refine nx_skip ?_ | refine nx_exit ?_ | refine nx_ret ?_ | refine nq_then_x ?_ | refine nq_then_r ?_ | refine nq_blk_n ?_ | refine nq_blk_r ?_ | refine nq_blk_hit ?_ | refine nq_blk_miss rfl ?_ | refine nd_nil ?_) | refine nx_cond_t rfl ?_ | refine nx_cond_f rfl ?_ | refine nl_pass hF rfl rfl rfl ?_ | refine nd_pass rfl rfl rfl rfl rfl ?_ | refine nd_pass2 rfl rfl rfl a_nd a_allK rfl rfl ?_ | refine nd_pass3 rfl rfl rfl a_nd rfl rfl ?_ | (with_reducible refine hQ1 _ _ _ ?_; clear hQ1 Q1) | (refine nd_region (id := 9) hF [0, 0, 0, 0, 0, 0, 0, 2, 0, 0] [0, 1, 2, 3, 4, 5, 6, 7, 8, 9] _ _ (by kernel_rfl) (by kernel_rfl) sub2_same ?_; intro Q1 hQ1))
    refine nx_loop (ι := { i : Nat // 1 ≤ i ∧ i ≤ c }) (fun i => [(7, .slice (some ⟨B, 0, none⟩) c c), (8, .int .i64 (i.1 : Int))]) (fun _ => R) (fun i => RowC 3 1 (.slice (some ⟨B, 0, none⟩) c c) (List.replicate i.1 (.int .i64 z) ++ List.replicate (c - i.1) (.int .i64 0)) :: C) (fun i => c - i.1) ⟨1, by omega, by omega⟩ (by exact a_sub) (by exact a_subR) (by exact a_holds) (fun i => ?_)
    obtain ⟨i, hi1, hi2⟩ := i
    dsimp only
    by_cases hlt : i < c
    · obtain ⟨k, hk⟩ : ∃ k, k = min i (c - i) := ⟨_, rfl⟩
      obtain ⟨xs, hxs⟩ : ∃ xs, xs = List.replicate i (Value.int .i64 z) ++ List.replicate (c - i) (Value.int .i64 0) := ⟨_, rfl⟩
      have hxl : xs.length = c := by rw [hxs]; simp; omega
      have hys : List.replicate (i + k) (Value.int .i64 z) ++ List.replicate (c - (i + k)) (Value.int .i64 0) = putL xs (List.replicate k (.int .i64 z)) (0 + i) := by
        rw [hxs, Nat.zero_add]
        unfold putL
        rw [List.take_append_of_le_length (by simp), List.take_of_length_le (by simp), List.drop_append, List.drop_of_length_le (by simp), List.length_replicate, List.length_replicate, List.nil_append, List.drop_replicate, show i + k - i = k by omega, show c - i - k = c - (i + k) by omega]
        simp
      have hx1 : ∀ u ∈ xs, oneV u = true := fun u hu => by
        rw [hxs] at hu
        rcases List.mem_append.1 hu with hu | hu <;> rw [List.eq_of_mem_replicate hu] <;> rfl
      have hsrc : ∀ w, St W0 X R (RowC 3 1 (.slice (some ⟨B, 0, none⟩) c c) xs :: C) w → ∀ j u, (List.replicate k (Value.int .i64 z))[j]? = some u → w.cell? ((⟨B, 0, none⟩ : Addr).add j) = some u := fun w hw j u hj => by
        obtain ⟨O, h⟩ := hw.hasC (c := RowC 3 1 (.slice (some ⟨B, 0, none⟩) c c) xs) (by simp)
        obtain ⟨A, c2, e1, _, _, h4⟩ := RowC.sl h
        injection e1 with e1 _ _
        have hjk : j < k := by have := (List.getElem?_eq_some_iff.1 hj).1; simpa using this
        have hxj : xs[j]? = some (.int .i64 z) := by rw [hxs, List.getElem?_append_left (by rw [List.length_replicate]; omega), List.getElem?_replicate, if_pos (by omega)]
        have hu : u = .int .i64 z := List.eq_of_mem_replicate (List.mem_of_getElem? hj)
        obtain ⟨b', o', e, hr⟩ := h4 j _ hxj
        rw [← e1] at e
        injection e with e; injection e with e1 e2
        subst e1; subst e2; subst hu
        have := hr 0 (.int .i64 z) rfl
        rw [Addr.add_mid]
        simpa using this
      rw [← hxs]
      have hlk : (List.replicate k (Value.int .i64 z)).length = k := by simp
      repeat' (first | ((first | with_reducible refine nl_op rfl ?_ | refine nd_go rfl rfl rfl ?_); intro K hK; (first | ((first | refine on_E hF rfl rfl ?_ | refine od_E rfl rfl ?_ | refine od_R rfl rfl ?_); (first | refine ⟨_, a_yl, ?_⟩ | refine ⟨_, (by first | exact yl_conv_u64 (S := 3) (T := 111) rfl rfl (by kernel_rfl) (by kernel_rfl) (by omega) | exact yl_conv_i (S := 111) (T := 3) rfl rfl (by kernel_rfl) (by kernel_rfl) (by omega)), ?_⟩)) | ((first | refine on_Ec hF rfl rfl ?_ | refine od_Ec rfl rfl ?_); refine ⟨_, _, _, a_yc, ?_, ?_⟩ <;> (intro hc; try exact a_cut hc)) | ((first | (refine od_act a_nd ?_; intro K2 hK2) | refine od_last a_nd ?_ | skip); (first | ((first | refine on_E hF rfl rfl ?_ | refine od_E rfl rfl ?_); (first | refine ⟨_, yl_slice_l (i := i) rfl rfl rfl (by kernel_rfl) (by omega) (by omega), ?_⟩ | refine ⟨_, yl_slice_h (i := i) rfl rfl rfl (by kernel_rfl) (by omega), ?_⟩)) | (refine on_copy (cs := List.replicate k (.int .i64 z)) (ys := List.replicate (i + k) (Value.int .i64 z) ++ List.replicate (c - (i + k)) (Value.int .i64 0)) (xs := xs) hF rfl rfl rfl rfl rfl (by kernel_rfl) (by exact a_turn) hys (by show _ = min i (c - i); rw [hlk]; exact hk) (by omega) hsrc (fun u hu => by rw [List.eq_of_mem_replicate hu]; rfl) hx1 ?_) | (refine on_box hF rfl rfl rfl rfl (fun B => ?_)) | (refine on_store hF rfl rfl rfl rfl a_turn a_vof a_sz ?_) | (refine on_storeE hF rfl rfl rfl rfl a_turn a_om a_vof a_sz ?_) | (refine on_storeEF hF rfl rfl rfl rfl a_turn a_as (by decide) a_vof rfl ?_) | (refine on_storeF hF rfl rfl rfl rfl a_turn (by decide) a_vof rfl ?_)) <;> try (refine hK2 _ _ _ a_allK ?_; clear hK2 K2))) <;> (refine hK _ _ _ ?_; clear hK K)) | with_reducible (first | refine nx_seq ?_ | refine nx_region ?_ | refine nl_nil ?_ | refine nq_then_n ?_ | refine nx_block ?_ | refine nx_skip ?_ | refine nx_exit ?_ | refine nx_ret ?_ | refine nq_then_x ?_ | refine nq_then_r ?_ | refine nq_blk_n ?_ | refine nq_blk_r ?_ | refine nq_blk_hit ?_ | refine nq_blk_miss rfl ?_ | refine nd_nil ?_) | refine nx_cond_t rfl ?_ | refine nx_cond_f rfl ?_ | refine nl_pass hF rfl rfl rfl ?_ | refine nd_pass rfl rfl rfl rfl rfl ?_ | refine nd_pass2 rfl rfl rfl a_nd a_allK rfl rfl ?_ | refine nd_pass3 rfl rfl rfl a_nd rfl rfl ?_ | (with_reducible refine hQ1 _ _ _ ?_; clear hQ1 Q1) | (refine nd_region (id := 9) hF [0, 0, 0, 0, 0, 0, 0, 2, 0, 0] [0, 1, 2, 3, 4, 5, 6, 7, 8, 9] [] _ (by kernel_rfl) (by kernel_rfl) (sub2_mk (fun c h => by cases h) (fun c h => h)) ?_; intro Q1 hQ1))
      rw [hlk, ← Int.natCast_add]
      refine nx_again ⟨i + k, by omega, by omega⟩ (by dsimp only; omega) (by exact a_sub) (by exact a_subR) (by exact a_holds)
    · have he : i = c := by omega
      subst he
      rw [show List.replicate i (Value.int .i64 z) ++ List.replicate (i - i) (Value.int .i64 0) = (List.replicate i z).map (Value.int .i64) by simp]
      repeat' (first | ((first | with_reducible refine nl_op rfl ?_ | refine nd_go rfl rfl rfl ?_); intro K hK; (first | ((first | refine on_E hF rfl rfl ?_ | refine od_E rfl rfl ?_ | refine od_R rfl rfl ?_); (first | refine ⟨_, a_yl, ?_⟩ | refine ⟨_, (by first | exact yl_conv_u64 (S := 3) (T := 111) rfl rfl (by kernel_rfl) (by kernel_rfl) (by omega) | exact yl_conv_i (S := 111) (T := 3) rfl rfl (by kernel_rfl) (by kernel_rfl) (by omega)), ?_⟩)) | ((first | refine on_Ec hF rfl rfl ?_ | refine od_Ec rfl rfl ?_); refine ⟨_, _, _, a_yc, ?_, ?_⟩ <;> (intro hc; try exact a_cut hc)) | ((first | (refine od_act a_nd ?_; intro K2 hK2) | refine od_last a_nd ?_ | skip); (first  | (refine on_box hF rfl rfl rfl rfl (fun B => ?_)) | (refine on_store hF rfl rfl rfl rfl a_turn a_vof a_sz ?_) | (refine on_storeE hF rfl rfl rfl rfl a_turn a_om a_vof a_sz ?_) | (refine on_storeEF hF rfl rfl rfl rfl a_turn a_as (by decide) a_vof rfl ?_) | (refine on_storeF hF rfl rfl rfl rfl a_turn (by decide) a_vof rfl ?_)) <;> try (refine hK2 _ _ _ a_allK ?_; clear hK2 K2))) <;> (refine hK _ _ _ ?_; clear hK K)) | with_reducible (first | refine nx_seq ?_ | refine nx_region ?_ | refine nl_nil ?_ | refine nq_then_n ?_ | refine nx_block ?_ | refine nx_skip ?_ | refine nx_exit ?_ | refine nx_ret ?_ | refine nq_then_x ?_ | refine nq_then_r ?_ | refine nq_blk_n ?_ | refine nq_blk_r ?_ | refine nq_blk_hit ?_ | refine nq_blk_miss rfl ?_ | refine nd_nil ?_) | refine nx_cond_t rfl ?_ | refine nx_cond_f rfl ?_ | refine nl_pass hF rfl rfl rfl ?_ | refine nd_pass rfl rfl rfl rfl rfl ?_ | refine nd_pass2 rfl rfl rfl a_nd a_allK rfl rfl ?_ | refine nd_pass3 rfl rfl rfl a_nd rfl rfl ?_ | (with_reducible refine hQ1 _ _ _ ?_; clear hQ1 Q1) | (refine nd_region (id := 9) hF [0, 0, 0, 0, 0, 0, 0, 2, 0, 0] [0, 1, 2, 3, 4, 5, 6, 7, 8, 9] _ _ (by kernel_rfl) (by kernel_rfl) sub2_same ?_; intro Q1 hQ1))
      refine nx_end [] rfl (⟨.slice (some ⟨B, 0, none⟩) i i, _, _, _, rfl⟩) (fun a w ha hw => res_tmp Tryz.results77 rfl ha) (by exact a_subR) (by exact a_holds2)
end Rep
end Go.Proofs.YtinofjenoapeaaaGreat
end
section
namespace Go.Proofs.YtinofjenoapeaaaGreat
open Go.RowKit Go.Shelf
set_option linter.unusedSimpArgs false
set_option linter.unusedVariables false
namespace Pl
open Li
variable {W0 : World} {X : Nat → Prop} {R C : List Ch}
/-- A plan as a value. -/
abbrev planV (ch sg lm : Value) (fr to : Int) : Value := .agg #[ch, sg, lm, .int .i64 fr, .int .i64 to]
theorem vofPlan {ch sg lm : Value} (h1 : IsSl ch) (h2 : IsSl sg) (h3 : IsSl lm) (fr to : Int) : VOf Tryz.prog 49 (planV ch sg lm fr to) := by
  obtain ⟨_, _, _, rfl⟩ := h1
  obtain ⟨_, _, _, rfl⟩ := h2
  obtain ⟨_, _, _, rfl⟩ := h3
  exact vofk (by kernel_rfl) rfl rfl
theorem celI (zs : List Int) : Cel 1 (zs.map (Value.int .i64)) := Cel.of (P := Tryz.prog) (T := 3) (fun y hy => by obtain ⟨i, _, rfl⟩ := List.mem_map.1 hy; exact vof1 (by kernel_rfl) rfl rfl) (by kernel_rfl)
set_option maxRecDepth 100000 in
set_option maxHeartbeats 2000000 in
theorem cover_ct (s : Value) (hs : IsSl s) (L : List It2) (hok : ∀ x ∈ L, x.ok) (x : Prt) (from_ : Int) (bp : Nat) (ch sg lm : Value) (hch : IsSl ch) (hsg : IsSl sg) (hlm : IsSl lm) (fr to : Int) (S M : List Int) (hS : S.length ≤ 1000000000) (hM : M.length ≤ 1000000000) (hsl : SlC 9 s (L.map It2.v) ∈ R) (hm : L.length ≤ 1000) :
    Ct Tryz.prog 47 [ptr bp, s, x.v, .int .i64 from_] W0 X R (BoxC bp 49 (planV ch sg lm fr to) :: RowC 3 1 sg (S.map (.int .i64)) :: RowC 3 1 lm (M.map (.int .i64)) :: C) (SV × SV) (fun _ => .bool (Re.cover L x.u from_ x.to).isSome) (fun _ => R) (fun i => BoxC bp 49 (planV ch i.1.1 i.2.1 fr to) :: RowC 3 1 i.1.1 ((S ++ (Re.cover L x.u from_ x.to).getD []).map (.int .i64)) :: RowC 3 1 i.2.1 ((M ++ List.replicate ((Re.cover L x.u from_ x.to).getD []).length x.to).map (.int .i64)) :: C) := by
  intro w hw
  have hF := isWide_wide
  have hvx := vofP x
  have hvsg : VOf Tryz.prog 25 sg := vof_slice (by kernel_rfl) hsg
  have hvlm : VOf Tryz.prog 25 lm := vof_slice (by kernel_rfl) hlm
  have hvp := vofPlan hch hsg hlm fr to
  have cc := fun (W0 : World) (X : Nat → Prop) (R C : List Ch) h => Re.cover_ct (W0 := W0) (X := X) (R := R) (C := C) s hs L hok x.u from_ x.to h (by omega)
  have hzl : ((Re.cover L x.u from_ x.to).getD []).length ≤ 1000 := by
    have h1 := Re.above_le L from_
    cases h : Re.cover L x.u from_ x.to with
    | none => simp
    | some zs => have h2 := Re.cover_len L x.u _ from_ x.to zs (Nat.le_refl _) h; simp; omega
  obtain ⟨zs, hzs⟩ : ∃ zs, (Re.cover L x.u from_ x.to).getD [] = zs := ⟨_, rfl⟩
  obtain ⟨b, hb⟩ : ∃ b, (Re.cover L x.u from_ x.to).isSome = b := ⟨_, rfl⟩
  rw [hzs, hb] at cc
  rw [hzs] at hzl
  rw [hzs, hb]
  have hcz := celI zs
  have hl1 : (S.map (Value.int .i64)).length + (zs.map (Value.int .i64)).length ≤ maxLen := by unfold maxLen; simp; omega
  have hl2 : ((S.map (Value.int .i64)).length + (zs.map (Value.int .i64)).length) * 8 ≤ 140737488355328 := by simp; omega
  clear hzs hb
  obtain ⟨cha, chn, chc, rfl⟩ := hch
  obtain ⟨sga, sgn, sgc, rfl⟩ := hsg
  obtain ⟨lma, lmn, lmc, rfl⟩ := hlm
  refine calls_nx Tryz.func47 rfl Tryz.ntmps47 rfl ?_ hw
  repeat' (first | ((first | with_reducible refine nl_op rfl ?_ | refine nd_go rfl rfl rfl ?_); intro K hK; (first | ((first | refine on_E hF rfl rfl ?_ | refine od_E rfl rfl ?_ | refine od_R rfl rfl ?_); (first | refine ⟨_, a_yl, ?_⟩ | refine ⟨_, (by first | exact yl_fieldB (T := 49) (f := 1) (q := 1) rfl rfl (by kernel_rfl) | exact yl_fieldE (T := 49) (f := 1) (j := 1) rfl rfl a_sl a_om (by kernel_rfl) | exact yl_fieldB (T := 49) (f := 2) (q := 2) rfl rfl (by kernel_rfl) | exact yl_fieldE (T := 49) (f := 2) (j := 2) rfl rfl a_sl a_om (by kernel_rfl) | exact yl_fieldB (T := 88) (f := 0) (q := 0) rfl rfl (by kernel_rfl) | exact yl_fieldE (T := 88) (f := 0) (j := 0) rfl rfl a_sl a_om (by kernel_rfl) | exact yl_fieldB (T := 88) (f := 2) (q := 2) rfl rfl (by kernel_rfl) | exact yl_fieldE (T := 88) (f := 2) (j := 2) rfl rfl a_sl a_om (by kernel_rfl)), ?_⟩)) | ((first | refine on_Ec hF rfl rfl ?_ | refine od_Ec rfl rfl ?_); refine ⟨_, _, _, a_yc, ?_, ?_⟩ <;> (intro hc; try exact a_cut hc)) | ((first | (refine od_act a_nd ?_; intro K2 hK2) | refine od_last a_nd ?_ | skip); (first | (refine on_callG hF (enters_of Tryz.func76 (by kernel_rfl) rfl) rfl rfl rfl rfl (cc _ _ _ _ (by exact a_mem)) (fun v => ?_)) | (refine on_append (e := 3) (k := 1) (by_ := 8) (xs := S.map (.int .i64)) (ys := zs.map (.int .i64)) hF rfl rfl rfl rfl rfl a_pick (by kernel_rfl) a_sl hcz hl1 hl2 (fun v1 => ?_); rw [← List.map_append]; obtain ⟨v1, v1a, v1n, v1c, rfl⟩ := v1; dsimp only) | (refine on_storeF hF rfl rfl rfl rfl a_turn (Nat.le_of_ble_eq_true rfl) a_vof rfl ?_; simp only [List.setIfInBounds_toArray, List.set_cons_succ, List.set_cons_zero]) | (refine on_buildSlice (T := 25) (e := 3) (k := 1) (by_ := 8) hF rfl rfl rfl rfl rfl rfl (by kernel_rfl) a_cel (Nat.le_of_ble_eq_true rfl) (fun b => ?_)) | (refine on_append (T := 25) (e := 3) (k := 1) (by_ := 8) hF rfl rfl rfl rfl rfl a_pick (by kernel_rfl) a_sl a_cel a_bnd a_bnd (fun v => ?_)) | (refine on_box hF rfl rfl rfl rfl (fun B => ?_)) | (refine on_store hF rfl rfl rfl rfl a_turn a_vof a_sz ?_) | (refine on_storeE hF rfl rfl rfl rfl a_turn a_om a_vof a_sz ?_) | (refine on_storeEF hF rfl rfl rfl rfl a_turn a_as (by decide) a_vof rfl ?_) | (refine on_storeF hF rfl rfl rfl rfl a_turn (by decide) a_vof rfl ?_)) <;> try (refine hK2 _ _ _ a_allK ?_; clear hK2 K2))) <;> (refine hK _ _ _ ?_; clear hK K)) | with_reducible (first | refine nx_seq ?_ | refine nx_region ?_ | refine nl_nil ?_ | refine nq_then_n ?_ | refine nx_block ?_ | refine nx_skip ?_ | refine nx_exit ?_ | refine nx_ret ?_ | refine nq_then_x ?_ | refine nq_then_r ?_ | refine nq_blk_n ?_ | refine nq_blk_r ?_ | refine nq_blk_hit ?_ | refine nq_blk_miss rfl ?_ | refine nd_nil ?_) | refine nx_cond_t rfl ?_ | refine nx_cond_f rfl ?_ | refine nl_pass hF rfl rfl rfl ?_ | refine nd_pass rfl rfl rfl rfl rfl ?_ | refine nd_pass2 rfl rfl rfl a_nd a_allK rfl rfl ?_ | refine nd_pass3 rfl rfl rfl a_nd rfl rfl ?_ | (with_reducible refine hQ1 _ _ _ ?_; clear hQ1 Q1) )
  have hcx : Cel 1 [Value.int .i64 x.to] := celI [x.to]
  have hlz : (zs.map (Value.int .i64)).length = zs.length := by simp
  have hcr := celI (List.replicate (zs.map (Value.int .i64)).length x.to)
  have hr1 : (M.map (Value.int .i64)).length + ((List.replicate (zs.map (Value.int .i64)).length x.to).map (Value.int .i64)).length ≤ maxLen := by unfold maxLen; simp; omega
  have hr2 : ((M.map (Value.int .i64)).length + ((List.replicate (zs.map (Value.int .i64)).length x.to).map (Value.int .i64)).length) * 8 ≤ 140737488355328 := by simp; omega
  repeat' (first | ((first | with_reducible refine nl_op rfl ?_ | refine nd_go rfl rfl rfl ?_); intro K hK; (first | ((first | refine on_E hF rfl rfl ?_ | refine od_E rfl rfl ?_ | refine od_R rfl rfl ?_); (first | refine ⟨_, a_yl, ?_⟩ | refine ⟨_, (by first | exact yl_fieldB (T := 49) (f := 1) (q := 1) rfl rfl (by kernel_rfl) | exact yl_fieldE (T := 49) (f := 1) (j := 1) rfl rfl a_sl a_om (by kernel_rfl) | exact yl_fieldB (T := 49) (f := 2) (q := 2) rfl rfl (by kernel_rfl) | exact yl_fieldE (T := 49) (f := 2) (j := 2) rfl rfl a_sl a_om (by kernel_rfl) | exact yl_fieldB (T := 88) (f := 0) (q := 0) rfl rfl (by kernel_rfl) | exact yl_fieldE (T := 88) (f := 0) (j := 0) rfl rfl a_sl a_om (by kernel_rfl) | exact yl_fieldB (T := 88) (f := 2) (q := 2) rfl rfl (by kernel_rfl) | exact yl_fieldE (T := 88) (f := 2) (j := 2) rfl rfl a_sl a_om (by kernel_rfl)), ?_⟩)) | ((first | refine on_Ec hF rfl rfl ?_ | refine od_Ec rfl rfl ?_); refine ⟨_, _, _, a_yc, ?_, ?_⟩ <;> (intro hc; try exact a_cut hc)) | ((first | (refine od_act a_nd ?_; intro K2 hK2) | refine od_last a_nd ?_ | skip); (first | (refine on_buildSlice (e := 3) (k := 1) (by_ := 8) hF rfl rfl rfl rfl rfl rfl (by kernel_rfl) hcx (Nat.le_of_ble_eq_true rfl) (fun bq => ?_); refine nx_frzRow Pick.here ?_) | (refine on_callG hF (enters_of Tryz.func77 (by kernel_rfl) rfl) rfl rfl rfl rfl (Rep.rep_ct _ x.to (zs.map (Value.int .i64)).length (by exact a_mem) ⟨_, _, _, rfl⟩ (by omega)) (fun rp => ?_)) | (refine on_append (e := 3) (k := 1) (by_ := 8) (xs := M.map (.int .i64)) (ys := (List.replicate (zs.map (Value.int .i64)).length x.to).map (.int .i64)) hF rfl rfl rfl rfl rfl a_pick (by kernel_rfl) a_sl hcr hr1 hr2 (fun v2 => ?_); rw [← List.map_append]; obtain ⟨v2, v2a, v2n, v2c, rfl⟩ := v2; dsimp only) | (refine on_storeF hF rfl rfl rfl rfl a_turn (Nat.le_of_ble_eq_true rfl) a_vof rfl ?_; simp only [List.setIfInBounds_toArray, List.set_cons_succ, List.set_cons_zero]) | (refine on_buildSlice (T := 25) (e := 3) (k := 1) (by_ := 8) hF rfl rfl rfl rfl rfl rfl (by kernel_rfl) a_cel (Nat.le_of_ble_eq_true rfl) (fun b => ?_)) | (refine on_append (T := 25) (e := 3) (k := 1) (by_ := 8) hF rfl rfl rfl rfl rfl a_pick (by kernel_rfl) a_sl a_cel a_bnd a_bnd (fun v => ?_)) | (refine on_box hF rfl rfl rfl rfl (fun B => ?_)) | (refine on_store hF rfl rfl rfl rfl a_turn a_vof a_sz ?_) | (refine on_storeE hF rfl rfl rfl rfl a_turn a_om a_vof a_sz ?_) | (refine on_storeEF hF rfl rfl rfl rfl a_turn a_as (by decide) a_vof rfl ?_) | (refine on_storeF hF rfl rfl rfl rfl a_turn (by decide) a_vof rfl ?_)) <;> try (refine hK2 _ _ _ a_allK ?_; clear hK2 K2))) <;> (refine hK _ _ _ ?_; clear hK K)) | with_reducible (first | refine nx_seq ?_ | refine nx_region ?_ | refine nl_nil ?_ | refine nq_then_n ?_ | refine nx_block ?_ | refine nx_skip ?_ | refine nx_exit ?_ | refine nx_ret ?_ | refine nq_then_x ?_ | refine nq_then_r ?_ | refine nq_blk_n ?_ | refine nq_blk_r ?_ | refine nq_blk_hit ?_ | refine nq_blk_miss rfl ?_ | refine nd_nil ?_) | refine nx_cond_t rfl ?_ | refine nx_cond_f rfl ?_ | refine nl_pass hF rfl rfl rfl ?_ | refine nd_pass rfl rfl rfl rfl rfl ?_ | refine nd_pass2 rfl rfl rfl a_nd a_allK rfl rfl ?_ | refine nd_pass3 rfl rfl rfl a_nd rfl rfl ?_ | (with_reducible refine hQ1 _ _ _ ?_; clear hQ1 Q1) | (refine nd_region (id := 3) hF [0, 0, 0, 0, 1, 0, 1, 2, 0, 1, 2, 2, 0, 0, 3] [0, 1, 2, 3, 4, 5, 6, 8, 9, 7, 10, 11, 12, 13, 14] [BoxC bp 49 (.agg #[.slice cha chn chc, .slice v1a v1n v1c, .slice lma lmn lmc, .int .i64 fr, .int .i64 to]), BoxC B 88 x.v, RowC 3 1 v.1 (zs.map (.int .i64))] [] (by kernel_rfl) (by kernel_rfl) (by exact a_allK) ?_; intro Q1 hQ1))
  rw [hlz]
  refine nx_end [] rfl (((⟨.slice v1a v1n v1c, _, _, _, rfl⟩, ⟨.slice v2a v2n v2c, _, _, _, rfl⟩) : SV × SV)) (fun a w ha hw => res_tmp Tryz.results47 rfl ha) (by exact a_subR) (by exact a_holds2)
end Pl
end Go.Proofs.YtinofjenoapeaaaGreat
end
section
namespace Go.Proofs.YtinofjenoapeaaaGreat
open Go.RowKit Go.Shelf
set_option linter.unusedSimpArgs false
set_option linter.unusedVariables false
namespace Chn
variable {W0 : World} {X : Nat → Prop} {R C : List Ch}
set_option maxRecDepth 100000 in
theorem backup_ct (x : It2) (hx : x.ok) : Ct Tryz.prog 74 [x.v] W0 X R C Unit (fun _ => .bool (backB x)) (fun _ => R) (fun _ => C) := by
  intro w hw
  have hF := isWide_wide
  have hi : backB x = ((decide (x.kind = 2) || decide (x.kind = 3)) && decide (x.a ≤ x.b)) := rfl
  obtain ⟨d1, kind, tl, d4, a, b, d7, d8, e⟩ := x
  obtain ⟨ea, en, ec, rfl⟩ : IsSl e := hx
  dsimp only at hi
  have hp : backB ⟨d1, kind, tl, d4, a, b, d7, d8, .slice ea en ec⟩ = decide ((kind = 2 ∨ kind = 3) ∧ a ≤ b) := by rw [hi, Bool.decide_and, Bool.decide_or]
  rw [hp]
  clear hi hp
  refine calls_nx Tryz.func74 rfl Tryz.ntmps74 rfl ?_ hw
  repeat' (first | ((first | with_reducible refine nl_op rfl ?_ | refine nd_go rfl rfl rfl ?_); intro K hK; (first | ((first | refine on_E hF rfl rfl ?_ | refine od_E rfl rfl ?_ | refine od_R rfl rfl ?_); (first | refine ⟨_, a_yl, ?_⟩ | refine ⟨_, (by first | exact yl_fieldB (T := 33) (f := 1) (q := 1) rfl rfl (by kernel_rfl) | exact yl_fieldE (T := 33) (f := 1) (j := 1) rfl rfl a_sl a_om (by kernel_rfl) | exact yl_fieldB (T := 33) (f := 4) (q := 4) rfl rfl (by kernel_rfl) | exact yl_fieldE (T := 33) (f := 4) (j := 4) rfl rfl a_sl a_om (by kernel_rfl) | exact yl_fieldB (T := 33) (f := 5) (q := 5) rfl rfl (by kernel_rfl) | exact yl_fieldE (T := 33) (f := 5) (j := 5) rfl rfl a_sl a_om (by kernel_rfl)), ?_⟩)) | ((first | refine on_Ec hF rfl rfl ?_ | refine od_Ec rfl rfl ?_); refine ⟨_, _, _, a_yc, ?_, ?_⟩ <;> (intro hc; try exact a_cut hc)) | ((first | (refine od_act a_nd ?_; intro K2 hK2) | refine od_last a_nd ?_ | skip); (first  | (refine on_box hF rfl rfl rfl rfl (fun B => ?_)) | (refine on_store hF rfl rfl rfl rfl a_turn a_vof a_sz ?_) | (refine on_storeE hF rfl rfl rfl rfl a_turn a_om a_vof a_sz ?_) | (refine on_storeEF hF rfl rfl rfl rfl a_turn a_as (by decide) a_vof rfl ?_) | (refine on_storeF hF rfl rfl rfl rfl a_turn (by decide) a_vof rfl ?_)) <;> try (refine hK2 _ _ _ a_allK ?_; clear hK2 K2))) <;> (refine hK _ _ _ ?_; clear hK K)) | with_reducible (first | refine nx_seq ?_ | refine nx_region ?_ | refine nl_nil ?_ | refine nq_then_n ?_ | refine nx_block ?_ | refine nx_skip ?_ | refine nx_exit ?_ | refine nx_ret ?_ | refine nq_then_x ?_ | refine nq_then_r ?_ | refine nq_blk_n ?_ | refine nq_blk_r ?_ | refine nq_blk_hit ?_ | refine nq_blk_miss rfl ?_ | refine nd_nil ?_) | refine nx_cond_t rfl ?_ | refine nx_cond_f rfl ?_ | refine nl_pass hF rfl rfl rfl ?_ | refine nd_pass rfl rfl rfl rfl rfl ?_ | refine nd_pass2 rfl rfl rfl a_nd a_allK rfl rfl ?_ | refine nd_pass3 rfl rfl rfl a_nd rfl rfl ?_ | (with_reducible refine hQ1 _ _ _ ?_; clear hQ1 Q1) )
  all_goals (try dsimp only at *)
  all_goals (first
    | (rw [decide_eq_true (show (kind = 2 ∨ kind = 3) ∧ a ≤ b by omega)]; refine nx_end [] rfl () (fun a w ha hw => res_tmp Tryz.results74 rfl ha) (by exact a_subR) (by exact a_holds2))
    | (rw [decide_eq_false (show ¬ ((kind = 2 ∨ kind = 3) ∧ a ≤ b) by omega)]; refine nx_end [] rfl () (fun a w ha hw => res_tmp Tryz.results74 rfl ha) (by exact a_subR) (by exact a_holds2)))
set_option maxRecDepth 100000 in
theorem better_ct (x y : It2) (hx : x.ok) (hy : y.ok) : Ct Tryz.prog 70 [x.v, y.v] W0 X R C Unit (fun _ => .bool (betterB x y)) (fun _ => R) (fun _ => C) := by
  intro w hw
  have hF := isWide_wide
  have hi : betterB x y = decide (x.a > y.a ∨ (x.a = y.a ∧ x.id > y.id)) := by unfold betterB; rw [Bool.decide_or, Bool.decide_and]
  rw [hi]
  clear hi
  obtain ⟨i1, kind, tl, d4, a, b, d7, d8, e⟩ := x
  obtain ⟨ea, en, ec, rfl⟩ : IsSl e := hx
  obtain ⟨i2, kind2, tl2, d42, a2, b2, d72, d82, e2⟩ := y
  obtain ⟨ea2, en2, ec2, rfl⟩ : IsSl e2 := hy
  dsimp only
  refine calls_nx Tryz.func70 rfl Tryz.ntmps70 rfl ?_ hw
  repeat' (first | ((first | with_reducible refine nl_op rfl ?_ | refine nd_go rfl rfl rfl ?_); intro K hK; (first | ((first | refine on_E hF rfl rfl ?_ | refine od_E rfl rfl ?_ | refine od_R rfl rfl ?_); (first | refine ⟨_, a_yl, ?_⟩ | refine ⟨_, (by first | exact yl_fieldB (T := 33) (f := 0) (q := 0) rfl rfl (by kernel_rfl) | exact yl_fieldE (T := 33) (f := 0) (j := 0) rfl rfl a_sl a_om (by kernel_rfl) | exact yl_fieldB (T := 33) (f := 4) (q := 4) rfl rfl (by kernel_rfl) | exact yl_fieldE (T := 33) (f := 4) (j := 4) rfl rfl a_sl a_om (by kernel_rfl)), ?_⟩)) | ((first | refine on_Ec hF rfl rfl ?_ | refine od_Ec rfl rfl ?_); refine ⟨_, _, _, a_yc, ?_, ?_⟩ <;> (intro hc; try exact a_cut hc)) | ((first | (refine od_act a_nd ?_; intro K2 hK2) | refine od_last a_nd ?_ | skip); (first  | (refine on_box hF rfl rfl rfl rfl (fun B => ?_)) | (refine on_store hF rfl rfl rfl rfl a_turn a_vof a_sz ?_) | (refine on_storeE hF rfl rfl rfl rfl a_turn a_om a_vof a_sz ?_) | (refine on_storeEF hF rfl rfl rfl rfl a_turn a_as (by decide) a_vof rfl ?_) | (refine on_storeF hF rfl rfl rfl rfl a_turn (by decide) a_vof rfl ?_)) <;> try (refine hK2 _ _ _ a_allK ?_; clear hK2 K2))) <;> (refine hK _ _ _ ?_; clear hK K)) | with_reducible (first | refine nx_seq ?_ | refine nx_region ?_ | refine nl_nil ?_ | refine nq_then_n ?_ | refine nx_block ?_ | refine nx_skip ?_ | refine nx_exit ?_ | refine nx_ret ?_ | refine nq_then_x ?_ | refine nq_then_r ?_ | refine nq_blk_n ?_ | refine nq_blk_r ?_ | refine nq_blk_hit ?_ | refine nq_blk_miss rfl ?_ | refine nd_nil ?_) | refine nx_cond_t rfl ?_ | refine nx_cond_f rfl ?_ | refine nl_pass hF rfl rfl rfl ?_ | refine nd_pass rfl rfl rfl rfl rfl ?_ | refine nd_pass2 rfl rfl rfl a_nd a_allK rfl rfl ?_ | refine nd_pass3 rfl rfl rfl a_nd rfl rfl ?_ | (with_reducible refine hQ1 _ _ _ ?_; clear hQ1 Q1) )
  all_goals (try dsimp only at *)
  all_goals (first
    | (rw [decide_eq_true (show a > a2 ∨ (a = a2 ∧ i1 > i2) by omega)]; refine nx_end [] rfl () (fun a w ha hw => res_tmp Tryz.results70 rfl ha) (by exact a_subR) (by exact a_holds2))
    | (rw [decide_eq_false (show ¬ (a > a2 ∨ (a = a2 ∧ i1 > i2)) by omega)]; refine nx_end [] rfl () (fun a w ha hw => res_tmp Tryz.results70 rfl ha) (by exact a_subR) (by exact a_holds2)))
set_option maxRecDepth 100000 in
theorem of11_ct (x : It2) (hx : x.ok) (b : Nat) (id : Int) (hb : BoxC b 3 (.int .i64 id) ∈ R) : Ct Tryz.prog 73 [x.v, ptr b] W0 X R C Unit (fun _ => .bool (decide (x.id = id))) (fun _ => R) (fun _ => C) := by
  intro w hw
  have hF := isWide_wide
  obtain ⟨i1, kind, tl, d4, d5, d6, d7, d8, e⟩ := x
  obtain ⟨ea, en, ec, rfl⟩ : IsSl e := hx
  dsimp only
  refine calls_nx Tryz.func73 rfl Tryz.ntmps73 rfl ?_ hw
  repeat' (first | ((first | with_reducible refine nl_op rfl ?_ | refine nd_go rfl rfl rfl ?_); intro K hK; (first | ((first | refine on_E hF rfl rfl ?_ | refine od_E rfl rfl ?_ | refine od_R rfl rfl ?_); (first | refine ⟨_, a_yl, ?_⟩ | refine ⟨_, (by first | exact yl_fieldB (T := 33) (f := 0) (q := 0) rfl rfl (by kernel_rfl) | exact yl_fieldE (T := 33) (f := 0) (j := 0) rfl rfl a_sl a_om (by kernel_rfl)), ?_⟩)) | ((first | refine on_Ec hF rfl rfl ?_ | refine od_Ec rfl rfl ?_); refine ⟨_, _, _, a_yc, ?_, ?_⟩ <;> (intro hc; try exact a_cut hc)) | ((first | (refine od_act a_nd ?_; intro K2 hK2) | refine od_last a_nd ?_ | skip); (first  | (refine on_box hF rfl rfl rfl rfl (fun B => ?_)) | (refine on_store hF rfl rfl rfl rfl a_turn a_vof a_sz ?_) | (refine on_storeE hF rfl rfl rfl rfl a_turn a_om a_vof a_sz ?_) | (refine on_storeEF hF rfl rfl rfl rfl a_turn a_as (by decide) a_vof rfl ?_) | (refine on_storeF hF rfl rfl rfl rfl a_turn (by decide) a_vof rfl ?_)) <;> try (refine hK2 _ _ _ a_allK ?_; clear hK2 K2))) <;> (refine hK _ _ _ ?_; clear hK K)) | with_reducible (first | refine nx_seq ?_ | refine nx_region ?_ | refine nl_nil ?_ | refine nq_then_n ?_ | refine nx_block ?_ | refine nx_skip ?_ | refine nx_exit ?_ | refine nx_ret ?_ | refine nq_then_x ?_ | refine nq_then_r ?_ | refine nq_blk_n ?_ | refine nq_blk_r ?_ | refine nq_blk_hit ?_ | refine nq_blk_miss rfl ?_ | refine nd_nil ?_) | refine nx_cond_t rfl ?_ | refine nx_cond_f rfl ?_ | refine nl_pass hF rfl rfl rfl ?_ | refine nd_pass rfl rfl rfl rfl rfl ?_ | refine nd_pass2 rfl rfl rfl a_nd a_allK rfl rfl ?_ | refine nd_pass3 rfl rfl rfl a_nd rfl rfl ?_ | (with_reducible refine hQ1 _ _ _ ?_; clear hQ1 Q1) )
  · rw [decide_eq_true hc]
    refine nx_end [] rfl () (fun a w ha hw => res_tmp Tryz.results73 rfl ha) (by exact a_subR) (by exact a_holds2)
  · rw [decide_eq_false hc]
    refine nx_end [] rfl () (fun a w ha hw => res_tmp Tryz.results73 rfl ha) (by exact a_subR) (by exact a_holds2)
theorem of11_pred (L : List It2) (hok : ∀ x ∈ L, x.ok) (b : Nat) (id : Int) : PredS Tryz.prog (L.map It2.v) (fun v => decide ((toIt2 v).id = id)) (.func (.func 73) #[] #[ptr b]) [BoxC b 3 (.int .i64 id)] := ⟨73, [ptr b], rfl, (enters_of Tryz.func73 (by kernel_rfl) rfl), fun W0 X R C hR x hx => by
  obtain ⟨y, hy, rfl⟩ := List.mem_map.1 hx
  exact of11_ct y (hok y hy) b id (hR _ (by simp))⟩
theorem atX_ok {L : List It2} (hok : ∀ x ∈ L, x.ok) (id : Int) : (atX L id).ok := by
  unfold atX
  cases h : byId L id with
  | none => exact zIt2_ok
  | some x => exact hok x (List.mem_of_find?_eq_some h)
theorem findId_ct (s f : Value) (L : List It2) (hok : ∀ x ∈ L, x.ok) (id : Int) (RS RF : List Ch) (hs : ItN Tryz.prog (L.map It2.v) s RS) (hf : PredN Tryz.prog (L.map It2.v) (fun v => decide ((toIt2 v).id = id)) f RF) (hR1 : ∀ r ∈ RS, r ∈ R) (hR2 : ∀ r ∈ RF, r ∈ R) :
    Ct Tryz.prog 72 [s, f] W0 X R C Unit (fun _ => .tuple #[(atX L id).v, .bool (byId L id).isSome]) (fun _ => R) (fun _ => C) := by
  have h := NItem.find_ct (W0 := W0) (X := X) (R := R) (C := C) s f (L.map It2.v) _ RS RF hs hf (vofs_it2 L hok) hR1 hR2
  rw [show (L.map It2.v).find? (fun v => decide ((toIt2 v).id = id)) = (byId L id).map It2.v from find_it2 L (fun x => decide (x.id = id))] at h
  unfold atX
  cases hl : byId L id with
  | none => rw [hl] at h; exact h
  | some x => rw [hl] at h; exact h
set_option maxRecDepth 100000 in
set_option maxHeartbeats 1000000 in
/-- An item by its Id. -/
theorem of1_ct (s : Value) (hs : IsSl s) (L : List It2) (hok : ∀ x ∈ L, x.ok) (id : Int) (bl : Nat) (hbl : BoxC bl 22 s ∈ R) (hsl : SlC 9 s (L.map It2.v) ∈ R) (hm : L.length * 88 ≤ 140737488355328) :
    Ct Tryz.prog 71 [.int .i64 id, ptr bl] W0 X R C Unit (fun _ => .tuple #[(atX L id).v, .bool (atOk L id)]) (fun _ => R) (fun _ => C) := by
  intro w hw
  have hF := isWide_wide
  have hvs : VOf Tryz.prog 22 s := vof_slice (by kernel_rfl) hs
  have hml : (L.map It2.v).length * 88 ≤ 140737488355328 := by simpa using hm
  have hmx : (L.map It2.v).length ≤ maxLen := by unfold maxLen; simp; omega
  have hao := atX_ok hok id
  have hvy := (atX L id).vof hao
  have fd := fun (W0 : World) (X : Nat → Prop) (R C : List Ch) s f RS RF => findId_ct (W0 := W0) (X := X) (R := R) (C := C) s f L hok id RS RF
  have bk := fun (W0 : World) (X : Nat → Prop) (R C : List Ch) => backup_ct (W0 := W0) (X := X) (R := R) (C := C) (atX L id) hao
  have hat : atOk L id = ((byId L id).isSome && backB (atX L id)) := rfl
  rw [hat]
  obtain ⟨y, hy⟩ : ∃ y, atX L id = y := ⟨_, rfl⟩
  obtain ⟨z, hz⟩ : ∃ z, (byId L id).isSome = z := ⟨_, rfl⟩
  obtain ⟨q, hq⟩ : ∃ q, backB y = q := ⟨_, rfl⟩
  rw [hy, hz] at fd
  rw [hy, hq] at bk
  rw [hy] at hvy
  rw [hy, hz, hq]
  clear hat hao
  refine calls_nx Tryz.func71 rfl Tryz.ntmps71 rfl ?_ hw
  repeat' (first | ((first | with_reducible refine nl_op rfl ?_ | refine nd_go rfl rfl rfl ?_); intro K hK; (first | ((first | refine on_E hF rfl rfl ?_ | refine od_E rfl rfl ?_ | refine od_R rfl rfl ?_); (first | refine ⟨_, a_yl, ?_⟩)) | ((first | refine on_Ec hF rfl rfl ?_ | refine od_Ec rfl rfl ?_); refine ⟨_, _, _, a_yc, ?_, ?_⟩ <;> (intro hc; try exact a_cut hc)) | ((first | (refine od_act a_nd ?_; intro K2 hK2) | refine od_last a_nd ?_ | skip); (first | (refine on_alloc hF rfl Tryz.zeroValue33 rfl rfl (fun B => ?_)) | (refine on_box hF rfl rfl rfl rfl (fun B => ?_)) | (refine on_store hF rfl rfl rfl rfl a_turn a_vof a_sz ?_) | (refine on_storeE hF rfl rfl rfl rfl a_turn a_om a_vof a_sz ?_) | (refine on_storeEF hF rfl rfl rfl rfl a_turn a_as (by decide) a_vof rfl ?_) | (refine on_storeF hF rfl rfl rfl rfl a_turn (by decide) a_vof rfl ?_)) <;> try (refine hK2 _ _ _ a_allK ?_; clear hK2 K2))) <;> (refine hK _ _ _ ?_; clear hK K)) | with_reducible (first | refine nx_seq ?_ | refine nx_region ?_ | refine nl_nil ?_ | refine nq_then_n ?_ | refine nx_block ?_ | refine nx_skip ?_ | refine nx_exit ?_ | refine nx_ret ?_ | refine nq_then_x ?_ | refine nq_then_r ?_ | refine nq_blk_n ?_ | refine nq_blk_r ?_ | refine nq_blk_hit ?_ | refine nq_blk_miss rfl ?_ | refine nd_nil ?_) | refine nx_cond_t rfl ?_ | refine nx_cond_f rfl ?_ | refine nl_pass hF rfl rfl rfl ?_ | refine nd_pass rfl rfl rfl rfl rfl ?_ | refine nd_pass2 rfl rfl rfl a_nd a_allK rfl rfl ?_ | refine nd_pass3 rfl rfl rfl a_nd rfl rfl ?_ | (with_reducible refine hQ1 _ _ _ ?_; clear hQ1 Q1) | (refine nd_region (id := 2) hF [1, 0, 0, 1, 2, 0, 2, 0] [0, 1, 2, 3, 4, 5, 6, 7] _ _ (by kernel_rfl) (by kernel_rfl) sub2_same ?_; intro Q1 hQ1))
  rename_i b2
  obtain ⟨b3, hb3⟩ : ∃ b3, b3 = B := ⟨_, rfl⟩
  subst hb3
  refine nx_frz (BoxC b2 3 (.int .i64 id)) (by exact a_pick) ?_
  cases z with
  | true =>
    repeat' (first | ((first | with_reducible refine nl_op rfl ?_ | refine nd_go rfl rfl rfl ?_); intro K hK; (first | ((first | refine on_E hF rfl rfl ?_ | refine od_E rfl rfl ?_ | refine od_R rfl rfl ?_); (first | refine ⟨_, a_yl, ?_⟩)) | ((first | refine on_Ec hF rfl rfl ?_ | refine od_Ec rfl rfl ?_); refine ⟨_, _, _, a_yc, ?_, ?_⟩ <;> (intro hc; try exact a_cut hc)) | ((first | (refine od_act a_nd ?_; intro K2 hK2) | refine od_last a_nd ?_ | skip); (first | (refine on_callG hF (enters_of Tryz.func15 (by kernel_rfl) rfl) rfl rfl rfl rfl (NItem.of_ct s (L.map It2.v) (by exact a_mem) hs (vofs_it2 L hok) hml) (fun j => ?_)) | (refine on_callG hF (enters_of Tryz.func72 (by kernel_rfl) rfl) rfl rfl rfl rfl (fd _ _ _ _ _ _ _ _ (NItem.of_it j _ (vofs_it2 L hok) hmx).n (of11_pred L hok b2 id).n (by exact a_subR) (by exact a_subR)) (fun _ => ?_)) | (refine on_callG hF (enters_of Tryz.func74 (by kernel_rfl) rfl) rfl rfl rfl rfl (bk _ _ _ _) (fun _ => ?_)) | (refine on_alloc hF rfl Tryz.zeroValue33 rfl rfl (fun B => ?_)) | (refine on_box hF rfl rfl rfl rfl (fun B => ?_)) | (refine on_store hF rfl rfl rfl rfl a_turn a_vof a_sz ?_) | (refine on_storeE hF rfl rfl rfl rfl a_turn a_om a_vof a_sz ?_) | (refine on_storeEF hF rfl rfl rfl rfl a_turn a_as (by decide) a_vof rfl ?_) | (refine on_storeF hF rfl rfl rfl rfl a_turn (by decide) a_vof rfl ?_)) <;> try (refine hK2 _ _ _ a_allK ?_; clear hK2 K2))) <;> (refine hK _ _ _ ?_; clear hK K)) | with_reducible (first | refine nx_seq ?_ | refine nx_region ?_ | refine nl_nil ?_ | refine nq_then_n ?_ | refine nx_block ?_ | refine nx_skip ?_ | refine nx_exit ?_ | refine nx_ret ?_ | refine nq_then_x ?_ | refine nq_then_r ?_ | refine nq_blk_n ?_ | refine nq_blk_r ?_ | refine nq_blk_hit ?_ | refine nq_blk_miss rfl ?_ | refine nd_nil ?_) | refine nx_cond_t rfl ?_ | refine nx_cond_f rfl ?_ | refine nl_pass hF rfl rfl rfl ?_ | refine nd_pass rfl rfl rfl rfl rfl ?_ | refine nd_pass2 rfl rfl rfl a_nd a_allK rfl rfl ?_ | refine nd_pass3 rfl rfl rfl a_nd rfl rfl ?_ | (with_reducible refine hQ1 _ _ _ ?_; clear hQ1 Q1) | (refine nd_region (id := 2) hF [1, 0, 0, 1, 2, 0, 2, 0] [0, 1, 2, 3, 4, 5, 6, 7] [BoxC B 33 y.v] [] (by kernel_rfl) (by kernel_rfl) (by exact a_allK) ?_; intro Q1 hQ1))
    refine nx_endc [] (BoxC b3 33 y.v :: C) rfl () (fun a w ha hw => res_cell_tmp (T' := 33) Tryz.results71 rfl rfl (by exact a_mem) hvy ha hw) (by exact a_subR) (by exact a_holds2) (by exact a_holds2)
  | false =>
    repeat' (first | ((first | with_reducible refine nl_op rfl ?_ | refine nd_go rfl rfl rfl ?_); intro K hK; (first | ((first | refine on_E hF rfl rfl ?_ | refine od_E rfl rfl ?_ | refine od_R rfl rfl ?_); (first | refine ⟨_, a_yl, ?_⟩)) | ((first | refine on_Ec hF rfl rfl ?_ | refine od_Ec rfl rfl ?_); refine ⟨_, _, _, a_yc, ?_, ?_⟩ <;> (intro hc; try exact a_cut hc)) | ((first | (refine od_act a_nd ?_; intro K2 hK2) | refine od_last a_nd ?_ | skip); (first | (refine on_callG hF (enters_of Tryz.func15 (by kernel_rfl) rfl) rfl rfl rfl rfl (NItem.of_ct s (L.map It2.v) (by exact a_mem) hs (vofs_it2 L hok) hml) (fun j => ?_)) | (refine on_callG hF (enters_of Tryz.func72 (by kernel_rfl) rfl) rfl rfl rfl rfl (fd _ _ _ _ _ _ _ _ (NItem.of_it j _ (vofs_it2 L hok) hmx).n (of11_pred L hok b2 id).n (by exact a_subR) (by exact a_subR)) (fun _ => ?_)) | (refine on_callG hF (enters_of Tryz.func74 (by kernel_rfl) rfl) rfl rfl rfl rfl (bk _ _ _ _) (fun _ => ?_)) | (refine on_alloc hF rfl Tryz.zeroValue33 rfl rfl (fun B => ?_)) | (refine on_box hF rfl rfl rfl rfl (fun B => ?_)) | (refine on_store hF rfl rfl rfl rfl a_turn a_vof a_sz ?_) | (refine on_storeE hF rfl rfl rfl rfl a_turn a_om a_vof a_sz ?_) | (refine on_storeEF hF rfl rfl rfl rfl a_turn a_as (by decide) a_vof rfl ?_) | (refine on_storeF hF rfl rfl rfl rfl a_turn (by decide) a_vof rfl ?_)) <;> try (refine hK2 _ _ _ a_allK ?_; clear hK2 K2))) <;> (refine hK _ _ _ ?_; clear hK K)) | with_reducible (first | refine nx_seq ?_ | refine nx_region ?_ | refine nl_nil ?_ | refine nq_then_n ?_ | refine nx_block ?_ | refine nx_skip ?_ | refine nx_exit ?_ | refine nx_ret ?_ | refine nq_then_x ?_ | refine nq_then_r ?_ | refine nq_blk_n ?_ | refine nq_blk_r ?_ | refine nq_blk_hit ?_ | refine nq_blk_miss rfl ?_ | refine nd_nil ?_) | refine nx_cond_t rfl ?_ | refine nx_cond_f rfl ?_ | refine nl_pass hF rfl rfl rfl ?_ | refine nd_pass rfl rfl rfl rfl rfl ?_ | refine nd_pass2 rfl rfl rfl a_nd a_allK rfl rfl ?_ | refine nd_pass3 rfl rfl rfl a_nd rfl rfl ?_ | (with_reducible refine hQ1 _ _ _ ?_; clear hQ1 Q1) | (refine nd_region (id := 2) hF [1, 0, 0, 1, 2, 0, 2, 0] [0, 1, 2, 3, 4, 5, 6, 7] [BoxC B 33 y.v] [] (by kernel_rfl) (by kernel_rfl) (by exact a_allK) ?_; intro Q1 hQ1))
    refine nx_endc [] (BoxC b3 33 y.v :: C) rfl () (fun a w ha hw => res_cell_tmp (T' := 33) Tryz.results71 rfl rfl (by exact a_mem) hvy ha hw) (by exact a_subR) (by exact a_holds2) (by exact a_holds2)
/-- A list whose first and last i were turned. -/
def revI (zs : List Int) (i : Nat) : List Int := (List.range zs.length).map fun j => if j < i ∨ zs.length ≤ j + i then zs[zs.length - 1 - j]! else zs[j]!
theorem revI_len (zs : List Int) (i : Nat) : (revI zs i).length = zs.length := by simp [revI]
theorem revI_at (zs : List Int) (i j : Nat) (h : j < zs.length) : (revI zs i)[j]? = some (if j < i ∨ zs.length ≤ j + i then zs[zs.length - 1 - j]! else zs[j]!) := by
  unfold revI; rw [List.getElem?_map, List.getElem?_range h]; rfl
theorem get_bang (zs : List Int) (j : Nat) (h : j < zs.length) : zs[j]? = some zs[j]! := by simp [h]
theorem revI_zero (zs : List Int) : revI zs 0 = zs := by
  apply List.ext_getElem?
  intro j
  by_cases h : j < zs.length
  · rw [revI_at zs 0 j h, if_neg (by omega), get_bang zs j h]
  · rw [List.getElem?_eq_none (by rw [revI_len]; omega), List.getElem?_eq_none (by omega)]
theorem revI_end (zs : List Int) (i : Nat) (h : zs.length ≤ 2 * i + 1) : revI zs i = zs.reverse := by
  apply List.ext_getElem?
  intro j
  by_cases hj : j < zs.length
  · rw [revI_at zs i j hj, List.getElem?_reverse hj, get_bang zs _ (by omega)]
    by_cases hc : j < i ∨ zs.length ≤ j + i
    · rw [if_pos hc]
    · rw [if_neg hc, show zs.length - 1 - j = j by omega]
  · rw [List.getElem?_eq_none (by rw [revI_len]; omega), List.getElem?_eq_none (by simp; omega)]
theorem revI_step (zs : List Int) (i : Nat) (h : 2 * i + 1 < zs.length) : ((revI zs i).set i zs[zs.length - 1 - i]!).set (zs.length - 1 - i) zs[i]! = revI zs (i + 1) := by
  apply List.ext_getElem?
  intro j
  by_cases hj : j < zs.length
  · rw [List.getElem?_set, List.getElem?_set, revI_at zs (i + 1) j hj, revI_at zs i j hj]
    simp only [List.length_set, revI_len]
    by_cases h1 : zs.length - 1 - i = j
    · subst h1
      rw [if_pos rfl, if_pos (by omega), if_pos (by omega)]
      congr 2; omega
    · rw [if_neg h1]
      by_cases h2 : i = j
      · subst h2
        rw [if_pos rfl, if_pos (by omega), if_pos (by omega)]
      · rw [if_neg h2]
        by_cases h3 : j < i ∨ zs.length ≤ j + i
        · rw [if_pos h3, if_pos (by omega)]
        · rw [if_neg h3, if_neg (by omega)]
  · rw [List.getElem?_eq_none (by simp [revI_len]; omega), List.getElem?_eq_none (by rw [revI_len]; omega)]
/-- An element's place, in any state. -/
theorem run_idx {P : Program} {T k n c i g o : Nat} (hT : slT P T k = true) (hi : i < n) (w : World) : (Instr.indexAt T (.slice (some ⟨g, o, none⟩) n c) (.int .i64 (i : Int))).run P w = .ok (elemP (.slice (some ⟨g, o, none⟩) n c) k i) w := by
  unfold slT at hT
  split at hT
  · rename_i e hu
    split at hT
    · rename_i info hinfo
      simp at hT
      have hsz : (sizeOf e).run P w = .ok k w := by simp [sizeOf, typeInfo, hinfo, hT]
      have hi0 : (i : Int) < n := by omega
      simp only [Instr.indexAt, asIntOf, Sem.run_bind, run_underlying hu, Result.andThen, Sem.run_pure]
      simp [Sem.run_bind, hsz, hi, elemP, Addr.add_mid, Result.andThen]
    · cases hT
  · cases hT
theorem run_idx_z {P : Program} {T k n c g o : Nat} {z : Int} (hT : slT P T k = true) (h0 : 0 ≤ z) (hi : z < n) (w : World) : (Instr.indexAt T (.slice (some ⟨g, o, none⟩) n c) (.int .i64 z)).run P w = .ok (elemP (.slice (some ⟨g, o, none⟩) n c) k z.toNat) w := by
  have h := run_idx (c := c) (g := g) (o := o) (i := z.toNat) hT (show z.toNat < n by omega) w
  rwa [Int.toNat_of_nonneg h0] at h
set_option maxRecDepth 100000 in
set_option maxHeartbeats 1000000 in
/-- slices.Reverse of an owned row. -/
theorem rev_ct (v : Value) (hv : IsSl v) (zs : List Int) (hm : zs.length ≤ 4611686018427387903) : Ct Tryz.prog 75 [v] W0 X R (RowC 3 1 v (zs.map (.int .i64)) :: C) Unit (fun _ => .tuple #[]) (fun _ => R) (fun _ => RowC 3 1 v (zs.reverse.map (.int .i64)) :: C) := by
  intro w hw
  have hF := isWide_wide
  have hlz : (zs.map (Value.int .i64)).length = zs.length := by simp
  by_cases h00 : zs.length = 0
  · obtain rfl : zs = [] := List.eq_nil_of_length_eq_zero h00
    simp only [List.map_nil, List.reverse_nil]
    simp only [List.map_nil] at hw
    refine calls_nx Tryz.func75 rfl Tryz.ntmps75 rfl ?_ hw
    repeat' (first | ((first | with_reducible refine nl_op rfl ?_ | refine nd_go rfl rfl rfl ?_); intro K hK; (first | ((first | refine on_E hF rfl rfl ?_ | refine od_E rfl rfl ?_ | refine od_R rfl rfl ?_); (first | refine ⟨_, a_yl, ?_⟩)) | ((first | refine on_Ec hF rfl rfl ?_ | refine od_Ec rfl rfl ?_); refine ⟨_, _, _, a_yc, ?_, ?_⟩ <;> (intro hc; try exact a_cut hc)) | ((first | (refine od_act a_nd ?_; intro K2 hK2) | refine od_last a_nd ?_ | skip); (first  | (refine on_box hF rfl rfl rfl rfl (fun B => ?_)) | (refine on_store hF rfl rfl rfl rfl a_turn a_vof a_sz ?_) | (refine on_storeE hF rfl rfl rfl rfl a_turn a_om a_vof a_sz ?_) | (refine on_storeEF hF rfl rfl rfl rfl a_turn a_as (by decide) a_vof rfl ?_) | (refine on_storeF hF rfl rfl rfl rfl a_turn (by decide) a_vof rfl ?_)) <;> try (refine hK2 _ _ _ a_allK ?_; clear hK2 K2))) <;> (refine hK _ _ _ ?_; clear hK K)) | with_reducible (first | refine nx_seq ?_ | refine nx_region ?_ | refine nl_nil ?_ | refine nq_then_n ?_ | refine nx_block ?_ | refine nx_skip ?_ | refine nx_exit ?_ | refine nx_ret ?_ | refine nq_then_x ?_ | refine nq_then_r ?_ | refine nq_blk_n ?_ | refine nq_blk_r ?_ | refine nq_blk_hit ?_ | refine nq_blk_miss rfl ?_ | refine nd_nil ?_) | refine nx_cond_t rfl ?_ | refine nx_cond_f rfl ?_ | refine nl_pass hF rfl rfl rfl ?_ | refine nd_pass rfl rfl rfl rfl rfl ?_ | refine nd_pass2 rfl rfl rfl a_nd a_allK rfl rfl ?_ | refine nd_pass3 rfl rfl rfl a_nd rfl rfl ?_ | (with_reducible refine hQ1 _ _ _ ?_; clear hQ1 Q1) | (refine nd_region (id := 3) hF [0, 0, 0, 0, 0, 0, 1, 1, 0, 0, 1, 1, 1, 2, 1, 3] [0, 1, 2, 3, 4, 5, 6, 7, 8, 9, 10, 11, 12, 13, 14, 15] _ _ (by kernel_rfl) (by kernel_rfl) sub2_same ?_; intro Q1 hQ1))
    refine nx_loop (ι := Unit) (fun _ => [(0, v), (2, .int .i64 0), (3, .int .i64 ((([] : List Value).length : Int) - 1))]) (fun _ => R) (fun _ => RowC 3 1 v [] :: C) (fun _ => 0) () (by exact a_sub) (by exact a_subR) (by exact a_holds) (fun u => ?_)
    repeat' (first | ((first | with_reducible refine nl_op rfl ?_ | refine nd_go rfl rfl rfl ?_); intro K hK; (first | ((first | refine on_E hF rfl rfl ?_ | refine od_E rfl rfl ?_ | refine od_R rfl rfl ?_); (first | refine ⟨_, a_yl, ?_⟩)) | ((first | refine on_Ec hF rfl rfl ?_ | refine od_Ec rfl rfl ?_); refine ⟨_, _, _, a_yc, ?_, ?_⟩ <;> (intro hc; try exact a_cut hc)) | ((first | (refine od_act a_nd ?_; intro K2 hK2) | refine od_last a_nd ?_ | skip); (first  | (refine on_box hF rfl rfl rfl rfl (fun B => ?_)) | (refine on_store hF rfl rfl rfl rfl a_turn a_vof a_sz ?_) | (refine on_storeE hF rfl rfl rfl rfl a_turn a_om a_vof a_sz ?_) | (refine on_storeEF hF rfl rfl rfl rfl a_turn a_as (by decide) a_vof rfl ?_) | (refine on_storeF hF rfl rfl rfl rfl a_turn (by decide) a_vof rfl ?_)) <;> try (refine hK2 _ _ _ a_allK ?_; clear hK2 K2))) <;> (refine hK _ _ _ ?_; clear hK K)) | with_reducible (first | refine nx_seq ?_ | refine nx_region ?_ | refine nl_nil ?_ | refine nq_then_n ?_ | refine nx_block ?_ | refine nx_skip ?_ | refine nx_exit ?_ | refine nx_ret ?_ | refine nq_then_x ?_ | refine nq_then_r ?_ | refine nq_blk_n ?_ | refine nq_blk_r ?_ | refine nq_blk_hit ?_ | refine nq_blk_miss rfl ?_ | refine nd_nil ?_) | refine nx_cond_t rfl ?_ | refine nx_cond_f rfl ?_ | refine nl_pass hF rfl rfl rfl ?_ | refine nd_pass rfl rfl rfl rfl rfl ?_ | refine nd_pass2 rfl rfl rfl a_nd a_allK rfl rfl ?_ | refine nd_pass3 rfl rfl rfl a_nd rfl rfl ?_ | (with_reducible refine hQ1 _ _ _ ?_; clear hQ1 Q1) | (refine nd_region (id := 3) hF [0, 0, 0, 0, 0, 0, 1, 1, 0, 0, 1, 1, 1, 2, 1, 3] [0, 1, 2, 3, 4, 5, 6, 7, 8, 9, 10, 11, 12, 13, 14, 15] _ _ (by kernel_rfl) (by kernel_rfl) sub2_same ?_; intro Q1 hQ1))
    all_goals (try (exfalso; dsimp only at *; omega))
    refine nx_end_n [] rfl () (fun a w ha hw => res_none Tryz.results75) (by exact a_subR) (by exact a_holds2)
  obtain ⟨O0, hrow⟩ := hw.hasC (c := RowC 3 1 v (zs.map (.int .i64))) (by simp)
  have hvl : ∃ g c, v = .slice (some ⟨g, 0, none⟩) zs.length c := by
    obtain ⟨g, c, rfl, _⟩ := RowC.len0 hrow (by simp; omega)
    obtain ⟨A', c', e1, _⟩ := RowC.sl hrow
    injection e1 with _ e2 _
    exact ⟨_, _, by rw [e2, hlz]⟩
  obtain ⟨g, c, rfl⟩ := hvl
  have e0 : RowC 3 1 (.slice (some ⟨g, 0, none⟩) zs.length c) (zs.map (.int .i64)) = RowC 3 1 (.slice (some ⟨g, 0, none⟩) zs.length c) ((revI zs 0).map (.int .i64)) := by rw [revI_zero]
  refine calls_nx Tryz.func75 rfl Tryz.ntmps75 rfl ?_ hw
  repeat' (first | ((first | with_reducible refine nl_op rfl ?_ | refine nd_go rfl rfl rfl ?_); intro K hK; (first | ((first | refine on_E hF rfl rfl ?_ | refine od_E rfl rfl ?_ | refine od_R rfl rfl ?_); (first | refine ⟨_, a_yl, ?_⟩)) | ((first | refine on_Ec hF rfl rfl ?_ | refine od_Ec rfl rfl ?_); refine ⟨_, _, _, a_yc, ?_, ?_⟩ <;> (intro hc; try exact a_cut hc)) | ((first | (refine od_act a_nd ?_; intro K2 hK2) | refine od_last a_nd ?_ | skip); (first  | (refine on_box hF rfl rfl rfl rfl (fun B => ?_)) | (refine on_store hF rfl rfl rfl rfl a_turn a_vof a_sz ?_) | (refine on_storeE hF rfl rfl rfl rfl a_turn a_om a_vof a_sz ?_) | (refine on_storeEF hF rfl rfl rfl rfl a_turn a_as (by decide) a_vof rfl ?_) | (refine on_storeF hF rfl rfl rfl rfl a_turn (by decide) a_vof rfl ?_)) <;> try (refine hK2 _ _ _ a_allK ?_; clear hK2 K2))) <;> (refine hK _ _ _ ?_; clear hK K)) | with_reducible (first | refine nx_seq ?_ | refine nx_region ?_ | refine nl_nil ?_ | refine nq_then_n ?_ | refine nx_block ?_ | refine nx_skip ?_ | refine nx_exit ?_ | refine nx_ret ?_ | refine nq_then_x ?_ | refine nq_then_r ?_ | refine nq_blk_n ?_ | refine nq_blk_r ?_ | refine nq_blk_hit ?_ | refine nq_blk_miss rfl ?_ | refine nd_nil ?_) | refine nx_cond_t rfl ?_ | refine nx_cond_f rfl ?_ | refine nl_pass hF rfl rfl rfl ?_ | refine nd_pass rfl rfl rfl rfl rfl ?_ | refine nd_pass2 rfl rfl rfl a_nd a_allK rfl rfl ?_ | refine nd_pass3 rfl rfl rfl a_nd rfl rfl ?_ | (with_reducible refine hQ1 _ _ _ ?_; clear hQ1 Q1) | (refine nd_region (id := 3) hF [0, 0, 0, 0, 0, 0, 1, 1, 0, 0, 1, 1, 1, 2, 1, 3] [0, 1, 2, 3, 4, 5, 6, 7, 8, 9, 10, 11, 12, 13, 14, 15] _ _ (by kernel_rfl) (by kernel_rfl) sub2_same ?_; intro Q1 hQ1))
  rw [e0]
  refine nx_loop (ι := { p : Nat × Int // p.1 ≤ zs.length ∧ p.2 = (zs.length : Int) - 1 - p.1 ∧ True }) (fun p => [(0, .slice (some ⟨g, 0, none⟩) zs.length c), (2, .int .i64 (p.1.1 : Int)), (3, .int .i64 p.1.2)]) (fun _ => R) (fun p => RowC 3 1 (.slice (some ⟨g, 0, none⟩) zs.length c) ((revI zs p.1.1).map (.int .i64)) :: C) (fun p => zs.length - p.1.1) ⟨(0, (zs.length : Int) - 1), Nat.zero_le _, by dsimp only; omega, trivial⟩ (by exact a_sub) (by exact a_subR) (by exact a_holds) (fun p => ?_)
  obtain ⟨⟨i, j⟩, hi, hj, _⟩ := p
  dsimp only at hi hj ⊢
  have hlr : ((revI zs i).map (Value.int .i64)).length = zs.length := by rw [List.length_map, revI_len]
  by_cases hlt : 2 * i + 1 < zs.length
  · have hjn : j.toNat = zs.length - 1 - i := by omega
    have hgi : ((revI zs i).map (Value.int .i64))[i]? = some (.int .i64 zs[i]!) := by rw [List.getElem?_map, revI_at zs i i (by omega), if_neg (by omega)]; rfl
    have hgj : ((revI zs i).map (Value.int .i64))[j.toNat]? = some (.int .i64 zs[zs.length - 1 - i]!) := by rw [hjn, List.getElem?_map, revI_at zs i _ (by omega), if_neg (by omega)]; rfl
    have hst : (((revI zs i).map (Value.int .i64)).set i (.int .i64 zs[zs.length - 1 - i]!)).set j.toNat (.int .i64 zs[i]!) = (revI zs (i + 1)).map (.int .i64) := by rw [hjn, ← List.map_set, ← List.map_set, revI_step zs i hlt]
    obtain ⟨xi, hxi⟩ : ∃ xi, zs[i]! = xi := ⟨_, rfl⟩
    obtain ⟨xj, hxj⟩ : ∃ xj, zs[zs.length - 1 - i]! = xj := ⟨_, rfl⟩
    rw [hxi] at hgi hst
    rw [hxj] at hgj hst
    have hls : (((revI zs i).map (Value.int .i64)).set i (.int .i64 xj)).length = zs.length := by rw [List.length_set, hlr]
    have hidx : ∀ w, (Instr.indexAt 25 (.slice (some ⟨g, 0, none⟩) zs.length c) (.int .i64 j)).run Tryz.prog w = .ok (elemP (.slice (some ⟨g, 0, none⟩) zs.length c) 1 j.toNat) w := fun w => run_idx_z (by kernel_rfl) (by omega) (by omega) w
    have hidi : ∀ w, (Instr.indexAt 25 (.slice (some ⟨g, 0, none⟩) zs.length c) (.int .i64 (i : Int))).run Tryz.prog w = .ok (elemP (.slice (some ⟨g, 0, none⟩) zs.length c) 1 i) w := fun w => run_idx (by kernel_rfl) (by omega) w
    repeat' (first | ((first | with_reducible refine nl_op rfl ?_ | refine nd_go rfl rfl rfl ?_); intro K hK; (first | ((first | refine on_E hF rfl rfl ?_ | refine od_E rfl rfl ?_ | refine od_R rfl rfl ?_); (first | refine ⟨_, yl_indexAddr rfl rfl rfl hidx, ?_⟩ | refine ⟨_, yl_indexAddr rfl rfl rfl hidi, ?_⟩ | refine ⟨_, a_yl, ?_⟩)) | ((first | refine on_Ec hF rfl rfl ?_ | refine od_Ec rfl rfl ?_); refine ⟨_, _, _, a_yc, ?_, ?_⟩ <;> (intro hc; try exact a_cut hc)) | ((first | (refine od_act a_nd ?_; intro K2 hK2) | refine od_last a_nd ?_ | skip); (first  | (refine on_box hF rfl rfl rfl rfl (fun B => ?_)) | (refine on_store hF rfl rfl rfl rfl a_turn a_vof a_sz ?_) | (refine on_storeE hF rfl rfl rfl rfl a_turn a_om a_vof a_sz ?_) | (refine on_storeEF hF rfl rfl rfl rfl a_turn a_as (by decide) a_vof rfl ?_) | (refine on_storeF hF rfl rfl rfl rfl a_turn (by decide) a_vof rfl ?_)) <;> try (refine hK2 _ _ _ a_allK ?_; clear hK2 K2))) <;> (refine hK _ _ _ ?_; clear hK K)) | with_reducible (first | refine nx_seq ?_ | refine nx_region ?_ | refine nl_nil ?_ | refine nq_then_n ?_ | refine nx_block ?_ | refine nx_skip ?_ | refine nx_exit ?_ | refine nx_ret ?_ | refine nq_then_x ?_ | refine nq_then_r ?_ | refine nq_blk_n ?_ | refine nq_blk_r ?_ | refine nq_blk_hit ?_ | refine nq_blk_miss rfl ?_ | refine nd_nil ?_) | refine nx_cond_t rfl ?_ | refine nx_cond_f rfl ?_ | refine nl_pass hF rfl rfl rfl ?_ | refine nd_pass rfl rfl rfl rfl rfl ?_ | refine nd_pass2 rfl rfl rfl a_nd a_allK rfl rfl ?_ | refine nd_pass3 rfl rfl rfl a_nd rfl rfl ?_ | (with_reducible refine hQ1 _ _ _ ?_; clear hQ1 Q1) | (refine nd_region (id := 3) hF [0, 0, 0, 0, 0, 0, 0, 1, 0, 0, 0, 1, 0, 3, 0, 3] [0, 1, 2, 3, 4, 5, 6, 7, 8, 9, 10, 11, 12, 13, 14, 15] _ _ (by kernel_rfl) (by kernel_rfl) sub2_same ?_; intro Q1 hQ1))
    all_goals (try (exfalso; dsimp only at *; omega))
    rw [hst]
    refine nx_again ⟨(i + 1, j - 1), by dsimp only; omega, by dsimp only; omega, trivial⟩ (by dsimp only; omega) (by exact a_sub) (by exact a_subR) (by exact a_holds)
  · rw [revI_end zs i (by omega)]
    repeat' (first | ((first | with_reducible refine nl_op rfl ?_ | refine nd_go rfl rfl rfl ?_); intro K hK; (first | ((first | refine on_E hF rfl rfl ?_ | refine od_E rfl rfl ?_ | refine od_R rfl rfl ?_); (first | refine ⟨_, a_yl, ?_⟩)) | ((first | refine on_Ec hF rfl rfl ?_ | refine od_Ec rfl rfl ?_); refine ⟨_, _, _, a_yc, ?_, ?_⟩ <;> (intro hc; try exact a_cut hc)) | ((first | (refine od_act a_nd ?_; intro K2 hK2) | refine od_last a_nd ?_ | skip); (first  | (refine on_box hF rfl rfl rfl rfl (fun B => ?_)) | (refine on_store hF rfl rfl rfl rfl a_turn a_vof a_sz ?_) | (refine on_storeE hF rfl rfl rfl rfl a_turn a_om a_vof a_sz ?_) | (refine on_storeEF hF rfl rfl rfl rfl a_turn a_as (by decide) a_vof rfl ?_) | (refine on_storeF hF rfl rfl rfl rfl a_turn (by decide) a_vof rfl ?_)) <;> try (refine hK2 _ _ _ a_allK ?_; clear hK2 K2))) <;> (refine hK _ _ _ ?_; clear hK K)) | with_reducible (first | refine nx_seq ?_ | refine nx_region ?_ | refine nl_nil ?_ | refine nq_then_n ?_ | refine nx_block ?_ | refine nx_skip ?_ | refine nx_exit ?_ | refine nx_ret ?_ | refine nq_then_x ?_ | refine nq_then_r ?_ | refine nq_blk_n ?_ | refine nq_blk_r ?_ | refine nq_blk_hit ?_ | refine nq_blk_miss rfl ?_ | refine nd_nil ?_) | refine nx_cond_t rfl ?_ | refine nx_cond_f rfl ?_ | refine nl_pass hF rfl rfl rfl ?_ | refine nd_pass rfl rfl rfl rfl rfl ?_ | refine nd_pass2 rfl rfl rfl a_nd a_allK rfl rfl ?_ | refine nd_pass3 rfl rfl rfl a_nd rfl rfl ?_ | (with_reducible refine hQ1 _ _ _ ?_; clear hQ1 Q1) | (refine nd_region (id := 3) hF [0, 0, 0, 0, 0, 0, 0, 1, 0, 0, 0, 1, 0, 3, 0, 3] [0, 1, 2, 3, 4, 5, 6, 7, 8, 9, 10, 11, 12, 13, 14, 15] _ _ (by kernel_rfl) (by kernel_rfl) sub2_same ?_; intro Q1 hQ1))
    all_goals (try (exfalso; dsimp only at *; omega))
    refine nx_end_n [] rfl () (fun a w ha hw => res_none Tryz.results75) (by exact a_subR) (by exact a_holds2)
end Chn
end Go.Proofs.YtinofjenoapeaaaGreat
end
section
namespace Go.Proofs.YtinofjenoapeaaaGreat
open Go.RowKit Go.Shelf
set_option linter.unusedSimpArgs false
set_option linter.unusedVariables false
namespace Chn
variable {W0 : World} {X : Nat → Prop} {R C : List Ch}
/-- The Ids of a chain, the full backup first. -/
def chainIds (L : List It2) (id : Int) : List Int := ((chainOf L id).getD []).reverse.map It2.id
/-- What was taken so far, and at which item it goes on. -/
structure OfI (L : List It2) (id : Int) (acc : List It2) (x : It2) (ok : Bool) : Prop where
  all : chainOf L id = if ok then (chainUp L x).map (acc ++ ·) else none
  len : acc.length + (if ok then under L x.id + 1 else 0) ≤ L.length
  mem : ok = true → x ∈ L
  xok : x.ok
theorem OfI.start {L : List It2} (hok : ∀ x ∈ L, x.ok) (id : Int) : OfI L id [] (atX L id) (atOk L id) := by
  have hm : atOk L id = true → atX L id ∈ L := fun h => by
    unfold atOk at h
    unfold atX at h ⊢
    cases hb : byId L id with
    | none => rw [hb] at h; simp at h
    | some x => exact (byId_spec hb).1
  refine ⟨?_, ?_, hm, atX_ok hok id⟩
  · unfold chainOf
    cases h : atOk L id with
    | true => simp
    | false => rfl
  · cases h : atOk L id with
    | true => have := under_mem (hm h); simp; omega
    | false => simp
theorem OfI.up {L : List It2} (hok : ∀ x ∈ L, x.ok) {id : Int} {acc : List It2} {x : It2} (h : OfI L id acc x true) (hk : x.kind ≠ 2) : OfI L id (acc ++ [x]) (atX L x.par) (upOk L x) := by
  have hl := h.len
  have ha := h.all
  simp only [if_true] at hl ha
  cases hu : upOk L x with
  | true =>
    obtain ⟨h1, h2, h3⟩ := upOk_mem hu
    have hlt := under_lt h2 h3 rfl
    refine ⟨?_, by simp; omega, fun _ => h2, hok _ h2⟩
    rw [ha, chainUp_up hk hu, Option.map_map]
    simp only [if_true]
    congr 1; funext z; simp
  | false =>
    refine ⟨?_, by simp; omega, (fun h => by cases h), atX_ok hok _⟩
    rw [ha, chainUp_none hk hu]; rfl
theorem OfI.full {L : List It2} {id : Int} {acc : List It2} {x : It2} (h : OfI L id acc x true) (hk : x.kind = 2) : chainOf L id = some (acc ++ [x]) := by
  have ha := h.all
  rw [chainUp_full hk] at ha
  simpa using ha
theorem OfI.none {L : List It2} {id : Int} {acc : List It2} {x : It2} (h : OfI L id acc x false) : chainOf L id = Option.none := by
  have ha := h.all
  simpa using ha
set_option maxRecDepth 100000 in
set_option maxHeartbeats 4000000 in
theorem of_ct (s : Value) (hs : IsSl s) (L : List It2) (hok : ∀ x ∈ L, x.ok) (id : Int) (hsl : SlC 9 s (L.map It2.v) ∈ R) (hm : L.length * 88 ≤ 140737488355328) :
    Ct Tryz.prog 46 [s, .int .i64 id] W0 X R C SV (fun v => .tuple #[v.1, .bool (chainOf L id).isSome]) (fun _ => R) (fun v => RowC 3 1 v.1 ((chainIds L id).map (.int .i64)) :: C) := by
  intro w hw
  have hF := isWide_wide
  have hvs : VOf Tryz.prog 22 s := vof_slice (by kernel_rfl) hs
  have st := OfI.start hok id
  have hv0 := (atX L id).vof (atX_ok hok id)
  refine calls_nx Tryz.func46 rfl Tryz.ntmps46 rfl ?_ hw
  repeat' (first | ((first | with_reducible refine nl_op rfl ?_ | refine nd_go rfl rfl rfl ?_); intro K hK; (first | ((first | refine on_E hF rfl rfl ?_ | refine od_E rfl rfl ?_ | refine od_R rfl rfl ?_); (first | refine ⟨_, a_yl, ?_⟩ | refine ⟨_, (by first | exact yl_fieldB (T := 33) (f := 0) (q := 0) rfl rfl (by kernel_rfl) | exact yl_fieldE (T := 33) (f := 0) (j := 0) rfl rfl a_sl a_om (by kernel_rfl) | exact yl_fieldB (T := 33) (f := 1) (q := 1) rfl rfl (by kernel_rfl) | exact yl_fieldE (T := 33) (f := 1) (j := 1) rfl rfl a_sl a_om (by kernel_rfl) | exact yl_fieldB (T := 33) (f := 2) (q := 2) rfl rfl (by kernel_rfl) | exact yl_fieldE (T := 33) (f := 2) (j := 2) rfl rfl a_sl a_om (by kernel_rfl) | exact yl_fieldB (T := 33) (f := 4) (q := 4) rfl rfl (by kernel_rfl) | exact yl_fieldE (T := 33) (f := 4) (j := 4) rfl rfl a_sl a_om (by kernel_rfl) | exact yl_fieldB (T := 33) (f := 5) (q := 5) rfl rfl (by kernel_rfl) | exact yl_fieldE (T := 33) (f := 5) (j := 5) rfl rfl a_sl a_om (by kernel_rfl) | exact yl_fieldB (T := 33) (f := 6) (q := 6) rfl rfl (by kernel_rfl) | exact yl_fieldE (T := 33) (f := 6) (j := 6) rfl rfl a_sl a_om (by kernel_rfl)), ?_⟩)) | ((first | refine on_Ec hF rfl rfl ?_ | refine od_Ec rfl rfl ?_); refine ⟨_, _, _, a_yc, ?_, ?_⟩ <;> (intro hc; try exact a_cut hc)) | ((first | (refine od_act a_nd ?_; intro K2 hK2) | refine od_last a_nd ?_ | skip); (first | (refine on_buildSlice (T := 25) (e := 3) (k := 1) (by_ := 8) hF rfl rfl rfl rfl rfl rfl (by kernel_rfl) a_cel (Nat.le_of_ble_eq_true rfl) (fun b => ?_)) | (refine on_append (T := 25) (e := 3) (k := 1) (by_ := 8) hF rfl rfl rfl rfl rfl a_pick (by kernel_rfl) a_sl a_cel a_bnd a_bnd (fun v => ?_)) | (refine on_alloc hF rfl Tryz.zeroValue33 rfl rfl (fun B => ?_)) | (refine on_box hF rfl rfl rfl rfl (fun B => ?_)) | (refine on_store hF rfl rfl rfl rfl a_turn a_vof a_sz ?_) | (refine on_storeE hF rfl rfl rfl rfl a_turn a_om a_vof a_sz ?_) | (refine on_storeEF hF rfl rfl rfl rfl a_turn a_as (by decide) a_vof rfl ?_) | (refine on_storeF hF rfl rfl rfl rfl a_turn (by decide) a_vof rfl ?_)) <;> try (refine hK2 _ _ _ a_allK ?_; clear hK2 K2))) <;> (refine hK _ _ _ ?_; clear hK K)) | with_reducible (first | refine nx_seq ?_ | refine nx_region ?_ | refine nl_nil ?_ | refine nq_then_n ?_ | refine nx_block ?_ | refine nx_skip ?_ | refine nx_exit ?_ | refine nx_ret ?_ | refine nq_then_x ?_ | refine nq_then_r ?_ | refine nq_blk_n ?_ | refine nq_blk_r ?_ | refine nq_blk_hit ?_ | refine nq_blk_miss rfl ?_ | refine nd_nil ?_) | refine nx_cond_t rfl ?_ | refine nx_cond_f rfl ?_ | refine nl_pass hF rfl rfl rfl ?_ | refine nd_pass rfl rfl rfl rfl rfl ?_ | refine nd_pass2 rfl rfl rfl a_nd a_allK rfl rfl ?_ | refine nd_pass3 rfl rfl rfl a_nd rfl rfl ?_ | (with_reducible refine hQ1 _ _ _ ?_; clear hQ1 Q1) )
  obtain ⟨b2, hb2⟩ : ∃ b2, b2 = B := ⟨_, rfl⟩
  subst hb2
  refine nx_frz (BoxC b2 22 s) (by exact a_pick) ?_
  refine nx_nilRow 3 1 ?_
  have o1 := fun (W0 : World) (X : Nat → Prop) (R C : List Ch) (id : Int) h1 h2 => of1_ct (W0 := W0) (X := X) (R := R) (C := C) s hs L hok id b2 h1 h2 hm
  repeat' (first | ((first | with_reducible refine nl_op rfl ?_ | refine nd_go rfl rfl rfl ?_); intro K hK; (first | ((first | refine on_E hF rfl rfl ?_ | refine od_E rfl rfl ?_ | refine od_R rfl rfl ?_); (first | refine ⟨_, a_yl, ?_⟩ | refine ⟨_, (by first | exact yl_fieldB (T := 33) (f := 0) (q := 0) rfl rfl (by kernel_rfl) | exact yl_fieldE (T := 33) (f := 0) (j := 0) rfl rfl a_sl a_om (by kernel_rfl) | exact yl_fieldB (T := 33) (f := 1) (q := 1) rfl rfl (by kernel_rfl) | exact yl_fieldE (T := 33) (f := 1) (j := 1) rfl rfl a_sl a_om (by kernel_rfl) | exact yl_fieldB (T := 33) (f := 2) (q := 2) rfl rfl (by kernel_rfl) | exact yl_fieldE (T := 33) (f := 2) (j := 2) rfl rfl a_sl a_om (by kernel_rfl) | exact yl_fieldB (T := 33) (f := 4) (q := 4) rfl rfl (by kernel_rfl) | exact yl_fieldE (T := 33) (f := 4) (j := 4) rfl rfl a_sl a_om (by kernel_rfl) | exact yl_fieldB (T := 33) (f := 5) (q := 5) rfl rfl (by kernel_rfl) | exact yl_fieldE (T := 33) (f := 5) (j := 5) rfl rfl a_sl a_om (by kernel_rfl) | exact yl_fieldB (T := 33) (f := 6) (q := 6) rfl rfl (by kernel_rfl) | exact yl_fieldE (T := 33) (f := 6) (j := 6) rfl rfl a_sl a_om (by kernel_rfl)), ?_⟩)) | ((first | refine on_Ec hF rfl rfl ?_ | refine od_Ec rfl rfl ?_); refine ⟨_, _, _, a_yc, ?_, ?_⟩ <;> (intro hc; try exact a_cut hc)) | ((first | (refine od_act a_nd ?_; intro K2 hK2) | refine od_last a_nd ?_ | skip); (first | (refine on_callc (vs := [.int .i64 id]) hF rfl rfl rfl rfl rfl (enters_of Tryz.func71 (by kernel_rfl) rfl) (o1 _ _ _ _ id (by exact a_mem) (by exact a_mem)) (fun _ => ?_)) | (refine on_buildSlice (T := 25) (e := 3) (k := 1) (by_ := 8) hF rfl rfl rfl rfl rfl rfl (by kernel_rfl) a_cel (Nat.le_of_ble_eq_true rfl) (fun b => ?_)) | (refine on_append (T := 25) (e := 3) (k := 1) (by_ := 8) hF rfl rfl rfl rfl rfl a_pick (by kernel_rfl) a_sl a_cel a_bnd a_bnd (fun v => ?_)) | (refine on_alloc hF rfl Tryz.zeroValue33 rfl rfl (fun B => ?_)) | (refine on_box hF rfl rfl rfl rfl (fun B => ?_)) | (refine on_store hF rfl rfl rfl rfl a_turn a_vof a_sz ?_) | (refine on_storeE hF rfl rfl rfl rfl a_turn a_om a_vof a_sz ?_) | (refine on_storeEF hF rfl rfl rfl rfl a_turn a_as (by decide) a_vof rfl ?_) | (refine on_storeF hF rfl rfl rfl rfl a_turn (by decide) a_vof rfl ?_)) <;> try (refine hK2 _ _ _ a_allK ?_; clear hK2 K2))) <;> (refine hK _ _ _ ?_; clear hK K)) | with_reducible (first | refine nx_seq ?_ | refine nx_region ?_ | refine nl_nil ?_ | refine nq_then_n ?_ | refine nx_block ?_ | refine nx_skip ?_ | refine nx_exit ?_ | refine nx_ret ?_ | refine nq_then_x ?_ | refine nq_then_r ?_ | refine nq_blk_n ?_ | refine nq_blk_r ?_ | refine nq_blk_hit ?_ | refine nq_blk_miss rfl ?_ | refine nd_nil ?_) | refine nx_cond_t rfl ?_ | refine nx_cond_f rfl ?_ | refine nl_pass hF rfl rfl rfl ?_ | refine nd_pass rfl rfl rfl rfl rfl ?_ | refine nd_pass2 rfl rfl rfl a_nd a_allK rfl rfl ?_ | refine nd_pass3 rfl rfl rfl a_nd rfl rfl ?_ | (with_reducible refine hQ1 _ _ _ ?_; clear hQ1 Q1) )
  obtain ⟨b8, hb8⟩ : ∃ b8, b8 = B := ⟨_, rfl⟩
  subst hb8
  clear hv0
  refine nx_loop (ι := { p : List It2 × It2 × Bool // OfI L id p.1 p.2.1 p.2.2 } × SV) (fun p => [(2, ptr b2), (6, p.2.1), (7, .func (.func 71) #[] #[ptr b2]), (8, ptr b8), (9, .bool p.1.1.2.2)]) (fun _ => BoxC b2 22 s :: R) (fun p => BoxC b8 33 p.1.1.2.1.v :: RowC 3 1 p.2.1 ((p.1.1.1.map It2.id).map (.int .i64)) :: C) (fun p => L.length + 1 - p.1.1.1.length + (if p.1.1.2.2 then 1 else 0)) (⟨([], atX L id, atOk L id), st⟩, ⟨.slice none 0 0, _, _, _, rfl⟩) (by exact a_sub) (by exact a_subR) (by exact a_holds) (fun p => ?_)
  obtain ⟨⟨⟨acc, x, ok⟩, hI⟩, o⟩ := p
  dsimp only at hI ⊢
  have hxo := hI.xok
  have hvx := x.vof hxo
  cases ok with
  | false =>
    have hn := hI.none
    unfold chainIds
    rw [hn]
    simp only [Option.isSome_none, Option.getD_none, List.reverse_nil, List.map_nil]
    repeat' (first | ((first | with_reducible refine nl_op rfl ?_ | refine nd_go rfl rfl rfl ?_); intro K hK; (first | ((first | refine on_E hF rfl rfl ?_ | refine od_E rfl rfl ?_ | refine od_R rfl rfl ?_); (first | refine ⟨_, a_yl, ?_⟩ | refine ⟨_, (by first | exact yl_fieldB (T := 33) (f := 0) (q := 0) rfl rfl (by kernel_rfl) | exact yl_fieldE (T := 33) (f := 0) (j := 0) rfl rfl a_sl a_om (by kernel_rfl) | exact yl_fieldB (T := 33) (f := 1) (q := 1) rfl rfl (by kernel_rfl) | exact yl_fieldE (T := 33) (f := 1) (j := 1) rfl rfl a_sl a_om (by kernel_rfl) | exact yl_fieldB (T := 33) (f := 2) (q := 2) rfl rfl (by kernel_rfl) | exact yl_fieldE (T := 33) (f := 2) (j := 2) rfl rfl a_sl a_om (by kernel_rfl) | exact yl_fieldB (T := 33) (f := 4) (q := 4) rfl rfl (by kernel_rfl) | exact yl_fieldE (T := 33) (f := 4) (j := 4) rfl rfl a_sl a_om (by kernel_rfl) | exact yl_fieldB (T := 33) (f := 5) (q := 5) rfl rfl (by kernel_rfl) | exact yl_fieldE (T := 33) (f := 5) (j := 5) rfl rfl a_sl a_om (by kernel_rfl) | exact yl_fieldB (T := 33) (f := 6) (q := 6) rfl rfl (by kernel_rfl) | exact yl_fieldE (T := 33) (f := 6) (j := 6) rfl rfl a_sl a_om (by kernel_rfl)), ?_⟩)) | ((first | refine on_Ec hF rfl rfl ?_ | refine od_Ec rfl rfl ?_); refine ⟨_, _, _, a_yc, ?_, ?_⟩ <;> (intro hc; try exact a_cut hc)) | ((first | (refine od_act a_nd ?_; intro K2 hK2) | refine od_last a_nd ?_ | skip); (first | (refine on_buildSlice (T := 25) (e := 3) (k := 1) (by_ := 8) hF rfl rfl rfl rfl rfl rfl (by kernel_rfl) a_cel (Nat.le_of_ble_eq_true rfl) (fun b => ?_)) | (refine on_append (T := 25) (e := 3) (k := 1) (by_ := 8) hF rfl rfl rfl rfl rfl a_pick (by kernel_rfl) a_sl a_cel a_bnd a_bnd (fun v => ?_)) | (refine on_alloc hF rfl Tryz.zeroValue33 rfl rfl (fun B => ?_)) | (refine on_box hF rfl rfl rfl rfl (fun B => ?_)) | (refine on_store hF rfl rfl rfl rfl a_turn a_vof a_sz ?_) | (refine on_storeE hF rfl rfl rfl rfl a_turn a_om a_vof a_sz ?_) | (refine on_storeEF hF rfl rfl rfl rfl a_turn a_as (by decide) a_vof rfl ?_) | (refine on_storeF hF rfl rfl rfl rfl a_turn (by decide) a_vof rfl ?_)) <;> try (refine hK2 _ _ _ a_allK ?_; clear hK2 K2))) <;> (refine hK _ _ _ ?_; clear hK K)) | with_reducible (first | refine nx_seq ?_ | refine nx_region ?_ | refine nl_nil ?_ | refine nq_then_n ?_ | refine nx_block ?_ | refine nx_skip ?_ | refine nx_exit ?_ | refine nx_ret ?_ | refine nq_then_x ?_ | refine nq_then_r ?_ | refine nq_blk_n ?_ | refine nq_blk_r ?_ | refine nq_blk_hit ?_ | refine nq_blk_miss rfl ?_ | refine nd_nil ?_) | refine nx_cond_t rfl ?_ | refine nx_cond_f rfl ?_ | refine nl_pass hF rfl rfl rfl ?_ | refine nd_pass rfl rfl rfl rfl rfl ?_ | refine nd_pass2 rfl rfl rfl a_nd a_allK rfl rfl ?_ | refine nd_pass3 rfl rfl rfl a_nd rfl rfl ?_ | (with_reducible refine hQ1 _ _ _ ?_; clear hQ1 Q1) )
    refine nx_nilRow 3 1 ?_
    refine nx_end [] rfl (⟨.slice none 0 0, _, _, _, rfl⟩) (fun a w ha hw => res_tmp2 Tryz.results46 rfl rfl ha) (by exact a_subR) (by exact a_holds2)
  | true =>
    have hlen := hI.len
    simp only [if_true] at hlen
    have hxl := hI.mem rfl
    have hul := under_mem hxl
    have hal : ((acc.map It2.id).map (Value.int .i64)).length = acc.length := by simp
    have hm1 : ((acc.map It2.id).map (Value.int .i64)).length + 1 ≤ maxLen := by unfold maxLen; omega
    have hm2 : (((acc.map It2.id).map (Value.int .i64)).length + 1) * 8 ≤ 140737488355328 := by omega
    have hcx : Cel 1 [Value.int .i64 x.id] := Cel.of (P := Tryz.prog) (T := 3) (fun y hy => by simp at hy; rw [hy]; exact vof1 (by kernel_rfl) rfl rfl) (by kernel_rfl)
    have hsn : (acc.map It2.id).map (Value.int .i64) ++ [.int .i64 x.id] = ((acc ++ [x]).map It2.id).map (.int .i64) := by simp
    by_cases hk : x.kind = 2
    · have hf := hI.full hk
      unfold chainIds
      rw [hf]
      simp only [Option.isSome_some, Option.getD_some]
      have hzl : ((acc ++ [x]).map It2.id).length ≤ 4611686018427387903 := by simp; omega
      rw [List.map_reverse]
      repeat' (first | ((first | with_reducible refine nl_op rfl ?_ | refine nd_go rfl rfl rfl ?_); intro K hK; (first | ((first | refine on_E hF rfl rfl ?_ | refine od_E rfl rfl ?_ | refine od_R rfl rfl ?_); (first | refine ⟨_, a_yl, ?_⟩ | refine ⟨_, (by first | exact yl_fieldB (T := 33) (f := 0) (q := 0) rfl rfl (by kernel_rfl) | exact yl_fieldE (T := 33) (f := 0) (j := 0) rfl rfl a_sl a_om (by kernel_rfl) | exact yl_fieldB (T := 33) (f := 1) (q := 1) rfl rfl (by kernel_rfl) | exact yl_fieldE (T := 33) (f := 1) (j := 1) rfl rfl a_sl a_om (by kernel_rfl) | exact yl_fieldB (T := 33) (f := 2) (q := 2) rfl rfl (by kernel_rfl) | exact yl_fieldE (T := 33) (f := 2) (j := 2) rfl rfl a_sl a_om (by kernel_rfl) | exact yl_fieldB (T := 33) (f := 4) (q := 4) rfl rfl (by kernel_rfl) | exact yl_fieldE (T := 33) (f := 4) (j := 4) rfl rfl a_sl a_om (by kernel_rfl) | exact yl_fieldB (T := 33) (f := 5) (q := 5) rfl rfl (by kernel_rfl) | exact yl_fieldE (T := 33) (f := 5) (j := 5) rfl rfl a_sl a_om (by kernel_rfl) | exact yl_fieldB (T := 33) (f := 6) (q := 6) rfl rfl (by kernel_rfl) | exact yl_fieldE (T := 33) (f := 6) (j := 6) rfl rfl a_sl a_om (by kernel_rfl)), ?_⟩)) | ((first | refine on_Ec hF rfl rfl ?_ | refine od_Ec rfl rfl ?_); refine ⟨_, _, _, a_yc, ?_, ?_⟩ <;> (intro hc; try exact a_cut hc)) | ((first | (refine od_act a_nd ?_; intro K2 hK2) | refine od_last a_nd ?_ | skip); (first | (refine on_buildSlice (e := 3) (k := 1) (by_ := 8) hF rfl rfl rfl rfl rfl rfl (by kernel_rfl) hcx (by simp) (fun bq => ?_)) | (refine on_append (e := 3) (k := 1) (by_ := 8) (ys := [.int .i64 x.id]) hF rfl rfl rfl rfl rfl (by exact a_pick) (by kernel_rfl) (by exact a_sl) hcx (by exact hm1) (by exact hm2) (fun v2 => ?_); rw [hsn]) | (refine on_callG hF (enters_of Tryz.func75 (by kernel_rfl) rfl) rfl rfl rfl rfl ((rev_ct v2.1 v2.2 ((acc ++ [x]).map It2.id) hzl).pre (show Pick _ (RowC 3 1 v2.1 (((acc ++ [x]).map It2.id).map (.int .i64))) _ from by exact a_pick)) (fun _ => ?_)) | (refine on_buildSlice (T := 25) (e := 3) (k := 1) (by_ := 8) hF rfl rfl rfl rfl rfl rfl (by kernel_rfl) a_cel (Nat.le_of_ble_eq_true rfl) (fun b => ?_)) | (refine on_append (T := 25) (e := 3) (k := 1) (by_ := 8) hF rfl rfl rfl rfl rfl a_pick (by kernel_rfl) a_sl a_cel a_bnd a_bnd (fun v => ?_)) | (refine on_alloc hF rfl Tryz.zeroValue33 rfl rfl (fun B => ?_)) | (refine on_box hF rfl rfl rfl rfl (fun B => ?_)) | (refine on_store hF rfl rfl rfl rfl a_turn a_vof a_sz ?_) | (refine on_storeE hF rfl rfl rfl rfl a_turn a_om a_vof a_sz ?_) | (refine on_storeEF hF rfl rfl rfl rfl a_turn a_as (by decide) a_vof rfl ?_) | (refine on_storeF hF rfl rfl rfl rfl a_turn (by decide) a_vof rfl ?_)) <;> try (refine hK2 _ _ _ a_allK ?_; clear hK2 K2))) <;> (refine hK _ _ _ ?_; clear hK K)) | with_reducible (first | refine nx_seq ?_ | refine nx_region ?_ | refine nl_nil ?_ | refine nq_then_n ?_ | refine nx_block ?_ | refine nx_skip ?_ | refine nx_exit ?_ | refine nx_ret ?_ | refine nq_then_x ?_ | refine nq_then_r ?_ | refine nq_blk_n ?_ | refine nq_blk_r ?_ | refine nq_blk_hit ?_ | refine nq_blk_miss rfl ?_ | refine nd_nil ?_) | refine nx_cond_t rfl ?_ | refine nx_cond_f rfl ?_ | refine nl_pass hF rfl rfl rfl ?_ | refine nd_pass rfl rfl rfl rfl rfl ?_ | refine nd_pass2 rfl rfl rfl a_nd a_allK rfl rfl ?_ | refine nd_pass3 rfl rfl rfl a_nd rfl rfl ?_ | (with_reducible refine hQ1 _ _ _ ?_; clear hQ1 Q1) )
      all_goals (try (exfalso; dsimp only at *; omega))
      refine nx_end [] rfl v2 (fun a w ha hw => res_tmp2 Tryz.results46 rfl rfl ha) (by exact a_subR) (by exact a_holds2)
    · have hup := hI.up hok hk
      have hu : upOk L x = (atOk L x.par && decide ((atX L x.par).tl = x.tl ∧ (atX L x.par).id < x.id ∧ (atX L x.par).b ≤ x.a)) := by unfold upOk upB; simp only [Bool.decide_and, Bool.and_assoc]
      have hyo := hup.xok
      obtain ⟨y, hy⟩ : ∃ y, atX L x.par = y := ⟨_, rfl⟩
      obtain ⟨z, hz⟩ : ∃ z, atOk L x.par = z := ⟨_, rfl⟩
      have o2 := fun (W0 : World) (X : Nat → Prop) (R C : List Ch) h1 h2 => o1 W0 X R C x.par h1 h2
      rw [hy, hz] at o2
      rw [hy] at hup hyo
      rw [hy, hz] at hu
      have hvy := y.vof hyo
      clear hy hz o1
      cases z with
      | false =>
        rw [Bool.false_and] at hu
        rw [hu] at hup
        repeat' (first | ((first | with_reducible refine nl_op rfl ?_ | refine nd_go rfl rfl rfl ?_); intro K hK; (first | ((first | refine on_E hF rfl rfl ?_ | refine od_E rfl rfl ?_ | refine od_R rfl rfl ?_); (first | refine ⟨_, a_yl, ?_⟩ | refine ⟨_, (by first | exact yl_fieldB (T := 33) (f := 0) (q := 0) rfl rfl (by kernel_rfl) | exact yl_fieldE (T := 33) (f := 0) (j := 0) rfl rfl a_sl a_om (by kernel_rfl) | exact yl_fieldB (T := 33) (f := 1) (q := 1) rfl rfl (by kernel_rfl) | exact yl_fieldE (T := 33) (f := 1) (j := 1) rfl rfl a_sl a_om (by kernel_rfl) | exact yl_fieldB (T := 33) (f := 2) (q := 2) rfl rfl (by kernel_rfl) | exact yl_fieldE (T := 33) (f := 2) (j := 2) rfl rfl a_sl a_om (by kernel_rfl) | exact yl_fieldB (T := 33) (f := 4) (q := 4) rfl rfl (by kernel_rfl) | exact yl_fieldE (T := 33) (f := 4) (j := 4) rfl rfl a_sl a_om (by kernel_rfl) | exact yl_fieldB (T := 33) (f := 5) (q := 5) rfl rfl (by kernel_rfl) | exact yl_fieldE (T := 33) (f := 5) (j := 5) rfl rfl a_sl a_om (by kernel_rfl) | exact yl_fieldB (T := 33) (f := 6) (q := 6) rfl rfl (by kernel_rfl) | exact yl_fieldE (T := 33) (f := 6) (j := 6) rfl rfl a_sl a_om (by kernel_rfl)), ?_⟩)) | ((first | refine on_Ec hF rfl rfl ?_ | refine od_Ec rfl rfl ?_); refine ⟨_, _, _, a_yc, ?_, ?_⟩ <;> (intro hc; try exact a_cut hc)) | ((first | (refine od_act a_nd ?_; intro K2 hK2) | refine od_last a_nd ?_ | skip); (first | (refine on_buildSlice (e := 3) (k := 1) (by_ := 8) hF rfl rfl rfl rfl rfl rfl (by kernel_rfl) hcx (by simp) (fun bq => ?_)) | (refine on_append (e := 3) (k := 1) (by_ := 8) (ys := [.int .i64 x.id]) hF rfl rfl rfl rfl rfl (by exact a_pick) (by kernel_rfl) (by exact a_sl) hcx (by exact hm1) (by exact hm2) (fun v2 => ?_); rw [hsn]) | (refine on_callc (vs := [.int .i64 x.par]) hF rfl rfl rfl rfl rfl (enters_of Tryz.func71 (by kernel_rfl) rfl) (o2 _ _ _ _ (by exact a_mem) (by exact a_mem)) (fun _ => ?_)) | (refine on_buildSlice (T := 25) (e := 3) (k := 1) (by_ := 8) hF rfl rfl rfl rfl rfl rfl (by kernel_rfl) a_cel (Nat.le_of_ble_eq_true rfl) (fun b => ?_)) | (refine on_append (T := 25) (e := 3) (k := 1) (by_ := 8) hF rfl rfl rfl rfl rfl a_pick (by kernel_rfl) a_sl a_cel a_bnd a_bnd (fun v => ?_)) | (refine on_alloc hF rfl Tryz.zeroValue33 rfl rfl (fun B => ?_)) | (refine on_box hF rfl rfl rfl rfl (fun B => ?_)) | (refine on_store hF rfl rfl rfl rfl a_turn a_vof a_sz ?_) | (refine on_storeE hF rfl rfl rfl rfl a_turn a_om a_vof a_sz ?_) | (refine on_storeEF hF rfl rfl rfl rfl a_turn a_as (by decide) a_vof rfl ?_) | (refine on_storeF hF rfl rfl rfl rfl a_turn (by decide) a_vof rfl ?_)) <;> try (refine hK2 _ _ _ a_allK ?_; clear hK2 K2))) <;> (refine hK _ _ _ ?_; clear hK K)) | with_reducible (first | refine nx_seq ?_ | refine nx_region ?_ | refine nl_nil ?_ | refine nq_then_n ?_ | refine nx_block ?_ | refine nx_skip ?_ | refine nx_exit ?_ | refine nx_ret ?_ | refine nq_then_x ?_ | refine nq_then_r ?_ | refine nq_blk_n ?_ | refine nq_blk_r ?_ | refine nq_blk_hit ?_ | refine nq_blk_miss rfl ?_ | refine nd_nil ?_) | refine nx_cond_t rfl ?_ | refine nx_cond_f rfl ?_ | refine nl_pass hF rfl rfl rfl ?_ | refine nd_pass rfl rfl rfl rfl rfl ?_ | refine nd_pass2 rfl rfl rfl a_nd a_allK rfl rfl ?_ | refine nd_pass3 rfl rfl rfl a_nd rfl rfl ?_ | (with_reducible refine hQ1 _ _ _ ?_; clear hQ1 Q1) )
        all_goals (try (exfalso; dsimp only at *; omega))
        refine nx_again (⟨(acc ++ [x], y, false), hup⟩, v2) (by simp; omega) (by exact a_sub) (by exact a_subR) (by exact a_holds)
      | true =>
        rw [Bool.true_and] at hu
        repeat' (first | ((first | with_reducible refine nl_op rfl ?_ | refine nd_go rfl rfl rfl ?_); intro K hK; (first | ((first | refine on_E hF rfl rfl ?_ | refine od_E rfl rfl ?_ | refine od_R rfl rfl ?_); (first | refine ⟨_, a_yl, ?_⟩ | refine ⟨_, (by first | exact yl_fieldB (T := 33) (f := 0) (q := 0) rfl rfl (by kernel_rfl) | exact yl_fieldE (T := 33) (f := 0) (j := 0) rfl rfl a_sl a_om (by kernel_rfl) | exact yl_fieldB (T := 33) (f := 1) (q := 1) rfl rfl (by kernel_rfl) | exact yl_fieldE (T := 33) (f := 1) (j := 1) rfl rfl a_sl a_om (by kernel_rfl) | exact yl_fieldB (T := 33) (f := 2) (q := 2) rfl rfl (by kernel_rfl) | exact yl_fieldE (T := 33) (f := 2) (j := 2) rfl rfl a_sl a_om (by kernel_rfl) | exact yl_fieldB (T := 33) (f := 4) (q := 4) rfl rfl (by kernel_rfl) | exact yl_fieldE (T := 33) (f := 4) (j := 4) rfl rfl a_sl a_om (by kernel_rfl) | exact yl_fieldB (T := 33) (f := 5) (q := 5) rfl rfl (by kernel_rfl) | exact yl_fieldE (T := 33) (f := 5) (j := 5) rfl rfl a_sl a_om (by kernel_rfl) | exact yl_fieldB (T := 33) (f := 6) (q := 6) rfl rfl (by kernel_rfl) | exact yl_fieldE (T := 33) (f := 6) (j := 6) rfl rfl a_sl a_om (by kernel_rfl)), ?_⟩)) | ((first | refine on_Ec hF rfl rfl ?_ | refine od_Ec rfl rfl ?_); refine ⟨_, _, _, a_yc, ?_, ?_⟩ <;> (intro hc; try exact a_cut hc)) | ((first | (refine od_act a_nd ?_; intro K2 hK2) | refine od_last a_nd ?_ | skip); (first | (refine on_buildSlice (e := 3) (k := 1) (by_ := 8) hF rfl rfl rfl rfl rfl rfl (by kernel_rfl) hcx (by simp) (fun bq => ?_)) | (refine on_append (e := 3) (k := 1) (by_ := 8) (ys := [.int .i64 x.id]) hF rfl rfl rfl rfl rfl (by exact a_pick) (by kernel_rfl) (by exact a_sl) hcx (by exact hm1) (by exact hm2) (fun v2 => ?_); rw [hsn]) | (refine on_callc (vs := [.int .i64 x.par]) hF rfl rfl rfl rfl rfl (enters_of Tryz.func71 (by kernel_rfl) rfl) (o2 _ _ _ _ (by exact a_mem) (by exact a_mem)) (fun _ => ?_)) | (refine on_buildSlice (T := 25) (e := 3) (k := 1) (by_ := 8) hF rfl rfl rfl rfl rfl rfl (by kernel_rfl) a_cel (Nat.le_of_ble_eq_true rfl) (fun b => ?_)) | (refine on_append (T := 25) (e := 3) (k := 1) (by_ := 8) hF rfl rfl rfl rfl rfl a_pick (by kernel_rfl) a_sl a_cel a_bnd a_bnd (fun v => ?_)) | (refine on_alloc hF rfl Tryz.zeroValue33 rfl rfl (fun B => ?_)) | (refine on_box hF rfl rfl rfl rfl (fun B => ?_)) | (refine on_store hF rfl rfl rfl rfl a_turn a_vof a_sz ?_) | (refine on_storeE hF rfl rfl rfl rfl a_turn a_om a_vof a_sz ?_) | (refine on_storeEF hF rfl rfl rfl rfl a_turn a_as (by decide) a_vof rfl ?_) | (refine on_storeF hF rfl rfl rfl rfl a_turn (by decide) a_vof rfl ?_)) <;> try (refine hK2 _ _ _ a_allK ?_; clear hK2 K2))) <;> (refine hK _ _ _ ?_; clear hK K)) | with_reducible (first | refine nx_seq ?_ | refine nx_region ?_ | refine nl_nil ?_ | refine nq_then_n ?_ | refine nx_block ?_ | refine nx_skip ?_ | refine nx_exit ?_ | refine nx_ret ?_ | refine nq_then_x ?_ | refine nq_then_r ?_ | refine nq_blk_n ?_ | refine nq_blk_r ?_ | refine nq_blk_hit ?_ | refine nq_blk_miss rfl ?_ | refine nd_nil ?_) | refine nx_cond_t rfl ?_ | refine nx_cond_f rfl ?_ | refine nl_pass hF rfl rfl rfl ?_ | refine nd_pass rfl rfl rfl rfl rfl ?_ | refine nd_pass2 rfl rfl rfl a_nd a_allK rfl rfl ?_ | refine nd_pass3 rfl rfl rfl a_nd rfl rfl ?_ | (with_reducible refine hQ1 _ _ _ ?_; clear hQ1 Q1) )
        all_goals (try (exfalso; dsimp only at *; omega))
        all_goals (first
          | (have hd : y.tl = x.tl ∧ y.id < x.id ∧ y.b ≤ x.a := by omega
             rw [decide_eq_true hd] at hu
             rw [hu] at hup
             refine nx_again (⟨(acc ++ [x], y, true), hup⟩, v2) (by simp; omega) (by exact a_sub) (by exact a_subR) (by exact a_holds))
          | (have hd : ¬ (y.tl = x.tl ∧ y.id < x.id ∧ y.b ≤ x.a) := by omega
             rw [decide_eq_false hd] at hu
             rw [hu] at hup
             refine nx_again (⟨(acc ++ [x], y, false), hup⟩, v2) (by simp; omega) (by exact a_sub) (by exact a_subR) (by exact a_holds)))
end Chn
end Go.Proofs.YtinofjenoapeaaaGreat
end
section
namespace Go.Proofs.YtinofjenoapeaaaGreat
open Go.RowKit Go.Shelf
set_option linter.unusedSimpArgs false
set_option linter.unusedVariables false
namespace Chn
variable {W0 : World} {X : Nat → Prop} {R C : List Ch}
set_option maxRecDepth 100000 in
set_option maxHeartbeats 1000000 in
theorem backups1_ct (s : Value) (hs : IsSl s) (L : List It2) (hok : ∀ x ∈ L, x.ok) (t most : Int) (x : It2) (hx : x.ok) (bt bm bl : Nat) (hbt : BoxC bt 3 (.int .i64 t) ∈ R) (hbm : BoxC bm 3 (.int .i64 most) ∈ R) (hbl : BoxC bl 22 s ∈ R) (hsl : SlC 9 s (L.map It2.v) ∈ R) (hm : L.length * 88 ≤ 140737488355328) :
    Ct Tryz.prog 97 [x.v, ptr bt, ptr bm, ptr bl] W0 X R C Unit (fun _ => .bool (backupsB L t most x)) (fun _ => R) (fun _ => C) := by
  intro w hw
  have hF := isWide_wide
  have hvs : VOf Tryz.prog 22 s := vof_slice (by kernel_rfl) hs
  have bk := fun (W0 : World) (X : Nat → Prop) (R C : List Ch) => backup_ct (W0 := W0) (X := X) (R := R) (C := C) x hx
  have oc := fun (W0 : World) (X : Nat → Prop) (R C : List Ch) h => of_ct (W0 := W0) (X := X) (R := R) (C := C) s hs L hok x.id h hm
  have hvx := x.vof hx
  have hi : backupsB L t most x = (backB x && decide (x.tl = t) && decide (x.b ≤ most) && (chainOf L x.id).isSome) := rfl
  obtain ⟨q, hq⟩ : ∃ q, backB x = q := ⟨_, rfl⟩
  obtain ⟨z, hz⟩ : ∃ z, (chainOf L x.id).isSome = z := ⟨_, rfl⟩
  rw [hq] at bk
  rw [hz] at oc
  rw [hq, hz] at hi
  rw [hi]
  clear hi hq hz
  cases q with
  | false =>
    simp only [Bool.false_and]
    refine calls_nx Tryz.func97 rfl Tryz.ntmps97 rfl ?_ hw
    repeat' (first | ((first | with_reducible refine nl_op rfl ?_ | refine nd_go rfl rfl rfl ?_); intro K hK; (first | ((first | refine on_E hF rfl rfl ?_ | refine od_E rfl rfl ?_ | refine od_R rfl rfl ?_); (first | refine ⟨_, a_yl, ?_⟩ | refine ⟨_, (by first | exact yl_fieldB (T := 33) (f := 0) (q := 0) rfl rfl (by kernel_rfl) | exact yl_fieldE (T := 33) (f := 0) (j := 0) rfl rfl a_sl a_om (by kernel_rfl) | exact yl_fieldB (T := 33) (f := 2) (q := 2) rfl rfl (by kernel_rfl) | exact yl_fieldE (T := 33) (f := 2) (j := 2) rfl rfl a_sl a_om (by kernel_rfl) | exact yl_fieldB (T := 33) (f := 5) (q := 5) rfl rfl (by kernel_rfl) | exact yl_fieldE (T := 33) (f := 5) (j := 5) rfl rfl a_sl a_om (by kernel_rfl)), ?_⟩)) | ((first | refine on_Ec hF rfl rfl ?_ | refine od_Ec rfl rfl ?_); refine ⟨_, _, _, a_yc, ?_, ?_⟩ <;> (intro hc; try exact a_cut hc)) | ((first | (refine od_act a_nd ?_; intro K2 hK2) | refine od_last a_nd ?_ | skip); (first | (refine on_callG hF (enters_of Tryz.func74 (by kernel_rfl) rfl) rfl rfl rfl rfl (bk _ _ _ _) (fun _ => ?_)) | (refine on_box hF rfl rfl rfl rfl (fun B => ?_)) | (refine on_store hF rfl rfl rfl rfl a_turn a_vof a_sz ?_) | (refine on_storeE hF rfl rfl rfl rfl a_turn a_om a_vof a_sz ?_) | (refine on_storeEF hF rfl rfl rfl rfl a_turn a_as (by decide) a_vof rfl ?_) | (refine on_storeF hF rfl rfl rfl rfl a_turn (by decide) a_vof rfl ?_)) <;> try (refine hK2 _ _ _ a_allK ?_; clear hK2 K2))) <;> (refine hK _ _ _ ?_; clear hK K)) | with_reducible (first | refine nx_seq ?_ | refine nx_region ?_ | refine nl_nil ?_ | refine nq_then_n ?_ | refine nx_block ?_ | refine nx_skip ?_ | refine nx_exit ?_ | refine nx_ret ?_ | refine nq_then_x ?_ | refine nq_then_r ?_ | refine nq_blk_n ?_ | refine nq_blk_r ?_ | refine nq_blk_hit ?_ | refine nq_blk_miss rfl ?_ | refine nd_nil ?_) | refine nx_cond_t rfl ?_ | refine nx_cond_f rfl ?_ | refine nl_pass hF rfl rfl rfl ?_ | refine nd_pass rfl rfl rfl rfl rfl ?_ | refine nd_pass2 rfl rfl rfl a_nd a_allK rfl rfl ?_ | refine nd_pass3 rfl rfl rfl a_nd rfl rfl ?_ | (with_reducible refine hQ1 _ _ _ ?_; clear hQ1 Q1) )
    refine nx_end [] rfl () (fun a w ha hw => res_tmp Tryz.results97 rfl ha) (by exact a_subR) (by exact a_holds2)
  | true =>
    by_cases h1 : x.tl = t
    · by_cases h2 : x.b ≤ most
      · rw [decide_eq_true h1, decide_eq_true h2]
        simp only [Bool.true_and]
        refine calls_nx Tryz.func97 rfl Tryz.ntmps97 rfl ?_ hw
        repeat' (first | ((first | with_reducible refine nl_op rfl ?_ | refine nd_go rfl rfl rfl ?_); intro K hK; (first | ((first | refine on_E hF rfl rfl ?_ | refine od_E rfl rfl ?_ | refine od_R rfl rfl ?_); (first | refine ⟨_, a_yl, ?_⟩ | refine ⟨_, (by first | exact yl_fieldB (T := 33) (f := 0) (q := 0) rfl rfl (by kernel_rfl) | exact yl_fieldE (T := 33) (f := 0) (j := 0) rfl rfl a_sl a_om (by kernel_rfl) | exact yl_fieldB (T := 33) (f := 2) (q := 2) rfl rfl (by kernel_rfl) | exact yl_fieldE (T := 33) (f := 2) (j := 2) rfl rfl a_sl a_om (by kernel_rfl) | exact yl_fieldB (T := 33) (f := 5) (q := 5) rfl rfl (by kernel_rfl) | exact yl_fieldE (T := 33) (f := 5) (j := 5) rfl rfl a_sl a_om (by kernel_rfl)), ?_⟩)) | ((first | refine on_Ec hF rfl rfl ?_ | refine od_Ec rfl rfl ?_); refine ⟨_, _, _, a_yc, ?_, ?_⟩ <;> (intro hc; try exact a_cut hc)) | ((first | (refine od_act a_nd ?_; intro K2 hK2) | refine od_last a_nd ?_ | skip); (first | (refine on_callG hF (enters_of Tryz.func74 (by kernel_rfl) rfl) rfl rfl rfl rfl (bk _ _ _ _) (fun _ => ?_)) | (refine on_callG hF (enters_of Tryz.func46 (by kernel_rfl) rfl) rfl rfl rfl rfl (oc _ _ _ _ (by exact a_mem)) (fun _ => ?_)) | (refine on_box hF rfl rfl rfl rfl (fun B => ?_)) | (refine on_store hF rfl rfl rfl rfl a_turn a_vof a_sz ?_) | (refine on_storeE hF rfl rfl rfl rfl a_turn a_om a_vof a_sz ?_) | (refine on_storeEF hF rfl rfl rfl rfl a_turn a_as (by decide) a_vof rfl ?_) | (refine on_storeF hF rfl rfl rfl rfl a_turn (by decide) a_vof rfl ?_)) <;> try (refine hK2 _ _ _ a_allK ?_; clear hK2 K2))) <;> (refine hK _ _ _ ?_; clear hK K)) | with_reducible (first | refine nx_seq ?_ | refine nx_region ?_ | refine nl_nil ?_ | refine nq_then_n ?_ | refine nx_block ?_ | refine nx_skip ?_ | refine nx_exit ?_ | refine nx_ret ?_ | refine nq_then_x ?_ | refine nq_then_r ?_ | refine nq_blk_n ?_ | refine nq_blk_r ?_ | refine nq_blk_hit ?_ | refine nq_blk_miss rfl ?_ | refine nd_nil ?_) | refine nx_cond_t rfl ?_ | refine nx_cond_f rfl ?_ | refine nl_pass hF rfl rfl rfl ?_ | refine nd_pass rfl rfl rfl rfl rfl ?_ | refine nd_pass2 rfl rfl rfl a_nd a_allK rfl rfl ?_ | refine nd_pass3 rfl rfl rfl a_nd rfl rfl ?_ | (with_reducible refine hQ1 _ _ _ ?_; clear hQ1 Q1) )
        all_goals (try (exfalso; dsimp only at *; omega))
        refine nx_end [] rfl () (fun a w ha hw => res_tmp Tryz.results97 rfl ha) (by exact a_subR) (by exact a_holds2)
      · rw [decide_eq_false h2]
        simp only [Bool.and_false, Bool.false_and]
        refine calls_nx Tryz.func97 rfl Tryz.ntmps97 rfl ?_ hw
        repeat' (first | ((first | with_reducible refine nl_op rfl ?_ | refine nd_go rfl rfl rfl ?_); intro K hK; (first | ((first | refine on_E hF rfl rfl ?_ | refine od_E rfl rfl ?_ | refine od_R rfl rfl ?_); (first | refine ⟨_, a_yl, ?_⟩ | refine ⟨_, (by first | exact yl_fieldB (T := 33) (f := 0) (q := 0) rfl rfl (by kernel_rfl) | exact yl_fieldE (T := 33) (f := 0) (j := 0) rfl rfl a_sl a_om (by kernel_rfl) | exact yl_fieldB (T := 33) (f := 2) (q := 2) rfl rfl (by kernel_rfl) | exact yl_fieldE (T := 33) (f := 2) (j := 2) rfl rfl a_sl a_om (by kernel_rfl) | exact yl_fieldB (T := 33) (f := 5) (q := 5) rfl rfl (by kernel_rfl) | exact yl_fieldE (T := 33) (f := 5) (j := 5) rfl rfl a_sl a_om (by kernel_rfl)), ?_⟩)) | ((first | refine on_Ec hF rfl rfl ?_ | refine od_Ec rfl rfl ?_); refine ⟨_, _, _, a_yc, ?_, ?_⟩ <;> (intro hc; try exact a_cut hc)) | ((first | (refine od_act a_nd ?_; intro K2 hK2) | refine od_last a_nd ?_ | skip); (first | (refine on_callG hF (enters_of Tryz.func74 (by kernel_rfl) rfl) rfl rfl rfl rfl (bk _ _ _ _) (fun _ => ?_)) | (refine on_box hF rfl rfl rfl rfl (fun B => ?_)) | (refine on_store hF rfl rfl rfl rfl a_turn a_vof a_sz ?_) | (refine on_storeE hF rfl rfl rfl rfl a_turn a_om a_vof a_sz ?_) | (refine on_storeEF hF rfl rfl rfl rfl a_turn a_as (by decide) a_vof rfl ?_) | (refine on_storeF hF rfl rfl rfl rfl a_turn (by decide) a_vof rfl ?_)) <;> try (refine hK2 _ _ _ a_allK ?_; clear hK2 K2))) <;> (refine hK _ _ _ ?_; clear hK K)) | with_reducible (first | refine nx_seq ?_ | refine nx_region ?_ | refine nl_nil ?_ | refine nq_then_n ?_ | refine nx_block ?_ | refine nx_skip ?_ | refine nx_exit ?_ | refine nx_ret ?_ | refine nq_then_x ?_ | refine nq_then_r ?_ | refine nq_blk_n ?_ | refine nq_blk_r ?_ | refine nq_blk_hit ?_ | refine nq_blk_miss rfl ?_ | refine nd_nil ?_) | refine nx_cond_t rfl ?_ | refine nx_cond_f rfl ?_ | refine nl_pass hF rfl rfl rfl ?_ | refine nd_pass rfl rfl rfl rfl rfl ?_ | refine nd_pass2 rfl rfl rfl a_nd a_allK rfl rfl ?_ | refine nd_pass3 rfl rfl rfl a_nd rfl rfl ?_ | (with_reducible refine hQ1 _ _ _ ?_; clear hQ1 Q1) )
        all_goals (try (exfalso; dsimp only at *; omega))
        refine nx_end [] rfl () (fun a w ha hw => res_tmp Tryz.results97 rfl ha) (by exact a_subR) (by exact a_holds2)
    · rw [decide_eq_false h1]
      simp only [Bool.and_false, Bool.false_and]
      refine calls_nx Tryz.func97 rfl Tryz.ntmps97 rfl ?_ hw
      repeat' (first | ((first | with_reducible refine nl_op rfl ?_ | refine nd_go rfl rfl rfl ?_); intro K hK; (first | ((first | refine on_E hF rfl rfl ?_ | refine od_E rfl rfl ?_ | refine od_R rfl rfl ?_); (first | refine ⟨_, a_yl, ?_⟩ | refine ⟨_, (by first | exact yl_fieldB (T := 33) (f := 0) (q := 0) rfl rfl (by kernel_rfl) | exact yl_fieldE (T := 33) (f := 0) (j := 0) rfl rfl a_sl a_om (by kernel_rfl) | exact yl_fieldB (T := 33) (f := 2) (q := 2) rfl rfl (by kernel_rfl) | exact yl_fieldE (T := 33) (f := 2) (j := 2) rfl rfl a_sl a_om (by kernel_rfl) | exact yl_fieldB (T := 33) (f := 5) (q := 5) rfl rfl (by kernel_rfl) | exact yl_fieldE (T := 33) (f := 5) (j := 5) rfl rfl a_sl a_om (by kernel_rfl)), ?_⟩)) | ((first | refine on_Ec hF rfl rfl ?_ | refine od_Ec rfl rfl ?_); refine ⟨_, _, _, a_yc, ?_, ?_⟩ <;> (intro hc; try exact a_cut hc)) | ((first | (refine od_act a_nd ?_; intro K2 hK2) | refine od_last a_nd ?_ | skip); (first | (refine on_callG hF (enters_of Tryz.func74 (by kernel_rfl) rfl) rfl rfl rfl rfl (bk _ _ _ _) (fun _ => ?_)) | (refine on_box hF rfl rfl rfl rfl (fun B => ?_)) | (refine on_store hF rfl rfl rfl rfl a_turn a_vof a_sz ?_) | (refine on_storeE hF rfl rfl rfl rfl a_turn a_om a_vof a_sz ?_) | (refine on_storeEF hF rfl rfl rfl rfl a_turn a_as (by decide) a_vof rfl ?_) | (refine on_storeF hF rfl rfl rfl rfl a_turn (by decide) a_vof rfl ?_)) <;> try (refine hK2 _ _ _ a_allK ?_; clear hK2 K2))) <;> (refine hK _ _ _ ?_; clear hK K)) | with_reducible (first | refine nx_seq ?_ | refine nx_region ?_ | refine nl_nil ?_ | refine nq_then_n ?_ | refine nx_block ?_ | refine nx_skip ?_ | refine nx_exit ?_ | refine nx_ret ?_ | refine nq_then_x ?_ | refine nq_then_r ?_ | refine nq_blk_n ?_ | refine nq_blk_r ?_ | refine nq_blk_hit ?_ | refine nq_blk_miss rfl ?_ | refine nd_nil ?_) | refine nx_cond_t rfl ?_ | refine nx_cond_f rfl ?_ | refine nl_pass hF rfl rfl rfl ?_ | refine nd_pass rfl rfl rfl rfl rfl ?_ | refine nd_pass2 rfl rfl rfl a_nd a_allK rfl rfl ?_ | refine nd_pass3 rfl rfl rfl a_nd rfl rfl ?_ | (with_reducible refine hQ1 _ _ _ ?_; clear hQ1 Q1) )
      all_goals (try (exfalso; dsimp only at *; omega))
      refine nx_end [] rfl () (fun a w ha hw => res_tmp Tryz.results97 rfl ha) (by exact a_subR) (by exact a_holds2)
theorem backups1_pred (s : Value) (hs : IsSl s) (L : List It2) (hok : ∀ x ∈ L, x.ok) (t most : Int) (bt bm bl : Nat) (hm : L.length * 88 ≤ 140737488355328) : PredS Tryz.prog (L.map It2.v) (fun v => backupsB L t most (toIt2 v)) (.func (.func 97) #[] #[ptr bt, ptr bm, ptr bl]) [BoxC bt 3 (.int .i64 t), BoxC bm 3 (.int .i64 most), BoxC bl 22 s, SlC 9 s (L.map It2.v)] := ⟨97, [ptr bt, ptr bm, ptr bl], rfl, (enters_of Tryz.func97 (by kernel_rfl) rfl), fun W0 X R C hR x hx => by
  obtain ⟨y, hy, rfl⟩ := List.mem_map.1 hx
  exact backups1_ct s hs L hok t most y (hok y hy) bt bm bl (hR _ (by simp)) (hR _ (by simp)) (hR _ (by simp)) (hR _ (by simp)) hm⟩
abbrev BkI : Type := (SV × Nat) × (Nat × Nat × Nat) × (Nat × Nat)
abbrev bkV (i : BkI) : Value := .func (.func 27) #[] #[ptr i.2.2.1, ptr i.2.2.2]
abbrev bkR (s : Value) (L : List It2) (t most : Int) (i : BkI) : List Ch := BoxC i.2.2.2 45 (.func (.func 97) #[] #[ptr i.2.1.1, ptr i.2.1.2.1, ptr i.2.1.2.2]) :: BoxC i.2.2.1 40 (NItem.ofV i.1.2) :: ([BoxC i.1.2 22 i.1.1.1, SlC 9 i.1.1.1 (L.map It2.v)] ++ [BoxC i.2.1.1 3 (.int .i64 t), BoxC i.2.1.2.1 3 (.int .i64 most), BoxC i.2.1.2.2 22 s, SlC 9 s (L.map It2.v)])
theorem bk_it (s : Value) (hs : IsSl s) (L : List It2) (hok : ∀ x ∈ L, x.ok) (t most : Int) (i : BkI) (hm : L.length * 88 ≤ 140737488355328) : It Tryz.prog ((L.filter (backupsB L t most)).map It2.v) (bkV i) (bkR s L t most i) := by
  have hmx : (L.map It2.v).length ≤ maxLen := by unfold maxLen; simp; omega
  have h := NItem.keep_it i.2.2.1 i.2.2.2 (NItem.ofV i.1.2) _ (L.map It2.v) (fun v => backupsB L t most (toIt2 v)) _ _ (NItem.of_it i.1 _ (vofs_it2 L hok) hmx).n (backups1_pred s hs L hok t most i.2.1.1 i.2.1.2.1 i.2.1.2.2 hm).n (vofs_it2 L hok)
  rwa [filter_it2] at h
set_option maxRecDepth 100000 in
set_option maxHeartbeats 1000000 in
theorem backups_ct (s : Value) (hs : IsSl s) (L : List It2) (hok : ∀ x ∈ L, x.ok) (t most : Int) (hsl : SlC 9 s (L.map It2.v) ∈ R) (hm : L.length * 88 ≤ 140737488355328) :
    Ct Tryz.prog 69 [s, .int .i64 t, .int .i64 most] W0 X R C BkI bkV (fun i => bkR s L t most i ++ R) (fun _ => C) := by
  intro w hw
  have hF := isWide_wide
  have hvs : VOf Tryz.prog 22 s := vof_slice (by kernel_rfl) hs
  have hml : (L.map It2.v).length * 88 ≤ 140737488355328 := by simpa using hm
  refine calls_nx Tryz.func69 rfl Tryz.ntmps69 rfl ?_ hw
  repeat' (first | ((first | with_reducible refine nl_op rfl ?_ | refine nd_go rfl rfl rfl ?_); intro K hK; (first | ((first | refine on_E hF rfl rfl ?_ | refine od_E rfl rfl ?_ | refine od_R rfl rfl ?_); (first | refine ⟨_, a_yl, ?_⟩)) | ((first | refine on_Ec hF rfl rfl ?_ | refine od_Ec rfl rfl ?_); refine ⟨_, _, _, a_yc, ?_, ?_⟩ <;> (intro hc; try exact a_cut hc)) | ((first | (refine od_act a_nd ?_; intro K2 hK2) | refine od_last a_nd ?_ | skip); (first  | (refine on_box hF rfl rfl rfl rfl (fun B => ?_)) | (refine on_store hF rfl rfl rfl rfl a_turn a_vof a_sz ?_) | (refine on_storeE hF rfl rfl rfl rfl a_turn a_om a_vof a_sz ?_) | (refine on_storeEF hF rfl rfl rfl rfl a_turn a_as (by decide) a_vof rfl ?_) | (refine on_storeF hF rfl rfl rfl rfl a_turn (by decide) a_vof rfl ?_)) <;> try (refine hK2 _ _ _ a_allK ?_; clear hK2 K2))) <;> (refine hK _ _ _ ?_; clear hK K)) | with_reducible (first | refine nx_seq ?_ | refine nx_region ?_ | refine nl_nil ?_ | refine nq_then_n ?_ | refine nx_block ?_ | refine nx_skip ?_ | refine nx_exit ?_ | refine nx_ret ?_ | refine nq_then_x ?_ | refine nq_then_r ?_ | refine nq_blk_n ?_ | refine nq_blk_r ?_ | refine nq_blk_hit ?_ | refine nq_blk_miss rfl ?_ | refine nd_nil ?_) | refine nx_cond_t rfl ?_ | refine nx_cond_f rfl ?_ | refine nl_pass hF rfl rfl rfl ?_ | refine nd_pass rfl rfl rfl rfl rfl ?_ | refine nd_pass2 rfl rfl rfl a_nd a_allK rfl rfl ?_ | refine nd_pass3 rfl rfl rfl a_nd rfl rfl ?_ | (with_reducible refine hQ1 _ _ _ ?_; clear hQ1 Q1) )
  rename_i b3 b4
  obtain ⟨b5, hb5⟩ : ∃ b5, b5 = B := ⟨_, rfl⟩
  subst hb5
  refine nx_frz (BoxC b3 22 s) (by exact a_pick) ?_
  refine nx_frz (BoxC b4 3 (.int .i64 t)) (by exact a_pick) ?_
  refine nx_frz (BoxC b5 3 (.int .i64 most)) (by exact a_pick) ?_
  repeat' (first | ((first | with_reducible refine nl_op rfl ?_ | refine nd_go rfl rfl rfl ?_); intro K hK; (first | ((first | refine on_E hF rfl rfl ?_ | refine od_E rfl rfl ?_ | refine od_R rfl rfl ?_); (first | refine ⟨_, a_yl, ?_⟩)) | ((first | refine on_Ec hF rfl rfl ?_ | refine od_Ec rfl rfl ?_); refine ⟨_, _, _, a_yc, ?_, ?_⟩ <;> (intro hc; try exact a_cut hc)) | ((first | (refine od_act a_nd ?_; intro K2 hK2) | refine od_last a_nd ?_ | skip); (first | (refine on_callG hF (enters_of Tryz.func15 (by kernel_rfl) rfl) rfl rfl rfl rfl (NItem.of_ct s (L.map It2.v) (by exact a_mem) hs (vofs_it2 L hok) hml) (fun j => ?_)) | (refine on_callG hF (enters_of Tryz.func14 (by kernel_rfl) rfl) rfl rfl rfl rfl (NItem.keep_ct _ _ rfl rfl) (fun k => ?_)) | (refine on_box hF rfl rfl rfl rfl (fun B => ?_)) | (refine on_store hF rfl rfl rfl rfl a_turn a_vof a_sz ?_) | (refine on_storeE hF rfl rfl rfl rfl a_turn a_om a_vof a_sz ?_) | (refine on_storeEF hF rfl rfl rfl rfl a_turn a_as (by decide) a_vof rfl ?_) | (refine on_storeF hF rfl rfl rfl rfl a_turn (by decide) a_vof rfl ?_)) <;> try (refine hK2 _ _ _ a_allK ?_; clear hK2 K2))) <;> (refine hK _ _ _ ?_; clear hK K)) | with_reducible (first | refine nx_seq ?_ | refine nx_region ?_ | refine nl_nil ?_ | refine nq_then_n ?_ | refine nx_block ?_ | refine nx_skip ?_ | refine nx_exit ?_ | refine nx_ret ?_ | refine nq_then_x ?_ | refine nq_then_r ?_ | refine nq_blk_n ?_ | refine nq_blk_r ?_ | refine nq_blk_hit ?_ | refine nq_blk_miss rfl ?_ | refine nd_nil ?_) | refine nx_cond_t rfl ?_ | refine nx_cond_f rfl ?_ | refine nl_pass hF rfl rfl rfl ?_ | refine nd_pass rfl rfl rfl rfl rfl ?_ | refine nd_pass2 rfl rfl rfl a_nd a_allK rfl rfl ?_ | refine nd_pass3 rfl rfl rfl a_nd rfl rfl ?_ | (with_reducible refine hQ1 _ _ _ ?_; clear hQ1 Q1) )
  refine nx_end [] rfl ((j, (b4, b5, b3), k)) (fun a w ha hw => res_tmp Tryz.results69 rfl ha) (by exact a_subR) (by exact a_holds2)
end Chn
end Go.Proofs.YtinofjenoapeaaaGreat
end
section
namespace Go.Proofs.YtinofjenoapeaaaGreat
open Go.RowKit Go.Shelf
set_option linter.unusedSimpArgs false
set_option linter.unusedVariables false
namespace Chn
variable {W0 : World} {X : Nat → Prop} {R C : List Ch}
def bestSt (least : Int) (pre : List Value) : It2 × Bool := pre.foldl (fun s v => bestStep least s (toIt2 v)) (zIt2, false)
theorem bestSt_map (least : Int) (xs : List It2) : bestSt least (xs.map It2.v) = xs.foldl (bestStep least) (zIt2, false) := by
  unfold bestSt; rw [List.foldl_map]; rfl
theorem bestSt_snoc (least : Int) (pre : List Value) (x : It2) : bestSt least (pre ++ [x.v]) = bestStep least (bestSt least pre) x := by
  unfold bestSt; rw [List.foldl_append]; rfl
theorem bestSt_ok (least : Int) (L : List It2) (hok : ∀ x ∈ L, x.ok) : ∀ (pre : List Value), (∀ v ∈ pre, ∃ y ∈ L, v = y.v) → (bestSt least pre).1.ok := by
  have key : ∀ (pre : List Value) (s : It2 × Bool), s.1.ok → (∀ v ∈ pre, ∃ y ∈ L, v = y.v) → (pre.foldl (fun s v => bestStep least s (toIt2 v)) s).1.ok := by
    intro pre
    induction pre with
    | nil => intro s hs _; exact hs
    | cons v pre ih =>
      intro s hs hp
      rw [List.foldl_cons]
      refine ih _ ?_ (fun u hu => hp u (by simp [hu]))
      obtain ⟨y, hy, rfl⟩ := hp v (by simp)
      unfold bestStep
      split
      · exact hok y hy
      · exact hs
  exact fun pre hp => key pre _ zIt2_ok hp
set_option maxRecDepth 100000 in
set_option maxHeartbeats 2000000 in
theorem best_ct (s : Value) (hs : IsSl s) (L : List It2) (hok : ∀ x ∈ L, x.ok) (t least most : Int) (hsl : SlC 9 s (L.map It2.v) ∈ R) (hm : L.length * 88 ≤ 140737488355328) :
    Ct Tryz.prog 45 [s, .int .i64 t, .int .i64 least, .int .i64 most] W0 X R C Unit (fun _ => .tuple #[(bestOf L t least most).1.v, .bool (bestOf L t least most).2]) (fun _ => R) (fun _ => C) := by
  intro w hw
  have hF := isWide_wide
  have hxs : ∀ v ∈ (L.filter (backupsB L t most)).map It2.v, ∃ y ∈ L, v = y.v := fun v hv => by
    obtain ⟨y, hy, rfl⟩ := List.mem_map.1 hv
    exact ⟨y, (List.mem_filter.1 hy).1, rfl⟩
  have hpo : ∀ pre post, (L.filter (backupsB L t most)).map It2.v = pre ++ post → (bestSt least pre).1.ok := fun pre post h => bestSt_ok least L hok pre (fun v hv => hxs v (by rw [h]; simp [hv]))
  refine calls_nx Tryz.func45 rfl Tryz.ntmps45 rfl ?_ hw
  repeat' (first | ((first | with_reducible refine nl_op rfl ?_ | refine nd_go rfl rfl rfl ?_); intro K hK; (first | ((first | refine on_E hF rfl rfl ?_ | refine od_E rfl rfl ?_ | refine od_R rfl rfl ?_); (first | refine ⟨_, a_yl, ?_⟩ | refine ⟨_, (by first | exact yl_fieldB (T := 33) (f := 4) (q := 4) rfl rfl (by kernel_rfl) | exact yl_fieldE (T := 33) (f := 4) (j := 4) rfl rfl a_sl a_om (by kernel_rfl)), ?_⟩)) | ((first | refine on_Ec hF rfl rfl ?_ | refine od_Ec rfl rfl ?_); refine ⟨_, _, _, a_yc, ?_, ?_⟩ <;> (intro hc; try exact a_cut hc)) | ((first | (refine od_act a_nd ?_; intro K2 hK2) | refine od_last a_nd ?_ | skip); (first | (refine on_alloc hF rfl Tryz.zeroValue4 rfl rfl (fun B => ?_)) | (refine on_alloc hF rfl Tryz.zeroValue33 rfl rfl (fun B => ?_)) | (refine on_box hF rfl rfl rfl rfl (fun B => ?_)) | (refine on_store hF rfl rfl rfl rfl a_turn a_vof a_sz ?_) | (refine on_storeE hF rfl rfl rfl rfl a_turn a_om a_vof a_sz ?_) | (refine on_storeEF hF rfl rfl rfl rfl a_turn a_as (by decide) a_vof rfl ?_) | (refine on_storeF hF rfl rfl rfl rfl a_turn (by decide) a_vof rfl ?_)) <;> try (refine hK2 _ _ _ a_allK ?_; clear hK2 K2))) <;> (refine hK _ _ _ ?_; clear hK K)) | with_reducible (first | refine nx_seq ?_ | refine nx_region ?_ | refine nl_nil ?_ | refine nq_then_n ?_ | refine nx_block ?_ | refine nx_skip ?_ | refine nx_exit ?_ | refine nx_ret ?_ | refine nq_then_x ?_ | refine nq_then_r ?_ | refine nq_blk_n ?_ | refine nq_blk_r ?_ | refine nq_blk_hit ?_ | refine nq_blk_miss rfl ?_ | refine nd_nil ?_) | refine nx_cond_t rfl ?_ | refine nx_cond_f rfl ?_ | refine nl_pass hF rfl rfl rfl ?_ | refine nd_pass rfl rfl rfl rfl rfl ?_ | refine nd_pass2 rfl rfl rfl a_nd a_allK rfl rfl ?_ | refine nd_pass3 rfl rfl rfl a_nd rfl rfl ?_ | (with_reducible refine hQ1 _ _ _ ?_; clear hQ1 Q1) | (refine nd_region (id := 7) hF [1, 1, 2, 0] [0, 1, 2, 3] _ _ (by kernel_rfl) (by kernel_rfl) sub2_same ?_; intro Q1 hQ1))
  rename_i b6 b8 b10
  obtain ⟨b11, hb11⟩ : ∃ b11, b11 = B := ⟨_, rfl⟩
  subst hb11
  refine nx_frz (BoxC b6 3 (.int .i64 least)) (by exact a_pick) ?_
  repeat' (first | ((first | with_reducible refine nl_op rfl ?_ | refine nd_go rfl rfl rfl ?_); intro K hK; (first | ((first | refine on_E hF rfl rfl ?_ | refine od_E rfl rfl ?_ | refine od_R rfl rfl ?_); (first | refine ⟨_, a_yl, ?_⟩ | refine ⟨_, (by first | exact yl_fieldB (T := 33) (f := 4) (q := 4) rfl rfl (by kernel_rfl) | exact yl_fieldE (T := 33) (f := 4) (j := 4) rfl rfl a_sl a_om (by kernel_rfl)), ?_⟩)) | ((first | refine on_Ec hF rfl rfl ?_ | refine od_Ec rfl rfl ?_); refine ⟨_, _, _, a_yc, ?_, ?_⟩ <;> (intro hc; try exact a_cut hc)) | ((first | (refine od_act a_nd ?_; intro K2 hK2) | refine od_last a_nd ?_ | skip); (first | (refine on_callG hF (enters_of Tryz.func69 (by kernel_rfl) rfl) rfl rfl rfl rfl (backups_ct s hs L hok t most (by exact a_mem) hm) (fun i => ?_); simp only [bkR, List.cons_append, List.nil_append]) | (refine on_alloc hF rfl Tryz.zeroValue4 rfl rfl (fun B => ?_)) | (refine on_alloc hF rfl Tryz.zeroValue33 rfl rfl (fun B => ?_)) | (refine on_box hF rfl rfl rfl rfl (fun B => ?_)) | (refine on_store hF rfl rfl rfl rfl a_turn a_vof a_sz ?_) | (refine on_storeE hF rfl rfl rfl rfl a_turn a_om a_vof a_sz ?_) | (refine on_storeEF hF rfl rfl rfl rfl a_turn a_as (by decide) a_vof rfl ?_) | (refine on_storeF hF rfl rfl rfl rfl a_turn (by decide) a_vof rfl ?_)) <;> try (refine hK2 _ _ _ a_allK ?_; clear hK2 K2))) <;> (refine hK _ _ _ ?_; clear hK K)) | with_reducible (first | refine nx_seq ?_ | refine nx_region ?_ | refine nl_nil ?_ | refine nq_then_n ?_ | refine nx_block ?_ | refine nx_skip ?_ | refine nx_exit ?_ | refine nx_ret ?_ | refine nq_then_x ?_ | refine nq_then_r ?_ | refine nq_blk_n ?_ | refine nq_blk_r ?_ | refine nq_blk_hit ?_ | refine nq_blk_miss rfl ?_ | refine nd_nil ?_) | refine nx_cond_t rfl ?_ | refine nx_cond_f rfl ?_ | refine nl_pass hF rfl rfl rfl ?_ | refine nd_pass rfl rfl rfl rfl rfl ?_ | refine nd_pass2 rfl rfl rfl a_nd a_allK rfl rfl ?_ | refine nd_pass3 rfl rfl rfl a_nd rfl rfl ?_ | (with_reducible refine hQ1 _ _ _ ?_; clear hQ1 Q1) | (refine nd_region (id := 7) hF [1, 1, 2, 0] [0, 1, 2, 3] _ _ (by kernel_rfl) (by kernel_rfl) sub2_same ?_; intro Q1 hQ1))
  refine nx_range hF rfl rfl (bk_it s hs L hok t most i hm) (by exact a_subR) (by rfl) (fun x vs h => by rw [h]; rfl) (fun _ (_ : Unit) => True) (fun pre _ => BoxC b11 4 (.bool (bestSt least pre).2) :: BoxC b10 33 (bestSt least pre).1.v :: BoxC b8 33 zIt2.v :: C) (fun _ _ (_ : Unit) => False) (fun _ _ _ => []) () trivial (by exact a_holds2) ?round ?done ?stop
  case round =>
    rintro lp pre x post hx vs rfl _ _ W1 X1 R' hR' E1 K HK
    have hF := isWide_wide.inRound lp
    obtain ⟨y, hyL, rfl⟩ := hxs x (by rw [hx]; simp)
    have hyo := hok y hyL
    have hvy := y.vof hyo
    have hso := hpo pre _ hx
    have hsn := bestSt_snoc least pre y
    obtain ⟨⟨sb, sf⟩, hst⟩ : ∃ p, bestSt least pre = p := ⟨_, rfl⟩
    rw [hst] at hsn hso
    rw [hst]
    dsimp only at hso ⊢
    have hvb := sb.vof hso
    have hb6 : BoxC b6 3 (.int .i64 least) ∈ R' := hR' _ (by exact a_mem)
    have bc := fun (W0 : World) (X : Nat → Prop) (R C : List Ch) => better_ct (W0 := W0) (X := X) (R := R) (C := C) y sb hyo hso
    clear hR'
    (try simp only [List.cons_append, List.nil_append])
    repeat' (first | ((first | with_reducible refine nl_op rfl ?_ | refine nd_go rfl rfl rfl ?_); intro K hK; (first | ((first | refine on_E hF rfl rfl ?_ | refine od_E rfl rfl ?_ | refine od_R rfl rfl ?_); (first | refine ⟨_, a_yl, ?_⟩ | refine ⟨_, (by first | exact yl_fieldB (T := 33) (f := 4) (q := 4) rfl rfl (by kernel_rfl) | exact yl_fieldE (T := 33) (f := 4) (j := 4) rfl rfl a_sl a_om (by kernel_rfl)), ?_⟩)) | ((first | refine on_Ec hF rfl rfl ?_ | refine od_Ec rfl rfl ?_); refine ⟨_, _, _, a_yc, ?_, ?_⟩ <;> (intro hc; try exact a_cut hc)) | ((first | (refine od_act a_nd ?_; intro K2 hK2) | refine od_last a_nd ?_ | skip); (first | (refine on_alloc hF rfl Tryz.zeroValue4 rfl rfl (fun B => ?_)) | (refine on_alloc hF rfl Tryz.zeroValue33 rfl rfl (fun B => ?_)) | (refine on_box hF rfl rfl rfl rfl (fun B => ?_)) | (refine on_store hF rfl rfl rfl rfl a_turn a_vof a_sz ?_) | (refine on_storeE hF rfl rfl rfl rfl a_turn a_om a_vof a_sz ?_) | (refine on_storeEF hF rfl rfl rfl rfl a_turn a_as (by decide) a_vof rfl ?_) | (refine on_storeF hF rfl rfl rfl rfl a_turn (by decide) a_vof rfl ?_)) <;> try (refine hK2 _ _ _ a_allK ?_; clear hK2 K2))) <;> (refine hK _ _ _ ?_; clear hK K)) | with_reducible (first | refine nx_seq ?_ | refine nx_region ?_ | refine nl_nil ?_ | refine nq_then_n ?_ | refine nx_block ?_ | refine nx_skip ?_ | refine nx_exit ?_ | refine nx_ret ?_ | refine nq_then_x ?_ | refine nq_then_r ?_ | refine nq_blk_n ?_ | refine nq_blk_r ?_ | refine nq_blk_hit ?_ | refine nq_blk_miss rfl ?_ | refine nd_nil ?_) | refine nx_cond_t rfl ?_ | refine nx_cond_f rfl ?_ | refine nl_pass hF rfl rfl rfl ?_ | refine nd_pass rfl rfl rfl rfl rfl ?_ | refine nd_pass2 rfl rfl rfl a_nd a_allK rfl rfl ?_ | refine nd_pass3 rfl rfl rfl a_nd rfl rfl ?_ | (with_reducible refine hQ1 _ _ _ ?_; clear hQ1 Q1) | (refine nd_region (id := 7) hF [1, 1, 2, 0] [0, 1, 2, 3] _ _ (by kernel_rfl) (by kernel_rfl) sub2_same ?_; intro Q1 hQ1))
    refine nx_frz (BoxC _ _ y.v) Pick.here ?_
    refine HK _ _ (BoxC b11 4 (.bool sf) :: BoxC b10 33 sb.v :: BoxC b8 33 zIt2.v :: C) _ (by exact a_subR) (by exact a_holds2) (fun E2 => ?_)
    clear HK K
    (try simp only [List.cons_append, List.nil_append])
    unfold bestStep at hsn
    by_cases h1 : least ≤ y.a
    · cases sf with
      | false =>
        rw [if_pos (by simp [h1])] at hsn
        repeat' (first | ((first | with_reducible refine nl_op rfl ?_ | refine nd_go rfl rfl rfl ?_); intro K hK; (first | ((first | refine on_E hF rfl rfl ?_ | refine od_E rfl rfl ?_ | refine od_R rfl rfl ?_); (first | refine ⟨_, a_yl, ?_⟩ | refine ⟨_, (by first | exact yl_fieldB (T := 33) (f := 4) (q := 4) rfl rfl (by kernel_rfl) | exact yl_fieldE (T := 33) (f := 4) (j := 4) rfl rfl a_sl a_om (by kernel_rfl)), ?_⟩)) | ((first | refine on_Ec hF rfl rfl ?_ | refine od_Ec rfl rfl ?_); refine ⟨_, _, _, a_yc, ?_, ?_⟩ <;> (intro hc; try exact a_cut hc)) | ((first | (refine od_act a_nd ?_; intro K2 hK2) | refine od_last a_nd ?_ | skip); (first | (refine on_alloc hF rfl Tryz.zeroValue4 rfl rfl (fun B => ?_)) | (refine on_alloc hF rfl Tryz.zeroValue33 rfl rfl (fun B => ?_)) | (refine on_box hF rfl rfl rfl rfl (fun B => ?_)) | (refine on_store hF rfl rfl rfl rfl a_turn a_vof a_sz ?_) | (refine on_storeE hF rfl rfl rfl rfl a_turn a_om a_vof a_sz ?_) | (refine on_storeEF hF rfl rfl rfl rfl a_turn a_as (by decide) a_vof rfl ?_) | (refine on_storeF hF rfl rfl rfl rfl a_turn (by decide) a_vof rfl ?_)) <;> try (refine hK2 _ _ _ a_allK ?_; clear hK2 K2))) <;> (refine hK _ _ _ ?_; clear hK K)) | with_reducible (first | refine nx_seq ?_ | refine nx_region ?_ | refine nl_nil ?_ | refine nq_then_n ?_ | refine nx_block ?_ | refine nx_skip ?_ | refine nx_exit ?_ | refine nx_ret ?_ | refine nq_then_x ?_ | refine nq_then_r ?_ | refine nq_blk_n ?_ | refine nq_blk_r ?_ | refine nq_blk_hit ?_ | refine nq_blk_miss rfl ?_ | refine nd_nil ?_) | refine nx_cond_t rfl ?_ | refine nx_cond_f rfl ?_ | refine nl_pass hF rfl rfl rfl ?_ | refine nd_pass rfl rfl rfl rfl rfl ?_ | refine nd_pass2 rfl rfl rfl a_nd a_allK rfl rfl ?_ | refine nd_pass3 rfl rfl rfl a_nd rfl rfl ?_ | (with_reducible refine hQ1 _ _ _ ?_; clear hQ1 Q1) | (refine nd_region (id := 7) hF [1, 1, 2, 0] [0, 1, 2, 3] _ _ (by kernel_rfl) (by kernel_rfl) sub2_same ?_; intro Q1 hQ1))
        all_goals (try (exfalso; dsimp only at *; omega))
        exact rq_n () trivial (by exact a_subR) (by rw [hsn]; exact a_holds2)
      | true =>
        cases hb : betterB y sb with
        | true =>
          rw [hb] at bc
          rw [if_pos (by simp [h1, hb])] at hsn
          repeat' (first | ((first | with_reducible refine nl_op rfl ?_ | refine nd_go rfl rfl rfl ?_); intro K hK; (first | ((first | refine on_E hF rfl rfl ?_ | refine od_E rfl rfl ?_ | refine od_R rfl rfl ?_); (first | refine ⟨_, a_yl, ?_⟩ | refine ⟨_, (by first | exact yl_fieldB (T := 33) (f := 4) (q := 4) rfl rfl (by kernel_rfl) | exact yl_fieldE (T := 33) (f := 4) (j := 4) rfl rfl a_sl a_om (by kernel_rfl)), ?_⟩)) | ((first | refine on_Ec hF rfl rfl ?_ | refine od_Ec rfl rfl ?_); refine ⟨_, _, _, a_yc, ?_, ?_⟩ <;> (intro hc; try exact a_cut hc)) | ((first | (refine od_act a_nd ?_; intro K2 hK2) | refine od_last a_nd ?_ | skip); (first | (refine on_callG hF (enters_of Tryz.func70 (by kernel_rfl) rfl) rfl rfl rfl rfl (bc _ _ _ _) (fun _ => ?_)) | (refine on_alloc hF rfl Tryz.zeroValue4 rfl rfl (fun B => ?_)) | (refine on_alloc hF rfl Tryz.zeroValue33 rfl rfl (fun B => ?_)) | (refine on_box hF rfl rfl rfl rfl (fun B => ?_)) | (refine on_store hF rfl rfl rfl rfl a_turn a_vof a_sz ?_) | (refine on_storeE hF rfl rfl rfl rfl a_turn a_om a_vof a_sz ?_) | (refine on_storeEF hF rfl rfl rfl rfl a_turn a_as (by decide) a_vof rfl ?_) | (refine on_storeF hF rfl rfl rfl rfl a_turn (by decide) a_vof rfl ?_)) <;> try (refine hK2 _ _ _ a_allK ?_; clear hK2 K2))) <;> (refine hK _ _ _ ?_; clear hK K)) | with_reducible (first | refine nx_seq ?_ | refine nx_region ?_ | refine nl_nil ?_ | refine nq_then_n ?_ | refine nx_block ?_ | refine nx_skip ?_ | refine nx_exit ?_ | refine nx_ret ?_ | refine nq_then_x ?_ | refine nq_then_r ?_ | refine nq_blk_n ?_ | refine nq_blk_r ?_ | refine nq_blk_hit ?_ | refine nq_blk_miss rfl ?_ | refine nd_nil ?_) | refine nx_cond_t rfl ?_ | refine nx_cond_f rfl ?_ | refine nl_pass hF rfl rfl rfl ?_ | refine nd_pass rfl rfl rfl rfl rfl ?_ | refine nd_pass2 rfl rfl rfl a_nd a_allK rfl rfl ?_ | refine nd_pass3 rfl rfl rfl a_nd rfl rfl ?_ | (with_reducible refine hQ1 _ _ _ ?_; clear hQ1 Q1) | (refine nd_region (id := 7) hF [1, 1, 2, 0] [0, 1, 2, 3] _ _ (by kernel_rfl) (by kernel_rfl) sub2_same ?_; intro Q1 hQ1))
          all_goals (try (exfalso; dsimp only at *; omega))
          exact rq_n () trivial (by exact a_subR) (by rw [hsn]; exact a_holds2)
        | false =>
          rw [hb] at bc
          rw [if_neg (by simp [hb])] at hsn
          repeat' (first | ((first | with_reducible refine nl_op rfl ?_ | refine nd_go rfl rfl rfl ?_); intro K hK; (first | ((first | refine on_E hF rfl rfl ?_ | refine od_E rfl rfl ?_ | refine od_R rfl rfl ?_); (first | refine ⟨_, a_yl, ?_⟩ | refine ⟨_, (by first | exact yl_fieldB (T := 33) (f := 4) (q := 4) rfl rfl (by kernel_rfl) | exact yl_fieldE (T := 33) (f := 4) (j := 4) rfl rfl a_sl a_om (by kernel_rfl)), ?_⟩)) | ((first | refine on_Ec hF rfl rfl ?_ | refine od_Ec rfl rfl ?_); refine ⟨_, _, _, a_yc, ?_, ?_⟩ <;> (intro hc; try exact a_cut hc)) | ((first | (refine od_act a_nd ?_; intro K2 hK2) | refine od_last a_nd ?_ | skip); (first | (refine on_callG hF (enters_of Tryz.func70 (by kernel_rfl) rfl) rfl rfl rfl rfl (bc _ _ _ _) (fun _ => ?_)) | (refine on_alloc hF rfl Tryz.zeroValue4 rfl rfl (fun B => ?_)) | (refine on_alloc hF rfl Tryz.zeroValue33 rfl rfl (fun B => ?_)) | (refine on_box hF rfl rfl rfl rfl (fun B => ?_)) | (refine on_store hF rfl rfl rfl rfl a_turn a_vof a_sz ?_) | (refine on_storeE hF rfl rfl rfl rfl a_turn a_om a_vof a_sz ?_) | (refine on_storeEF hF rfl rfl rfl rfl a_turn a_as (by decide) a_vof rfl ?_) | (refine on_storeF hF rfl rfl rfl rfl a_turn (by decide) a_vof rfl ?_)) <;> try (refine hK2 _ _ _ a_allK ?_; clear hK2 K2))) <;> (refine hK _ _ _ ?_; clear hK K)) | with_reducible (first | refine nx_seq ?_ | refine nx_region ?_ | refine nl_nil ?_ | refine nq_then_n ?_ | refine nx_block ?_ | refine nx_skip ?_ | refine nx_exit ?_ | refine nx_ret ?_ | refine nq_then_x ?_ | refine nq_then_r ?_ | refine nq_blk_n ?_ | refine nq_blk_r ?_ | refine nq_blk_hit ?_ | refine nq_blk_miss rfl ?_ | refine nd_nil ?_) | refine nx_cond_t rfl ?_ | refine nx_cond_f rfl ?_ | refine nl_pass hF rfl rfl rfl ?_ | refine nd_pass rfl rfl rfl rfl rfl ?_ | refine nd_pass2 rfl rfl rfl a_nd a_allK rfl rfl ?_ | refine nd_pass3 rfl rfl rfl a_nd rfl rfl ?_ | (with_reducible refine hQ1 _ _ _ ?_; clear hQ1 Q1) | (refine nd_region (id := 7) hF [1, 1, 2, 0] [0, 1, 2, 3] _ _ (by kernel_rfl) (by kernel_rfl) sub2_same ?_; intro Q1 hQ1))
          all_goals (try (exfalso; dsimp only at *; omega))
          exact rq_n () trivial (by exact a_subR) (by rw [hsn]; exact a_holds2)
    · rw [if_neg (by simp [h1])] at hsn
      repeat' (first | ((first | with_reducible refine nl_op rfl ?_ | refine nd_go rfl rfl rfl ?_); intro K hK; (first | ((first | refine on_E hF rfl rfl ?_ | refine od_E rfl rfl ?_ | refine od_R rfl rfl ?_); (first | refine ⟨_, a_yl, ?_⟩ | refine ⟨_, (by first | exact yl_fieldB (T := 33) (f := 4) (q := 4) rfl rfl (by kernel_rfl) | exact yl_fieldE (T := 33) (f := 4) (j := 4) rfl rfl a_sl a_om (by kernel_rfl)), ?_⟩)) | ((first | refine on_Ec hF rfl rfl ?_ | refine od_Ec rfl rfl ?_); refine ⟨_, _, _, a_yc, ?_, ?_⟩ <;> (intro hc; try exact a_cut hc)) | ((first | (refine od_act a_nd ?_; intro K2 hK2) | refine od_last a_nd ?_ | skip); (first | (refine on_alloc hF rfl Tryz.zeroValue4 rfl rfl (fun B => ?_)) | (refine on_alloc hF rfl Tryz.zeroValue33 rfl rfl (fun B => ?_)) | (refine on_box hF rfl rfl rfl rfl (fun B => ?_)) | (refine on_store hF rfl rfl rfl rfl a_turn a_vof a_sz ?_) | (refine on_storeE hF rfl rfl rfl rfl a_turn a_om a_vof a_sz ?_) | (refine on_storeEF hF rfl rfl rfl rfl a_turn a_as (by decide) a_vof rfl ?_) | (refine on_storeF hF rfl rfl rfl rfl a_turn (by decide) a_vof rfl ?_)) <;> try (refine hK2 _ _ _ a_allK ?_; clear hK2 K2))) <;> (refine hK _ _ _ ?_; clear hK K)) | with_reducible (first | refine nx_seq ?_ | refine nx_region ?_ | refine nl_nil ?_ | refine nq_then_n ?_ | refine nx_block ?_ | refine nx_skip ?_ | refine nx_exit ?_ | refine nx_ret ?_ | refine nq_then_x ?_ | refine nq_then_r ?_ | refine nq_blk_n ?_ | refine nq_blk_r ?_ | refine nq_blk_hit ?_ | refine nq_blk_miss rfl ?_ | refine nd_nil ?_) | refine nx_cond_t rfl ?_ | refine nx_cond_f rfl ?_ | refine nl_pass hF rfl rfl rfl ?_ | refine nd_pass rfl rfl rfl rfl rfl ?_ | refine nd_pass2 rfl rfl rfl a_nd a_allK rfl rfl ?_ | refine nd_pass3 rfl rfl rfl a_nd rfl rfl ?_ | (with_reducible refine hQ1 _ _ _ ?_; clear hQ1 Q1) | (refine nd_region (id := 7) hF [1, 1, 2, 0] [0, 1, 2, 3] _ _ (by kernel_rfl) (by kernel_rfl) sub2_same ?_; intro Q1 hQ1))
      all_goals (try (exfalso; dsimp only at *; omega))
      exact rq_n () trivial (by exact a_subR) (by rw [hsn]; exact a_holds2)
  case done =>
    intro _ _ M
    have hpe := hpo _ [] (by rw [List.append_nil])
    rw [bestSt_map, show (L.filter (backupsB L t most)).foldl (bestStep least) (zIt2, false) = bestOf L t least most from rfl] at hpe ⊢
    obtain ⟨⟨sb, sf⟩, hst⟩ : ∃ p, bestOf L t least most = p := ⟨_, rfl⟩
    rw [hst] at hpe ⊢
    dsimp only at hpe ⊢
    have hvb := sb.vof hpe
    (try simp only [List.cons_append, List.nil_append])
    repeat' (first | ((first | with_reducible refine nl_op rfl ?_ | refine nd_go rfl rfl rfl ?_); intro K hK; (first | ((first | refine on_E hF rfl rfl ?_ | refine od_E rfl rfl ?_ | refine od_R rfl rfl ?_); (first | refine ⟨_, a_yl, ?_⟩ | refine ⟨_, (by first | exact yl_fieldB (T := 33) (f := 4) (q := 4) rfl rfl (by kernel_rfl) | exact yl_fieldE (T := 33) (f := 4) (j := 4) rfl rfl a_sl a_om (by kernel_rfl)), ?_⟩)) | ((first | refine on_Ec hF rfl rfl ?_ | refine od_Ec rfl rfl ?_); refine ⟨_, _, _, a_yc, ?_, ?_⟩ <;> (intro hc; try exact a_cut hc)) | ((first | (refine od_act a_nd ?_; intro K2 hK2) | refine od_last a_nd ?_ | skip); (first | (refine on_alloc hF rfl Tryz.zeroValue4 rfl rfl (fun B => ?_)) | (refine on_alloc hF rfl Tryz.zeroValue33 rfl rfl (fun B => ?_)) | (refine on_box hF rfl rfl rfl rfl (fun B => ?_)) | (refine on_store hF rfl rfl rfl rfl a_turn a_vof a_sz ?_) | (refine on_storeE hF rfl rfl rfl rfl a_turn a_om a_vof a_sz ?_) | (refine on_storeEF hF rfl rfl rfl rfl a_turn a_as (by decide) a_vof rfl ?_) | (refine on_storeF hF rfl rfl rfl rfl a_turn (by decide) a_vof rfl ?_)) <;> try (refine hK2 _ _ _ a_allK ?_; clear hK2 K2))) <;> (refine hK _ _ _ ?_; clear hK K)) | with_reducible (first | refine nx_seq ?_ | refine nx_region ?_ | refine nl_nil ?_ | refine nq_then_n ?_ | refine nx_block ?_ | refine nx_skip ?_ | refine nx_exit ?_ | refine nx_ret ?_ | refine nq_then_x ?_ | refine nq_then_r ?_ | refine nq_blk_n ?_ | refine nq_blk_r ?_ | refine nq_blk_hit ?_ | refine nq_blk_miss rfl ?_ | refine nd_nil ?_) | refine nx_cond_t rfl ?_ | refine nx_cond_f rfl ?_ | refine nl_pass hF rfl rfl rfl ?_ | refine nd_pass rfl rfl rfl rfl rfl ?_ | refine nd_pass2 rfl rfl rfl a_nd a_allK rfl rfl ?_ | refine nd_pass3 rfl rfl rfl a_nd rfl rfl ?_ | (with_reducible refine hQ1 _ _ _ ?_; clear hQ1 Q1) | (refine nd_region (id := 7) hF [1, 1, 2, 0] [0, 1, 2, 3] [BoxC b11 4 (.bool sf), BoxC b10 33 sb.v] [] (by kernel_rfl) (by kernel_rfl) (by exact a_allK) ?_; intro Q1 hQ1))
    refine nx_endc [M] (BoxC b8 33 sb.v :: C) rfl () (fun a w ha hw => res_cell_tmp (T' := 33) Tryz.results45 rfl rfl (by exact a_mem) hvb ha hw) (by exact a_subR) (by exact a_holds2) (by exact a_holds2)
  case stop =>
    intro pre x post hx j _ h
    exact h.elim
end Chn
end Go.Proofs.YtinofjenoapeaaaGreat
end
section
namespace Go.Proofs.YtinofjenoapeaaaGreat
open Go.RowKit Go.Shelf
set_option linter.unusedSimpArgs false
set_option linter.unusedVariables false
section
variable {P : Program} {K : Act → World → Prop} {n : Nat} {l : List (Nat × Value)} {d : List Deferred} {W0 : World} {X : Nat → Prop} {R C : List Ch} {o : Oper}
theorem SlC.pre {k m c i : Nat} {a : Option Addr} {xs : List Value} {O : Nat → Prop} {w : World} (h : (SlC k (.slice a m c) xs).p O w) (hi : i ≤ xs.length) : (SlC k (.slice a i c) (xs.take i)).p O w := by
  obtain ⟨⟨A, c', e1, h2, h3, h4⟩, h5, h6⟩ := h
  obtain ⟨e1, e2, e3⟩ := Value.slice.inj e1
  subst e1; subst e3
  refine ⟨⟨a, c, by rw [List.length_take, Nat.min_eq_left hi], by rw [List.length_take]; omega, h3, fun j x hj => ?_⟩, ?_, h6⟩
  · rw [List.getElem?_take] at hj
    split at hj
    · exact h4 j x hj
    · cases hj
  · exact fun hne b hb => h5 (fun e => hne (by rw [e]; simp)) b (by cases a <;> exact hb)
/-- The first part of a shared slice is shared too. -/
theorem nx_pre {k m c i : Nat} {a : Option Addr} {xs : List Value} (hm : SlC k (.slice a m c) xs ∈ R) (hi : i ≤ xs.length) (h : Nx K n l d W0 X (SlC k (.slice a i c) (xs.take i) :: R) C) : Nx K n l d W0 X R C := fun A w ha hw => by
  refine h A w ha (hw.addR (Below.refl _ _) (fun OR hR _ => ?_))
  obtain ⟨O, h1, h2⟩ := hR _ hm
  exact ⟨O, SlC.pre h1 hi, fun k hk => .inl (h2 k hk)⟩
theorem yl_slice_hk {G : World → Prop} {T : TypeId} {x hi : Operand} {a : Addr} {len cap i : Nat} (k : Nat) (ho : o.op = .slice T x none (some hi) none) (hx : ev l x = some (.slice (some a) len cap)) (hl : ev l hi = some (.int .i64 (i : Int))) (hT : slT P T k = true) (hc : i ≤ cap) : Yl P G n l d o (.slice (some a) i cap) := ⟨(fun c => by rw [ho]; exact (fun h => by cases h)), (fun A w ha hw => by
    unfold slT at hT
    split at hT
    · rename_i e' hu
      split at hT
      · rename_i inf hinf
        have hs : inf.size = k := by simpa using hT
        have hel : P.elem T = e' := by simp [Program.elem, hu]
        have hr := run_slice_h w T (some a) len cap (by rw [hel]; exact hu) .i64 (i : Int) (by omega) (by omega)
        have hr2 := run_sliceAt_slice w T (.slice (some a) len cap) none (some (.int .i64 (i : Int))) none (by rw [hel]; exact hu)
        rw [hr, hel] at hr2
        have hsz : (sizeOf e').run P w = .ok k w := by simp [sizeOf, typeInfo, hinf, hs]
        rw [hsz] at hr2
        have h0 : (some a).map (·.add (0 * k)) = some a := by simp [Addr.add]
        simp only [Result.andThen, sliced, Int.toNat_natCast, h0, Nat.sub_zero, ite_self] at hr2
        simp [execOp, ho, ha.eval hx, ha.eval hl, hr2, Sem.run_bind, Result.andThen]
      · cases hT
    · cases hT)⟩
end
end Go.Proofs.YtinofjenoapeaaaGreat
end
section
namespace Go.Proofs.YtinofjenoapeaaaGreat
open Go.RowKit Go.Shelf
/-- What follows the first n statements. -/
def restOf : Nat → Code → Code
  | 0, c => c
  | n + 1, .seq _ b => restOf n b
  | _ + 1, c => c
def bodyOf (f : Func) : Code := match f.body with
  | some c => c
  | none => .skip
end Go.Proofs.YtinofjenoapeaaaGreat
end
section
namespace Go.Proofs.YtinofjenoapeaaaGreat
open Go.RowKit Go.Shelf
set_option linter.unusedSimpArgs false
set_option linter.unusedVariables false
namespace Pl
open Li
variable {W0 : World} {X : Nat → Prop} {R C : List Ch}
abbrev nilV : Value := .slice none 0 0
def findRet (r : Option (It2 × List Int × List Int)) (n : Int) (i : SV × SV × SV) : Value := match r with
  | none => .tuple #[planV nilV nilV nilV 0 0, .int .i64 50]
  | some p => .tuple #[planV i.1.1 i.2.1.1 i.2.2.1 p.1.a n, .int .i64 0]
def findC (L : List It2) (r : Option (It2 × List Int × List Int)) (C : List Ch) (i : SV × SV × SV) : List Ch := match r with
  | none => C
  | some p => RowC 3 1 i.1.1 ((Chn.chainIds L p.1.id).map (.int .i64)) :: RowC 3 1 i.2.1.1 (p.2.1.map (.int .i64)) :: RowC 3 1 i.2.2.1 (p.2.2.map (.int .i64)) :: C
def nil3 : SV × SV × SV := (⟨nilV, _, _, _, rfl⟩, ⟨nilV, _, _, _, rfl⟩, ⟨nilV, _, _, _, rfl⟩)
theorem nx_slF {K : Act → World → Prop} {n : Nat} {l : List (Nat × Value)} {d : List Deferred} {W0 : World} {X : Nat → Prop} {R C : List Ch} {k i c : Nat} {a : Option Addr} {xs : List Value} (hm : SlC k (.slice a i c) xs ∈ R) (h : i = xs.length ∧ xs.length ≤ c ∧ (a = none → c = 0) → Nx K n l d W0 X R C) : Nx K n l d W0 X R C := nx_fact (fun w hw => by
  obtain ⟨O, h1⟩ := hw.hasR hm
  obtain ⟨A, c', e1, h2, h3, _⟩ := h1.1
  obtain ⟨e2, e3, e4⟩ := Value.slice.inj e1
  subst e2; subst e3; subst e4
  exact ⟨rfl, h2, h3⟩) h
theorem findI_end {L : List It2} {P : List Prt} {i : Nat} (h : ¬ i < P.length) : findI L P i = none := by rw [findI, dif_neg h]
theorem findI_next {L : List It2} {P : List Prt} {i : Nat} {x : Prt} (hx : P[i]? = some x) (h : (Chn.bestOf L x.u x.fr x.to).2 = false) : findI L P i = findI L P (i + 1) := by
  obtain ⟨hi, rfl⟩ := List.getElem?_eq_some_iff.1 hx
  rw [findI, dif_pos hi, if_neg (by rw [h]; simp)]
theorem findI_here {L : List It2} {P : List Prt} {i : Nat} {x : Prt} (hx : P[i]? = some x) (h : (Chn.bestOf L x.u x.fr x.to).2 = true) : findI L P i = if (planAt L P i x (Chn.bestOf L x.u x.fr x.to).1).2.2 then some ((Chn.bestOf L x.u x.fr x.to).1, (planAt L P i x (Chn.bestOf L x.u x.fr x.to).1).1, (planAt L P i x (Chn.bestOf L x.u x.fr x.to).1).2.1) else none := by
  obtain ⟨hi, rfl⟩ := List.getElem?_eq_some_iff.1 hx
  rw [findI, dif_pos hi, if_pos h]
theorem wayU_len (L : List It2) : ∀ (m : Nat) (t n : Int), t ≤ m → (wayU L t n).length ≤ m
  | 0, t, n, h => by rw [wayU, dif_neg (by omega)]; simp
  | m + 1, t, n, h => by
    rw [wayU]
    split
    · rename_i h1
      have := parent_lt L t h1
      have := wayU_len L m (parentP L t).1 (min (parentP L t).2.1 n) (by omega)
      simp only [List.length_cons]; omega
    · simp
theorem best_okL {L : List It2} (hok : ∀ x ∈ L, x.ok) (t least most : Int) : (Chn.bestOf L t least most).1.ok := by
  have h := Chn.bestSt_ok least L hok ((L.filter (Chn.backupsB L t most)).map It2.v) (fun v hv => by
    obtain ⟨y, hy, rfl⟩ := List.mem_map.1 hv
    exact ⟨y, (List.mem_filter.1 hy).1, rfl⟩)
  rwa [Chn.bestSt_map] at h
/-- plan.cover, where what is ahead was there. -/
theorem cover_ct2 (s : Value) (hs : IsSl s) (L : List It2) (hok : ∀ x ∈ L, x.ok) (x : Prt) (from_ : Int) (bp : Nat) (ch sg lm : Value) (hch : IsSl ch) (hsg : IsSl sg) (hlm : IsSl lm) (fr to : Int) (st : List Int × List Int × Bool) (h1 : st.2.2 = true) (hS : st.1.length ≤ 1000000000) (hM : st.2.1.length ≤ 1000000000) (hsl : SlC 9 s (L.map It2.v) ∈ R) (hm : L.length ≤ 1000) :
    Ct Tryz.prog 47 [ptr bp, s, x.v, .int .i64 from_] W0 X R (BoxC bp 49 (planV ch sg lm fr to) :: RowC 3 1 sg (st.1.map (.int .i64)) :: RowC 3 1 lm (st.2.1.map (.int .i64)) :: C) (SV × SV) (fun _ => .bool (covStep L st x.u from_ x.to).2.2) (fun _ => R) (fun i => BoxC bp 49 (planV ch i.1.1 i.2.1 fr to) :: RowC 3 1 i.1.1 ((covStep L st x.u from_ x.to).1.map (.int .i64)) :: RowC 3 1 i.2.1 ((covStep L st x.u from_ x.to).2.1.map (.int .i64)) :: C) := by
  unfold covStep
  rw [if_pos h1]
  exact cover_ct s hs L hok x from_ bp ch sg lm hch hsg hlm fr to st.1 st.2.1 hS hM hsl hm
set_option maxRecDepth 100000 in
set_option maxHeartbeats 4000000 in
theorem find_ct (s : Value) (hs : IsSl s) (L : List It2) (hok : ∀ x ∈ L, x.ok) (t n : Int) (ht : t ≤ 1099511627776) (hsl : SlC 9 s (L.map It2.v) ∈ R) (hm : L.length ≤ 1000) :
    Ct Tryz.prog 25 [s, .int .i64 t, .int .i64 n] W0 X R C (SV × SV × SV) (findRet (findP L t n) n) (fun _ => R) (findC L (findP L t n) C) := by
  intro w hw
  have hF := isWide_wide
  have hvs : VOf Tryz.prog 22 s := vof_slice (by kernel_rfl) hs
  have hm88 : L.length * 88 ≤ 140737488355328 := by omega
  have hvz : VOf Tryz.prog 49 (planV nilV nilV nilV 0 0) := vofPlan ⟨_, _, _, rfl⟩ ⟨_, _, _, rfl⟩ ⟨_, _, _, rfl⟩ 0 0
  have kc := fun (W0 : World) (X : Nat → Prop) (R C : List Ch) h => known_ct (W0 := W0) (X := X) (R := R) (C := C) s hs L hok t h hm88
  obtain ⟨kb, hkb⟩ : ∃ kb, knownL L t = kb := ⟨_, rfl⟩
  have hfp : findP L t n = if n < 0 ∨ kb = false then none else findI L (wayU L t n) 0 := by unfold findP; rw [hkb]
  rw [hkb] at kc
  obtain ⟨res, hres⟩ : ∃ res, findP L t n = res := ⟨_, rfl⟩
  rw [hres] at hfp ⊢
  clear hkb
  by_cases hg : n < 0 ∨ kb = false
  · rw [if_pos hg] at hfp
    subst hfp
    unfold findRet findC
    dsimp only
    rcases hg with hg | rfl
    · refine calls_nx Tryz.func25 rfl Tryz.ntmps25 rfl ?_ hw
      repeat' (first | ((first | with_reducible refine nl_op rfl ?_ | refine nd_go rfl rfl rfl ?_); intro K hK; (first | ((first | refine on_E hF rfl rfl ?_ | refine od_E rfl rfl ?_ | refine od_R rfl rfl ?_); (first | refine ⟨_, a_yl, ?_⟩ | refine ⟨_, (by first | exact yl_build (T := 49) (us := []) rfl rfl rfl (fun w => by go_simp; all_goals rfl) | exact yl_build (T := 49) (us := [(3, _), (4, _)]) rfl rfl rfl (fun w => by go_simp; all_goals rfl) | exact yl_fieldB (T := 33) (f := 0) (q := 0) rfl rfl (by kernel_rfl) | exact yl_fieldE (T := 33) (f := 0) (j := 0) rfl rfl a_sl a_om (by kernel_rfl) | exact yl_fieldB (T := 33) (f := 4) (q := 4) rfl rfl (by kernel_rfl) | exact yl_fieldE (T := 33) (f := 4) (j := 4) rfl rfl a_sl a_om (by kernel_rfl) | exact yl_fieldB (T := 49) (f := 0) (q := 0) rfl rfl (by kernel_rfl) | exact yl_fieldE (T := 49) (f := 0) (j := 0) rfl rfl a_sl a_om (by kernel_rfl) | exact yl_fieldB (T := 88) (f := 0) (q := 0) rfl rfl (by kernel_rfl) | exact yl_fieldE (T := 88) (f := 0) (j := 0) rfl rfl a_sl a_om (by kernel_rfl) | exact yl_fieldB (T := 88) (f := 1) (q := 1) rfl rfl (by kernel_rfl) | exact yl_fieldE (T := 88) (f := 1) (j := 1) rfl rfl a_sl a_om (by kernel_rfl) | exact yl_fieldB (T := 88) (f := 2) (q := 2) rfl rfl (by kernel_rfl) | exact yl_fieldE (T := 88) (f := 2) (j := 2) rfl rfl a_sl a_om (by kernel_rfl)), ?_⟩)) | ((first | refine on_Ec hF rfl rfl ?_ | refine od_Ec rfl rfl ?_); refine ⟨_, _, _, a_yc, ?_, ?_⟩ <;> (intro hc; try exact a_cut hc)) | ((first | (refine od_act a_nd ?_; intro K2 hK2) | refine od_last a_nd ?_ | skip); (first | (refine on_alloc hF rfl Tryz.zeroValue4 rfl rfl (fun B => ?_)) | (refine on_alloc hF rfl Tryz.zeroValue33 rfl rfl (fun B => ?_)) | (refine on_alloc hF rfl Tryz.zeroValue49 rfl rfl (fun B => ?_)) | (refine on_alloc hF rfl Tryz.zeroValue88 rfl rfl (fun B => ?_)) | (refine on_box hF rfl rfl rfl rfl (fun B => ?_)) | (refine on_store hF rfl rfl rfl rfl a_turn a_vof a_sz ?_) | (refine on_storeE hF rfl rfl rfl rfl a_turn a_om a_vof a_sz ?_) | (refine on_storeEF hF rfl rfl rfl rfl a_turn a_as (by decide) a_vof rfl ?_) | (refine on_storeF hF rfl rfl rfl rfl a_turn (by decide) a_vof rfl ?_)) <;> try (refine hK2 _ _ _ a_allK ?_; clear hK2 K2))) <;> (refine hK _ _ _ ?_; clear hK K)) | with_reducible (first | refine nx_seq ?_ | refine nx_region ?_ | refine nl_nil ?_ | refine nq_then_n ?_ | refine nx_block ?_ | refine nx_skip ?_ | refine nx_exit ?_ | refine nx_ret ?_ | refine nq_then_x ?_ | refine nq_then_r ?_ | refine nq_blk_n ?_ | refine nq_blk_r ?_ | refine nq_blk_hit ?_ | refine nq_blk_miss rfl ?_ | refine nd_nil ?_) | refine nx_cond_t rfl ?_ | refine nx_cond_f rfl ?_ | refine nl_pass hF rfl rfl rfl ?_ | refine nd_pass rfl rfl rfl rfl rfl ?_ | refine nd_pass2 rfl rfl rfl a_nd a_allK rfl rfl ?_ | refine nd_pass3 rfl rfl rfl a_nd rfl rfl ?_ | (with_reducible refine hQ1 _ _ _ ?_; clear hQ1 Q1) )
      all_goals (try (exfalso; dsimp only at *; omega))
      refine nx_endc [] (BoxC B 49 (planV nilV nilV nilV 0 0) :: C) rfl nil3 (fun a w ha hw => res_cell_tmp (T' := 49) Tryz.results25 rfl rfl (by exact a_mem) hvz ha hw) (by exact a_subR) (by exact a_holds2) (by exact a_holds2)
    · refine calls_nx Tryz.func25 rfl Tryz.ntmps25 rfl ?_ hw
      repeat' (first | ((first | with_reducible refine nl_op rfl ?_ | refine nd_go rfl rfl rfl ?_); intro K hK; (first | ((first | refine on_E hF rfl rfl ?_ | refine od_E rfl rfl ?_ | refine od_R rfl rfl ?_); (first | refine ⟨_, a_yl, ?_⟩ | refine ⟨_, (by first | exact yl_build (T := 49) (us := []) rfl rfl rfl (fun w => by go_simp; all_goals rfl) | exact yl_build (T := 49) (us := [(3, _), (4, _)]) rfl rfl rfl (fun w => by go_simp; all_goals rfl) | exact yl_fieldB (T := 33) (f := 0) (q := 0) rfl rfl (by kernel_rfl) | exact yl_fieldE (T := 33) (f := 0) (j := 0) rfl rfl a_sl a_om (by kernel_rfl) | exact yl_fieldB (T := 33) (f := 4) (q := 4) rfl rfl (by kernel_rfl) | exact yl_fieldE (T := 33) (f := 4) (j := 4) rfl rfl a_sl a_om (by kernel_rfl) | exact yl_fieldB (T := 49) (f := 0) (q := 0) rfl rfl (by kernel_rfl) | exact yl_fieldE (T := 49) (f := 0) (j := 0) rfl rfl a_sl a_om (by kernel_rfl) | exact yl_fieldB (T := 88) (f := 0) (q := 0) rfl rfl (by kernel_rfl) | exact yl_fieldE (T := 88) (f := 0) (j := 0) rfl rfl a_sl a_om (by kernel_rfl) | exact yl_fieldB (T := 88) (f := 1) (q := 1) rfl rfl (by kernel_rfl) | exact yl_fieldE (T := 88) (f := 1) (j := 1) rfl rfl a_sl a_om (by kernel_rfl) | exact yl_fieldB (T := 88) (f := 2) (q := 2) rfl rfl (by kernel_rfl) | exact yl_fieldE (T := 88) (f := 2) (j := 2) rfl rfl a_sl a_om (by kernel_rfl)), ?_⟩)) | ((first | refine on_Ec hF rfl rfl ?_ | refine od_Ec rfl rfl ?_); refine ⟨_, _, _, a_yc, ?_, ?_⟩ <;> (intro hc; try exact a_cut hc)) | ((first | (refine od_act a_nd ?_; intro K2 hK2) | refine od_last a_nd ?_ | skip); (first | (refine on_alloc hF rfl Tryz.zeroValue4 rfl rfl (fun B => ?_)) | (refine on_alloc hF rfl Tryz.zeroValue33 rfl rfl (fun B => ?_)) | (refine on_alloc hF rfl Tryz.zeroValue49 rfl rfl (fun B => ?_)) | (refine on_alloc hF rfl Tryz.zeroValue88 rfl rfl (fun B => ?_)) | (refine on_box hF rfl rfl rfl rfl (fun B => ?_)) | (refine on_store hF rfl rfl rfl rfl a_turn a_vof a_sz ?_) | (refine on_storeE hF rfl rfl rfl rfl a_turn a_om a_vof a_sz ?_) | (refine on_storeEF hF rfl rfl rfl rfl a_turn a_as (by decide) a_vof rfl ?_) | (refine on_storeF hF rfl rfl rfl rfl a_turn (by decide) a_vof rfl ?_)) <;> try (refine hK2 _ _ _ a_allK ?_; clear hK2 K2))) <;> (refine hK _ _ _ ?_; clear hK K)) | with_reducible (first | refine nx_seq ?_ | refine nx_region ?_ | refine nl_nil ?_ | refine nq_then_n ?_ | refine nx_block ?_ | refine nx_skip ?_ | refine nx_exit ?_ | refine nx_ret ?_ | refine nq_then_x ?_ | refine nq_then_r ?_ | refine nq_blk_n ?_ | refine nq_blk_r ?_ | refine nq_blk_hit ?_ | refine nq_blk_miss rfl ?_ | refine nd_nil ?_) | refine nx_cond_t rfl ?_ | refine nx_cond_f rfl ?_ | refine nl_pass hF rfl rfl rfl ?_ | refine nd_pass rfl rfl rfl rfl rfl ?_ | refine nd_pass2 rfl rfl rfl a_nd a_allK rfl rfl ?_ | refine nd_pass3 rfl rfl rfl a_nd rfl rfl ?_ | (with_reducible refine hQ1 _ _ _ ?_; clear hQ1 Q1) )
      · refine nx_endc [] (BoxC B 49 (planV nilV nilV nilV 0 0) :: C) rfl nil3 (fun a w ha hw => res_cell_tmp (T' := 49) Tryz.results25 rfl rfl (by exact a_mem) hvz ha hw) (by exact a_subR) (by exact a_holds2) (by exact a_holds2)
      · repeat' (first | ((first | with_reducible refine nl_op rfl ?_ | refine nd_go rfl rfl rfl ?_); intro K hK; (first | ((first | refine on_E hF rfl rfl ?_ | refine od_E rfl rfl ?_ | refine od_R rfl rfl ?_); (first | refine ⟨_, a_yl, ?_⟩ | refine ⟨_, (by first | exact yl_build (T := 49) (us := []) rfl rfl rfl (fun w => by go_simp; all_goals rfl) | exact yl_build (T := 49) (us := [(3, _), (4, _)]) rfl rfl rfl (fun w => by go_simp; all_goals rfl) | exact yl_fieldB (T := 33) (f := 0) (q := 0) rfl rfl (by kernel_rfl) | exact yl_fieldE (T := 33) (f := 0) (j := 0) rfl rfl a_sl a_om (by kernel_rfl) | exact yl_fieldB (T := 33) (f := 4) (q := 4) rfl rfl (by kernel_rfl) | exact yl_fieldE (T := 33) (f := 4) (j := 4) rfl rfl a_sl a_om (by kernel_rfl) | exact yl_fieldB (T := 49) (f := 0) (q := 0) rfl rfl (by kernel_rfl) | exact yl_fieldE (T := 49) (f := 0) (j := 0) rfl rfl a_sl a_om (by kernel_rfl) | exact yl_fieldB (T := 88) (f := 0) (q := 0) rfl rfl (by kernel_rfl) | exact yl_fieldE (T := 88) (f := 0) (j := 0) rfl rfl a_sl a_om (by kernel_rfl) | exact yl_fieldB (T := 88) (f := 1) (q := 1) rfl rfl (by kernel_rfl) | exact yl_fieldE (T := 88) (f := 1) (j := 1) rfl rfl a_sl a_om (by kernel_rfl) | exact yl_fieldB (T := 88) (f := 2) (q := 2) rfl rfl (by kernel_rfl) | exact yl_fieldE (T := 88) (f := 2) (j := 2) rfl rfl a_sl a_om (by kernel_rfl)), ?_⟩)) | ((first | refine on_Ec hF rfl rfl ?_ | refine od_Ec rfl rfl ?_); refine ⟨_, _, _, a_yc, ?_, ?_⟩ <;> (intro hc; try exact a_cut hc)) | ((first | (refine od_act a_nd ?_; intro K2 hK2) | refine od_last a_nd ?_ | skip); (first | (refine on_callG hF (enters_of Tryz.func40 (by kernel_rfl) rfl) rfl rfl rfl rfl (kc _ _ _ _ (by exact a_mem)) (fun _ => ?_)) | (refine on_alloc hF rfl Tryz.zeroValue4 rfl rfl (fun B => ?_)) | (refine on_alloc hF rfl Tryz.zeroValue33 rfl rfl (fun B => ?_)) | (refine on_alloc hF rfl Tryz.zeroValue49 rfl rfl (fun B => ?_)) | (refine on_alloc hF rfl Tryz.zeroValue88 rfl rfl (fun B => ?_)) | (refine on_box hF rfl rfl rfl rfl (fun B => ?_)) | (refine on_store hF rfl rfl rfl rfl a_turn a_vof a_sz ?_) | (refine on_storeE hF rfl rfl rfl rfl a_turn a_om a_vof a_sz ?_) | (refine on_storeEF hF rfl rfl rfl rfl a_turn a_as (by decide) a_vof rfl ?_) | (refine on_storeF hF rfl rfl rfl rfl a_turn (by decide) a_vof rfl ?_)) <;> try (refine hK2 _ _ _ a_allK ?_; clear hK2 K2))) <;> (refine hK _ _ _ ?_; clear hK K)) | with_reducible (first | refine nx_seq ?_ | refine nx_region ?_ | refine nl_nil ?_ | refine nq_then_n ?_ | refine nx_block ?_ | refine nx_skip ?_ | refine nx_exit ?_ | refine nx_ret ?_ | refine nq_then_x ?_ | refine nq_then_r ?_ | refine nq_blk_n ?_ | refine nq_blk_r ?_ | refine nq_blk_hit ?_ | refine nq_blk_miss rfl ?_ | refine nd_nil ?_) | refine nx_cond_t rfl ?_ | refine nx_cond_f rfl ?_ | refine nl_pass hF rfl rfl rfl ?_ | refine nd_pass rfl rfl rfl rfl rfl ?_ | refine nd_pass2 rfl rfl rfl a_nd a_allK rfl rfl ?_ | refine nd_pass3 rfl rfl rfl a_nd rfl rfl ?_ | (with_reducible refine hQ1 _ _ _ ?_; clear hQ1 Q1) )
        refine nx_endc [] (BoxC B 49 (planV nilV nilV nilV 0 0) :: C) rfl nil3 (fun a w ha hw => res_cell_tmp (T' := 49) Tryz.results25 rfl rfl (by exact a_mem) hvz ha hw) (by exact a_subR) (by exact a_holds2) (by exact a_holds2)
  · rw [if_neg hg] at hfp
    obtain rfl : kb = true := by cases kb; exact absurd (.inr rfl) hg; rfl
    have hn : ¬ n < 0 := fun h => hg (.inl h)
    clear hg
    have wc := fun (W0 : World) (X : Nat → Prop) (R C : List Ch) h => way_ct (W0 := W0) (X := X) (R := R) (C := C) s hs L hok t n ht h hm88
    obtain ⟨P, hP⟩ : ∃ P, wayU L t n = P := ⟨_, rfl⟩
    have hPl := wayU_few L t n
    rw [hP] at wc hfp hPl
    clear hP
    refine calls_nx Tryz.func25 rfl Tryz.ntmps25 rfl ?_ hw
    repeat' (first | ((first | with_reducible refine nl_op rfl ?_ | refine nd_go rfl rfl rfl ?_); intro K hK; (first | ((first | refine on_E hF rfl rfl ?_ | refine od_E rfl rfl ?_ | refine od_R rfl rfl ?_); (first | refine ⟨_, a_yl, ?_⟩ | refine ⟨_, (by first | exact yl_build (T := 49) (us := []) rfl rfl rfl (fun w => by go_simp; all_goals rfl) | exact yl_build (T := 49) (us := [(3, _), (4, _)]) rfl rfl rfl (fun w => by go_simp; all_goals rfl) | exact yl_fieldB (T := 33) (f := 0) (q := 0) rfl rfl (by kernel_rfl) | exact yl_fieldE (T := 33) (f := 0) (j := 0) rfl rfl a_sl a_om (by kernel_rfl) | exact yl_fieldB (T := 33) (f := 4) (q := 4) rfl rfl (by kernel_rfl) | exact yl_fieldE (T := 33) (f := 4) (j := 4) rfl rfl a_sl a_om (by kernel_rfl) | exact yl_fieldB (T := 49) (f := 0) (q := 0) rfl rfl (by kernel_rfl) | exact yl_fieldE (T := 49) (f := 0) (j := 0) rfl rfl a_sl a_om (by kernel_rfl) | exact yl_fieldB (T := 88) (f := 0) (q := 0) rfl rfl (by kernel_rfl) | exact yl_fieldE (T := 88) (f := 0) (j := 0) rfl rfl a_sl a_om (by kernel_rfl) | exact yl_fieldB (T := 88) (f := 1) (q := 1) rfl rfl (by kernel_rfl) | exact yl_fieldE (T := 88) (f := 1) (j := 1) rfl rfl a_sl a_om (by kernel_rfl) | exact yl_fieldB (T := 88) (f := 2) (q := 2) rfl rfl (by kernel_rfl) | exact yl_fieldE (T := 88) (f := 2) (j := 2) rfl rfl a_sl a_om (by kernel_rfl)), ?_⟩)) | ((first | refine on_Ec hF rfl rfl ?_ | refine od_Ec rfl rfl ?_); refine ⟨_, _, _, a_yc, ?_, ?_⟩ <;> (intro hc; try exact a_cut hc)) | ((first | (refine od_act a_nd ?_; intro K2 hK2) | refine od_last a_nd ?_ | skip); (first | (refine on_alloc hF rfl Tryz.zeroValue4 rfl rfl (fun B => ?_)) | (refine on_alloc hF rfl Tryz.zeroValue33 rfl rfl (fun B => ?_)) | (refine on_alloc hF rfl Tryz.zeroValue49 rfl rfl (fun B => ?_)) | (refine on_alloc hF rfl Tryz.zeroValue88 rfl rfl (fun B => ?_)) | (refine on_box hF rfl rfl rfl rfl (fun B => ?_)) | (refine on_store hF rfl rfl rfl rfl a_turn a_vof a_sz ?_) | (refine on_storeE hF rfl rfl rfl rfl a_turn a_om a_vof a_sz ?_) | (refine on_storeEF hF rfl rfl rfl rfl a_turn a_as (by decide) a_vof rfl ?_) | (refine on_storeF hF rfl rfl rfl rfl a_turn (by decide) a_vof rfl ?_)) <;> try (refine hK2 _ _ _ a_allK ?_; clear hK2 K2))) <;> (refine hK _ _ _ ?_; clear hK K)) | with_reducible (first | refine nx_seq ?_ | refine nx_region ?_ | refine nl_nil ?_ | refine nq_then_n ?_ | refine nx_block ?_ | refine nx_skip ?_ | refine nx_exit ?_ | refine nx_ret ?_ | refine nq_then_x ?_ | refine nq_then_r ?_ | refine nq_blk_n ?_ | refine nq_blk_r ?_ | refine nq_blk_hit ?_ | refine nq_blk_miss rfl ?_ | refine nd_nil ?_) | refine nx_cond_t rfl ?_ | refine nx_cond_f rfl ?_ | refine nl_pass hF rfl rfl rfl ?_ | refine nd_pass rfl rfl rfl rfl rfl ?_ | refine nd_pass2 rfl rfl rfl a_nd a_allK rfl rfl ?_ | refine nd_pass3 rfl rfl rfl a_nd rfl rfl ?_ | (with_reducible refine hQ1 _ _ _ ?_; clear hQ1 Q1) )
    all_goals (try (exfalso; dsimp only at *; omega))
    rename_i b3
    obtain ⟨b6, hb6⟩ : ∃ b6, b6 = B := ⟨_, rfl⟩
    subst hb6
    refine nx_frz (BoxC b3 22 s) (by exact a_pick) ?_
    repeat' (first | ((first | with_reducible refine nl_op rfl ?_ | refine nd_go rfl rfl rfl ?_); intro K hK; (first | ((first | refine on_E hF rfl rfl ?_ | refine od_E rfl rfl ?_ | refine od_R rfl rfl ?_); (first | refine ⟨_, a_yl, ?_⟩ | refine ⟨_, (by first | exact yl_build (T := 49) (us := []) rfl rfl rfl (fun w => by go_simp; all_goals rfl) | exact yl_build (T := 49) (us := [(3, _), (4, _)]) rfl rfl rfl (fun w => by go_simp; all_goals rfl) | exact yl_fieldB (T := 33) (f := 0) (q := 0) rfl rfl (by kernel_rfl) | exact yl_fieldE (T := 33) (f := 0) (j := 0) rfl rfl a_sl a_om (by kernel_rfl) | exact yl_fieldB (T := 33) (f := 4) (q := 4) rfl rfl (by kernel_rfl) | exact yl_fieldE (T := 33) (f := 4) (j := 4) rfl rfl a_sl a_om (by kernel_rfl) | exact yl_fieldB (T := 49) (f := 0) (q := 0) rfl rfl (by kernel_rfl) | exact yl_fieldE (T := 49) (f := 0) (j := 0) rfl rfl a_sl a_om (by kernel_rfl) | exact yl_fieldB (T := 88) (f := 0) (q := 0) rfl rfl (by kernel_rfl) | exact yl_fieldE (T := 88) (f := 0) (j := 0) rfl rfl a_sl a_om (by kernel_rfl) | exact yl_fieldB (T := 88) (f := 1) (q := 1) rfl rfl (by kernel_rfl) | exact yl_fieldE (T := 88) (f := 1) (j := 1) rfl rfl a_sl a_om (by kernel_rfl) | exact yl_fieldB (T := 88) (f := 2) (q := 2) rfl rfl (by kernel_rfl) | exact yl_fieldE (T := 88) (f := 2) (j := 2) rfl rfl a_sl a_om (by kernel_rfl)), ?_⟩)) | ((first | refine on_Ec hF rfl rfl ?_ | refine od_Ec rfl rfl ?_); refine ⟨_, _, _, a_yc, ?_, ?_⟩ <;> (intro hc; try exact a_cut hc)) | ((first | (refine od_act a_nd ?_; intro K2 hK2) | refine od_last a_nd ?_ | skip); (first | (refine on_callG hF (enters_of Tryz.func40 (by kernel_rfl) rfl) rfl rfl rfl rfl (kc _ _ _ _ (by exact a_mem)) (fun _ => ?_)) | (refine on_callG hF (enters_of Tryz.func44 (by kernel_rfl) rfl) rfl rfl rfl rfl (wc _ _ _ _ (by exact a_mem)) (fun v => ?_); refine nx_frzRow Pick.here ?_) | (refine on_alloc hF rfl Tryz.zeroValue4 rfl rfl (fun B => ?_)) | (refine on_alloc hF rfl Tryz.zeroValue33 rfl rfl (fun B => ?_)) | (refine on_alloc hF rfl Tryz.zeroValue49 rfl rfl (fun B => ?_)) | (refine on_alloc hF rfl Tryz.zeroValue88 rfl rfl (fun B => ?_)) | (refine on_box hF rfl rfl rfl rfl (fun B => ?_)) | (refine on_store hF rfl rfl rfl rfl a_turn a_vof a_sz ?_) | (refine on_storeE hF rfl rfl rfl rfl a_turn a_om a_vof a_sz ?_) | (refine on_storeEF hF rfl rfl rfl rfl a_turn a_as (by decide) a_vof rfl ?_) | (refine on_storeF hF rfl rfl rfl rfl a_turn (by decide) a_vof rfl ?_)) <;> try (refine hK2 _ _ _ a_allK ?_; clear hK2 K2))) <;> (refine hK _ _ _ ?_; clear hK K)) | with_reducible (first | refine nx_seq ?_ | refine nx_region ?_ | refine nl_nil ?_ | refine nq_then_n ?_ | refine nx_block ?_ | refine nx_skip ?_ | refine nx_exit ?_ | refine nx_ret ?_ | refine nq_then_x ?_ | refine nq_then_r ?_ | refine nq_blk_n ?_ | refine nq_blk_r ?_ | refine nq_blk_hit ?_ | refine nq_blk_miss rfl ?_ | refine nd_nil ?_) | refine nx_cond_t rfl ?_ | refine nx_cond_f rfl ?_ | refine nl_pass hF rfl rfl rfl ?_ | refine nd_pass rfl rfl rfl rfl rfl ?_ | refine nd_pass2 rfl rfl rfl a_nd a_allK rfl rfl ?_ | refine nd_pass3 rfl rfl rfl a_nd rfl rfl ?_ | (with_reducible refine hQ1 _ _ _ ?_; clear hQ1 Q1) )
    have hvv : VOf Tryz.prog 85 v.1 := vof_slice (by kernel_rfl) v.2
    have hlP : (P.map Prt.v).length = P.length := by simp
    refine nx_loop (ι := { i : Nat // i ≤ P.length ∧ findI L P i = res }) (fun i => [(2, .int .i64 n), (3, ptr b3), (6, ptr b6), (7, .int .i64 0), (8, v.1), (29, v.1), (30, .int .i64 ((P.map Prt.v).length : Int)), (31, .int .i64 (i.1 : Int))]) (fun _ => SlC 3 v.1 (P.map Prt.v) :: BoxC b3 22 s :: R) (fun _ => BoxC b6 49 (planV nilV nilV nilV 0 0) :: C) (fun i => P.length - i.1) ⟨0, Nat.zero_le _, hfp.symm⟩ (by exact a_sub) (by exact a_subR) (by exact a_holds) (fun i => ?_)
    obtain ⟨i, hi, hfi⟩ := i
    dsimp only
    clear wc kc hfp
    by_cases hlt : i < P.length
    · obtain ⟨x, hx⟩ : ∃ x, P[i]? = some x := ⟨_, List.getElem?_eq_getElem hlt⟩
      have hxv : (P.map Prt.v)[i]? = some x.v := by rw [List.getElem?_map, hx]; rfl
      have hvx := vofP x
      have bc := fun (W0 : World) (X : Nat → Prop) (R C : List Ch) h => Chn.best_ct (W0 := W0) (X := X) (R := R) (C := C) s hs L hok x.u x.fr x.to h hm88
      cases hb : (Chn.bestOf L x.u x.fr x.to).2 with
      | false =>
        rw [findI_next hx hb] at hfi
        rw [hb] at bc
        obtain ⟨y, hy⟩ : ∃ y, (Chn.bestOf L x.u x.fr x.to).1 = y := ⟨_, rfl⟩
        have hvy : VOf Tryz.prog 33 y.v := by rw [← hy]; exact It2.vof _ (best_okL hok _ _ _)
        rw [hy] at bc
        clear hy hb
        repeat' (first | ((first | with_reducible refine nl_op rfl ?_ | refine nd_go rfl rfl rfl ?_); intro K hK; (first | ((first | refine on_E hF rfl rfl ?_ | refine od_E rfl rfl ?_ | refine od_R rfl rfl ?_); (first | refine ⟨_, a_yl, ?_⟩ | refine ⟨_, (by first | exact yl_build (T := 49) (us := []) rfl rfl rfl (fun w => by go_simp; all_goals rfl) | exact yl_build (T := 49) (us := [(3, _), (4, _)]) rfl rfl rfl (fun w => by go_simp; all_goals rfl) | exact yl_fieldB (T := 33) (f := 0) (q := 0) rfl rfl (by kernel_rfl) | exact yl_fieldE (T := 33) (f := 0) (j := 0) rfl rfl a_sl a_om (by kernel_rfl) | exact yl_fieldB (T := 33) (f := 4) (q := 4) rfl rfl (by kernel_rfl) | exact yl_fieldE (T := 33) (f := 4) (j := 4) rfl rfl a_sl a_om (by kernel_rfl) | exact yl_fieldB (T := 49) (f := 0) (q := 0) rfl rfl (by kernel_rfl) | exact yl_fieldE (T := 49) (f := 0) (j := 0) rfl rfl a_sl a_om (by kernel_rfl) | exact yl_fieldB (T := 88) (f := 0) (q := 0) rfl rfl (by kernel_rfl) | exact yl_fieldE (T := 88) (f := 0) (j := 0) rfl rfl a_sl a_om (by kernel_rfl) | exact yl_fieldB (T := 88) (f := 1) (q := 1) rfl rfl (by kernel_rfl) | exact yl_fieldE (T := 88) (f := 1) (j := 1) rfl rfl a_sl a_om (by kernel_rfl) | exact yl_fieldB (T := 88) (f := 2) (q := 2) rfl rfl (by kernel_rfl) | exact yl_fieldE (T := 88) (f := 2) (j := 2) rfl rfl a_sl a_om (by kernel_rfl)), ?_⟩)) | ((first | refine on_Ec hF rfl rfl ?_ | refine od_Ec rfl rfl ?_); refine ⟨_, _, _, a_yc, ?_, ?_⟩ <;> (intro hc; try exact a_cut hc)) | ((first | (refine od_act a_nd ?_; intro K2 hK2) | refine od_last a_nd ?_ | skip); (first | (refine on_callG hF (enters_of Tryz.func45 (by kernel_rfl) rfl) rfl rfl rfl rfl (bc _ _ _ _ (by exact a_mem)) (fun _ => ?_)) | (refine on_alloc hF rfl Tryz.zeroValue4 rfl rfl (fun B => ?_)) | (refine on_alloc hF rfl Tryz.zeroValue33 rfl rfl (fun B => ?_)) | (refine on_alloc hF rfl Tryz.zeroValue49 rfl rfl (fun B => ?_)) | (refine on_alloc hF rfl Tryz.zeroValue88 rfl rfl (fun B => ?_)) | (refine on_box hF rfl rfl rfl rfl (fun B => ?_)) | (refine on_store hF rfl rfl rfl rfl a_turn a_vof a_sz ?_) | (refine on_storeE hF rfl rfl rfl rfl a_turn a_om a_vof a_sz ?_) | (refine on_storeEF hF rfl rfl rfl rfl a_turn a_as (by decide) a_vof rfl ?_) | (refine on_storeF hF rfl rfl rfl rfl a_turn (by decide) a_vof rfl ?_)) <;> try (refine hK2 _ _ _ a_allK ?_; clear hK2 K2))) <;> (refine hK _ _ _ ?_; clear hK K)) | with_reducible (first | refine nx_seq ?_ | refine nx_region ?_ | refine nl_nil ?_ | refine nq_then_n ?_ | refine nx_block ?_ | refine nx_skip ?_ | refine nx_exit ?_ | refine nx_ret ?_ | refine nq_then_x ?_ | refine nq_then_r ?_ | refine nq_blk_n ?_ | refine nq_blk_r ?_ | refine nq_blk_hit ?_ | refine nq_blk_miss rfl ?_ | refine nd_nil ?_) | refine nx_cond_t rfl ?_ | refine nx_cond_f rfl ?_ | refine nl_pass hF rfl rfl rfl ?_ | refine nd_pass rfl rfl rfl rfl rfl ?_ | refine nd_pass2 rfl rfl rfl a_nd a_allK rfl rfl ?_ | refine nd_pass3 rfl rfl rfl a_nd rfl rfl ?_ | (with_reducible refine hQ1 _ _ _ ?_; clear hQ1 Q1) )
        all_goals (try (exfalso; dsimp only at *; omega))
        refine nx_again ⟨i + 1, by omega, hfi⟩ (by dsimp only; omega) (by exact a_sub) (by exact a_subR) (by exact a_holds)
      | true =>
        rw [findI_here hx hb] at hfi
        rw [hb] at bc
        obtain ⟨y, hy⟩ : ∃ y, (Chn.bestOf L x.u x.fr x.to).1 = y := ⟨_, rfl⟩
        have hvy : VOf Tryz.prog 33 y.v := by rw [← hy]; exact It2.vof _ (best_okL hok _ _ _)
        rw [hy] at bc hfi
        have oc := fun (W0 : World) (X : Nat → Prop) (R C : List Ch) h => Chn.of_ct (W0 := W0) (X := X) (R := R) (C := C) s hs L hok y.id h hm88
        have hvp0 := vofPlan (ch := nilV) (sg := nilV) (lm := nilV) ⟨_, _, _, rfl⟩ ⟨_, _, _, rfl⟩ ⟨_, _, _, rfl⟩ y.a n
        clear hy hb
        repeat' (first | ((first | with_reducible refine nl_op rfl ?_ | refine nd_go rfl rfl rfl ?_); intro K hK; (first | ((first | refine on_E hF rfl rfl ?_ | refine od_E rfl rfl ?_ | refine od_R rfl rfl ?_); (first | refine ⟨_, a_yl, ?_⟩ | refine ⟨_, (by first | exact yl_build (T := 49) (us := []) rfl rfl rfl (fun w => by go_simp; all_goals rfl) | exact yl_build (T := 49) (us := [(3, _), (4, _)]) rfl rfl rfl (fun w => by go_simp; all_goals rfl) | exact yl_fieldB (T := 33) (f := 0) (q := 0) rfl rfl (by kernel_rfl) | exact yl_fieldE (T := 33) (f := 0) (j := 0) rfl rfl a_sl a_om (by kernel_rfl) | exact yl_fieldB (T := 33) (f := 4) (q := 4) rfl rfl (by kernel_rfl) | exact yl_fieldE (T := 33) (f := 4) (j := 4) rfl rfl a_sl a_om (by kernel_rfl) | exact yl_fieldB (T := 49) (f := 0) (q := 0) rfl rfl (by kernel_rfl) | exact yl_fieldE (T := 49) (f := 0) (j := 0) rfl rfl a_sl a_om (by kernel_rfl) | exact yl_fieldB (T := 88) (f := 0) (q := 0) rfl rfl (by kernel_rfl) | exact yl_fieldE (T := 88) (f := 0) (j := 0) rfl rfl a_sl a_om (by kernel_rfl) | exact yl_fieldB (T := 88) (f := 1) (q := 1) rfl rfl (by kernel_rfl) | exact yl_fieldE (T := 88) (f := 1) (j := 1) rfl rfl a_sl a_om (by kernel_rfl) | exact yl_fieldB (T := 88) (f := 2) (q := 2) rfl rfl (by kernel_rfl) | exact yl_fieldE (T := 88) (f := 2) (j := 2) rfl rfl a_sl a_om (by kernel_rfl)), ?_⟩)) | ((first | refine on_Ec hF rfl rfl ?_ | refine od_Ec rfl rfl ?_); refine ⟨_, _, _, a_yc, ?_, ?_⟩ <;> (intro hc; try exact a_cut hc)) | ((first | (refine od_act a_nd ?_; intro K2 hK2) | refine od_last a_nd ?_ | skip); (first | (refine on_callG hF (enters_of Tryz.func45 (by kernel_rfl) rfl) rfl rfl rfl rfl (bc _ _ _ _ (by exact a_mem)) (fun _ => ?_)) | (refine on_alloc hF rfl Tryz.zeroValue4 rfl rfl (fun B => ?_)) | (refine on_alloc hF rfl Tryz.zeroValue33 rfl rfl (fun B => ?_)) | (refine on_alloc hF rfl Tryz.zeroValue49 rfl rfl (fun B => ?_)) | (refine on_alloc hF rfl Tryz.zeroValue88 rfl rfl (fun B => ?_)) | (refine on_box hF rfl rfl rfl rfl (fun B => ?_)) | (refine on_store hF rfl rfl rfl rfl a_turn a_vof a_sz ?_) | (refine on_storeE hF rfl rfl rfl rfl a_turn a_om a_vof a_sz ?_) | (refine on_storeEF hF rfl rfl rfl rfl a_turn a_as (by decide) a_vof rfl ?_) | (refine on_storeF hF rfl rfl rfl rfl a_turn (by decide) a_vof rfl ?_)) <;> try (refine hK2 _ _ _ a_allK ?_; clear hK2 K2))) <;> (refine hK _ _ _ ?_; clear hK K)) | with_reducible (first | refine nx_seq ?_ | refine nx_region ?_ | refine nl_nil ?_ | refine nq_then_n ?_ | refine nx_block ?_ | refine nx_skip ?_ | refine nx_exit ?_ | refine nx_ret ?_ | refine nq_then_x ?_ | refine nq_then_r ?_ | refine nq_blk_n ?_ | refine nq_blk_r ?_ | refine nq_blk_hit ?_ | refine nq_blk_miss rfl ?_ | refine nd_nil ?_) | refine nx_cond_t rfl ?_ | refine nx_cond_f rfl ?_ | refine nl_pass hF rfl rfl rfl ?_ | refine nd_pass rfl rfl rfl rfl rfl ?_ | refine nd_pass2 rfl rfl rfl a_nd a_allK rfl rfl ?_ | refine nd_pass3 rfl rfl rfl a_nd rfl rfl ?_ | (with_reducible refine hQ1 _ _ _ ?_; clear hQ1 Q1) )
        rename_i b10 _u b11 b12
        obtain ⟨b13, hb13⟩ : ∃ b13, b13 = B := ⟨_, rfl⟩
        subst hb13
        refine nx_lk (l' := [(2, .int .i64 n), (3, ptr b3), (6, ptr b6), (8, v.1), (9, .int .i64 (i : Int)), (10, ptr b10), (11, ptr b11), (12, ptr b12), (13, ptr b13), (54, s), (56, .int .i64 y.id)]) (by exact a_sub) ?_
        repeat' (first | ((first | with_reducible refine nl_op rfl ?_ | refine nd_go rfl rfl rfl ?_); intro K hK; (first | ((first | refine on_E hF rfl rfl ?_ | refine od_E rfl rfl ?_ | refine od_R rfl rfl ?_); (first | refine ⟨_, a_yl, ?_⟩ | refine ⟨_, (by first | exact yl_build (T := 49) (us := []) rfl rfl rfl (fun w => by go_simp; all_goals rfl) | exact yl_build (T := 49) (us := [(3, _), (4, _)]) rfl rfl rfl (fun w => by go_simp; all_goals rfl) | exact yl_fieldB (T := 33) (f := 0) (q := 0) rfl rfl (by kernel_rfl) | exact yl_fieldE (T := 33) (f := 0) (j := 0) rfl rfl a_sl a_om (by kernel_rfl) | exact yl_fieldB (T := 33) (f := 4) (q := 4) rfl rfl (by kernel_rfl) | exact yl_fieldE (T := 33) (f := 4) (j := 4) rfl rfl a_sl a_om (by kernel_rfl) | exact yl_fieldB (T := 49) (f := 0) (q := 0) rfl rfl (by kernel_rfl) | exact yl_fieldE (T := 49) (f := 0) (j := 0) rfl rfl a_sl a_om (by kernel_rfl) | exact yl_fieldB (T := 88) (f := 0) (q := 0) rfl rfl (by kernel_rfl) | exact yl_fieldE (T := 88) (f := 0) (j := 0) rfl rfl a_sl a_om (by kernel_rfl) | exact yl_fieldB (T := 88) (f := 1) (q := 1) rfl rfl (by kernel_rfl) | exact yl_fieldE (T := 88) (f := 1) (j := 1) rfl rfl a_sl a_om (by kernel_rfl) | exact yl_fieldB (T := 88) (f := 2) (q := 2) rfl rfl (by kernel_rfl) | exact yl_fieldE (T := 88) (f := 2) (j := 2) rfl rfl a_sl a_om (by kernel_rfl)), ?_⟩)) | ((first | refine on_Ec hF rfl rfl ?_ | refine od_Ec rfl rfl ?_); refine ⟨_, _, _, a_yc, ?_, ?_⟩ <;> (intro hc; try exact a_cut hc)) | ((first | (refine od_act a_nd ?_; intro K2 hK2) | refine od_last a_nd ?_ | skip); (first | (refine on_callG hF (enters_of Tryz.func46 (by kernel_rfl) rfl) rfl rfl rfl rfl (oc _ _ _ _ (by exact a_mem)) (fun c => ?_); obtain ⟨c, ca, cn, cc, rfl⟩ := c; dsimp only) | (refine on_storeF hF rfl rfl rfl rfl a_turn (Nat.le_of_ble_eq_true rfl) a_vof rfl ?_; simp only [List.setIfInBounds_toArray, List.set_cons_succ, List.set_cons_zero]) | (refine on_alloc hF rfl Tryz.zeroValue4 rfl rfl (fun B => ?_)) | (refine on_alloc hF rfl Tryz.zeroValue33 rfl rfl (fun B => ?_)) | (refine on_alloc hF rfl Tryz.zeroValue49 rfl rfl (fun B => ?_)) | (refine on_alloc hF rfl Tryz.zeroValue88 rfl rfl (fun B => ?_)) | (refine on_box hF rfl rfl rfl rfl (fun B => ?_)) | (refine on_store hF rfl rfl rfl rfl a_turn a_vof a_sz ?_) | (refine on_storeE hF rfl rfl rfl rfl a_turn a_om a_vof a_sz ?_) | (refine on_storeEF hF rfl rfl rfl rfl a_turn a_as (by decide) a_vof rfl ?_) | (refine on_storeF hF rfl rfl rfl rfl a_turn (by decide) a_vof rfl ?_)) <;> try (refine hK2 _ _ _ a_allK ?_; clear hK2 K2))) <;> (refine hK _ _ _ ?_; clear hK K)) | with_reducible (first | refine nx_seq ?_ | refine nx_region ?_ | refine nl_nil ?_ | refine nq_then_n ?_ | refine nx_block ?_ | refine nx_skip ?_ | refine nx_exit ?_ | refine nx_ret ?_ | refine nq_then_x ?_ | refine nq_then_r ?_ | refine nq_blk_n ?_ | refine nq_blk_r ?_ | refine nq_blk_hit ?_ | refine nq_blk_miss rfl ?_ | refine nd_nil ?_) | refine nx_cond_t rfl ?_ | refine nx_cond_f rfl ?_ | refine nl_pass hF rfl rfl rfl ?_ | refine nd_pass rfl rfl rfl rfl rfl ?_ | refine nd_pass2 rfl rfl rfl a_nd a_allK rfl rfl ?_ | refine nd_pass3 rfl rfl rfl a_nd rfl rfl ?_ | (with_reducible refine hQ1 _ _ _ ?_; clear hQ1 Q1) )
        clear bc oc hvp0 hvy
        have cv := fun (W0 : World) (X : Nat → Prop) (R C : List Ch) h => cover_ct2 (W0 := W0) (X := X) (R := R) (C := C) s hs L hok x y.a b13 (.slice ca cn cc) nilV nilV ⟨_, _, _, rfl⟩ ⟨_, _, _, rfl⟩ ⟨_, _, _, rfl⟩ y.a n ([], [], true) rfl (by simp) (by simp) h hm
        rw [planAt_covF] at hfi
        have hs0l := covStep_len L ([], [], true) x.u y.a x.to
        simp only [List.length_nil, Nat.zero_add] at hs0l
        obtain ⟨st0, hst0⟩ : ∃ st0, covStep L ([], [], true) x.u y.a x.to = st0 := ⟨_, rfl⟩
        rw [hst0] at cv hfi hs0l
        clear hst0
        refine nx_lk (l' := [(2, .int .i64 n), (3, ptr b3), (6, ptr b6), (8, v.1), (9, .int .i64 (i : Int)), (12, ptr b12), (13, ptr b13), (61, s), (62, x.v), (64, .int .i64 y.a)]) (by exact a_sub) ?_
        refine nx_nilRow 3 1 (nx_nilRow 3 1 ?_)
        refine nx_keep (E := BoxC b13 49 (planV (.slice ca cn cc) nilV nilV y.a n) :: RowC 3 1 nilV [] :: RowC 3 1 nilV [] :: BoxC b12 4 (.bool true) :: RowC 3 1 (.slice ca cn cc) ((Chn.chainIds L y.id).map (.int .i64)) :: BoxC b6 49 (planV nilV nilV nilV 0 0) :: C) (by exact a_holds2) ?_
        obtain ⟨v, va, vn, vc, rfl⟩ := v
        dsimp only at hvv ⊢
        refine nx_slF (xs := P.map Prt.v) (by exact a_mem) (fun hsf => ?_)
        obtain ⟨hvn, hvc, hva⟩ := hsf
        subst hvn
        obtain ⟨va, rfl⟩ : ∃ b, va = some b := by
          cases va with
          | none => rw [hva rfl] at hvc; omega
          | some b => exact ⟨b, rfl⟩
        clear hva
        refine nx_pre (i := i) (xs := P.map Prt.v) (k := 3) (by exact a_mem) (by omega) ?_
        rw [← List.map_take]
        have hpi : (P.take i).length = i := by rw [List.length_take]; omega
        repeat' (first | ((first | with_reducible refine nl_op rfl ?_ | refine nd_go rfl rfl rfl ?_); intro K hK; (first | ((first | refine on_E hF rfl rfl ?_ | refine od_E rfl rfl ?_ | refine od_R rfl rfl ?_); (first | refine ⟨_, yl_slice_hk (i := i) 3 rfl rfl rfl (by kernel_rfl) (by omega), ?_⟩ | refine ⟨_, a_yl, ?_⟩ | refine ⟨_, (by first | exact yl_build (T := 49) (us := []) rfl rfl rfl (fun w => by go_simp; all_goals rfl) | exact yl_build (T := 49) (us := [(3, _), (4, _)]) rfl rfl rfl (fun w => by go_simp; all_goals rfl) | exact yl_fieldB (T := 33) (f := 0) (q := 0) rfl rfl (by kernel_rfl) | exact yl_fieldE (T := 33) (f := 0) (j := 0) rfl rfl a_sl a_om (by kernel_rfl) | exact yl_fieldB (T := 33) (f := 4) (q := 4) rfl rfl (by kernel_rfl) | exact yl_fieldE (T := 33) (f := 4) (j := 4) rfl rfl a_sl a_om (by kernel_rfl) | exact yl_fieldB (T := 49) (f := 0) (q := 0) rfl rfl (by kernel_rfl) | exact yl_fieldE (T := 49) (f := 0) (j := 0) rfl rfl a_sl a_om (by kernel_rfl) | exact yl_fieldB (T := 88) (f := 0) (q := 0) rfl rfl (by kernel_rfl) | exact yl_fieldE (T := 88) (f := 0) (j := 0) rfl rfl a_sl a_om (by kernel_rfl) | exact yl_fieldB (T := 88) (f := 1) (q := 1) rfl rfl (by kernel_rfl) | exact yl_fieldE (T := 88) (f := 1) (j := 1) rfl rfl a_sl a_om (by kernel_rfl) | exact yl_fieldB (T := 88) (f := 2) (q := 2) rfl rfl (by kernel_rfl) | exact yl_fieldE (T := 88) (f := 2) (j := 2) rfl rfl a_sl a_om (by kernel_rfl)), ?_⟩)) | ((first | refine on_Ec hF rfl rfl ?_ | refine od_Ec rfl rfl ?_); refine ⟨_, _, _, a_yc, ?_, ?_⟩ <;> (intro hc; try exact a_cut hc)) | ((first | (refine od_act a_nd ?_; intro K2 hK2) | refine od_last a_nd ?_ | skip); (first | (refine on_callG hF (enters_of Tryz.func47 (by kernel_rfl) rfl) rfl rfl rfl rfl (cv _ _ _ _ (by exact a_mem)) (fun u => ?_)) | (refine on_callG hF (enters_of Tryz.func48 (by kernel_rfl) rfl) rfl rfl rfl rfl (back_ct _ ⟨_, _, _, rfl⟩) (fun bb => ?_)) | (refine on_alloc hF rfl Tryz.zeroValue4 rfl rfl (fun B => ?_)) | (refine on_alloc hF rfl Tryz.zeroValue33 rfl rfl (fun B => ?_)) | (refine on_alloc hF rfl Tryz.zeroValue49 rfl rfl (fun B => ?_)) | (refine on_alloc hF rfl Tryz.zeroValue88 rfl rfl (fun B => ?_)) | (refine on_box hF rfl rfl rfl rfl (fun B => ?_)) | (refine on_store hF rfl rfl rfl rfl a_turn a_vof a_sz ?_) | (refine on_storeE hF rfl rfl rfl rfl a_turn a_om a_vof a_sz ?_) | (refine on_storeEF hF rfl rfl rfl rfl a_turn a_as (by decide) a_vof rfl ?_) | (refine on_storeF hF rfl rfl rfl rfl a_turn (by decide) a_vof rfl ?_)) <;> try (refine hK2 _ _ _ a_allK ?_; clear hK2 K2))) <;> (refine hK _ _ _ ?_; clear hK K)) | with_reducible (first | refine nx_seq ?_ | refine nx_region ?_ | refine nl_nil ?_ | refine nq_then_n ?_ | refine nx_block ?_ | refine nx_skip ?_ | refine nx_exit ?_ | refine nx_ret ?_ | refine nq_then_x ?_ | refine nq_then_r ?_ | refine nq_blk_n ?_ | refine nq_blk_r ?_ | refine nq_blk_hit ?_ | refine nq_blk_miss rfl ?_ | refine nd_nil ?_) | refine nx_cond_t rfl ?_ | refine nx_cond_f rfl ?_ | refine nl_pass hF rfl rfl rfl ?_ | refine nd_pass rfl rfl rfl rfl rfl ?_ | refine nd_pass2 rfl rfl rfl a_nd a_allK rfl rfl ?_ | refine nd_pass3 rfl rfl rfl a_nd rfl rfl ?_ | (with_reducible refine hQ1 _ _ _ ?_; clear hQ1 Q1) )
        clear cv
        refine nx_lk (l' := [(3, ptr b3), (6, ptr b6), (12, ptr b12), (13, ptr b13), (69, .func (.func 78) #[] #[ptr bb])]) (by exact a_sub) ?_
        have hxl : ∀ pre z post, bkL (P.take i) = pre ++ z :: post → pre.length ≤ 1001 := fun pre z post h => by
          have h2 := congrArg List.length h
          rw [bkL_len, hpi] at h2
          simp at h2
          omega
        refine nx_range hF rfl rfl (back_it bb (.slice (some va) i vc) ⟨_, _, _, rfl⟩ (P.take i) (by omega)) (by exact a_subR) (by rfl) (fun x vs h => by rw [h]; rfl) (fun _ (_ : SV × SV) => True) (fun pre u => BoxC b13 49 (planV (.slice ca cn cc) u.1.1 u.2.1 y.a n) :: RowC 3 1 u.1.1 ((covF L st0 pre).1.map (.int .i64)) :: RowC 3 1 u.2.1 ((covF L st0 pre).2.1.map (.int .i64)) :: BoxC b12 4 (.bool (covF L st0 pre).2.2) :: RowC 3 1 (.slice ca cn cc) ((Chn.chainIds L y.id).map (.int .i64)) :: BoxC b6 49 (planV nilV nilV nilV 0 0) :: C) (fun _ _ (_ : Unit) => False) (fun _ _ _ => []) u trivial (by simp only [covF, List.foldl_nil]; exact a_holds2) ?round ?done ?stop
        case round =>
          rintro lp pre z post hx vs rfl ⟨⟨g, ga, gn, gc, rfl⟩, ⟨mm, ma, mn, mc, rfl⟩⟩ _ W1 X1 R' hR' E1 K HK
          have hF := isWide_wide.inRound lp
          have hvz := vofP z.2
          have hcl := covF_len L st0 pre
          have hml : pre.length * L.length ≤ 1001 * 1000 := Nat.mul_le_mul (hxl pre z post hx) hm
          have hsn := covF_snoc L st0 pre z
          obtain ⟨st, hst⟩ : ∃ st, covF L st0 pre = st := ⟨_, rfl⟩
          rw [hst] at hcl hsn ⊢
          have hsR : SlC 9 s (L.map It2.v) ∈ R' := hR' _ (by exact a_mem)
          have hb3 : BoxC b3 22 s ∈ R' := hR' _ (by exact a_mem)
          clear hR' hst hfi hxl hx
          (try simp only [List.cons_append, List.nil_append])
          repeat' (first | ((first | with_reducible refine nl_op rfl ?_ | refine nd_go rfl rfl rfl ?_); intro K hK; (first | ((first | refine on_E hF rfl rfl ?_ | refine od_E rfl rfl ?_ | refine od_R rfl rfl ?_); (first | refine ⟨_, a_yl, ?_⟩ | refine ⟨_, (by first | exact yl_build (T := 49) (us := []) rfl rfl rfl (fun w => by go_simp; all_goals rfl) | exact yl_build (T := 49) (us := [(3, _), (4, _)]) rfl rfl rfl (fun w => by go_simp; all_goals rfl) | exact yl_fieldB (T := 33) (f := 0) (q := 0) rfl rfl (by kernel_rfl) | exact yl_fieldE (T := 33) (f := 0) (j := 0) rfl rfl a_sl a_om (by kernel_rfl) | exact yl_fieldB (T := 33) (f := 4) (q := 4) rfl rfl (by kernel_rfl) | exact yl_fieldE (T := 33) (f := 4) (j := 4) rfl rfl a_sl a_om (by kernel_rfl) | exact yl_fieldB (T := 49) (f := 0) (q := 0) rfl rfl (by kernel_rfl) | exact yl_fieldE (T := 49) (f := 0) (j := 0) rfl rfl a_sl a_om (by kernel_rfl) | exact yl_fieldB (T := 88) (f := 0) (q := 0) rfl rfl (by kernel_rfl) | exact yl_fieldE (T := 88) (f := 0) (j := 0) rfl rfl a_sl a_om (by kernel_rfl) | exact yl_fieldB (T := 88) (f := 1) (q := 1) rfl rfl (by kernel_rfl) | exact yl_fieldE (T := 88) (f := 1) (j := 1) rfl rfl a_sl a_om (by kernel_rfl) | exact yl_fieldB (T := 88) (f := 2) (q := 2) rfl rfl (by kernel_rfl) | exact yl_fieldE (T := 88) (f := 2) (j := 2) rfl rfl a_sl a_om (by kernel_rfl)), ?_⟩)) | ((first | refine on_Ec hF rfl rfl ?_ | refine od_Ec rfl rfl ?_); refine ⟨_, _, _, a_yc, ?_, ?_⟩ <;> (intro hc; try exact a_cut hc)) | ((first | (refine od_act a_nd ?_; intro K2 hK2) | refine od_last a_nd ?_ | skip); (first | (refine on_alloc hF rfl Tryz.zeroValue4 rfl rfl (fun B => ?_)) | (refine on_alloc hF rfl Tryz.zeroValue33 rfl rfl (fun B => ?_)) | (refine on_alloc hF rfl Tryz.zeroValue49 rfl rfl (fun B => ?_)) | (refine on_alloc hF rfl Tryz.zeroValue88 rfl rfl (fun B => ?_)) | (refine on_box hF rfl rfl rfl rfl (fun B => ?_)) | (refine on_store hF rfl rfl rfl rfl a_turn a_vof a_sz ?_) | (refine on_storeE hF rfl rfl rfl rfl a_turn a_om a_vof a_sz ?_) | (refine on_storeEF hF rfl rfl rfl rfl a_turn a_as (by decide) a_vof rfl ?_) | (refine on_storeF hF rfl rfl rfl rfl a_turn (by decide) a_vof rfl ?_)) <;> try (refine hK2 _ _ _ a_allK ?_; clear hK2 K2))) <;> (refine hK _ _ _ ?_; clear hK K)) | with_reducible (first | refine nx_seq ?_ | refine nx_region ?_ | refine nl_nil ?_ | refine nq_then_n ?_ | refine nx_block ?_ | refine nx_skip ?_ | refine nx_exit ?_ | refine nx_ret ?_ | refine nq_then_x ?_ | refine nq_then_r ?_ | refine nq_blk_n ?_ | refine nq_blk_r ?_ | refine nq_blk_hit ?_ | refine nq_blk_miss rfl ?_ | refine nd_nil ?_) | refine nx_cond_t rfl ?_ | refine nx_cond_f rfl ?_ | refine nl_pass hF rfl rfl rfl ?_ | refine nd_pass rfl rfl rfl rfl rfl ?_ | refine nd_pass2 rfl rfl rfl a_nd a_allK rfl rfl ?_ | refine nd_pass3 rfl rfl rfl a_nd rfl rfl ?_ | (with_reducible refine hQ1 _ _ _ ?_; clear hQ1 Q1) )
          refine nx_frz (BoxC _ _ z.2.v) Pick.here ?_
          refine HK _ _ (BoxC b13 49 (planV (.slice ca cn cc) (.slice ga gn gc) (.slice ma mn mc) y.a n) :: RowC 3 1 (.slice ga gn gc) (st.1.map (.int .i64)) :: RowC 3 1 (.slice ma mn mc) (st.2.1.map (.int .i64)) :: BoxC b12 4 (.bool st.2.2) :: RowC 3 1 (.slice ca cn cc) ((Chn.chainIds L y.id).map (.int .i64)) :: BoxC b6 49 (planV nilV nilV nilV 0 0) :: C) _ (by exact a_subR) (by exact a_holds2) (fun E2 => ?_)
          clear HK K
          (try simp only [List.cons_append, List.nil_append])
          cases hk : st.2.2 with
          | false =>
            have hz : covStep L st z.2.u z.2.fr z.2.to = st := by unfold covStep; rw [hk]; rfl
            repeat' (first | ((first | with_reducible refine nl_op rfl ?_ | refine nd_go rfl rfl rfl ?_); intro K hK; (first | ((first | refine on_E hF rfl rfl ?_ | refine od_E rfl rfl ?_ | refine od_R rfl rfl ?_); (first | refine ⟨_, a_yl, ?_⟩ | refine ⟨_, (by first | exact yl_build (T := 49) (us := []) rfl rfl rfl (fun w => by go_simp; all_goals rfl) | exact yl_build (T := 49) (us := [(3, _), (4, _)]) rfl rfl rfl (fun w => by go_simp; all_goals rfl) | exact yl_fieldB (T := 33) (f := 0) (q := 0) rfl rfl (by kernel_rfl) | exact yl_fieldE (T := 33) (f := 0) (j := 0) rfl rfl a_sl a_om (by kernel_rfl) | exact yl_fieldB (T := 33) (f := 4) (q := 4) rfl rfl (by kernel_rfl) | exact yl_fieldE (T := 33) (f := 4) (j := 4) rfl rfl a_sl a_om (by kernel_rfl) | exact yl_fieldB (T := 49) (f := 0) (q := 0) rfl rfl (by kernel_rfl) | exact yl_fieldE (T := 49) (f := 0) (j := 0) rfl rfl a_sl a_om (by kernel_rfl) | exact yl_fieldB (T := 88) (f := 0) (q := 0) rfl rfl (by kernel_rfl) | exact yl_fieldE (T := 88) (f := 0) (j := 0) rfl rfl a_sl a_om (by kernel_rfl) | exact yl_fieldB (T := 88) (f := 1) (q := 1) rfl rfl (by kernel_rfl) | exact yl_fieldE (T := 88) (f := 1) (j := 1) rfl rfl a_sl a_om (by kernel_rfl) | exact yl_fieldB (T := 88) (f := 2) (q := 2) rfl rfl (by kernel_rfl) | exact yl_fieldE (T := 88) (f := 2) (j := 2) rfl rfl a_sl a_om (by kernel_rfl)), ?_⟩)) | ((first | refine on_Ec hF rfl rfl ?_ | refine od_Ec rfl rfl ?_); refine ⟨_, _, _, a_yc, ?_, ?_⟩ <;> (intro hc; try exact a_cut hc)) | ((first | (refine od_act a_nd ?_; intro K2 hK2) | refine od_last a_nd ?_ | skip); (first | (refine on_alloc hF rfl Tryz.zeroValue4 rfl rfl (fun B => ?_)) | (refine on_alloc hF rfl Tryz.zeroValue33 rfl rfl (fun B => ?_)) | (refine on_alloc hF rfl Tryz.zeroValue49 rfl rfl (fun B => ?_)) | (refine on_alloc hF rfl Tryz.zeroValue88 rfl rfl (fun B => ?_)) | (refine on_box hF rfl rfl rfl rfl (fun B => ?_)) | (refine on_store hF rfl rfl rfl rfl a_turn a_vof a_sz ?_) | (refine on_storeE hF rfl rfl rfl rfl a_turn a_om a_vof a_sz ?_) | (refine on_storeEF hF rfl rfl rfl rfl a_turn a_as (by decide) a_vof rfl ?_) | (refine on_storeF hF rfl rfl rfl rfl a_turn (by decide) a_vof rfl ?_)) <;> try (refine hK2 _ _ _ a_allK ?_; clear hK2 K2))) <;> (refine hK _ _ _ ?_; clear hK K)) | with_reducible (first | refine nx_seq ?_ | refine nx_region ?_ | refine nl_nil ?_ | refine nq_then_n ?_ | refine nx_block ?_ | refine nx_skip ?_ | refine nx_exit ?_ | refine nx_ret ?_ | refine nq_then_x ?_ | refine nq_then_r ?_ | refine nq_blk_n ?_ | refine nq_blk_r ?_ | refine nq_blk_hit ?_ | refine nq_blk_miss rfl ?_ | refine nd_nil ?_) | refine nx_cond_t rfl ?_ | refine nx_cond_f rfl ?_ | refine nl_pass hF rfl rfl rfl ?_ | refine nd_pass rfl rfl rfl rfl rfl ?_ | refine nd_pass2 rfl rfl rfl a_nd a_allK rfl rfl ?_ | refine nd_pass3 rfl rfl rfl a_nd rfl rfl ?_ | (with_reducible refine hQ1 _ _ _ ?_; clear hQ1 Q1) )
            exact rq_n (⟨.slice ga gn gc, _, _, _, rfl⟩, ⟨.slice ma mn mc, _, _, _, rfl⟩) trivial (by exact a_subR) (by rw [hsn, hz, hk]; exact a_holds2)
          | true =>
            have cz := fun (W0 : World) (X : Nat → Prop) (R C : List Ch) h => cover_ct2 (W0 := W0) (X := X) (R := R) (C := C) s hs L hok z.2 z.2.fr b13 (.slice ca cn cc) (.slice ga gn gc) (.slice ma mn mc) ⟨_, _, _, rfl⟩ ⟨_, _, _, rfl⟩ ⟨_, _, _, rfl⟩ y.a n st hk (by omega) (by omega) h hm
            repeat' (first | ((first | with_reducible refine nl_op rfl ?_ | refine nd_go rfl rfl rfl ?_); intro K hK; (first | ((first | refine on_E hF rfl rfl ?_ | refine od_E rfl rfl ?_ | refine od_R rfl rfl ?_); (first | refine ⟨_, a_yl, ?_⟩ | refine ⟨_, (by first | exact yl_build (T := 49) (us := []) rfl rfl rfl (fun w => by go_simp; all_goals rfl) | exact yl_build (T := 49) (us := [(3, _), (4, _)]) rfl rfl rfl (fun w => by go_simp; all_goals rfl) | exact yl_fieldB (T := 33) (f := 0) (q := 0) rfl rfl (by kernel_rfl) | exact yl_fieldE (T := 33) (f := 0) (j := 0) rfl rfl a_sl a_om (by kernel_rfl) | exact yl_fieldB (T := 33) (f := 4) (q := 4) rfl rfl (by kernel_rfl) | exact yl_fieldE (T := 33) (f := 4) (j := 4) rfl rfl a_sl a_om (by kernel_rfl) | exact yl_fieldB (T := 49) (f := 0) (q := 0) rfl rfl (by kernel_rfl) | exact yl_fieldE (T := 49) (f := 0) (j := 0) rfl rfl a_sl a_om (by kernel_rfl) | exact yl_fieldB (T := 88) (f := 0) (q := 0) rfl rfl (by kernel_rfl) | exact yl_fieldE (T := 88) (f := 0) (j := 0) rfl rfl a_sl a_om (by kernel_rfl) | exact yl_fieldB (T := 88) (f := 1) (q := 1) rfl rfl (by kernel_rfl) | exact yl_fieldE (T := 88) (f := 1) (j := 1) rfl rfl a_sl a_om (by kernel_rfl) | exact yl_fieldB (T := 88) (f := 2) (q := 2) rfl rfl (by kernel_rfl) | exact yl_fieldE (T := 88) (f := 2) (j := 2) rfl rfl a_sl a_om (by kernel_rfl)), ?_⟩)) | ((first | refine on_Ec hF rfl rfl ?_ | refine od_Ec rfl rfl ?_); refine ⟨_, _, _, a_yc, ?_, ?_⟩ <;> (intro hc; try exact a_cut hc)) | ((first | (refine od_act a_nd ?_; intro K2 hK2) | refine od_last a_nd ?_ | skip); (first | (refine on_callG hF (enters_of Tryz.func47 (by kernel_rfl) rfl) rfl rfl rfl rfl (cz _ _ _ _ (by exact a_mem)) (fun u => ?_)) | (refine on_alloc hF rfl Tryz.zeroValue4 rfl rfl (fun B => ?_)) | (refine on_alloc hF rfl Tryz.zeroValue33 rfl rfl (fun B => ?_)) | (refine on_alloc hF rfl Tryz.zeroValue49 rfl rfl (fun B => ?_)) | (refine on_alloc hF rfl Tryz.zeroValue88 rfl rfl (fun B => ?_)) | (refine on_box hF rfl rfl rfl rfl (fun B => ?_)) | (refine on_store hF rfl rfl rfl rfl a_turn a_vof a_sz ?_) | (refine on_storeE hF rfl rfl rfl rfl a_turn a_om a_vof a_sz ?_) | (refine on_storeEF hF rfl rfl rfl rfl a_turn a_as (by decide) a_vof rfl ?_) | (refine on_storeF hF rfl rfl rfl rfl a_turn (by decide) a_vof rfl ?_)) <;> try (refine hK2 _ _ _ a_allK ?_; clear hK2 K2))) <;> (refine hK _ _ _ ?_; clear hK K)) | with_reducible (first | refine nx_seq ?_ | refine nx_region ?_ | refine nl_nil ?_ | refine nq_then_n ?_ | refine nx_block ?_ | refine nx_skip ?_ | refine nx_exit ?_ | refine nx_ret ?_ | refine nq_then_x ?_ | refine nq_then_r ?_ | refine nq_blk_n ?_ | refine nq_blk_r ?_ | refine nq_blk_hit ?_ | refine nq_blk_miss rfl ?_ | refine nd_nil ?_) | refine nx_cond_t rfl ?_ | refine nx_cond_f rfl ?_ | refine nl_pass hF rfl rfl rfl ?_ | refine nd_pass rfl rfl rfl rfl rfl ?_ | refine nd_pass2 rfl rfl rfl a_nd a_allK rfl rfl ?_ | refine nd_pass3 rfl rfl rfl a_nd rfl rfl ?_ | (with_reducible refine hQ1 _ _ _ ?_; clear hQ1 Q1) )
            exact rq_n u trivial (by exact a_subR) (by rw [hsn]; exact a_holds2)
        case done =>
          intro u _ M
          obtain ⟨⟨g, ga, gn, gc, rfl⟩, ⟨mm, ma, mn, mc, rfl⟩⟩ := u
          obtain ⟨st, hst⟩ : ∃ st, covF L st0 (bkL (P.take i)) = st := ⟨_, rfl⟩
          rw [hst] at hfi ⊢
          have hvp := vofPlan (ch := .slice ca cn cc) (sg := .slice ga gn gc) (lm := .slice ma mn mc) ⟨_, _, _, rfl⟩ ⟨_, _, _, rfl⟩ ⟨_, _, _, rfl⟩ y.a n
          clear hst hxl
          dsimp only
          (try simp only [List.cons_append, List.nil_append])
          cases hk : st.2.2 with
          | false =>
            rw [hk] at hfi
            simp only [Bool.false_eq_true, if_false] at hfi
            subst hfi
            unfold findRet findC
            dsimp only
            repeat' (first | ((first | with_reducible refine nl_op rfl ?_ | refine nd_go rfl rfl rfl ?_); intro K hK; (first | ((first | refine on_E hF rfl rfl ?_ | refine od_E rfl rfl ?_ | refine od_R rfl rfl ?_); (first | refine ⟨_, a_yl, ?_⟩ | refine ⟨_, (by first | exact yl_build (T := 49) (us := []) rfl rfl rfl (fun w => by go_simp; all_goals rfl) | exact yl_build (T := 49) (us := [(3, _), (4, _)]) rfl rfl rfl (fun w => by go_simp; all_goals rfl) | exact yl_fieldB (T := 33) (f := 0) (q := 0) rfl rfl (by kernel_rfl) | exact yl_fieldE (T := 33) (f := 0) (j := 0) rfl rfl a_sl a_om (by kernel_rfl) | exact yl_fieldB (T := 33) (f := 4) (q := 4) rfl rfl (by kernel_rfl) | exact yl_fieldE (T := 33) (f := 4) (j := 4) rfl rfl a_sl a_om (by kernel_rfl) | exact yl_fieldB (T := 49) (f := 0) (q := 0) rfl rfl (by kernel_rfl) | exact yl_fieldE (T := 49) (f := 0) (j := 0) rfl rfl a_sl a_om (by kernel_rfl) | exact yl_fieldB (T := 88) (f := 0) (q := 0) rfl rfl (by kernel_rfl) | exact yl_fieldE (T := 88) (f := 0) (j := 0) rfl rfl a_sl a_om (by kernel_rfl) | exact yl_fieldB (T := 88) (f := 1) (q := 1) rfl rfl (by kernel_rfl) | exact yl_fieldE (T := 88) (f := 1) (j := 1) rfl rfl a_sl a_om (by kernel_rfl) | exact yl_fieldB (T := 88) (f := 2) (q := 2) rfl rfl (by kernel_rfl) | exact yl_fieldE (T := 88) (f := 2) (j := 2) rfl rfl a_sl a_om (by kernel_rfl)), ?_⟩)) | ((first | refine on_Ec hF rfl rfl ?_ | refine od_Ec rfl rfl ?_); refine ⟨_, _, _, a_yc, ?_, ?_⟩ <;> (intro hc; try exact a_cut hc)) | ((first | (refine od_act a_nd ?_; intro K2 hK2) | refine od_last a_nd ?_ | skip); (first | (refine on_alloc hF rfl Tryz.zeroValue4 rfl rfl (fun B => ?_)) | (refine on_alloc hF rfl Tryz.zeroValue33 rfl rfl (fun B => ?_)) | (refine on_alloc hF rfl Tryz.zeroValue49 rfl rfl (fun B => ?_)) | (refine on_alloc hF rfl Tryz.zeroValue88 rfl rfl (fun B => ?_)) | (refine on_box hF rfl rfl rfl rfl (fun B => ?_)) | (refine on_store hF rfl rfl rfl rfl a_turn a_vof a_sz ?_) | (refine on_storeE hF rfl rfl rfl rfl a_turn a_om a_vof a_sz ?_) | (refine on_storeEF hF rfl rfl rfl rfl a_turn a_as (by decide) a_vof rfl ?_) | (refine on_storeF hF rfl rfl rfl rfl a_turn (by decide) a_vof rfl ?_)) <;> try (refine hK2 _ _ _ a_allK ?_; clear hK2 K2))) <;> (refine hK _ _ _ ?_; clear hK K)) | with_reducible (first | refine nx_seq ?_ | refine nx_region ?_ | refine nl_nil ?_ | refine nq_then_n ?_ | refine nx_block ?_ | refine nx_skip ?_ | refine nx_exit ?_ | refine nx_ret ?_ | refine nq_then_x ?_ | refine nq_then_r ?_ | refine nq_blk_n ?_ | refine nq_blk_r ?_ | refine nq_blk_hit ?_ | refine nq_blk_miss rfl ?_ | refine nd_nil ?_) | refine nx_cond_t rfl ?_ | refine nx_cond_f rfl ?_ | refine nl_pass hF rfl rfl rfl ?_ | refine nd_pass rfl rfl rfl rfl rfl ?_ | refine nd_pass2 rfl rfl rfl a_nd a_allK rfl rfl ?_ | refine nd_pass3 rfl rfl rfl a_nd rfl rfl ?_ | (with_reducible refine hQ1 _ _ _ ?_; clear hQ1 Q1) )
            refine nx_endc [M] (BoxC b6 49 (planV nilV nilV nilV 0 0) :: C) rfl nil3 (fun a w ha hw => res_cell_tmp (T' := 49) Tryz.results25 rfl rfl (by exact a_mem) hvz ha hw) (by exact a_subR) (by exact a_holds2) (by exact a_holds2)
          | true =>
            rw [hk] at hfi
            simp only [if_true] at hfi
            subst hfi
            unfold findRet findC
            dsimp only
            repeat' (first | ((first | with_reducible refine nl_op rfl ?_ | refine nd_go rfl rfl rfl ?_); intro K hK; (first | ((first | refine on_E hF rfl rfl ?_ | refine od_E rfl rfl ?_ | refine od_R rfl rfl ?_); (first | refine ⟨_, a_yl, ?_⟩ | refine ⟨_, (by first | exact yl_build (T := 49) (us := []) rfl rfl rfl (fun w => by go_simp; all_goals rfl) | exact yl_build (T := 49) (us := [(3, _), (4, _)]) rfl rfl rfl (fun w => by go_simp; all_goals rfl) | exact yl_fieldB (T := 33) (f := 0) (q := 0) rfl rfl (by kernel_rfl) | exact yl_fieldE (T := 33) (f := 0) (j := 0) rfl rfl a_sl a_om (by kernel_rfl) | exact yl_fieldB (T := 33) (f := 4) (q := 4) rfl rfl (by kernel_rfl) | exact yl_fieldE (T := 33) (f := 4) (j := 4) rfl rfl a_sl a_om (by kernel_rfl) | exact yl_fieldB (T := 49) (f := 0) (q := 0) rfl rfl (by kernel_rfl) | exact yl_fieldE (T := 49) (f := 0) (j := 0) rfl rfl a_sl a_om (by kernel_rfl) | exact yl_fieldB (T := 88) (f := 0) (q := 0) rfl rfl (by kernel_rfl) | exact yl_fieldE (T := 88) (f := 0) (j := 0) rfl rfl a_sl a_om (by kernel_rfl) | exact yl_fieldB (T := 88) (f := 1) (q := 1) rfl rfl (by kernel_rfl) | exact yl_fieldE (T := 88) (f := 1) (j := 1) rfl rfl a_sl a_om (by kernel_rfl) | exact yl_fieldB (T := 88) (f := 2) (q := 2) rfl rfl (by kernel_rfl) | exact yl_fieldE (T := 88) (f := 2) (j := 2) rfl rfl a_sl a_om (by kernel_rfl)), ?_⟩)) | ((first | refine on_Ec hF rfl rfl ?_ | refine od_Ec rfl rfl ?_); refine ⟨_, _, _, a_yc, ?_, ?_⟩ <;> (intro hc; try exact a_cut hc)) | ((first | (refine od_act a_nd ?_; intro K2 hK2) | refine od_last a_nd ?_ | skip); (first | (refine on_alloc hF rfl Tryz.zeroValue4 rfl rfl (fun B => ?_)) | (refine on_alloc hF rfl Tryz.zeroValue33 rfl rfl (fun B => ?_)) | (refine on_alloc hF rfl Tryz.zeroValue49 rfl rfl (fun B => ?_)) | (refine on_alloc hF rfl Tryz.zeroValue88 rfl rfl (fun B => ?_)) | (refine on_box hF rfl rfl rfl rfl (fun B => ?_)) | (refine on_store hF rfl rfl rfl rfl a_turn a_vof a_sz ?_) | (refine on_storeE hF rfl rfl rfl rfl a_turn a_om a_vof a_sz ?_) | (refine on_storeEF hF rfl rfl rfl rfl a_turn a_as (by decide) a_vof rfl ?_) | (refine on_storeF hF rfl rfl rfl rfl a_turn (by decide) a_vof rfl ?_)) <;> try (refine hK2 _ _ _ a_allK ?_; clear hK2 K2))) <;> (refine hK _ _ _ ?_; clear hK K)) | with_reducible (first | refine nx_seq ?_ | refine nx_region ?_ | refine nl_nil ?_ | refine nq_then_n ?_ | refine nx_block ?_ | refine nx_skip ?_ | refine nx_exit ?_ | refine nx_ret ?_ | refine nq_then_x ?_ | refine nq_then_r ?_ | refine nq_blk_n ?_ | refine nq_blk_r ?_ | refine nq_blk_hit ?_ | refine nq_blk_miss rfl ?_ | refine nd_nil ?_) | refine nx_cond_t rfl ?_ | refine nx_cond_f rfl ?_ | refine nl_pass hF rfl rfl rfl ?_ | refine nd_pass rfl rfl rfl rfl rfl ?_ | refine nd_pass2 rfl rfl rfl a_nd a_allK rfl rfl ?_ | refine nd_pass3 rfl rfl rfl a_nd rfl rfl ?_ | (with_reducible refine hQ1 _ _ _ ?_; clear hQ1 Q1) )
            refine nx_endc [M] (BoxC b6 49 (planV (.slice ca cn cc) (.slice ga gn gc) (.slice ma mn mc) y.a n) :: RowC 3 1 (.slice ca cn cc) ((Chn.chainIds L y.id).map (.int .i64)) :: RowC 3 1 (.slice ga gn gc) (st.1.map (.int .i64)) :: RowC 3 1 (.slice ma mn mc) (st.2.1.map (.int .i64)) :: C) rfl (⟨.slice ca cn cc, _, _, _, rfl⟩, ⟨.slice ga gn gc, _, _, _, rfl⟩, ⟨.slice ma mn mc, _, _, _, rfl⟩) (fun a w ha hw => res_cell_tmp (T' := 49) Tryz.results25 rfl rfl (by exact a_mem) hvp ha hw) (by exact a_subR) (by exact a_holds2) (by exact a_holds2)
        case stop =>
          intro pre x post hx j _ h
          exact h.elim
    · rw [findI_end hlt] at hfi
      subst hfi
      unfold findRet findC
      dsimp only
      repeat' (first | ((first | with_reducible refine nl_op rfl ?_ | refine nd_go rfl rfl rfl ?_); intro K hK; (first | ((first | refine on_E hF rfl rfl ?_ | refine od_E rfl rfl ?_ | refine od_R rfl rfl ?_); (first | refine ⟨_, a_yl, ?_⟩ | refine ⟨_, (by first | exact yl_build (T := 49) (us := []) rfl rfl rfl (fun w => by go_simp; all_goals rfl) | exact yl_build (T := 49) (us := [(3, _), (4, _)]) rfl rfl rfl (fun w => by go_simp; all_goals rfl) | exact yl_fieldB (T := 33) (f := 0) (q := 0) rfl rfl (by kernel_rfl) | exact yl_fieldE (T := 33) (f := 0) (j := 0) rfl rfl a_sl a_om (by kernel_rfl) | exact yl_fieldB (T := 33) (f := 4) (q := 4) rfl rfl (by kernel_rfl) | exact yl_fieldE (T := 33) (f := 4) (j := 4) rfl rfl a_sl a_om (by kernel_rfl) | exact yl_fieldB (T := 49) (f := 0) (q := 0) rfl rfl (by kernel_rfl) | exact yl_fieldE (T := 49) (f := 0) (j := 0) rfl rfl a_sl a_om (by kernel_rfl) | exact yl_fieldB (T := 88) (f := 0) (q := 0) rfl rfl (by kernel_rfl) | exact yl_fieldE (T := 88) (f := 0) (j := 0) rfl rfl a_sl a_om (by kernel_rfl) | exact yl_fieldB (T := 88) (f := 1) (q := 1) rfl rfl (by kernel_rfl) | exact yl_fieldE (T := 88) (f := 1) (j := 1) rfl rfl a_sl a_om (by kernel_rfl) | exact yl_fieldB (T := 88) (f := 2) (q := 2) rfl rfl (by kernel_rfl) | exact yl_fieldE (T := 88) (f := 2) (j := 2) rfl rfl a_sl a_om (by kernel_rfl)), ?_⟩)) | ((first | refine on_Ec hF rfl rfl ?_ | refine od_Ec rfl rfl ?_); refine ⟨_, _, _, a_yc, ?_, ?_⟩ <;> (intro hc; try exact a_cut hc)) | ((first | (refine od_act a_nd ?_; intro K2 hK2) | refine od_last a_nd ?_ | skip); (first | (refine on_alloc hF rfl Tryz.zeroValue4 rfl rfl (fun B => ?_)) | (refine on_alloc hF rfl Tryz.zeroValue33 rfl rfl (fun B => ?_)) | (refine on_alloc hF rfl Tryz.zeroValue49 rfl rfl (fun B => ?_)) | (refine on_alloc hF rfl Tryz.zeroValue88 rfl rfl (fun B => ?_)) | (refine on_box hF rfl rfl rfl rfl (fun B => ?_)) | (refine on_store hF rfl rfl rfl rfl a_turn a_vof a_sz ?_) | (refine on_storeE hF rfl rfl rfl rfl a_turn a_om a_vof a_sz ?_) | (refine on_storeEF hF rfl rfl rfl rfl a_turn a_as (by decide) a_vof rfl ?_) | (refine on_storeF hF rfl rfl rfl rfl a_turn (by decide) a_vof rfl ?_)) <;> try (refine hK2 _ _ _ a_allK ?_; clear hK2 K2))) <;> (refine hK _ _ _ ?_; clear hK K)) | with_reducible (first | refine nx_seq ?_ | refine nx_region ?_ | refine nl_nil ?_ | refine nq_then_n ?_ | refine nx_block ?_ | refine nx_skip ?_ | refine nx_exit ?_ | refine nx_ret ?_ | refine nq_then_x ?_ | refine nq_then_r ?_ | refine nq_blk_n ?_ | refine nq_blk_r ?_ | refine nq_blk_hit ?_ | refine nq_blk_miss rfl ?_ | refine nd_nil ?_) | refine nx_cond_t rfl ?_ | refine nx_cond_f rfl ?_ | refine nl_pass hF rfl rfl rfl ?_ | refine nd_pass rfl rfl rfl rfl rfl ?_ | refine nd_pass2 rfl rfl rfl a_nd a_allK rfl rfl ?_ | refine nd_pass3 rfl rfl rfl a_nd rfl rfl ?_ | (with_reducible refine hQ1 _ _ _ ?_; clear hQ1 Q1) )
      refine nx_endc [] (BoxC b6 49 (planV nilV nilV nilV 0 0) :: C) rfl nil3 (fun a w ha hw => res_cell_tmp (T' := 49) Tryz.results25 rfl rfl (by exact a_mem) hvz ha hw) (by exact a_subR) (by exact a_holds2) (by exact a_holds2)
end Pl
end Go.Proofs.YtinofjenoapeaaaGreat
end
section
namespace Go.Proofs.YtinofjenoapeaaaGreat
open Go.RowKit Go.Shelf Go.Sort Go.Lib
set_option linter.unusedSimpArgs false
set_option linter.unusedVariables false
namespace Sc
/-! ### plain laws -/
def upr (zs : List Int) : List Int := compact (zs.mergeSort fun x y => decide (x ≤ y))
structure CuI (d : Array Int) (m : Nat) : Prop where
  lt : (compactUpTo d m).Pairwise (· < ·)
  le : ∀ x ∈ compactUpTo d m, ∃ j, j < m ∧ d[j]! = x
  all : ∀ j, j < m → d[j]! ∈ compactUpTo d m
theorem cuI (d : Array Int) (hs : ∀ i j, i ≤ j → j < d.size → d[i]! ≤ d[j]!) : ∀ m, m ≤ d.size → CuI d m
  | 0, _ => ⟨by simp [compactUpTo], fun x hx => by simp [compactUpTo] at hx, fun j hj => by omega⟩
  | m + 1, hm => by
    have h := cuI d hs m (by omega)
    have e := compactUpTo_succ d m
    by_cases hk : keeps d m = true
    · rw [hk, if_pos rfl] at e
      rw [show CuI d (m + 1) ↔ CuI d (m + 1) from Iff.rfl]
      refine ⟨?_, ?_, ?_⟩
      · rw [e]
        refine List.pairwise_append.2 ⟨h.lt, by simp, fun x hx y hy => ?_⟩
        rw [List.mem_singleton.1 hy]
        obtain ⟨j, hj, rfl⟩ := h.le x hx
        have h1 := hs j (m - 1) (by omega) (by omega)
        have h2 := hs (m - 1) m (by omega) (by omega)
        have h3 : d[m]! ≠ d[m - 1]! := by
          unfold keeps at hk
          rcases of_decide_eq_true hk with hk | hk
          · omega
          · exact hk
        omega
      · intro x hx
        rw [e] at hx
        rcases List.mem_append.1 hx with hx | hx
        · obtain ⟨j, hj, e⟩ := h.le x hx; exact ⟨j, by omega, e⟩
        · exact ⟨m, by omega, (List.mem_singleton.1 hx).symm⟩
      · intro j hj
        rw [e]
        by_cases hjm : j = m
        · rw [hjm]; simp
        · exact List.mem_append_left _ (h.all j (by omega))
    · rw [if_neg hk, List.append_nil] at e
      refine ⟨e ▸ h.lt, fun x hx => ?_, fun j hj => ?_⟩
      · obtain ⟨j, hj, e2⟩ := h.le x (e ▸ hx); exact ⟨j, by omega, e2⟩
      · rw [e]
        by_cases hjm : j = m
        · subst hjm
          have hkk : ¬ (j = 0 ∨ d[j]! ≠ d[j - 1]!) := fun hh => hk (by unfold keeps; exact decide_eq_true hh)
          have h1 : d[j]! = d[j - 1]! := by
            by_cases he : d[j]! = d[j - 1]!
            · exact he
            · exact absurd (.inr he) hkk
          rw [h1]
          exact h.all (j - 1) (by omega)
        · exact h.all j (by omega)
theorem sorted_at {zs : List Int} (h : zs.Pairwise (· ≤ ·)) (i j : Nat) (hij : i ≤ j) (hj : j < zs.toArray.size) : zs.toArray[i]! ≤ zs.toArray[j]! := by
  have hj' : j < zs.length := by simpa using hj
  rw [getElem!_pos _ i (by simp; omega), getElem!_pos _ j (by simpa using hj')]
  simp only [List.getElem_toArray]
  rcases Nat.lt_or_ge i j with hlt | hge
  · exact List.pairwise_iff_getElem.1 h i j (by omega) hj' hlt
  · have : i = j := by omega
    subst this; exact Int.le_refl _
theorem ms_sorted (zs : List Int) : (zs.mergeSort fun x y => decide (x ≤ y)).Pairwise (· ≤ ·) := by
  have := List.pairwise_mergeSort (le := fun x y : Int => decide (x ≤ y)) (fun a b c h1 h2 => by simp at *; omega) (fun a b => by simp; omega) zs
  exact this.imp (fun h => of_decide_eq_true h)
theorem upr_lt (zs : List Int) : (upr zs).Pairwise (· < ·) := (cuI _ (sorted_at (ms_sorted zs)) _ (by simp)).lt
theorem mem_upr (zs : List Int) (x : Int) : x ∈ upr zs ↔ x ∈ zs := by
  have h := cuI _ (sorted_at (ms_sorted zs)) (zs.mergeSort fun x y => decide (x ≤ y)).length (by simp)
  constructor
  · intro hx
    obtain ⟨j, hj, e⟩ := h.le x hx
    rw [getElem!_pos _ j (by simpa using hj), List.getElem_toArray] at e
    exact List.mem_mergeSort.1 (e ▸ List.getElem_mem _)
  · intro hx
    obtain ⟨j, hj, e⟩ := List.mem_iff_getElem.1 (List.mem_mergeSort (le := fun x y : Int => decide (x ≤ y)).2 hx)
    have := h.all j hj
    rw [getElem!_pos _ j (by simpa using hj), List.getElem_toArray, e] at this
    exact this
theorem compact_len_le (zs : List Int) : (compact zs).length ≤ zs.length := by
  unfold compact compactUpTo
  rw [List.length_map]
  exact Nat.le_trans (List.length_filter_le _ _) (by simp)
theorem upr_len (zs : List Int) : (upr zs).length ≤ zs.length := by
  have := compact_len_le (zs.mergeSort fun x y => decide (x ≤ y))
  simpa [upr] using this
end Sc
end Go.Proofs.YtinofjenoapeaaaGreat
end
section
namespace Go.Proofs.YtinofjenoapeaaaGreat
open Go.RowKit Go.Shelf
set_option linter.unusedSimpArgs false
set_option linter.unusedVariables false
namespace Li
def isKn (L : List It2) (x : It2) : Bool := decide (x.kind = 4) && knownL L x.tl
def rawL (L : List It2) : List Int := 1 :: (L.filter (isKn L)).map (·.tl)
def allL (L : List It2) : List Int := Sc.upr (rawL L)
theorem known_pos {L : List It2} {t : Int} (h : knownL L t = true) : 1 ≤ t := by
  by_cases h1 : 1 < t
  · omega
  · rw [knownL_le h1] at h; have := of_decide_eq_true h; omega
theorem known_one (L : List It2) : knownL L 1 = true := by rw [knownL_le (by omega)]; rfl
theorem mem_all {L : List It2} {t : Int} : t ∈ allL L ↔ t = 1 ∨ ∃ x ∈ L, isKn L x = true ∧ x.tl = t := by
  unfold allL
  rw [Sc.mem_upr]
  unfold rawL
  rw [List.mem_cons, List.mem_map]
  refine ⟨fun h => h.imp id (fun ⟨x, hx, e⟩ => ⟨x, (List.mem_filter.1 hx).1, (List.mem_filter.1 hx).2, e⟩), fun h => h.imp id (fun ⟨x, h1, h2, e⟩ => ⟨x, List.mem_filter.2 ⟨h1, h2⟩, e⟩)⟩
theorem isKn_known {L : List It2} {x : It2} (h : isKn L x = true) : knownL L x.tl = true := by
  unfold isKn at h; simp at h; exact h.2
theorem isKn_mk {L : List It2} {x : It2} (h : x.kind = 4) (h2 : knownL L x.tl = true) : isKn L x = true := by unfold isKn; simp [h, h2]
theorem all_known {L : List It2} {t : Int} (h : t ∈ allL L) : knownL L t = true := by
  rcases mem_all.1 h with rfl | ⟨x, _, hk, rfl⟩
  · exact known_one L
  · exact isKn_known hk
theorem all_lt (L : List It2) : (allL L).Pairwise (· < ·) := Sc.upr_lt _
theorem raw_len (L : List It2) : (rawL L).length ≤ L.length + 1 := by
  unfold rawL
  have := List.length_filter_le (isKn L) L
  simp only [List.length_cons, List.length_map]; omega
theorem all_len (L : List It2) : (allL L).length ≤ L.length + 1 := Nat.le_trans (Sc.upr_len _) (raw_len L)
end Li
end Go.Proofs.YtinofjenoapeaaaGreat
end
section
namespace Go.Proofs.YtinofjenoapeaaaGreat
open Go.RowKit Go.Shelf
set_option linter.unusedSimpArgs false
set_option linter.unusedVariables false
/-- A block that is the call's own, all its cells known. -/
def RawC (e : TypeId) (g : Nat) (cs : List Value) : Ch where
  p O w := w.heap[g]? = some (.cells cs.toArray e (0, 0)) ∧ ∀ j, O j ↔ j = g
  st h _ hk := ⟨(hk g ((h.2 g).2 rfl)).trans h.1, h.2⟩
  lt h k hk := by rw [(h.2 k).1 hk]; exact (Array.getElem?_eq_some_iff.1 h.1).1
theorem RowC.raw {e k g n c : Nat} {xs : List Value} {O : Nat → Prop} {w : World} (h : (RowC e k (.slice (some ⟨g, 0, none⟩) n c) xs).p O w) : ∃ cs : List Value, n = xs.length ∧ n ≤ c ∧ c ≤ maxLen ∧ cs.length = c * k ∧ cs.take (n * k) = cellsOf xs ∧ (RawC e g cs).p O w := by
  obtain ⟨⟨h1, h2⟩, h3, h4, h5⟩ := h
  rcases h2 with ⟨h2, _⟩ | ⟨g', cap, cur, e1, h6, h7, h8, h9, h10, h11⟩
  · cases h2
  obtain ⟨e2, e3, e4⟩ := Value.slice.inj e1
  obtain ⟨rfl, _, _⟩ := Addr.mk.inj (Option.some.inj e2)
  subst e4
  subst e3
  refine ⟨cur.toList, rfl, h8, h9, by simpa using h10, h11, by simpa using h7, fun j => ?_⟩
  rw [h5 j]
  simp only [Value.ownBlock, Option.some.injEq]
  exact ⟨fun h => h.symm, fun h => h.symm⟩
theorem RawC.row {e k g c : Nat} {xs cs : List Value} {O : Nat → Prop} {w : World} (h : (RawC e g cs).p O w) (hn : xs.length ≤ c) (hc : c ≤ maxLen) (hl : cs.length = c * k) (ht : cs.take (xs.length * k) = cellsOf xs) (hx : ∀ x ∈ xs, (cv x).size = k) : (RowC e k (.slice (some ⟨g, 0, none⟩) xs.length c) xs).p O w := by
  refine RowC.mkp ⟨by rw [cellsOf_len hx], .inr ⟨g, c, cs.toArray, rfl, Nat.zero_le _, h.1, hn, hc, by simpa using hl, by simpa using ht⟩⟩ (fun h => by cases h) hx (fun j => ?_)
  rw [h.2 j]
  simp only [Value.ownBlock, Option.some.injEq]
  exact ⟨fun h => h.symm, fun h => h.symm⟩
section
variable {F : Fence} {m : Nat} {P : Program} {Q : Exit → Act → World → Prop} {K : Act → World → Prop} {n : Nat} {l : List (Nat × Value)} {d : List Deferred} {W0 : World} {X : Nat → Prop} {R C E : List Ch} {o : Oper} {t : Nat} {v : Value}
/-- An owned row is taken apart into cells. -/
theorem nx_raw {e k g i c : Nat} {xs : List Value} (hp : Pick C (RowC e k (.slice (some ⟨g, 0, none⟩) i c) xs) E) (h : ∀ cs : List Value, i = xs.length → i ≤ c → c ≤ maxLen → cs.length = c * k → cs.take (i * k) = cellsOf xs → Nx K n l d W0 X R (RawC e g cs :: E)) : Nx K n l d W0 X R C := fun a w ha hw => by
  have hw' := hw.perm hp
  obtain ⟨O, hO⟩ := hw'.hasC (c := RowC e k (.slice (some ⟨g, 0, none⟩) i c) xs) (by simp)
  obtain ⟨cs, h1, h2, h3, h4, h5, h6⟩ := RowC.raw hO
  refine h cs h1 h2 h3 h4 h5 a w ha (hw'.upd (fun O2 hO2 => ?_))
  obtain ⟨cs2, _, _, _, _, _, h7⟩ := RowC.raw hO2
  have h8 := h7.1.symm.trans h6.1
  obtain ⟨h9, _⟩ := Obj.cells.inj (Option.some.inj h8)
  have h10 : cs2 = cs := by have := congrArg Array.toList h9; simpa using this
  subst h10
  exact ⟨O2, Touch.refl _ _, h7, fun k hk => .inl hk⟩
/-- Cells are an owned row. -/
theorem nx_row {e k g c : Nat} {xs cs : List Value} (hp : Pick C (RawC e g cs) E) (hn : xs.length ≤ c) (hc : c ≤ maxLen) (hl : cs.length = c * k) (ht : cs.take (xs.length * k) = cellsOf xs) (hx : ∀ x ∈ xs, (cv x).size = k) (h : Nx K n l d W0 X R (RowC e k (.slice (some ⟨g, 0, none⟩) xs.length c) xs :: E)) : Nx K n l d W0 X R C := fun a w ha hw =>
  h a w ha ((hw.perm hp).upd (fun O hO => ⟨O, Touch.refl _ _, RawC.row hO hn hc hl ht hx, fun k hk => .inl hk⟩))
theorem run_copy_rowk (w : World) (dT sT ty elem : TypeId) (g off dLen dCap k : Nat) (a : Addr) (sLen sCap : Nat) (cur : Array Value) (tt : TypeId) (cs : List Value) (q : Nat)
    (hu : P.underlying dT = some (.slice elem)) (hs : (P.info? elem).map (·.size) = some k)
    (hg : w.heap[g]? = some (.cells cur tt (0, 0))) (hq : q = Nat.min sLen dLen) (hn : cs.length = q * k)
    (hsrc : ∀ j v, cs[j]? = some v → w.cell? (a.add j) = some v) (hfit : off + cs.length ≤ cur.size) (h1 : ∀ v ∈ cs, v.oneCell' = true) :
    (Builtin.copy_ #[dT, sT] ty #[.slice (some ⟨g, off, none⟩) dLen dCap, .slice (some a) sLen sCap]).run P w =
      .ok (goInt q) (w.setRow g (putL cur.toList cs off).toArray) := by
  have hl := run_loadCells_list (P := P) w a cs hsrc
  have hst := run_storeCells_at P g off tt cs 0 cur w hg (by simpa using hfit) h1
  cases hqq : P.info? elem with
  | none => simp [hqq] at hs
  | some i =>
    have hi : i.size = k := by simpa [hqq] using hs
    rw [hn] at hl
    simp [Builtin.copy_, run_underlying hu, Builtin.lenOf, Builtin.firstCells, sizeOf, typeInfo, hqq, hi, ← hq, hl, hst, putL]
theorem slT_info {T k : Nat} (h : slT P T k = true) : ∃ e, P.underlying T = some (.slice e) ∧ (P.info? e).map (·.size) = some k := by
  unfold slT at h
  split at h
  · rename_i e' hu
    split at h
    · rename_i inf hinf
      exact ⟨e', hu, by rw [hinf]; simpa using h⟩
    · cases h
  · cases h
/-- copy into cells. -/
theorem on_copyk (hF : IsWide F) {x y : Operand} {T T' e g off dl dc sl sc k q : Nat} {a : Addr} {cs zs : List Value} {C' : List Ch} (ho : o.op = Op.call { callee := Callee.builtin Builtin.copy, args := #[x, y], argTypes := #[T, T'] }) (hd : o.dst = some t) (ht : Nat.blt t n = true)
    (hx : ev l x = some (.slice (some ⟨g, off, none⟩) dl dc)) (hy : ev l y = some (.slice (some a) sl sc)) (hT : slT P T k = true) (hm : Turn C (RawC e g zs) (RawC e g (putL zs cs off)) C') (hq : q = Nat.min sl dl) (hn : cs.length = q * k) (hfit : off + cs.length ≤ zs.length)
    (hsrc : ∀ w, St W0 X R C w → ∀ j u, cs[j]? = some u → w.cell? (a.add j) = some u) (h1 : ∀ u ∈ cs, u.oneCell' = true)
    (h : Nx K n ((t, .int .i64 (q : Int)) :: l) d W0 X R C') : Nx (OpN F m P o K Q) n l d W0 X R C := by
  obtain ⟨e', hu, hs⟩ := slT_info hT
  refine on_world hF (fun c => by rw [ho]; exact (fun h => by cases h)) hd ht (ι := Unit) (fun _ => .int .i64 (q : Int)) (fun _ => R) (fun _ => C') (fun A w ha hw => ?_) (fun _ => h)
  obtain ⟨O1, hrow⟩ : ∃ O, (RawC e g zs).p O w := by
    obtain ⟨D, h1, h2⟩ := hm
    exact (hw.perm h1).hasC (c := RawC e g zs) (by simp)
  have hrun := run_copy_rowk (P := P) w T T' o.type e' g off dl dc k a sl sc zs.toArray e cs q hu hs hrow.1 hq hn (hsrc w hw) (by simpa using hfit) h1
  refine ⟨(), w.setRow g (putL zs cs off).toArray, ?_, hw.turn hm (fun O hO => ⟨O, Touch.setRow _ _ _ ((hO.2 g).2 rfl), ⟨setRow_heap _ _ _ _ _ _ hO.1, hO.2⟩, fun k hk => .inl hk⟩)⟩
  simp [execOp, ho, resolve, invoke, builtin, ha.eval hx, ha.eval hy, hrun, Sem.run_bind, Result.andThen, goInt]
/-- append(s[:i], make(..)...) where there is no room: a new block. -/
theorem on_appendZ (hF : IsWide F) {x y : Operand} {T Tn e k by_ i c q N : Nat} {a : Addr} {olds : List Value} (ho : o.op = Op.call { callee := Callee.builtin Builtin.append, args := #[x, y], argTypes := #[T, Tn] }) (hd : o.dst = some t) (ht : Nat.blt t n = true)
    (hx : ev l x = some (.slice (some a) i c)) (hy : ev l y = some (.int .i64 (q : Int))) (hT : apT P T e k by_ = true) (hTn : isIT P Tn .i64 = true) (hq : 0 < q) (hno : c < i + q) (hol : olds.length = i * k)
    (hsrc : ∀ w, St W0 X R C w → ∀ j u, olds[j]? = some u → w.cell? (a.add j) = some u) (hN : i + q = N) (b1 : N ≤ maxLen) (b2 : N * by_ ≤ 140737488355328)
    (h : ∀ (B c' : Nat) (zs : List Value), N ≤ c' → c' ≤ maxLen → zs.length = c' * k → zs.take (i * k) = olds → Nx K n ((t, .slice (some ⟨B, 0, none⟩) N c') :: l) d W0 X R (RawC e B zs :: C)) : Nx (OpN F m P o K Q) n l d W0 X R C := by
  subst hN
  refine on_world hF (fun c => by rw [ho]; exact (fun h => by cases h)) hd ht (ι := { p : Nat × Nat × List Value // i + q ≤ p.2.1 ∧ p.2.1 ≤ maxLen ∧ p.2.2.length = p.2.1 * k ∧ p.2.2.take (i * k) = olds }) (fun p => .slice (some ⟨p.1.1, 0, none⟩) (i + q) p.1.2.1) (fun _ => R) (fun p => RawC e p.1.1 p.1.2.2 :: C) (fun A w ha hw => ?_) (fun p => h p.1.1 p.1.2.1 p.1.2.2 p.2.1 p.2.2.1 p.2.2.2.1 p.2.2.2.2)
  obtain ⟨inf, z, t1, t2, t3, t4, t5, t6, t7⟩ := apT_spec hT
  obtain ⟨kk, hTn'⟩ : ∃ kk, P.underlying Tn = some (.int kk) := by
    unfold isIT at hTn
    split at hTn
    · exact ⟨_, by assumption⟩
    · cases hTn
  have hold : (Builtin.firstCells inf.size i (.slice (some a) i c)).run P w.drew = .ok olds.toArray w.drew := run_firstCells_some w.drew inf.size i a i c olds (by rw [hol, t4]) (fun j v hj => hsrc w hw j v hj)
  have hb3 : q * inf.bytes ≤ 281474976710656 := by
    rw [t5]; have : q * by_ ≤ (i + q) * by_ := Nat.mul_le_mul_right _ (by omega); omega
  have h48 : ((i + q : Nat) : Int) ≤ 9223372036854775807 := by unfold maxLen at b1; omega
  have hrun := Lib.run_append_grow_zeros (P := P) w T Tn o.type e inf z .i64 kk t1 hTn' t2 t3 (some a) i c olds hold q hq (by omega) hno h48 hb3 (growslice_fits hno (by rw [t5]; exact b2))
  have hzc : ∀ j, (Builtin.zeroCells z.cells j).size = j * k := fun j => by simp [Builtin.zeroCells, t6]
  have hge := grownCap_ge w (i + q) c e
  obtain ⟨G, hG⟩ : ∃ G, grownCap w (i + q) c e = G := ⟨_, rfl⟩
  have hle := grownCap_le_maxLen w (i + q) c e b1
  rw [hG] at hrun hge hle
  obtain ⟨zs, hzs⟩ : ∃ zs : Array Value, olds.toArray ++ Builtin.zeroCells z.cells q ++ Builtin.zeroCells z.cells (G - (i + q)) = zs := ⟨_, rfl⟩
  have hzl : zs.size = G * k := by
    rw [← hzs]
    simp only [Array.size_append, hzc, List.size_toArray, hol]
    rw [← Nat.add_mul, ← Nat.add_mul]; congr 1; omega
  have hzt : zs.toList.take (i * k) = olds := by
    rw [← hzs]
    simp only [Array.toList_append, List.append_assoc]
    rw [List.take_append_of_le_length (by simp [hol]), List.take_of_length_le (by simp [hol])]
  rw [hzs] at hrun
  refine ⟨⟨(w.heap.size, G, zs.toList), hge, hle, by simpa using hzl, hzt⟩, w.drew.alloc (.cells zs e), ?_, hw.new (((Touch.drew (fun _ => False) w).trans (Touch.alloc _ _ _)).below (Nat.le_refl _) (fun _ _ h => h)) ⟨fun j => j = w.heap.size, ⟨?_, fun j => Iff.rfl⟩, fun k hk => by omega⟩⟩
  · simp [execOp, ho, resolve, invoke, builtin, ha.eval hx, ha.eval hy, hrun, Sem.run_bind, Result.andThen]
  · have := heap_alloc_new w.drew (.cells zs e)
    simpa using this
/-- Parts of slices of elements of k cells. -/
theorem yl_slice_lk {G : World → Prop} {T : TypeId} {x lo : Operand} {b : Option Addr} {len cap i : Nat} (k : Nat) (ho : o.op = .slice T x (some lo) none none) (hx : ev l x = some (.slice b len cap)) (hl : ev l lo = some (.int .i64 (i : Int))) (hT : slT P T k = true) (hi : i ≤ len) : Yl P G n l d o (.slice (if cap = i then b else b.map (·.add (i * k))) (len - i) (cap - i)) := ⟨(fun c => by rw [ho]; exact (fun h => by cases h)), (fun A w ha hw => by
    obtain ⟨e', hu, hs⟩ := slT_info hT
    have hel : P.elem T = e' := by simp [Program.elem, hu]
    have hr := run_slice_l w T b len cap (by rw [hel]; exact hu) .i64 (i : Int) (by omega) (by omega)
    have hr2 := run_sliceAt_slice w T (.slice b len cap) (some (.int .i64 (i : Int))) none none (by rw [hel]; exact hu)
    rw [hr, hel] at hr2
    have hsz : (sizeOf e').run P w = .ok k w := by
      cases hq : P.info? e' with
      | none => simp [hq] at hs
      | some inf => have : inf.size = k := by simpa [hq] using hs
                    simp [sizeOf, typeInfo, hq, this]
    rw [hsz] at hr2
    simp only [Result.andThen, sliced, Int.toNat_natCast] at hr2
    simp [execOp, ho, ha.eval hx, ha.eval hl, hr2, Sem.run_bind, Result.andThen])⟩
theorem yl_slice_ln {G : World → Prop} {T : TypeId} {x lo : Operand} {g off len cap i : Nat} (k : Nat) (ho : o.op = .slice T x (some lo) none none) (hx : ev l x = some (.slice (some ⟨g, off, none⟩) len cap)) (hl : ev l lo = some (.int .i64 (i : Int))) (hT : slT P T k = true) (hi : i ≤ len) (hc : i < cap) : Yl P G n l d o (.slice (some ⟨g, off + i * k, none⟩) (len - i) (cap - i)) := by
  have h := yl_slice_lk (P := P) (G := G) (n := n) (d := d) k ho hx hl hT hi
  rw [if_neg (by omega)] at h
  simpa only [Option.map_some, Addr.add_mid] using h
/-- Two slices of two blocks don't overlap. -/
theorem on_overlaps (hF : IsWide F) {f : Nat} {xs : Array Operand} {ts : Array TypeId} {T Tb e1 e2 k g1 g2 o1 l1 c1 o2 l2 c2 : Nat} {z1 z2 : List Value} (ho : o.op = Op.call { callee := Callee.value (.func f), args := xs, argTypes := ts }) (hd : o.dst = some t) (ht : Nat.blt t n = true)
    (hx : evs l xs.toList = some [.slice (some ⟨g1, o1, none⟩) l1 c1, .slice (some ⟨g2, o2, none⟩) l2 c2])
    (hf : ∀ w, (callFunc f #[.slice (some ⟨g1, o1, none⟩) l1 c1, .slice (some ⟨g2, o2, none⟩) l2 c2]).run P w = ((Extern.SlicesOverlaps.overlaps #[T, T] #[Tb] #[.slice (some ⟨g1, o1, none⟩) l1 c1, .slice (some ⟨g2, o2, none⟩) l2 c2]).run P w).andThen fun v w => .ok (.value v) w)
    (hT : slT P T k = true) (hg : ∀ w, St W0 X R C w → g1 ≠ g2 ∧ ∃ y1 y2 : Array Value, w.heap[g1]? = some (.cells y1 e1 (0, 0)) ∧ w.heap[g2]? = some (.cells y2 e2 (0, 0)) ∧ y2.size ≠ 0)
    (h : Nx K n ((t, .bool false) :: l) d W0 X R C) : Nx (OpN F m P o K Q) n l d W0 X R C := by
  obtain ⟨e', hu, hs⟩ := slT_info hT
  refine on_world hF (fun c => by rw [ho]; exact (fun h => by cases h)) hd ht (ι := Unit) (fun _ => .bool false) (fun _ => R) (fun _ => C) (fun A w ha hw => ?_) (fun _ => h)
  obtain ⟨hne, y1, y2, h1, h2, h3⟩ := hg w hw
  have hsz : ∀ w, (sizeOf e').run P w = .ok k w := fun w => by
    cases hq : P.info? e' with
    | none => simp [hq] at hs
    | some inf => have : inf.size = k := by simpa [hq] using hs
                  simp [sizeOf, typeInfo, hq, this]
  have hr := Lib.run_overlaps_apart (P := P) w T Tb e' hu k hsz ⟨g1, o1, none⟩ ⟨g2, o2, none⟩ l1 c1 l2 c2 hne e1 e2 y1.size y2.size (by simp [World.shape?, h1]) (by simp [World.shape?, h2]) h3 (by simp [World.frozen?, h1]) (by simp [World.frozen?, h1])
  have hcf := hf w
  rw [hr] at hcf
  have e := ha.evals hx
  have e2 : xs.map A.eval = #[.slice (some ⟨g1, o1, none⟩) l1 c1, .slice (some ⟨g2, o2, none⟩) l2 c2] := by rw [← Array.toArray_toList (xs := xs.map A.eval), Array.toList_map, e]
  refine ⟨(), w, ?_, hw⟩
  simp only [Result.andThen] at hcf
  simp [execOp, ho, resolve, invoke, e2, hcf, Sem.run_bind, Result.andThen, Act.eval, Deferred.ofValue]
theorem yl_cap_s {G : World → Prop} {x : Operand} {T : TypeId} {q : Option Addr} {i c : Nat} (ho : o.op = Op.call { callee := Callee.builtin Builtin.cap, args := #[x], argTypes := #[T] }) (hx : ev l x = some (.slice q i c)) (hT : isSlT P T = true) : Yl P G n l d o (.int .i64 (c : Int)) := ⟨(fun c => by rw [ho]; exact (fun h => by cases h)), (fun a w ha hw => by
    unfold isSlT at hT
    split at hT
    · rename_i e hu
      simp [execOp, ho, resolve, invoke, builtin, ha.eval hx, Builtin.cap_, run_underlying hu, Sem.run_bind, Result.andThen, goInt]
    · cases hT)⟩
/-- Sums and differences, as they are wanted. -/
theorem yl_subZ {G : World → Prop} {T T2 : TypeId} {x y : Operand} {i j z : Int} (hz : i - j = z) (hb : -9223372036854775808 ≤ z ∧ z ≤ 9223372036854775807) (ho : o.op = .binOp .sub T x y T2) (hx : ev l x = some (.int .i64 i)) (hy : ev l y = some (.int .i64 j)) : Yl P G n l d o (.int .i64 z) := by
  subst hz; exact yl_sub ho hx hy hb
theorem yl_addZ {G : World → Prop} {T T2 : TypeId} {x y : Operand} {i j z : Int} (hz : i + j = z) (hb : -9223372036854775808 ≤ z ∧ z ≤ 9223372036854775807) (ho : o.op = .binOp .add T x y T2) (hx : ev l x = some (.int .i64 i)) (hy : ev l y = some (.int .i64 j)) : Yl P G n l d o (.int .i64 z) := by
  subst hz; exact yl_add ho hx hy hb
/-- Two blocks of the call's own are two. -/
theorem RawC.two {e1 e2 g1 g2 : Nat} {c1 c2 : List Value} {w : World} (h : St W0 X R (RawC e1 g1 c1 :: RawC e2 g2 c2 :: E) w) : g1 ≠ g2 := by
  obtain ⟨_, _, OC, _, ⟨O1, h1, h2, O2, h3, h4, _⟩, _⟩ := h
  intro e
  subst e
  exact (h4 g1 ((h3.2 g1).2 rfl)).2 ((h1.2 g1).2 rfl)
end
end Go.Proofs.YtinofjenoapeaaaGreat
end
section
namespace Go.Proofs.YtinofjenoapeaaaGreat
open Go.RowKit Go.Shelf
set_option linter.unusedSimpArgs false
set_option linter.unusedVariables false
theorem cellsOf_take {k : Nat} : ∀ (xs : List Value) (i : Nat), (∀ x ∈ xs, (cv x).size = k) → cellsOf (xs.take i) = (cellsOf xs).take (i * k)
  | [], i, _ => by simp [cellsOf]
  | x :: xs, 0, _ => by simp [cellsOf]
  | x :: xs, i + 1, h => by
    have hx : (cv x).toList.length = k := by simpa using h x (by simp)
    have ih := cellsOf_take xs i (fun y hy => h y (by simp [hy]))
    unfold cellsOf at ih ⊢
    rw [List.take_succ_cons, List.map_cons, List.flatten_cons, List.map_cons, List.flatten_cons, ih, Nat.succ_mul, List.take_append, hx, List.take_of_length_le (l := (cv x).toList) (by omega), Nat.add_sub_cancel]
theorem cellsOf_drop {k : Nat} : ∀ (xs : List Value) (i : Nat), (∀ x ∈ xs, (cv x).size = k) → cellsOf (xs.drop i) = (cellsOf xs).drop (i * k)
  | [], i, _ => by simp [cellsOf]
  | x :: xs, 0, _ => by simp
  | x :: xs, i + 1, h => by
    have hx : (cv x).toList.length = k := by simpa using h x (by simp)
    have ih := cellsOf_drop xs i (fun y hy => h y (by simp [hy]))
    unfold cellsOf at ih ⊢
    rw [List.drop_succ_cons, List.map_cons, List.flatten_cons, ih, Nat.succ_mul, List.drop_append, hx, List.drop_of_length_le (l := (cv x).toList) (by omega), List.nil_append, Nat.add_sub_cancel]
/-- What is known of an element put between others, as cells. -/
theorem ins_cells {k : Nat} {xs : List Value} {y : Value} {i : Nat} (hx : ∀ x ∈ xs, (cv x).size = k) : cellsOf (xs.take i ++ y :: xs.drop i) = (cellsOf xs).take (i * k) ++ ((cv y).toList ++ (cellsOf xs).drop (i * k)) := by
  rw [cellsOf_append, cellsOf_take xs i hx]
  congr 1
  rw [show cellsOf (y :: xs.drop i) = (cv y).toList ++ cellsOf (xs.drop i) from rfl, cellsOf_drop xs i hx]
theorem putL_take_to {l B : List Value} {off : Nat} (h : off + B.length ≤ l.length) : (putL l B off).take (off + B.length) = l.take off ++ B := by
  unfold putL
  rw [List.take_append_of_le_length (by simp; omega), List.take_of_length_le (by simp; omega)]
theorem putL_take_lt {l B : List Value} {off a : Nat} (h : off + B.length ≤ l.length) (ha : a ≤ off) : (putL l B off).take a = l.take a := by
  unfold putL
  rw [List.append_assoc, List.take_append_of_le_length (by simp; omega), List.take_take, Nat.min_eq_left ha]
/-- Grown, y, then what stood from i on. -/
theorem ins_grow {zs Y S A : List Value} {a : Nat} (ha : zs.take a = A) (hal : A.length = a) (hf : a + Y.length + S.length ≤ zs.length) : (putL (putL zs Y a) S (a + Y.length)).take (a + Y.length + S.length) = A ++ (Y ++ S) := by
  have h1 : (putL zs Y a).length = zs.length := putL_len (by omega)
  rw [putL_take_to (by rw [h1]; exact hf), putL_take_to (by omega), ha, List.append_assoc]
/-- In place: what stands from i on moves up, then y. -/
theorem ins_room {cs Y S A : List Value} {a : Nat} (ha : cs.take a = A) (hal : A.length = a) (hf : a + Y.length + S.length ≤ cs.length) : (putL (putL cs S (a + Y.length)) Y a).take (a + Y.length + S.length) = A ++ (Y ++ S) := by
  have h1 : (putL cs S (a + Y.length)).length = cs.length := putL_len hf
  have h2 : (putL cs S (a + Y.length)).take (a + Y.length + S.length) = cs.take (a + Y.length) ++ S := putL_take_to hf
  have h3 : (putL cs S (a + Y.length)).take a = A := by rw [putL_take_lt hf (by omega), ha]
  have h4 : putL (putL cs S (a + Y.length)) Y a = A ++ Y ++ (putL cs S (a + Y.length)).drop (a + Y.length) := by
    conv => lhs; unfold putL
    rw [show List.take a (cs.take (a + Y.length) ++ S ++ cs.drop (a + Y.length + S.length)) = A from h3]
    rfl
  have h5 : ((putL cs S (a + Y.length)).drop (a + Y.length)).take S.length = S := by
    unfold putL
    rw [List.append_assoc, List.drop_left' (by simp; omega), List.take_left' rfl]
  rw [h4, List.append_assoc, List.take_append, List.take_of_length_le (by omega), hal, show a + Y.length + S.length - a = Y.length + S.length by omega, List.take_append, List.take_of_length_le (by omega), show Y.length + S.length - Y.length = S.length by omega, h5]
/-- Cells of a block that is known. -/
theorem RawC.cell {e g o : Nat} {cs : List Value} {O : Nat → Prop} {w : World} (h : (RawC e g cs).p O w) {j : Nat} {u : Value} (hu : cs[o + j]? = some u) : w.cell? ((⟨g, o, none⟩ : Addr).add j) = some u := by
  rw [Addr.add_mid]
  have : w.cell? ⟨g, o + j, none⟩ = cs.toArray[o + j]? := by simp [World.cell?, h.1]
  rw [this]; simpa using hu
theorem Cel.cells {k : Nat} {xs : List Value} (h : Cel k xs) : ∀ u ∈ cellsOf xs, u.oneCell' = true := fun u hu => by
  unfold cellsOf at hu
  rw [List.mem_flatten] at hu
  obtain ⟨l', h1, h2⟩ := hu
  obtain ⟨y, hy, rfl⟩ := List.mem_map.1 h1
  exact (h y hy).2 u h2
namespace Ord
variable {W0 : World} {X : Nat → Prop} {R C : List Ch}
theorem ovl (g1 o1 l1 c1 g2 o2 l2 c2 : Nat) (w : World) : (callFunc 56 #[.slice (some ⟨g1, o1, none⟩) l1 c1, .slice (some ⟨g2, o2, none⟩) l2 c2]).run Tryz.prog w = ((Extern.SlicesOverlaps.overlaps #[63, 63] #[4] #[.slice (some ⟨g1, o1, none⟩) l1 c1, .slice (some ⟨g2, o2, none⟩) l2 c2]).run Tryz.prog w).andThen fun v w => .ok (.value v) w := by
  rw [run_callFunc_extern Tryz.func56 (by kernel_rfl) (by kernel_rfl) (by kernel_rfl) (e := Extern.SlicesOverlaps.overlaps #[63, 63] #[4]) (by kernel_rfl)]
set_option maxRecDepth 100000 in
set_option maxHeartbeats 4000000 in
theorem insert_ct (s : Value) (hs : IsSl s) (xs : List Value) (hx : Cel 2 xs) (y : Value) (hy : Cel 2 [y]) (vb : Nat) (i : Nat) (hi : i ≤ xs.length) (hm : xs.length ≤ 1000000000) :
    Ct Tryz.prog 33 [s, .int .i64 (i : Int), .slice (some ⟨vb, 0, none⟩) 1 1] W0 X R (RowC 73 2 s xs :: RowC 73 2 (.slice (some ⟨vb, 0, none⟩) 1 1) [y] :: C) SV (fun u => u.1) (fun _ => R) (fun u => RowC 73 2 u.1 (xs.take i ++ y :: xs.drop i) :: C) := by
  intro w hw
  have hF := isWide_wide
  obtain ⟨sa, sn, sc, rfl⟩ := hs
  have hl1 : xs.length + 1 ≤ maxLen := by unfold maxLen; omega
  have hl2 : (xs.length + 1) * 16 ≤ 140737488355328 := by omega
  by_cases hin : i = xs.length
  · subst hin
    rw [List.take_length, List.drop_length]
    refine calls_nx Tryz.func33 rfl Tryz.ntmps33 rfl ?_ hw
    refine nx_len (e := 73) (k := 2) (xs := xs) (i := sn) (by exact a_mem) (fun hlen => ?_)
    subst hlen
    repeat' (first | ((first | with_reducible refine nl_op rfl ?_ | refine nd_go rfl rfl rfl ?_); intro K hK; (first | ((first | refine on_E hF rfl rfl ?_ | refine od_E rfl rfl ?_ | refine od_R rfl rfl ?_); (first | refine ⟨_, yl_slice_lk (i := xs.length) 2 rfl rfl rfl (by kernel_rfl) (Nat.le_refl _), ?_⟩ | refine ⟨_, a_yl, ?_⟩)) | ((first | refine on_Ec hF rfl rfl ?_ | refine od_Ec rfl rfl ?_); refine ⟨_, _, _, a_yc, ?_, ?_⟩ <;> (intro hc; try exact a_cut hc)) | ((first | (refine od_act a_nd ?_; intro K2 hK2) | refine od_last a_nd ?_ | skip); (first | (refine on_append (e := 73) (k := 2) (by_ := 16) (xs := xs) (ys := [y]) hF rfl rfl rfl rfl rfl a_pick (by kernel_rfl) a_sl hy hl1 hl2 (fun u => ?_)) | (refine on_append (T := 63) (e := 73) (k := 2) (by_ := 16) hF rfl rfl rfl rfl rfl a_pick (by kernel_rfl) a_sl a_cel a_bnd a_bnd (fun v => ?_)) | (refine on_box hF rfl rfl rfl rfl (fun B => ?_)) | (refine on_store hF rfl rfl rfl rfl a_turn a_vof a_sz ?_) | (refine on_storeE hF rfl rfl rfl rfl a_turn a_om a_vof a_sz ?_) | (refine on_storeEF hF rfl rfl rfl rfl a_turn a_as (by decide) a_vof rfl ?_) | (refine on_storeF hF rfl rfl rfl rfl a_turn (by decide) a_vof rfl ?_)) <;> try (refine hK2 _ _ _ a_allK ?_; clear hK2 K2))) <;> (refine hK _ _ _ ?_; clear hK K)) | with_reducible (first | refine nx_seq ?_ | refine nx_region ?_ | refine nl_nil ?_ | refine nq_then_n ?_ | refine nx_block ?_ | refine nx_skip ?_ | refine nx_exit ?_ | refine nx_ret ?_ | refine nq_then_x ?_ | refine nq_then_r ?_ | refine nq_blk_n ?_ | refine nq_blk_r ?_ | refine nq_blk_hit ?_ | refine nq_blk_miss rfl ?_ | refine nd_nil ?_) | refine nx_cond_t rfl ?_ | refine nx_cond_f rfl ?_ | refine nl_pass hF rfl rfl rfl ?_ | refine nd_pass rfl rfl rfl rfl rfl ?_ | refine nd_pass2 rfl rfl rfl a_nd a_allK rfl rfl ?_ | refine nd_pass3 rfl rfl rfl a_nd rfl rfl ?_ | (with_reducible refine hQ1 _ _ _ ?_; clear hQ1 Q1) | (refine nd_region (id := 11) hF [0, 0, 0, 0, 0, 0, 0, 0, 2] [0, 1, 2, 3, 4, 5, 6, 7, 8] _ _ (by kernel_rfl) (by kernel_rfl) sub2_same ?_; intro Q1 hQ1) | (refine nd_region (id := 15) hF [0, 0, 0, 0, 0, 0, 0, 0, 2] [0, 1, 2, 3, 4, 5, 6, 7, 8] _ _ (by kernel_rfl) (by kernel_rfl) sub2_same ?_; intro Q1 hQ1))
    all_goals (try (exfalso; dsimp only at *; omega))
    refine nx_end [] rfl u (fun a w ha hw => res_tmp Tryz.results33 rfl ha) (by exact a_subR) (by exact a_holds2)
  · have hlt : i < xs.length := by omega
    refine calls_nx Tryz.func33 rfl Tryz.ntmps33 rfl ?_ hw
    refine nx_len (e := 73) (k := 2) (xs := xs) (i := sn) (by exact a_mem) (fun hlen => ?_)
    subst hlen
    refine nx_fact (φ := ∃ g, sa = some ⟨g, 0, none⟩) (fun w hw => by
      obtain ⟨O, h⟩ := hw.hasC (c := RowC 73 2 (.slice sa xs.length sc) xs) (by exact a_mem)
      obtain ⟨g, c, e, _⟩ := RowC.len0 h (by omega)
      injection e with e1
      exact ⟨g, e1⟩) (fun h => ?_)
    obtain ⟨g, rfl⟩ := h
    refine nx_raw (Pick.there Pick.here) (fun vc hv1 hv2 hv3 hv4 hv5 => ?_)
    refine nx_raw (Pick.there Pick.here) (fun cs _ hnc hcm hcl hct => ?_)
    refine nx_fact (φ := g ≠ vb) (fun w hw => RawC.two hw) (fun hne => ?_)
    obtain ⟨Y, hY⟩ : ∃ Y, (cv y).toList = Y := ⟨_, rfl⟩
    have hYl : Y.length = 2 := by rw [← hY]; simpa using (hy y (by simp)).1
    have hY1 : ∀ u ∈ Y, u.oneCell' = true := by rw [← hY]; exact (hy y (by simp)).2
    obtain rfl : Y = vc := by
      rw [List.take_of_length_le (by omega)] at hv5
      rw [hv5, ← hY]; simp [cellsOf]
    have hxs : ∀ x ∈ xs, (cv x).size = 2 := fun x h => (hx x h).1
    have hcx : (cellsOf xs).length = xs.length * 2 := cellsOf_len hxs
    have hcells := ins_cells (y := y) (i := i) hxs
    rw [hY] at hcells
    obtain ⟨S, hS⟩ : ∃ S, (cellsOf xs).drop (i * 2) = S := ⟨_, rfl⟩
    obtain ⟨A, hA⟩ : ∃ A, (cellsOf xs).take (i * 2) = A := ⟨_, rfl⟩
    rw [hS, hA] at hcells
    have hSl : S.length = (xs.length - i) * 2 := by rw [← hS, List.length_drop, hcx]; omega
    have hAl : A.length = i * 2 := by rw [← hA, List.length_take, hcx]; omega
    have hS1 : ∀ u ∈ S, u.oneCell' = true := fun u hu => hx.cells u (List.mem_of_mem_drop (by rw [hS]; exact hu))
    have hScs : ∀ j u, S[j]? = some u → cs[i * 2 + j]? = some u := fun j u hu => by
      have hj : j < S.length := (List.getElem?_eq_some_iff.1 hu).1
      rw [← hS, List.getElem?_drop, ← hct, List.getElem?_take, if_pos (by omega)] at hu
      exact hu
    have hAcs : cs.take (i * 2) = A := by rw [← hA, ← hct, List.take_take, Nat.min_eq_left (by omega)]
    have hAcs2 : ∀ j u, A[j]? = some u → cs[0 + j]? = some u := fun j u hu => by
      rw [← hAcs, List.getElem?_take] at hu
      split at hu
      · rw [Nat.zero_add]; exact hu
      · cases hu
    obtain ⟨xs', hxs'⟩ : ∃ xs', xs.take i ++ y :: xs.drop i = xs' := ⟨_, rfl⟩
    rw [hxs'] at hcells ⊢
    have hl' : xs'.length = xs.length + 1 := by rw [← hxs']; simp; omega
    have hk' : ∀ x ∈ xs', (cv x).size = 2 := fun x h => by
      rw [← hxs'] at h
      rcases List.mem_append.1 h with h | h
      · exact hxs x (List.mem_of_mem_take h)
      · rcases List.mem_cons.1 h with rfl | h
        · exact (hy x (by simp)).1
        · exact hxs x (List.mem_of_mem_drop h)
    have hz1 : (xs.length : Int) + ((1 : Nat) : Int) - (i : Int) = ((xs.length + 1 - i : Nat) : Int) := by omega
    have hz2 : (xs.length : Int) + ((1 : Nat) : Int) = ((xs.length + 1 : Nat) : Int) := by omega
    have hz3 : (i : Int) + ((1 : Nat) : Int) = ((i + 1 : Nat) : Int) := by omega
    have hq0 : Nat.min 1 (xs.length + 1 - i) = 1 := by show min _ _ = _; omega
    have hq1 : Nat.min (xs.length - i) (xs.length + 1 - (i + 1)) = xs.length - i := by show min _ _ = _; omega
    have hq2 : Nat.min (xs.length + 1 - i) (xs.length + 1 - (i + 1)) = xs.length - i := by show min _ _ = _; omega
    clear hxs' hS hA hxs
    by_cases hroom : xs.length + 1 ≤ sc
    · have hov := ovl vb 0 1 1 g (0 + (i + 1) * 2) (xs.length + 1 - (i + 1)) (sc - (i + 1))
      repeat' (first | ((first | with_reducible refine nl_op rfl ?_ | refine nd_go rfl rfl rfl ?_); intro K hK; (first | ((first | refine on_E hF rfl rfl ?_ | refine od_E rfl rfl ?_ | refine od_R rfl rfl ?_); (first | refine ⟨_, yl_cap_s rfl rfl (by kernel_rfl), ?_⟩ | refine ⟨_, yl_addZ hz2 (by omega) rfl rfl rfl, ?_⟩ | refine ⟨_, yl_addZ hz3 (by omega) rfl rfl rfl, ?_⟩ | refine ⟨_, yl_slice_ln 2 rfl rfl rfl (by kernel_rfl) (by omega) (by omega), ?_⟩ | refine ⟨_, yl_slice_hk 2 rfl rfl rfl (by kernel_rfl) (by omega), ?_⟩ | refine ⟨_, a_yl, ?_⟩)) | ((first | refine on_Ec hF rfl rfl ?_ | refine od_Ec rfl rfl ?_); refine ⟨_, _, _, a_yc, ?_, ?_⟩ <;> (intro hc; try exact a_cut hc)) | ((first | (refine od_act a_nd ?_; intro K2 hK2) | refine od_last a_nd ?_ | skip); (first 
      | (refine on_overlaps (T := 63) (Tb := 4) (e1 := 73) (e2 := 73) (k := 2) (z1 := []) (z2 := []) hF rfl rfl rfl rfl hov (by kernel_rfl) (fun w hw => by
          obtain ⟨O1, h1⟩ := hw.hasC (c := RawC 73 vb Y) (by exact a_mem)
          obtain ⟨O2, h2⟩ := hw.hasC (c := RawC 73 g cs) (by exact a_mem)
          exact ⟨fun e => hne e.symm, _, _, h1.1, h2.1, by rw [List.size_toArray, hcl]; omega⟩) ?_)
      | (refine on_copyk (e := 73) (k := 2) (q := xs.length - i) (cs := S) hF rfl rfl rfl rfl rfl (by kernel_rfl) a_turn hq2.symm hSl (by first | omega | (rw [putL_len (by omega)]; omega)) (fun w hw j u hu => by
          obtain ⟨O, h⟩ := hw.hasC (c := RawC 73 g cs) (by exact a_mem)
          exact RawC.cell h (by rw [Nat.zero_add]; exact hScs j u hu)) hS1 ?_)
      | (refine on_copyk (e := 73) (k := 2) (q := 1) (cs := Y) hF rfl rfl rfl rfl rfl (by kernel_rfl) a_turn hq0.symm (by omega) (by first | omega | (rw [putL_len (by omega)]; omega)) (fun w hw j u hu => by
          obtain ⟨O, h⟩ := hw.hasC (c := RawC 73 vb Y) (by exact a_mem)
          exact RawC.cell h (by rw [Nat.zero_add]; exact hu)) hY1 ?_)
      | (refine on_append (T := 63) (e := 73) (k := 2) (by_ := 16) hF rfl rfl rfl rfl rfl a_pick (by kernel_rfl) a_sl a_cel a_bnd a_bnd (fun v => ?_))
      
      
      | (refine on_box hF rfl rfl rfl rfl (fun B => ?_)) | (refine on_store hF rfl rfl rfl rfl a_turn a_vof a_sz ?_) | (refine on_storeE hF rfl rfl rfl rfl a_turn a_om a_vof a_sz ?_) | (refine on_storeEF hF rfl rfl rfl rfl a_turn a_as (by decide) a_vof rfl ?_) | (refine on_storeF hF rfl rfl rfl rfl a_turn (by decide) a_vof rfl ?_)) <;> try (refine hK2 _ _ _ a_allK ?_; clear hK2 K2))) <;> (refine hK _ _ _ ?_; clear hK K)) | with_reducible (first | refine nx_seq ?_ | refine nx_region ?_ | refine nl_nil ?_ | refine nq_then_n ?_ | refine nx_block ?_ | refine nx_skip ?_ | refine nx_exit ?_ | refine nx_ret ?_ | refine nq_then_x ?_ | refine nq_then_r ?_ | refine nq_blk_n ?_ | refine nq_blk_r ?_ | refine nq_blk_hit ?_ | refine nq_blk_miss rfl ?_ | refine nd_nil ?_) | refine nx_cond_t rfl ?_ | refine nx_cond_f rfl ?_ | refine nl_pass hF rfl rfl rfl ?_ | refine nd_pass rfl rfl rfl rfl rfl ?_ | refine nd_pass2 rfl rfl rfl a_nd a_allK rfl rfl ?_ | refine nd_pass3 rfl rfl rfl a_nd rfl rfl ?_ | (with_reducible refine hQ1 _ _ _ ?_; clear hQ1 Q1) | (refine nd_region (id := 11) hF [0, 0, 0, 0, 0, 0, 0, 0, 2] [0, 1, 2, 3, 4, 5, 6, 7, 8] _ _ (by kernel_rfl) (by kernel_rfl) sub2_same ?_; intro Q1 hQ1) | (refine nd_region (id := 15) hF [0, 0, 0, 0, 0, 0, 0, 0, 2] [0, 1, 2, 3, 4, 5, 6, 7, 8] [] _ (by kernel_rfl) (by kernel_rfl) (sub2_mk (fun c h => by cases h) (fun c h => h)) ?_; intro Q1 hQ1))
      all_goals (try (exfalso; dsimp only at *; omega))
      have he1 : 0 + (i + 1) * 2 = 0 + i * 2 + Y.length := by omega
      have he2 : xs'.length * 2 = 0 + i * 2 + Y.length + S.length := by omega
      rw [he1]
      refine nx_row (k := 2) (c := sc) (xs := xs') (by exact a_pick) (by omega) (by omega) (by rw [putL_len (by rw [putL_len (by omega)]; omega), putL_len (by omega)]; omega) (by rw [he2, hcells]; exact ins_room (by rw [Nat.zero_add]; exact hAcs) (by omega) (by omega)) hk' ?_
      rw [hl']
      refine nx_end [] rfl ((⟨.slice (some ⟨g, 0, none⟩) (xs.length + 1) sc, _, _, _, rfl⟩ : SV)) (fun a w ha hw => res_tmp Tryz.results33 rfl ha) (by exact a_subR) (by exact a_holds2)
    · have hno : sc < i + (xs.length + 1 - i) := by omega
      have hN : i + (xs.length + 1 - i) = xs.length + 1 := by omega
      repeat' (first | ((first | with_reducible refine nl_op rfl ?_ | refine nd_go rfl rfl rfl ?_); intro K hK; (first | ((first | refine on_E hF rfl rfl ?_ | refine od_E rfl rfl ?_ | refine od_R rfl rfl ?_); (first | refine ⟨_, yl_cap_s rfl rfl (by kernel_rfl), ?_⟩ | refine ⟨_, yl_subZ hz1 (by omega) rfl rfl rfl, ?_⟩ | refine ⟨_, yl_addZ hz3 (by omega) rfl rfl rfl, ?_⟩ | refine ⟨_, yl_slice_ln 2 rfl rfl rfl (by kernel_rfl) (by omega) (by omega), ?_⟩ | refine ⟨_, yl_slice_hk 2 rfl rfl rfl (by kernel_rfl) (by omega), ?_⟩ | refine ⟨_, a_yl, ?_⟩)) | ((first | refine on_Ec hF rfl rfl ?_ | refine od_Ec rfl rfl ?_); refine ⟨_, _, _, a_yc, ?_, ?_⟩ <;> (intro hc; try exact a_cut hc)) | ((first | (refine od_act a_nd ?_; intro K2 hK2) | refine od_last a_nd ?_ | skip); (first 
      | (refine on_appendZ (e := 73) (k := 2) (by_ := 16) (olds := A) hF rfl rfl rfl rfl rfl (by kernel_rfl) (by kernel_rfl) (by omega) hno hAl (fun w hw j u hu => by
          obtain ⟨O, h⟩ := hw.hasC (c := RawC 73 g cs) (by exact a_mem)
          exact RawC.cell h (hAcs2 j u hu)) hN hl1 hl2 (fun nb nc zs hz4 hz5 hz6 hz7 => ?_))
      | (refine on_copyk (e := 73) (k := 2) (q := 1) (cs := Y) hF rfl rfl rfl rfl rfl (by kernel_rfl) a_turn hq0.symm (by omega) (by first | omega | (rw [putL_len (by omega)]; omega)) (fun w hw j u hu => by
          obtain ⟨O, h⟩ := hw.hasC (c := RawC 73 vb Y) (by exact a_mem)
          exact RawC.cell h (by rw [Nat.zero_add]; exact hu)) hY1 ?_)
      | (refine on_copyk (e := 73) (k := 2) (q := xs.length - i) (cs := S) hF rfl rfl rfl rfl rfl (by kernel_rfl) a_turn hq1.symm hSl (by first | omega | (rw [putL_len (by omega)]; omega)) (fun w hw j u hu => by
          obtain ⟨O, h⟩ := hw.hasC (c := RawC 73 g cs) (by exact a_mem)
          exact RawC.cell h (by rw [Nat.zero_add]; exact hScs j u hu)) hS1 ?_)
      | (refine on_append (T := 63) (e := 73) (k := 2) (by_ := 16) hF rfl rfl rfl rfl rfl a_pick (by kernel_rfl) a_sl a_cel a_bnd a_bnd (fun v => ?_))
      
      
      | (refine on_box hF rfl rfl rfl rfl (fun B => ?_)) | (refine on_store hF rfl rfl rfl rfl a_turn a_vof a_sz ?_) | (refine on_storeE hF rfl rfl rfl rfl a_turn a_om a_vof a_sz ?_) | (refine on_storeEF hF rfl rfl rfl rfl a_turn a_as (by decide) a_vof rfl ?_) | (refine on_storeF hF rfl rfl rfl rfl a_turn (by decide) a_vof rfl ?_)) <;> try (refine hK2 _ _ _ a_allK ?_; clear hK2 K2))) <;> (refine hK _ _ _ ?_; clear hK K)) | with_reducible (first | refine nx_seq ?_ | refine nx_region ?_ | refine nl_nil ?_ | refine nq_then_n ?_ | refine nx_block ?_ | refine nx_skip ?_ | refine nx_exit ?_ | refine nx_ret ?_ | refine nq_then_x ?_ | refine nq_then_r ?_ | refine nq_blk_n ?_ | refine nq_blk_r ?_ | refine nq_blk_hit ?_ | refine nq_blk_miss rfl ?_ | refine nd_nil ?_) | refine nx_cond_t rfl ?_ | refine nx_cond_f rfl ?_ | refine nl_pass hF rfl rfl rfl ?_ | refine nd_pass rfl rfl rfl rfl rfl ?_ | refine nd_pass2 rfl rfl rfl a_nd a_allK rfl rfl ?_ | refine nd_pass3 rfl rfl rfl a_nd rfl rfl ?_ | (with_reducible refine hQ1 _ _ _ ?_; clear hQ1 Q1) | (refine nd_region (id := 11) hF [0, 0, 0, 0, 0, 0, 0, 0, 2] [0, 1, 2, 3, 4, 5, 6, 7, 8] [] _ (by kernel_rfl) (by kernel_rfl) (sub2_mk (fun c h => by cases h) (fun c h => h)) ?_; intro Q1 hQ1) | (refine nd_region (id := 15) hF [0, 0, 0, 0, 0, 0, 0, 0, 2] [0, 1, 2, 3, 4, 5, 6, 7, 8] _ _ (by kernel_rfl) (by kernel_rfl) sub2_same ?_; intro Q1 hQ1))
      all_goals (try (exfalso; dsimp only at *; omega))
      have he1 : 0 + (i + 1) * 2 = 0 + i * 2 + Y.length := by omega
      have he2 : xs'.length * 2 = 0 + i * 2 + Y.length + S.length := by omega
      rw [he1]
      refine nx_row (k := 2) (c := nc) (xs := xs') (by exact a_pick) (by omega) (by omega) (by rw [putL_len (by rw [putL_len (by omega)]; omega), putL_len (by omega)]; omega) (by rw [he2, hcells]; exact ins_grow (by rw [Nat.zero_add]; exact hz7) (by omega) (by omega)) hk' ?_
      rw [hl']
      refine nx_end [] rfl ((⟨.slice (some ⟨nb, 0, none⟩) (xs.length + 1) nc, _, _, _, rfl⟩ : SV)) (fun a w ha hw => res_tmp Tryz.results33 rfl ha) (by exact a_subR) (by exact a_holds2)
end Ord
end Go.Proofs.YtinofjenoapeaaaGreat
end
section
namespace Go.Proofs.YtinofjenoapeaaaGreat
open Go.RowKit Go.Shelf
set_option linter.unusedSimpArgs false
set_option linter.unusedVariables false
theorem yl_shr1 {P : Program} {G : World → Prop} {n : Nat} {l : List (Nat × Value)} {d : List Deferred} {o : Oper} {T T2 : TypeId} {x y : Operand} {i z : Int} (hz : i / 2 = z) (ho : o.op = .binOp .shr T x y T2) (hx : ev l x = some (.int .u64 i)) (hy : ev l y = some (.int .u64 1)) : Yl P G n l d o (.int .u64 z) := by
  subst hz
  exact yl_int ho hx hy (fun w => by
    have := shift_shr_u64 (x := i) (y := 1) (yk := .u64) (by omega) (by omega)
    rw [binOp_shr, this]; rfl)
/-- Rising lists of the same numbers are the same. -/
theorem lt_same : ∀ (a b : List Int), a.Pairwise (· < ·) → b.Pairwise (· < ·) → (∀ x, x ∈ a ↔ x ∈ b) → a = b
  | [], [], _, _, _ => rfl
  | [], y :: b, _, _, h => by have := (h y).2 (by simp); simp at this
  | x :: a, [], _, _, h => by have := (h x).1 (by simp); simp at this
  | x :: a, y :: b, ha, hb, h => by
    obtain ⟨ha1, ha2⟩ := List.pairwise_cons.1 ha
    obtain ⟨hb1, hb2⟩ := List.pairwise_cons.1 hb
    have hxy : x = y := by
      rcases List.mem_cons.1 ((h x).1 (by simp)) with h1 | h1
      · exact h1
      · rcases List.mem_cons.1 ((h y).2 (by simp)) with h2 | h2
        · exact h2.symm
        · have := hb1 x h1; have := ha1 y h2; omega
    subst hxy
    rw [lt_same a b ha2 hb2 (fun z => ⟨fun hz => ?_, fun hz => ?_⟩)]
    · rcases List.mem_cons.1 ((h z).1 (List.mem_cons_of_mem _ hz)) with h1 | h1
      · have := ha1 z hz; omega
      · exact h1
    · rcases List.mem_cons.1 ((h z).2 (List.mem_cons_of_mem _ hz)) with h1 | h1
      · have := hb1 z hz; omega
      · exact h1
namespace Ord
variable {W0 : World} {X : Nat → Prop} {R C : List Ch}
abbrev pv (k : Int) : Value := .agg #[.int .i64 k, .bool true]
theorem vofPv (k : Int) : VOf Tryz.prog 73 (pv k) := vofk (by kernel_rfl) rfl rfl
theorem celPv (ks : List Int) : Cel 2 (ks.map pv) := Cel.of (P := Tryz.prog) (T := 73) (fun y hy => by obtain ⟨i, _, rfl⟩ := List.mem_map.1 hy; exact vofPv i) (by kernel_rfl)
/-- How many keys are below one. -/
def lowI (ks : List Int) (k : Int) : Nat := (ks.filter fun x => decide (x < k)).length
structure LowI (ks : List Int) (k : Int) (i : Nat) : Prop where
  le : i ≤ ks.length
  lt : ∀ j x, j < i → ks[j]? = some x → x < k
  ge : ∀ j x, i ≤ j → ks[j]? = some x → k ≤ x
theorem LowI.take {ks : List Int} {k : Int} {i : Nat} (h : LowI ks k i) : ∀ x ∈ ks.take i, x < k := fun x hx => by
  obtain ⟨j, hj⟩ := List.mem_iff_getElem?.1 hx
  rw [List.getElem?_take] at hj
  split at hj
  · exact h.lt j x (by assumption) hj
  · cases hj
theorem LowI.drop {ks : List Int} {k : Int} {i : Nat} (h : LowI ks k i) : ∀ x ∈ ks.drop i, k ≤ x := fun x hx => by
  obtain ⟨j, hj⟩ := List.mem_iff_getElem?.1 hx
  rw [List.getElem?_drop] at hj
  exact h.ge (i + j) x (by omega) hj
theorem LowI.eq {ks : List Int} {k : Int} {i : Nat} (h : LowI ks k i) : lowI ks k = i := by
  unfold lowI
  conv => lhs; rw [← List.take_append_drop i ks]
  rw [List.filter_append, List.filter_eq_self.2 (fun x hx => by simpa using h.take x hx), List.filter_eq_nil_iff.2 (fun x hx => by have := h.drop x hx; simp; omega), List.append_nil, List.length_take]
  exact Nat.min_eq_left h.le
theorem lt_at {ks : List Int} (hks : ks.Pairwise (· < ·)) {i j : Nat} {x y : Int} (hij : i < j) (hx : ks[i]? = some x) (hy : ks[j]? = some y) : x < y := by
  obtain ⟨h1, rfl⟩ := List.getElem?_eq_some_iff.1 hx
  obtain ⟨h2, rfl⟩ := List.getElem?_eq_some_iff.1 hy
  exact List.pairwise_iff_getElem.1 hks i j h1 h2 hij
theorem LowI.mem {ks : List Int} (hks : ks.Pairwise (· < ·)) {k : Int} {i : Nat} (h : LowI ks k i) {x : Int} (hx : ks[i]? = some x) : k ∈ ks ↔ x = k := by
  refine ⟨fun hk => ?_, fun e => by rw [← e]; exact List.mem_of_getElem? hx⟩
  obtain ⟨j, hj⟩ := List.mem_iff_getElem?.1 hk
  have h1 : ¬ j < i := fun hl => by have := h.lt j k hl hj; omega
  have h2 := h.ge i x (Nat.le_refl _) hx
  rcases Nat.lt_or_ge i j with h3 | h3
  · have := lt_at hks h3 hx hj; omega
  · obtain rfl : j = i := by omega
    rw [hx] at hj; injection hj
theorem LowI.none {ks : List Int} {k : Int} (h : LowI ks k ks.length) : ¬ k ∈ ks := fun hk => by
  have := h.take k (by rw [List.take_length]; exact hk)
  omega
/-- A key put among others. -/
theorem put_eq {zs : List Int} {k : Int} {i : Nat} (h : LowI (Sc.upr zs) k i) (hk : ¬ k ∈ Sc.upr zs) : (Sc.upr zs).take i ++ k :: (Sc.upr zs).drop i = Sc.upr (zs ++ [k]) := by
  refine lt_same _ _ ?_ (Sc.upr_lt _) (fun x => ?_)
  · have hs := Sc.upr_lt zs
    rw [List.pairwise_append]
    refine ⟨hs.sublist (List.take_sublist _ _), ?_, ?_⟩
    · rw [List.pairwise_cons]
      refine ⟨fun x hx => ?_, hs.sublist (List.drop_sublist _ _)⟩
      have h1 := h.drop x hx
      have h2 : x ≠ k := fun e => hk (e ▸ List.mem_of_mem_drop hx)
      omega
    · intro x hx y hy
      have h1 := h.take x hx
      rcases List.mem_cons.1 hy with rfl | hy
      · exact h1
      · have := h.drop y hy; omega
  · rw [Sc.mem_upr, List.mem_append, List.mem_append, List.mem_cons, List.mem_singleton, ← Sc.mem_upr zs]
    conv => rhs; rw [← List.take_append_drop i (Sc.upr zs)]
    rw [List.mem_append]
    constructor
    · rintro (h | rfl | h) <;> simp_all
    · rintro ((h | h) | rfl) <;> simp_all
theorem put_has {zs : List Int} {k : Int} (hk : k ∈ Sc.upr zs) : Sc.upr zs = Sc.upr (zs ++ [k]) := by
  refine lt_same _ _ (Sc.upr_lt _) (Sc.upr_lt _) (fun x => ?_)
  rw [Sc.mem_upr] at hk
  rw [Sc.mem_upr, Sc.mem_upr, List.mem_append, List.mem_singleton]
  exact ⟨.inl, fun h => h.elim id (fun e => e ▸ hk)⟩
theorem cmp_ct (x y : Int) : Ct Tryz.prog 55 [.int .i64 x, .int .i64 y] W0 X R C Unit (fun _ => .int .i64 (Lib.compareInt x y)) (fun _ => R) (fun _ => C) := fun w hw =>
  (Tryz.cmp_Compare_int x y w).mono fun e w' ⟨h1, h2⟩ => ⟨(), h1, by subst h2; exact hw⟩
theorem cmp1_ct (k t : Int) : Ct Tryz.prog 54 [pv k, .int .i64 t] W0 X R C Unit (fun _ => .int .i64 (Lib.compareInt k t)) (fun _ => R) (fun _ => C) := by
  intro w hw
  have hF := isWide_wide
  have hvp := vofPv k
  obtain ⟨z, hz⟩ : ∃ z, Lib.compareInt k t = z := ⟨_, rfl⟩
  have cc := fun (W0 : World) (X : Nat → Prop) (R C : List Ch) => cmp_ct (W0 := W0) (X := X) (R := R) (C := C) k t
  rw [hz] at cc ⊢
  refine calls_nx Tryz.func54 rfl Tryz.ntmps54 rfl ?_ hw
  repeat' (first | ((first | with_reducible refine nl_op rfl ?_ | refine nd_go rfl rfl rfl ?_); intro K hK; (first | ((first | refine on_E hF rfl rfl ?_ | refine od_E rfl rfl ?_ | refine od_R rfl rfl ?_); (first | refine ⟨_, a_yl, ?_⟩ | refine ⟨_, (by first | exact yl_fieldB (T := 73) (f := 0) (q := 0) rfl rfl (by kernel_rfl) | exact yl_fieldE (T := 73) (f := 0) (j := 0) rfl rfl a_sl a_om (by kernel_rfl)), ?_⟩)) | ((first | refine on_Ec hF rfl rfl ?_ | refine od_Ec rfl rfl ?_); refine ⟨_, _, _, a_yc, ?_, ?_⟩ <;> (intro hc; try exact a_cut hc)) | ((first | (refine od_act a_nd ?_; intro K2 hK2) | refine od_last a_nd ?_ | skip); (first | (refine on_callG hF (enters_of Tryz.func55 (by kernel_rfl) rfl) rfl rfl rfl rfl (cc _ _ _ _) (fun _ => ?_)) | (refine on_box hF rfl rfl rfl rfl (fun B => ?_)) | (refine on_store hF rfl rfl rfl rfl a_turn a_vof a_sz ?_) | (refine on_storeE hF rfl rfl rfl rfl a_turn a_om a_vof a_sz ?_) | (refine on_storeEF hF rfl rfl rfl rfl a_turn a_as (by decide) a_vof rfl ?_) | (refine on_storeF hF rfl rfl rfl rfl a_turn (by decide) a_vof rfl ?_)) <;> try (refine hK2 _ _ _ a_allK ?_; clear hK2 K2))) <;> (refine hK _ _ _ ?_; clear hK K)) | with_reducible (first | refine nx_seq ?_ | refine nx_region ?_ | refine nl_nil ?_ | refine nq_then_n ?_ | refine nx_block ?_ | refine nx_skip ?_ | refine nx_exit ?_ | refine nx_ret ?_ | refine nq_then_x ?_ | refine nq_then_r ?_ | refine nq_blk_n ?_ | refine nq_blk_r ?_ | refine nq_blk_hit ?_ | refine nq_blk_miss rfl ?_ | refine nd_nil ?_) | refine nx_cond_t rfl ?_ | refine nx_cond_f rfl ?_ | refine nl_pass hF rfl rfl rfl ?_ | refine nd_pass rfl rfl rfl rfl rfl ?_ | refine nd_pass2 rfl rfl rfl a_nd a_allK rfl rfl ?_ | refine nd_pass3 rfl rfl rfl a_nd rfl rfl ?_ | (with_reducible refine hQ1 _ _ _ ?_; clear hQ1 Q1) )
  refine nx_end [] rfl () (fun a w ha hw => res_tmp Tryz.results54 rfl ha) (by exact a_subR) (by exact a_holds2)
structure BsI (ks : List Int) (k : Int) (p : Nat × Nat) : Prop where
  le : p.1 ≤ p.2
  to : p.2 ≤ ks.length
  lt : ∀ j x, j < p.1 → ks[j]? = some x → x < k
  ge : ∀ j x, p.2 ≤ j → ks[j]? = some x → k ≤ x
set_option maxRecDepth 100000 in
set_option maxHeartbeats 2000000 in
theorem bs_ct (s : Value) (hs : IsSl s) (ks : List Int) (hks : ks.Pairwise (· < ·)) (k : Int) (hsl : SlC 2 s (ks.map pv) ∈ R) (hm : ks.length ≤ 4000000000) :
    Ct Tryz.prog 53 [s, .int .i64 k, .func (.func 54) #[] #[]] W0 X R C Unit (fun _ => .tuple #[.int .i64 (lowI ks k : Int), .bool (decide (k ∈ ks))]) (fun _ => R) (fun _ => C) := by
  intro w hw
  have hF := isWide_wide
  obtain ⟨sa, sn, sc, rfl⟩ := hs
  obtain rfl := slLen (hw.hasR hsl)
  have hlk : (ks.map pv).length = ks.length := by simp
  obtain ⟨r, hr⟩ : ∃ r, (.tuple #[.int .i64 (lowI ks k : Int), .bool (decide (k ∈ ks))] : Value) = r := ⟨_, rfl⟩
  rw [hr]
  refine calls_nx Tryz.func53 rfl Tryz.ntmps53 rfl ?_ hw
  repeat' (first | ((first | with_reducible refine nl_op rfl ?_ | refine nd_go rfl rfl rfl ?_); intro K hK; (first | ((first | refine on_E hF rfl rfl ?_ | refine od_E rfl rfl ?_ | refine od_R rfl rfl ?_); (first | refine ⟨_, a_yl, ?_⟩ | refine ⟨_, (by first | exact yl_conv_u64 (S := 3) (T := 111) rfl rfl (by kernel_rfl) (by kernel_rfl) (by omega) | exact yl_conv_i (S := 111) (T := 3) rfl rfl (by kernel_rfl) (by kernel_rfl) (by omega)), ?_⟩)) | ((first | refine on_Ec hF rfl rfl ?_ | refine od_Ec rfl rfl ?_); refine ⟨_, _, _, a_yc, ?_, ?_⟩ <;> (intro hc; try exact a_cut hc)) | ((first | (refine od_act a_nd ?_; intro K2 hK2) | refine od_last a_nd ?_ | skip); (first  | (refine on_box hF rfl rfl rfl rfl (fun B => ?_)) | (refine on_store hF rfl rfl rfl rfl a_turn a_vof a_sz ?_) | (refine on_storeE hF rfl rfl rfl rfl a_turn a_om a_vof a_sz ?_) | (refine on_storeEF hF rfl rfl rfl rfl a_turn a_as (by decide) a_vof rfl ?_) | (refine on_storeF hF rfl rfl rfl rfl a_turn (by decide) a_vof rfl ?_)) <;> try (refine hK2 _ _ _ a_allK ?_; clear hK2 K2))) <;> (refine hK _ _ _ ?_; clear hK K)) | with_reducible (first | refine nx_seq ?_ | refine nx_region ?_ | refine nl_nil ?_ | refine nq_then_n ?_ | refine nx_block ?_ | refine nx_skip ?_ | refine nx_exit ?_ | refine nx_ret ?_ | refine nq_then_x ?_ | refine nq_then_r ?_ | refine nq_blk_n ?_ | refine nq_blk_r ?_ | refine nq_blk_hit ?_ | refine nq_blk_miss rfl ?_ | refine nd_nil ?_) | refine nx_cond_t rfl ?_ | refine nx_cond_f rfl ?_ | refine nl_pass hF rfl rfl rfl ?_ | refine nd_pass rfl rfl rfl rfl rfl ?_ | refine nd_pass2 rfl rfl rfl a_nd a_allK rfl rfl ?_ | refine nd_pass3 rfl rfl rfl a_nd rfl rfl ?_ | (with_reducible refine hQ1 _ _ _ ?_; clear hQ1 Q1) )
  refine nx_loop (ι := { p : Nat × Nat // BsI ks k p }) (fun p => [(0, .slice sa (ks.map pv).length sc), (1, .int .i64 k), (2, .func (.func 54) #[] #[]), (8, .int .i64 ((ks.map pv).length : Int)), (9, .int .i64 (p.1.1 : Int)), (10, .int .i64 (p.1.2 : Int))]) (fun _ => R) (fun _ => C) (fun p => p.1.2 - p.1.1) ⟨(0, (ks.map pv).length), Nat.zero_le _, by dsimp only; omega, fun j x h => absurd h (Nat.not_lt_zero _), fun j x h hx => by rw [List.getElem?_eq_none (by dsimp only at h; omega)] at hx; cases hx⟩ (by exact a_sub) (by exact a_subR) (by exact a_holds) (fun p => ?_)
  obtain ⟨⟨i, j⟩, hij, hj, hlt, hge⟩ := p
  dsimp only at hij hj hlt hge ⊢
  by_cases hc : i < j
  · obtain ⟨h, hh⟩ : ∃ h, (i + j) / 2 = h := ⟨_, rfl⟩
    have hhl : h < ks.length := by omega
    obtain ⟨x, hx⟩ : ∃ x, ks[h]? = some x := ⟨_, List.getElem?_eq_getElem hhl⟩
    have hxv : (ks.map pv)[h]? = some (pv x) := by rw [List.getElem?_map, hx]; rfl
    have hz1 : ((i : Int) + (j : Int)) / 2 = (h : Int) := by omega
    have hvp := vofPv x
    have cc := fun (W0 : World) (X : Nat → Prop) (R C : List Ch) => cmp1_ct (W0 := W0) (X := X) (R := R) (C := C) x k
    have hcv : (Lib.compareInt x k < 0 ↔ x < k) := by unfold Lib.compareInt; repeat' split <;> omega
    obtain ⟨z, hz⟩ : ∃ z, Lib.compareInt x k = z := ⟨_, rfl⟩
    rw [hz] at cc hcv
    clear hz
    by_cases hzn : z < 0
    · have hxk := hcv.1 hzn
      repeat' (first | ((first | with_reducible refine nl_op rfl ?_ | refine nd_go rfl rfl rfl ?_); intro K hK; (first | ((first | refine on_E hF rfl rfl ?_ | refine od_E rfl rfl ?_ | refine od_R rfl rfl ?_); (first | refine ⟨_, yl_shr1 hz1 rfl rfl rfl, ?_⟩ | refine ⟨_, a_yl, ?_⟩ | refine ⟨_, (by first | exact yl_conv_u64 (S := 3) (T := 111) rfl rfl (by kernel_rfl) (by kernel_rfl) (by omega) | exact yl_conv_i (S := 111) (T := 3) rfl rfl (by kernel_rfl) (by kernel_rfl) (by omega)), ?_⟩)) | ((first | refine on_Ec hF rfl rfl ?_ | refine od_Ec rfl rfl ?_); refine ⟨_, _, _, a_yc, ?_, ?_⟩ <;> (intro hc; try exact a_cut hc)) | ((first | (refine od_act a_nd ?_; intro K2 hK2) | refine od_last a_nd ?_ | skip); (first | (refine on_callc (lb := []) hF rfl rfl rfl rfl rfl (enters_of Tryz.func54 (by kernel_rfl) rfl) (cc _ _ _ _) (fun _ => ?_)) | (refine on_box hF rfl rfl rfl rfl (fun B => ?_)) | (refine on_store hF rfl rfl rfl rfl a_turn a_vof a_sz ?_) | (refine on_storeE hF rfl rfl rfl rfl a_turn a_om a_vof a_sz ?_) | (refine on_storeEF hF rfl rfl rfl rfl a_turn a_as (by decide) a_vof rfl ?_) | (refine on_storeF hF rfl rfl rfl rfl a_turn (by decide) a_vof rfl ?_)) <;> try (refine hK2 _ _ _ a_allK ?_; clear hK2 K2))) <;> (refine hK _ _ _ ?_; clear hK K)) | with_reducible (first | refine nx_seq ?_ | refine nx_region ?_ | refine nl_nil ?_ | refine nq_then_n ?_ | refine nx_block ?_ | refine nx_skip ?_ | refine nx_exit ?_ | refine nx_ret ?_ | refine nq_then_x ?_ | refine nq_then_r ?_ | refine nq_blk_n ?_ | refine nq_blk_r ?_ | refine nq_blk_hit ?_ | refine nq_blk_miss rfl ?_ | refine nd_nil ?_) | refine nx_cond_t rfl ?_ | refine nx_cond_f rfl ?_ | refine nl_pass hF rfl rfl rfl ?_ | refine nd_pass rfl rfl rfl rfl rfl ?_ | refine nd_pass2 rfl rfl rfl a_nd a_allK rfl rfl ?_ | refine nd_pass3 rfl rfl rfl a_nd rfl rfl ?_ | (with_reducible refine hQ1 _ _ _ ?_; clear hQ1 Q1) )
      all_goals (try (exfalso; dsimp only at *; omega))
      refine nx_again ⟨(h + 1, j), by dsimp only; omega, hj, fun q y hq hy => by
        dsimp only at hq
        rcases Nat.lt_or_ge q h with h1 | h1
        · have := lt_at hks h1 hy hx; omega
        · obtain rfl : q = h := by omega
          rw [hx] at hy; injection hy with e; omega, hge⟩ (by dsimp only; omega) (by exact a_sub) (by exact a_subR) (by exact a_holds)
    · have hxk : ¬ x < k := fun h => hzn (hcv.2 h)
      repeat' (first | ((first | with_reducible refine nl_op rfl ?_ | refine nd_go rfl rfl rfl ?_); intro K hK; (first | ((first | refine on_E hF rfl rfl ?_ | refine od_E rfl rfl ?_ | refine od_R rfl rfl ?_); (first | refine ⟨_, yl_shr1 hz1 rfl rfl rfl, ?_⟩ | refine ⟨_, a_yl, ?_⟩ | refine ⟨_, (by first | exact yl_conv_u64 (S := 3) (T := 111) rfl rfl (by kernel_rfl) (by kernel_rfl) (by omega) | exact yl_conv_i (S := 111) (T := 3) rfl rfl (by kernel_rfl) (by kernel_rfl) (by omega)), ?_⟩)) | ((first | refine on_Ec hF rfl rfl ?_ | refine od_Ec rfl rfl ?_); refine ⟨_, _, _, a_yc, ?_, ?_⟩ <;> (intro hc; try exact a_cut hc)) | ((first | (refine od_act a_nd ?_; intro K2 hK2) | refine od_last a_nd ?_ | skip); (first | (refine on_callc (lb := []) hF rfl rfl rfl rfl rfl (enters_of Tryz.func54 (by kernel_rfl) rfl) (cc _ _ _ _) (fun _ => ?_)) | (refine on_box hF rfl rfl rfl rfl (fun B => ?_)) | (refine on_store hF rfl rfl rfl rfl a_turn a_vof a_sz ?_) | (refine on_storeE hF rfl rfl rfl rfl a_turn a_om a_vof a_sz ?_) | (refine on_storeEF hF rfl rfl rfl rfl a_turn a_as (by decide) a_vof rfl ?_) | (refine on_storeF hF rfl rfl rfl rfl a_turn (by decide) a_vof rfl ?_)) <;> try (refine hK2 _ _ _ a_allK ?_; clear hK2 K2))) <;> (refine hK _ _ _ ?_; clear hK K)) | with_reducible (first | refine nx_seq ?_ | refine nx_region ?_ | refine nl_nil ?_ | refine nq_then_n ?_ | refine nx_block ?_ | refine nx_skip ?_ | refine nx_exit ?_ | refine nx_ret ?_ | refine nq_then_x ?_ | refine nq_then_r ?_ | refine nq_blk_n ?_ | refine nq_blk_r ?_ | refine nq_blk_hit ?_ | refine nq_blk_miss rfl ?_ | refine nd_nil ?_) | refine nx_cond_t rfl ?_ | refine nx_cond_f rfl ?_ | refine nl_pass hF rfl rfl rfl ?_ | refine nd_pass rfl rfl rfl rfl rfl ?_ | refine nd_pass2 rfl rfl rfl a_nd a_allK rfl rfl ?_ | refine nd_pass3 rfl rfl rfl a_nd rfl rfl ?_ | (with_reducible refine hQ1 _ _ _ ?_; clear hQ1 Q1) )
      all_goals (try (exfalso; dsimp only at *; omega))
      refine nx_again ⟨(i, h), by dsimp only; omega, by dsimp only; omega, hlt, fun q y hq hy => by
        dsimp only at hq
        rcases Nat.lt_or_ge h q with h1 | h1
        · have := lt_at hks h1 hx hy; omega
        · obtain rfl : q = h := by omega
          rw [hx] at hy; injection hy with e; omega⟩ (by dsimp only; omega) (by exact a_sub) (by exact a_subR) (by exact a_holds)
  · obtain rfl : i = j := by omega
    have hL : LowI ks k i := ⟨hj, hlt, hge⟩
    rw [hL.eq] at hr
    by_cases hin : i < ks.length
    · obtain ⟨x, hx⟩ : ∃ x, ks[i]? = some x := ⟨_, List.getElem?_eq_getElem hin⟩
      have hxv : (ks.map pv)[i]? = some (pv x) := by rw [List.getElem?_map, hx]; rfl
      have hvp := vofPv x
      have hmem := hL.mem hks hx
      have cc := fun (W0 : World) (X : Nat → Prop) (R C : List Ch) => cmp1_ct (W0 := W0) (X := X) (R := R) (C := C) x k
      have hcv : (Lib.compareInt x k = 0 ↔ x = k) := by unfold Lib.compareInt; repeat' split <;> omega
      obtain ⟨z, hz⟩ : ∃ z, Lib.compareInt x k = z := ⟨_, rfl⟩
      rw [hz] at cc hcv
      clear hz
      by_cases hz0 : z = 0
      · rw [decide_eq_true (hmem.2 (hcv.1 hz0))] at hr
        subst hr
        repeat' (first | ((first | with_reducible refine nl_op rfl ?_ | refine nd_go rfl rfl rfl ?_); intro K hK; (first | ((first | refine on_E hF rfl rfl ?_ | refine od_E rfl rfl ?_ | refine od_R rfl rfl ?_); (first | refine ⟨_, a_yl, ?_⟩ | refine ⟨_, (by first | exact yl_conv_u64 (S := 3) (T := 111) rfl rfl (by kernel_rfl) (by kernel_rfl) (by omega) | exact yl_conv_i (S := 111) (T := 3) rfl rfl (by kernel_rfl) (by kernel_rfl) (by omega)), ?_⟩)) | ((first | refine on_Ec hF rfl rfl ?_ | refine od_Ec rfl rfl ?_); refine ⟨_, _, _, a_yc, ?_, ?_⟩ <;> (intro hc; try exact a_cut hc)) | ((first | (refine od_act a_nd ?_; intro K2 hK2) | refine od_last a_nd ?_ | skip); (first | (refine on_callc (lb := []) hF rfl rfl rfl rfl rfl (enters_of Tryz.func54 (by kernel_rfl) rfl) (cc _ _ _ _) (fun _ => ?_)) | (refine on_box hF rfl rfl rfl rfl (fun B => ?_)) | (refine on_store hF rfl rfl rfl rfl a_turn a_vof a_sz ?_) | (refine on_storeE hF rfl rfl rfl rfl a_turn a_om a_vof a_sz ?_) | (refine on_storeEF hF rfl rfl rfl rfl a_turn a_as (by decide) a_vof rfl ?_) | (refine on_storeF hF rfl rfl rfl rfl a_turn (by decide) a_vof rfl ?_)) <;> try (refine hK2 _ _ _ a_allK ?_; clear hK2 K2))) <;> (refine hK _ _ _ ?_; clear hK K)) | with_reducible (first | refine nx_seq ?_ | refine nx_region ?_ | refine nl_nil ?_ | refine nq_then_n ?_ | refine nx_block ?_ | refine nx_skip ?_ | refine nx_exit ?_ | refine nx_ret ?_ | refine nq_then_x ?_ | refine nq_then_r ?_ | refine nq_blk_n ?_ | refine nq_blk_r ?_ | refine nq_blk_hit ?_ | refine nq_blk_miss rfl ?_ | refine nd_nil ?_) | refine nx_cond_t rfl ?_ | refine nx_cond_f rfl ?_ | refine nl_pass hF rfl rfl rfl ?_ | refine nd_pass rfl rfl rfl rfl rfl ?_ | refine nd_pass2 rfl rfl rfl a_nd a_allK rfl rfl ?_ | refine nd_pass3 rfl rfl rfl a_nd rfl rfl ?_ | (with_reducible refine hQ1 _ _ _ ?_; clear hQ1 Q1) )
        all_goals (try (exfalso; dsimp only at *; omega))
        refine nx_end [] rfl () (fun a w ha hw => res_tmp2 Tryz.results53 rfl rfl ha) (by exact a_subR) (by exact a_holds2)
      · rw [decide_eq_false (fun h => hz0 (hcv.2 (hmem.1 h)))] at hr
        subst hr
        repeat' (first | ((first | with_reducible refine nl_op rfl ?_ | refine nd_go rfl rfl rfl ?_); intro K hK; (first | ((first | refine on_E hF rfl rfl ?_ | refine od_E rfl rfl ?_ | refine od_R rfl rfl ?_); (first | refine ⟨_, a_yl, ?_⟩ | refine ⟨_, (by first | exact yl_conv_u64 (S := 3) (T := 111) rfl rfl (by kernel_rfl) (by kernel_rfl) (by omega) | exact yl_conv_i (S := 111) (T := 3) rfl rfl (by kernel_rfl) (by kernel_rfl) (by omega)), ?_⟩)) | ((first | refine on_Ec hF rfl rfl ?_ | refine od_Ec rfl rfl ?_); refine ⟨_, _, _, a_yc, ?_, ?_⟩ <;> (intro hc; try exact a_cut hc)) | ((first | (refine od_act a_nd ?_; intro K2 hK2) | refine od_last a_nd ?_ | skip); (first | (refine on_callc (lb := []) hF rfl rfl rfl rfl rfl (enters_of Tryz.func54 (by kernel_rfl) rfl) (cc _ _ _ _) (fun _ => ?_)) | (refine on_box hF rfl rfl rfl rfl (fun B => ?_)) | (refine on_store hF rfl rfl rfl rfl a_turn a_vof a_sz ?_) | (refine on_storeE hF rfl rfl rfl rfl a_turn a_om a_vof a_sz ?_) | (refine on_storeEF hF rfl rfl rfl rfl a_turn a_as (by decide) a_vof rfl ?_) | (refine on_storeF hF rfl rfl rfl rfl a_turn (by decide) a_vof rfl ?_)) <;> try (refine hK2 _ _ _ a_allK ?_; clear hK2 K2))) <;> (refine hK _ _ _ ?_; clear hK K)) | with_reducible (first | refine nx_seq ?_ | refine nx_region ?_ | refine nl_nil ?_ | refine nq_then_n ?_ | refine nx_block ?_ | refine nx_skip ?_ | refine nx_exit ?_ | refine nx_ret ?_ | refine nq_then_x ?_ | refine nq_then_r ?_ | refine nq_blk_n ?_ | refine nq_blk_r ?_ | refine nq_blk_hit ?_ | refine nq_blk_miss rfl ?_ | refine nd_nil ?_) | refine nx_cond_t rfl ?_ | refine nx_cond_f rfl ?_ | refine nl_pass hF rfl rfl rfl ?_ | refine nd_pass rfl rfl rfl rfl rfl ?_ | refine nd_pass2 rfl rfl rfl a_nd a_allK rfl rfl ?_ | refine nd_pass3 rfl rfl rfl a_nd rfl rfl ?_ | (with_reducible refine hQ1 _ _ _ ?_; clear hQ1 Q1) )
        all_goals (try (exfalso; dsimp only at *; omega))
        refine nx_end [] rfl () (fun a w ha hw => res_tmp2 Tryz.results53 rfl rfl ha) (by exact a_subR) (by exact a_holds2)
    · obtain rfl : i = ks.length := by omega
      rw [decide_eq_false hL.none] at hr
      subst hr
      repeat' (first | ((first | with_reducible refine nl_op rfl ?_ | refine nd_go rfl rfl rfl ?_); intro K hK; (first | ((first | refine on_E hF rfl rfl ?_ | refine od_E rfl rfl ?_ | refine od_R rfl rfl ?_); (first | refine ⟨_, a_yl, ?_⟩ | refine ⟨_, (by first | exact yl_conv_u64 (S := 3) (T := 111) rfl rfl (by kernel_rfl) (by kernel_rfl) (by omega) | exact yl_conv_i (S := 111) (T := 3) rfl rfl (by kernel_rfl) (by kernel_rfl) (by omega)), ?_⟩)) | ((first | refine on_Ec hF rfl rfl ?_ | refine od_Ec rfl rfl ?_); refine ⟨_, _, _, a_yc, ?_, ?_⟩ <;> (intro hc; try exact a_cut hc)) | ((first | (refine od_act a_nd ?_; intro K2 hK2) | refine od_last a_nd ?_ | skip); (first  | (refine on_box hF rfl rfl rfl rfl (fun B => ?_)) | (refine on_store hF rfl rfl rfl rfl a_turn a_vof a_sz ?_) | (refine on_storeE hF rfl rfl rfl rfl a_turn a_om a_vof a_sz ?_) | (refine on_storeEF hF rfl rfl rfl rfl a_turn a_as (by decide) a_vof rfl ?_) | (refine on_storeF hF rfl rfl rfl rfl a_turn (by decide) a_vof rfl ?_)) <;> try (refine hK2 _ _ _ a_allK ?_; clear hK2 K2))) <;> (refine hK _ _ _ ?_; clear hK K)) | with_reducible (first | refine nx_seq ?_ | refine nx_region ?_ | refine nl_nil ?_ | refine nq_then_n ?_ | refine nx_block ?_ | refine nx_skip ?_ | refine nx_exit ?_ | refine nx_ret ?_ | refine nq_then_x ?_ | refine nq_then_r ?_ | refine nq_blk_n ?_ | refine nq_blk_r ?_ | refine nq_blk_hit ?_ | refine nq_blk_miss rfl ?_ | refine nd_nil ?_) | refine nx_cond_t rfl ?_ | refine nx_cond_f rfl ?_ | refine nl_pass hF rfl rfl rfl ?_ | refine nd_pass rfl rfl rfl rfl rfl ?_ | refine nd_pass2 rfl rfl rfl a_nd a_allK rfl rfl ?_ | refine nd_pass3 rfl rfl rfl a_nd rfl rfl ?_ | (with_reducible refine hQ1 _ _ _ ?_; clear hQ1 Q1) )
      all_goals (try (exfalso; dsimp only at *; omega))
      refine nx_end [] rfl () (fun a w ha hw => res_tmp2 Tryz.results53 rfl rfl ha) (by exact a_subR) (by exact a_holds2)
end Ord
end Go.Proofs.YtinofjenoapeaaaGreat
end
