/- The contract of slices.Repeat of one int. Condition: the count is small. -/
import Derived.Test.YtinofjenoapeaaaT0
import Derived.Test.YtinofjenoapeaaaShelf
namespace Go.Proofs.Ytinofjenoapeaaa
open Go.RowKit Go.Shelf
set_option linter.unusedSimpArgs false
set_option linter.unusedVariables false
section ops
variable {F : Fence} {m : Nat} {P : Program} {Q : Exit → Act → World → Prop} {K : Act → World → Prop} {n : Nat} {l : List (Nat × Value)} {d : List Deferred} {W0 : World} {X : Nat → Prop} {R C : List Ch} {o : Oper} {t : Nat} {v : Value}
/-- The types of slices of one-celled elements. -/
def sl1T (P : Program) (T : TypeId) : Bool := match P.underlying T with | some (.slice e) => (match P.info? e with | some i => i.size == 1 | none => false) | _ => false
theorem sl1T_spec {T : TypeId} (h : sl1T P T = true) : ∃ e i, P.underlying T = some (.slice e) ∧ P.info? e = some i ∧ i.size = 1 := by
  unfold sl1T at h
  split at h
  · rename_i e hu
    split at h
    · rename_i i hi; exact ⟨e, i, hu, hi, by simpa using h⟩
    · cases h
  · cases h
/-- copy into a part of an owned row of one-celled elements. -/
theorem on_copy (hF : IsWide F) {x y : Operand} {T T' e : TypeId} {g off dl dc sl sc rn rc : Nat} {a : Addr} {xs cs ys : List Value} {C' : List Ch} (ho : o.op = Op.call { callee := Callee.builtin Builtin.copy, args := #[x, y], argTypes := #[T, T'] }) (hd : o.dst = some t) (ht : Nat.blt t n = true)
    (hx : ev l x = some (.slice (some ⟨g, off, none⟩) dl dc)) (hy : ev l y = some (.slice (some a) sl sc)) (hT : sl1T P T = true) (hm : Turn C (RowC e 1 (.slice (some ⟨g, 0, none⟩) rn rc) xs) (RowC e 1 (.slice (some ⟨g, 0, none⟩) rn rc) ys) C') (hys : ys = putL xs cs off) (hn : cs.length = Nat.min sl dl) (hfit : off + cs.length ≤ xs.length)
    (hsrc : ∀ w, St W0 X R C w → ∀ j u, cs[j]? = some u → w.cell? (a.add j) = some u) (h1 : ∀ u ∈ cs, oneV u = true) (hx1 : ∀ u ∈ xs, oneV u = true)
    (h : Nx K n ((t, .int .i64 (cs.length : Int)) :: l) d W0 X R C') : Nx (OpN F m P o K Q) n l d W0 X R C := by
  subst hys
  have oc : ∀ u : Value, oneV u = true → cv u = #[u] ∧ u.oneCell' = true := fun u hu => by
    unfold oneV at hu
    split at hu <;> first | (cases hu; done) | exact ⟨rfl, rfl⟩
  have cells1 : ∀ zs : List Value, (∀ u ∈ zs, oneV u = true) → cellsOf zs = zs := fun zs => by
    induction zs with
    | nil => exact fun _ => rfl
    | cons z zs ih => intro hz; unfold cellsOf at ih ⊢; rw [List.map_cons, List.flatten_cons, ih (fun u hu => hz u (by simp [hu])), (oc z (hz z (by simp))).1]; rfl
  have hput : ∀ u ∈ putL xs cs off, oneV u = true := fun u hu => by
    unfold putL at hu
    rcases List.mem_append.1 hu with hu | hu
    · rcases List.mem_append.1 hu with hu | hu
      · exact hx1 u (List.mem_of_mem_take hu)
      · exact h1 u hu
    · exact hx1 u (List.mem_of_mem_drop hu)
  obtain ⟨e', i, hu, hi, hs⟩ := sl1T_spec hT
  refine on_world hF (fun c => by rw [ho]; exact (fun h => by cases h)) hd ht (ι := Unit) (fun _ => .int .i64 (cs.length : Int)) (fun _ => R) (fun _ => C') (fun A w ha hw => ?_) (fun _ => h)
  obtain ⟨O1, hrow⟩ : ∃ O, (RowC e 1 (.slice (some ⟨g, 0, none⟩) rn rc) xs).p O w := by
    obtain ⟨D, h1, h2⟩ := hm
    exact (hw.perm h1).hasC (c := RowC e 1 (.slice (some ⟨g, 0, none⟩) rn rc) xs) (by simp)
  have hrn : rn = xs.length := by obtain ⟨A', c, e1, _⟩ := RowC.sl hrow; injection e1
  have put := fun {O : Nat → Prop} {w : World} (h : (RowC e 1 (.slice (some ⟨g, 0, none⟩) rn rc) xs).p O w) => RowC.put (P := P) h (ys := putL xs cs off) (B := cs) (off := off) (by rw [hrn]; omega) (by rw [cells1 _ hput, cells1 _ hx1]) (fun y hy => by rw [(oc y (hput y hy)).1]; rfl) (putL_len hfit)
  obtain ⟨cur, hg, hfit2, hnew⟩ := put hrow
  have hrun := run_copy_row P w T T' o.type e' g off dl dc a sl sc cur e cs hu (by rw [hi]; simp [hs]) hg hn (hsrc w hw) hfit2 (fun u hu => (oc u (h1 u hu)).2)
  refine ⟨(), w.setRow g (putL cur.toList cs off).toArray, ?_, hw.turn hm (fun O hO => ?_)⟩
  · simp [execOp, ho, resolve, invoke, builtin, ha.eval hx, ha.eval hy, hrun, Sem.run_bind, Result.andThen, goInt, putL]
  · obtain ⟨cur2, hg2, _, hn2⟩ := put hO
    rw [hg] at hg2
    obtain ⟨rfl, _⟩ := Obj.cells.inj (Option.some.inj hg2)
    exact ⟨O, Touch.setRow _ _ _ ((hO.2.2.2 g).2 rfl), hn2, fun k hk => .inl hk⟩
/-- Parts of slices. -/
theorem yl_slice_l {G : World → Prop} {T : TypeId} {x lo : Operand} {g off len cap i : Nat} (ho : o.op = .slice T x (some lo) none none) (hx : ev l x = some (.slice (some ⟨g, off, none⟩) len cap)) (hl : ev l lo = some (.int .i64 (i : Int))) (hT : sl1T P T = true) (hi : i < len) (hc : len ≤ cap) : Yl P G n l d o (.slice (some ⟨g, off + i, none⟩) (len - i) (cap - i)) := ⟨(fun c => by rw [ho]; exact (fun h => by cases h)), (fun A w ha hw => by
    obtain ⟨e', inf, hu, hinf, hs⟩ := sl1T_spec hT
    have hel : P.elem T = e' := by simp [Program.elem, hu]
    have hr := run_slice_l w T (some ⟨g, off, none⟩) len cap (by rw [hel]; exact hu) .i64 (i : Int) (by omega) (by omega)
    have hr2 := run_sliceAt_slice w T (.slice (some ⟨g, off, none⟩) len cap) (some (.int .i64 (i : Int))) none none (by rw [hel]; exact hu)
    rw [hr, hel] at hr2
    have hsz : (sizeOf e').run P w = .ok 1 w := by simp [sizeOf, typeInfo, hinf, hs]
    rw [hsz] at hr2
    simp only [Result.andThen, sliced, Int.toNat_natCast, Nat.mul_one] at hr2
    rw [if_neg (by omega)] at hr2
    simp only [Option.map_some, Addr.add_mid] at hr2
    simp [execOp, ho, ha.eval hx, ha.eval hl, hr2, Sem.run_bind, Result.andThen])⟩
theorem yl_slice_h {G : World → Prop} {T : TypeId} {x hi : Operand} {a : Addr} {len cap i : Nat} (ho : o.op = .slice T x none (some hi) none) (hx : ev l x = some (.slice (some a) len cap)) (hl : ev l hi = some (.int .i64 (i : Int))) (hT : sl1T P T = true) (hc : i ≤ cap) : Yl P G n l d o (.slice (some a) i cap) := ⟨(fun c => by rw [ho]; exact (fun h => by cases h)), (fun A w ha hw => by
    obtain ⟨e', inf, hu, hinf, hs⟩ := sl1T_spec hT
    have hel : P.elem T = e' := by simp [Program.elem, hu]
    have hr := run_slice_h w T (some a) len cap (by rw [hel]; exact hu) .i64 (i : Int) (by omega) (by omega)
    have hr2 := run_sliceAt_slice w T (.slice (some a) len cap) none (some (.int .i64 (i : Int))) none (by rw [hel]; exact hu)
    rw [hr, hel] at hr2
    have hsz : (sizeOf e').run P w = .ok 1 w := by simp [sizeOf, typeInfo, hinf, hs]
    rw [hsz] at hr2
    have h0 : (some a).map (·.add (0 * 1)) = some a := by simp [Addr.add]
    simp only [Result.andThen, sliced, Int.toNat_natCast, h0, Nat.sub_zero, ite_self] at hr2
    simp [execOp, ho, ha.eval hx, ha.eval hl, hr2, Sem.run_bind, Result.andThen])⟩
end ops
namespace Rep
variable {W0 : World} {X : Nat → Prop} {R C : List Ch}
theorem mul1_ct (c : Nat) (hc : c < 18446744073709551616) : Ct Try.prog 92 [.int .u64 ((1 : Nat) : Int), .int .u64 (c : Int)] W0 X R C Unit (fun _ => .tuple #[.int .u64 0, .int .u64 (c : Int)]) (fun _ => R) (fun _ => C) := fun w hw => by
  refine (Try.bits_Mul 1 c (by decide) hc w).mono (fun e w' h => ⟨(), ?_, h.2 ▸ hw⟩)
  rw [h.1, Nat.one_mul, Nat.div_eq_of_lt hc, Nat.mod_eq_of_lt hc]; rfl
set_option maxRecDepth 100000 in
set_option maxHeartbeats 2000000 in
theorem rep_ct (s : Value) (z : Int) (c : Nat) (hs : SlC 1 s [.int .i64 z] ∈ R) (hsh : IsSl s) (hc : c ≤ 1000000) :
    Ct Try.prog 65 [s, .int .i64 (c : Int)] W0 X R C SV (fun v => v.1) (fun _ => R) (fun v => RowC 3 1 v.1 ((List.replicate c z).map (.int .i64)) :: C) := by
  intro w hw
  have hF := isWide_wide
  have hsl := hw.hasR hs
  obtain ⟨sa, sn, sc, rfl⟩ := hsh
  obtain ⟨_, ⟨A, c', e1, h2, h3, h4⟩, _⟩ := hsl
  obtain ⟨b, o, rfl, hrg⟩ := h4 0 _ rfl
  injection e1 with e1 e2 e3
  have e2 : sn = 1 := e2
  subst e1; subst e2
  have hsrc0 : ∀ {R' C' : List Ch}, SlC 1 (.slice (some ⟨b, o, none⟩) 1 sc) [.int .i64 z] ∈ R' → ∀ w, St W0 X R' C' w → ∀ j u, [Value.int .i64 z][j]? = some u → w.cell? ((⟨b, o, none⟩ : Addr).add j) = some u := fun hm w hw j u hj => by
    obtain ⟨_, ⟨A, c2, e1, _, _, h4⟩, _⟩ := hw.hasR hm
    injection e1 with e1 _ _
    match j, hj with
    | 0, hj =>
      obtain ⟨b', o', e, hr⟩ := h4 0 _ rfl
      rw [← e1] at e
      injection e with e; injection e with e1 e2
      subst e1; subst e2
      have := hr 0 (.int .i64 z) rfl
      simp at hj; subst hj
      simpa [Addr.add] using this
  refine calls_nx Try.func65 rfl Try.ntmps65 rfl ?_ hw
  by_cases h0 : c = 0
  · subst h0
    repeat' (first
    | ((first | with_reducible refine nl_op rfl ?_ | refine nd_go rfl rfl rfl ?_); intro K hK; (first
      | ((first | refine on_E hF rfl rfl ?_ | refine od_E rfl rfl ?_ | refine od_R rfl rfl ?_); (first | refine ⟨_, a_yl, ?_⟩ | refine ⟨_, yl_conv_u64 (S := 3) (T := 100) rfl rfl (by kernel_rfl) (by kernel_rfl) (by omega), ?_⟩ | refine ⟨_, yl_conv_i (S := 100) (T := 3) rfl rfl (by kernel_rfl) (by kernel_rfl) (by omega), ?_⟩))
      | ((first | refine on_Ec hF rfl rfl ?_ | refine od_Ec rfl rfl ?_); refine ⟨_, _, _, a_yc, ?_, ?_⟩ <;> (intro hc; try (exfalso; first | (omega; done) | exact absurd (by with_reducible rfl) hc | (simp at hc; done))))
      | ((first | (refine od_act (fun c => by exact (fun h => by cases h)) ?_; intro K2 hK2) | refine od_last (fun c => by exact (fun h => by cases h)) ?_ | skip); (first
      | (refine on_callG hF (enters_of Try.func92 (by kernel_rfl) rfl) rfl rfl rfl rfl (mul1_ct 0 (by decide)) (fun _ => ?_))
      | (refine on_makeSlice (e := 3) (k := 1) (by_ := 8) (z := .int .i64 0) (c := 0) hF rfl rfl rfl rfl (by kernel_rfl) Try.zeroValue3 (by omega) (by unfold maxLen; omega) (fun B => ?_))
      | (refine on_copy (cs := []) (ys := []) hF rfl rfl rfl rfl rfl (by kernel_rfl) (by exact a_turn) rfl rfl (by simp) (fun w _ j u hj => by simp at hj) (fun u hu => by cases hu) (fun u hu => by cases hu) ?_)
      
      
      | (refine on_box hF rfl rfl rfl rfl (fun B => ?_))
      | (refine on_store hF rfl rfl rfl rfl a_turn a_vof (by first | rfl | exact hsz.symm | exact hsz) ?_)
      | (refine on_storeE hF rfl rfl rfl rfl a_turn (by (first | omega | (simp only [List.length_append, List.length_cons, List.length_nil, List.length_map] at *; omega))) a_vof (by first | rfl | exact hsz) ?_)
      | (refine on_storeEF hF rfl rfl rfl rfl a_turn (by first | with_reducible assumption | rfl) (by decide) a_vof rfl ?_)
      | (refine on_storeF hF rfl rfl rfl rfl a_turn (by decide) a_vof rfl ?_)) <;> try (refine hK2 _ _ _ a_allK ?_; clear hK2 K2))) <;> (refine hK _ _ _ ?_; clear hK K))
    | with_reducible refine nx_seq ?_
        | with_reducible refine nx_region ?_
        | with_reducible refine nl_nil ?_
        | with_reducible refine nq_then_n ?_
        | with_reducible refine nx_block ?_
        | with_reducible refine nx_skip ?_
        | with_reducible refine nx_exit ?_
        | with_reducible refine nx_ret ?_
        | with_reducible refine nq_then_x ?_
        | with_reducible refine nq_then_r ?_
        | with_reducible refine nq_blk_n ?_
        | with_reducible refine nq_blk_r ?_
        | with_reducible refine nq_blk_hit ?_
        | with_reducible refine nq_blk_miss rfl ?_
        | with_reducible refine nd_nil ?_
    | refine nx_cond_t rfl ?_ | refine nx_cond_f rfl ?_
    | refine nl_pass hF rfl rfl rfl ?_
    | refine nd_pass rfl rfl rfl rfl rfl ?_
    | refine nd_pass2 rfl rfl rfl (fun c => by exact (fun h => by cases h)) a_allK rfl rfl ?_
    | refine nd_pass3 rfl rfl rfl (fun c => by exact (fun h => by cases h)) rfl rfl ?_
    | (with_reducible refine hQ1 _ _ _ ?_; clear hQ1 Q1)
    | (refine nd_region (id := 9) hF [0, 0, 0, 0, 0, 0, 0, 2, 0, 0] [0, 1, 2, 3, 4, 5, 6, 7, 8, 9] _ _ (by kernel_rfl) (by kernel_rfl) sub2_same ?_; intro Q1 hQ1))
    refine nx_loop (ι := Unit) (fun _ => [(7, .slice (some ⟨B, 0, none⟩) 0 0), (8, .int .i64 0)]) (fun _ => R) (fun _ => RowC 3 1 (.slice (some ⟨B, 0, none⟩) 0 0) [] :: C) (fun _ => 0) () (by exact a_sub) (by exact a_subR) (by exact a_holds) (fun i => ?_)
    repeat' (first
    | ((first | with_reducible refine nl_op rfl ?_ | refine nd_go rfl rfl rfl ?_); intro K hK; (first
      | ((first | refine on_E hF rfl rfl ?_ | refine od_E rfl rfl ?_ | refine od_R rfl rfl ?_); (first | refine ⟨_, a_yl, ?_⟩ | refine ⟨_, yl_conv_u64 (S := 3) (T := 100) rfl rfl (by kernel_rfl) (by kernel_rfl) (by omega), ?_⟩ | refine ⟨_, yl_conv_i (S := 100) (T := 3) rfl rfl (by kernel_rfl) (by kernel_rfl) (by omega), ?_⟩))
      | ((first | refine on_Ec hF rfl rfl ?_ | refine od_Ec rfl rfl ?_); refine ⟨_, _, _, a_yc, ?_, ?_⟩ <;> (intro hc; try (exfalso; first | (omega; done) | exact absurd (by with_reducible rfl) hc | (simp at hc; done))))
      | ((first | (refine od_act (fun c => by exact (fun h => by cases h)) ?_; intro K2 hK2) | refine od_last (fun c => by exact (fun h => by cases h)) ?_ | skip); (first
      
      
      
      | (refine on_box hF rfl rfl rfl rfl (fun B => ?_))
      | (refine on_store hF rfl rfl rfl rfl a_turn a_vof (by first | rfl | exact hsz.symm | exact hsz) ?_)
      | (refine on_storeE hF rfl rfl rfl rfl a_turn (by (first | omega | (simp only [List.length_append, List.length_cons, List.length_nil, List.length_map] at *; omega))) a_vof (by first | rfl | exact hsz) ?_)
      | (refine on_storeEF hF rfl rfl rfl rfl a_turn (by first | with_reducible assumption | rfl) (by decide) a_vof rfl ?_)
      | (refine on_storeF hF rfl rfl rfl rfl a_turn (by decide) a_vof rfl ?_)) <;> try (refine hK2 _ _ _ a_allK ?_; clear hK2 K2))) <;> (refine hK _ _ _ ?_; clear hK K))
    | with_reducible refine nx_seq ?_
        | with_reducible refine nx_region ?_
        | with_reducible refine nl_nil ?_
        | with_reducible refine nq_then_n ?_
        | with_reducible refine nx_block ?_
        | with_reducible refine nx_skip ?_
        | with_reducible refine nx_exit ?_
        | with_reducible refine nx_ret ?_
        | with_reducible refine nq_then_x ?_
        | with_reducible refine nq_then_r ?_
        | with_reducible refine nq_blk_n ?_
        | with_reducible refine nq_blk_r ?_
        | with_reducible refine nq_blk_hit ?_
        | with_reducible refine nq_blk_miss rfl ?_
        | with_reducible refine nd_nil ?_
    | refine nx_cond_t rfl ?_ | refine nx_cond_f rfl ?_
    | refine nl_pass hF rfl rfl rfl ?_
    | refine nd_pass rfl rfl rfl rfl rfl ?_
    | refine nd_pass2 rfl rfl rfl (fun c => by exact (fun h => by cases h)) a_allK rfl rfl ?_
    | refine nd_pass3 rfl rfl rfl (fun c => by exact (fun h => by cases h)) rfl rfl ?_
    | (with_reducible refine hQ1 _ _ _ ?_; clear hQ1 Q1)
    | (refine nd_region (id := 9) hF [0, 0, 0, 0, 0, 0, 0, 2, 0, 0] [0, 1, 2, 3, 4, 5, 6, 7, 8, 9] _ _ (by kernel_rfl) (by kernel_rfl) sub2_same ?_; intro Q1 hQ1))
    refine nx_end [] rfl (⟨.slice (some ⟨B, 0, none⟩) 0 0, _, _, _, rfl⟩) (fun a w ha hw => res_tmp Try.results65 rfl ha) (by exact a_subR) (by exact a_holds2)
  · have hput0 : Value.int .i64 z :: List.replicate (c - 1) (Value.int .i64 0) = putL (List.replicate c (Value.int .i64 0)) [Value.int .i64 z] 0 := by
      obtain ⟨k, rfl⟩ : ∃ k, c = k + 1 := ⟨c - 1, by omega⟩
      simp [putL, List.replicate_succ]
    repeat' (first
    | ((first | with_reducible refine nl_op rfl ?_ | refine nd_go rfl rfl rfl ?_); intro K hK; (first
      | ((first | refine on_E hF rfl rfl ?_ | refine od_E rfl rfl ?_ | refine od_R rfl rfl ?_); (first | refine ⟨_, a_yl, ?_⟩ | refine ⟨_, yl_conv_u64 (S := 3) (T := 100) rfl rfl (by kernel_rfl) (by kernel_rfl) (by omega), ?_⟩ | refine ⟨_, yl_conv_i (S := 100) (T := 3) rfl rfl (by kernel_rfl) (by kernel_rfl) (by omega), ?_⟩))
      | ((first | refine on_Ec hF rfl rfl ?_ | refine od_Ec rfl rfl ?_); refine ⟨_, _, _, a_yc, ?_, ?_⟩ <;> (intro hc; try (exfalso; first | (omega; done) | exact absurd (by with_reducible rfl) hc | (simp at hc; done))))
      | ((first | (refine od_act (fun c => by exact (fun h => by cases h)) ?_; intro K2 hK2) | refine od_last (fun c => by exact (fun h => by cases h)) ?_ | skip); (first
      | (refine on_callG hF (enters_of Try.func92 (by kernel_rfl) rfl) rfl rfl rfl rfl (mul1_ct c (by omega)) (fun _ => ?_))
      | (refine on_makeSlice (e := 3) (k := 1) (by_ := 8) (z := .int .i64 0) (c := c) hF rfl rfl rfl rfl (by kernel_rfl) Try.zeroValue3 (by omega) (by unfold maxLen; omega) (fun B => ?_))
      | (refine on_copy (cs := [.int .i64 z]) (ys := .int .i64 z :: List.replicate (c - 1) (.int .i64 0)) hF rfl rfl rfl rfl rfl (by kernel_rfl) (by exact a_turn) hput0 (by show 1 = min 1 c; omega) (by simp only [List.length_replicate, List.length_cons, List.length_nil]; omega) (hsrc0 hs) (fun u hu => by rw [List.mem_singleton.1 hu]; rfl) (fun u hu => by rw [List.eq_of_mem_replicate hu]; rfl) ?_)
      
      
      | (refine on_box hF rfl rfl rfl rfl (fun B => ?_))
      | (refine on_store hF rfl rfl rfl rfl a_turn a_vof (by first | rfl | exact hsz.symm | exact hsz) ?_)
      | (refine on_storeE hF rfl rfl rfl rfl a_turn (by (first | omega | (simp only [List.length_append, List.length_cons, List.length_nil, List.length_map] at *; omega))) a_vof (by first | rfl | exact hsz) ?_)
      | (refine on_storeEF hF rfl rfl rfl rfl a_turn (by first | with_reducible assumption | rfl) (by decide) a_vof rfl ?_)
      | (refine on_storeF hF rfl rfl rfl rfl a_turn (by decide) a_vof rfl ?_)) <;> try (refine hK2 _ _ _ a_allK ?_; clear hK2 K2))) <;> (refine hK _ _ _ ?_; clear hK K))
    | with_reducible refine nx_seq ?_
        | with_reducible refine nx_region ?_
        | with_reducible refine nl_nil ?_
        | with_reducible refine nq_then_n ?_
        | with_reducible refine nx_block ?_
        | with_reducible refine nx_skip ?_
        | with_reducible refine nx_exit ?_
        | with_reducible refine nx_ret ?_
        | with_reducible refine nq_then_x ?_
        | with_reducible refine nq_then_r ?_
        | with_reducible refine nq_blk_n ?_
        | with_reducible refine nq_blk_r ?_
        | with_reducible refine nq_blk_hit ?_
        | with_reducible refine nq_blk_miss rfl ?_
        | with_reducible refine nd_nil ?_
    | refine nx_cond_t rfl ?_ | refine nx_cond_f rfl ?_
    | refine nl_pass hF rfl rfl rfl ?_
    | refine nd_pass rfl rfl rfl rfl rfl ?_
    | refine nd_pass2 rfl rfl rfl (fun c => by exact (fun h => by cases h)) a_allK rfl rfl ?_
    | refine nd_pass3 rfl rfl rfl (fun c => by exact (fun h => by cases h)) rfl rfl ?_
    | (with_reducible refine hQ1 _ _ _ ?_; clear hQ1 Q1)
    | (refine nd_region (id := 9) hF [0, 0, 0, 0, 0, 0, 0, 2, 0, 0] [0, 1, 2, 3, 4, 5, 6, 7, 8, 9] _ _ (by kernel_rfl) (by kernel_rfl) sub2_same ?_; intro Q1 hQ1))
    refine nx_loop (ι := { i : Nat // 1 ≤ i ∧ i ≤ c }) (fun i => [(7, .slice (some ⟨B, 0, none⟩) c c), (8, .int .i64 (i.1 : Int))]) (fun _ => R) (fun i => RowC 3 1 (.slice (some ⟨B, 0, none⟩) c c) (List.replicate i.1 (.int .i64 z) ++ List.replicate (c - i.1) (.int .i64 0)) :: C) (fun i => c - i.1) ⟨1, by omega, by omega⟩ (by exact a_sub) (by exact a_subR) (by exact a_holds) (fun i => ?_)
    obtain ⟨i, hi1, hi2⟩ := i
    dsimp only
    by_cases hlt : i < c
    · obtain ⟨k, hk⟩ : ∃ k, k = min i (c - i) := ⟨_, rfl⟩
      obtain ⟨xs, hxs⟩ : ∃ xs, xs = List.replicate i (Value.int .i64 z) ++ List.replicate (c - i) (Value.int .i64 0) := ⟨_, rfl⟩
      have hxl : xs.length = c := by rw [hxs]; simp; omega
      have hys : List.replicate (i + k) (Value.int .i64 z) ++ List.replicate (c - (i + k)) (Value.int .i64 0) = putL xs (List.replicate k (.int .i64 z)) (0 + i) := by
        rw [hxs, Nat.zero_add]
        unfold putL
        rw [List.take_append_of_le_length (by simp), List.take_of_length_le (by simp), List.drop_append, List.drop_of_length_le (by simp), List.length_replicate, List.length_replicate, List.nil_append, List.drop_replicate, show i + k - i = k by omega, show c - i - k = c - (i + k) by omega]
        simp
      have hx1 : ∀ u ∈ xs, oneV u = true := fun u hu => by
        rw [hxs] at hu
        rcases List.mem_append.1 hu with hu | hu <;> rw [List.eq_of_mem_replicate hu] <;> rfl
      have hsrc : ∀ w, St W0 X R (RowC 3 1 (.slice (some ⟨B, 0, none⟩) c c) xs :: C) w → ∀ j u, (List.replicate k (Value.int .i64 z))[j]? = some u → w.cell? ((⟨B, 0, none⟩ : Addr).add j) = some u := fun w hw j u hj => by
        obtain ⟨O, h⟩ := hw.hasC (c := RowC 3 1 (.slice (some ⟨B, 0, none⟩) c c) xs) (by simp)
        obtain ⟨A, c2, e1, _, _, h4⟩ := RowC.sl h
        injection e1 with e1 _ _
        have hjk : j < k := by have := (List.getElem?_eq_some_iff.1 hj).1; simpa using this
        have hxj : xs[j]? = some (.int .i64 z) := by rw [hxs, List.getElem?_append_left (by rw [List.length_replicate]; omega), List.getElem?_replicate, if_pos (by omega)]
        have hu : u = .int .i64 z := List.eq_of_mem_replicate (List.mem_of_getElem? hj)
        obtain ⟨b', o', e, hr⟩ := h4 j _ hxj
        rw [← e1] at e
        injection e with e; injection e with e1 e2
        subst e1; subst e2; subst hu
        have := hr 0 (.int .i64 z) rfl
        rw [Addr.add_mid]
        simpa using this
      rw [← hxs]
      have hlk : (List.replicate k (Value.int .i64 z)).length = k := by simp
      repeat' (first
    | ((first | with_reducible refine nl_op rfl ?_ | refine nd_go rfl rfl rfl ?_); intro K hK; (first
      | ((first | refine on_E hF rfl rfl ?_ | refine od_E rfl rfl ?_ | refine od_R rfl rfl ?_); (first | refine ⟨_, a_yl, ?_⟩ | refine ⟨_, yl_conv_u64 (S := 3) (T := 100) rfl rfl (by kernel_rfl) (by kernel_rfl) (by omega), ?_⟩ | refine ⟨_, yl_conv_i (S := 100) (T := 3) rfl rfl (by kernel_rfl) (by kernel_rfl) (by omega), ?_⟩))
      | ((first | refine on_Ec hF rfl rfl ?_ | refine od_Ec rfl rfl ?_); refine ⟨_, _, _, a_yc, ?_, ?_⟩ <;> (intro hc; try (exfalso; first | (omega; done) | exact absurd (by with_reducible rfl) hc | (simp at hc; done))))
      | ((first | (refine od_act (fun c => by exact (fun h => by cases h)) ?_; intro K2 hK2) | refine od_last (fun c => by exact (fun h => by cases h)) ?_ | skip); (first
      | ((first | refine on_E hF rfl rfl ?_ | refine od_E rfl rfl ?_); (first | refine ⟨_, yl_slice_l (i := i) rfl rfl rfl (by kernel_rfl) (by omega) (by omega), ?_⟩ | refine ⟨_, yl_slice_h (i := i) rfl rfl rfl (by kernel_rfl) (by omega), ?_⟩))
        | (refine on_copy (cs := List.replicate k (.int .i64 z)) (ys := List.replicate (i + k) (Value.int .i64 z) ++ List.replicate (c - (i + k)) (Value.int .i64 0)) (xs := xs) hF rfl rfl rfl rfl rfl (by kernel_rfl) (by exact a_turn) hys (by show _ = min i (c - i); rw [hlk]; exact hk) (by omega) hsrc (fun u hu => by rw [List.eq_of_mem_replicate hu]; rfl) hx1 ?_)
      
      
      | (refine on_box hF rfl rfl rfl rfl (fun B => ?_))
      | (refine on_store hF rfl rfl rfl rfl a_turn a_vof (by first | rfl | exact hsz.symm | exact hsz) ?_)
      | (refine on_storeE hF rfl rfl rfl rfl a_turn (by (first | omega | (simp only [List.length_append, List.length_cons, List.length_nil, List.length_map] at *; omega))) a_vof (by first | rfl | exact hsz) ?_)
      | (refine on_storeEF hF rfl rfl rfl rfl a_turn (by first | with_reducible assumption | rfl) (by decide) a_vof rfl ?_)
      | (refine on_storeF hF rfl rfl rfl rfl a_turn (by decide) a_vof rfl ?_)) <;> try (refine hK2 _ _ _ a_allK ?_; clear hK2 K2))) <;> (refine hK _ _ _ ?_; clear hK K))
    | with_reducible refine nx_seq ?_
        | with_reducible refine nx_region ?_
        | with_reducible refine nl_nil ?_
        | with_reducible refine nq_then_n ?_
        | with_reducible refine nx_block ?_
        | with_reducible refine nx_skip ?_
        | with_reducible refine nx_exit ?_
        | with_reducible refine nx_ret ?_
        | with_reducible refine nq_then_x ?_
        | with_reducible refine nq_then_r ?_
        | with_reducible refine nq_blk_n ?_
        | with_reducible refine nq_blk_r ?_
        | with_reducible refine nq_blk_hit ?_
        | with_reducible refine nq_blk_miss rfl ?_
        | with_reducible refine nd_nil ?_
    | refine nx_cond_t rfl ?_ | refine nx_cond_f rfl ?_
    | refine nl_pass hF rfl rfl rfl ?_
    | refine nd_pass rfl rfl rfl rfl rfl ?_
    | refine nd_pass2 rfl rfl rfl (fun c => by exact (fun h => by cases h)) a_allK rfl rfl ?_
    | refine nd_pass3 rfl rfl rfl (fun c => by exact (fun h => by cases h)) rfl rfl ?_
    | (with_reducible refine hQ1 _ _ _ ?_; clear hQ1 Q1)
    | (refine nd_region (id := 9) hF [0, 0, 0, 0, 0, 0, 0, 2, 0, 0] [0, 1, 2, 3, 4, 5, 6, 7, 8, 9] [] _ (by kernel_rfl) (by kernel_rfl) (sub2_mk (fun c h => by cases h) (fun c h => h)) ?_; intro Q1 hQ1))
      rw [hlk, ← Int.natCast_add]
      refine nx_again ⟨i + k, by omega, by omega⟩ (by dsimp only; omega) (by exact a_sub) (by exact a_subR) (by exact a_holds)
    · have he : i = c := by omega
      subst he
      rw [show List.replicate i (Value.int .i64 z) ++ List.replicate (i - i) (Value.int .i64 0) = (List.replicate i z).map (Value.int .i64) by simp]
      repeat' (first
    | ((first | with_reducible refine nl_op rfl ?_ | refine nd_go rfl rfl rfl ?_); intro K hK; (first
      | ((first | refine on_E hF rfl rfl ?_ | refine od_E rfl rfl ?_ | refine od_R rfl rfl ?_); (first | refine ⟨_, a_yl, ?_⟩ | refine ⟨_, yl_conv_u64 (S := 3) (T := 100) rfl rfl (by kernel_rfl) (by kernel_rfl) (by omega), ?_⟩ | refine ⟨_, yl_conv_i (S := 100) (T := 3) rfl rfl (by kernel_rfl) (by kernel_rfl) (by omega), ?_⟩))
      | ((first | refine on_Ec hF rfl rfl ?_ | refine od_Ec rfl rfl ?_); refine ⟨_, _, _, a_yc, ?_, ?_⟩ <;> (intro hc; try (exfalso; first | (omega; done) | exact absurd (by with_reducible rfl) hc | (simp at hc; done))))
      | ((first | (refine od_act (fun c => by exact (fun h => by cases h)) ?_; intro K2 hK2) | refine od_last (fun c => by exact (fun h => by cases h)) ?_ | skip); (first
      
      
      
      | (refine on_box hF rfl rfl rfl rfl (fun B => ?_))
      | (refine on_store hF rfl rfl rfl rfl a_turn a_vof (by first | rfl | exact hsz.symm | exact hsz) ?_)
      | (refine on_storeE hF rfl rfl rfl rfl a_turn (by (first | omega | (simp only [List.length_append, List.length_cons, List.length_nil, List.length_map] at *; omega))) a_vof (by first | rfl | exact hsz) ?_)
      | (refine on_storeEF hF rfl rfl rfl rfl a_turn (by first | with_reducible assumption | rfl) (by decide) a_vof rfl ?_)
      | (refine on_storeF hF rfl rfl rfl rfl a_turn (by decide) a_vof rfl ?_)) <;> try (refine hK2 _ _ _ a_allK ?_; clear hK2 K2))) <;> (refine hK _ _ _ ?_; clear hK K))
    | with_reducible refine nx_seq ?_
        | with_reducible refine nx_region ?_
        | with_reducible refine nl_nil ?_
        | with_reducible refine nq_then_n ?_
        | with_reducible refine nx_block ?_
        | with_reducible refine nx_skip ?_
        | with_reducible refine nx_exit ?_
        | with_reducible refine nx_ret ?_
        | with_reducible refine nq_then_x ?_
        | with_reducible refine nq_then_r ?_
        | with_reducible refine nq_blk_n ?_
        | with_reducible refine nq_blk_r ?_
        | with_reducible refine nq_blk_hit ?_
        | with_reducible refine nq_blk_miss rfl ?_
        | with_reducible refine nd_nil ?_
    | refine nx_cond_t rfl ?_ | refine nx_cond_f rfl ?_
    | refine nl_pass hF rfl rfl rfl ?_
    | refine nd_pass rfl rfl rfl rfl rfl ?_
    | refine nd_pass2 rfl rfl rfl (fun c => by exact (fun h => by cases h)) a_allK rfl rfl ?_
    | refine nd_pass3 rfl rfl rfl (fun c => by exact (fun h => by cases h)) rfl rfl ?_
    | (with_reducible refine hQ1 _ _ _ ?_; clear hQ1 Q1)
    | (refine nd_region (id := 9) hF [0, 0, 0, 0, 0, 0, 0, 2, 0, 0] [0, 1, 2, 3, 4, 5, 6, 7, 8, 9] _ _ (by kernel_rfl) (by kernel_rfl) sub2_same ?_; intro Q1 hQ1))
      refine nx_end [] rfl (⟨.slice (some ⟨B, 0, none⟩) i i, _, _, _, rfl⟩) (fun a w ha hw => res_tmp Try.results65 rfl ha) (by exact a_subR) (by exact a_holds2)
end Rep
end Go.Proofs.Ytinofjenoapeaaa
