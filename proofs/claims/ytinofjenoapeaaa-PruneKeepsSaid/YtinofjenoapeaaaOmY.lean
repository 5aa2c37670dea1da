/- The contract of lines.All. Condition: items whose extents are a slice. -/
import Derived.Test.YtinofjenoapeaaaT3
import Derived.Laws.CopyRow
import Derived.Lib.AppendZerosOnto
import Derived.Lib.Overlaps
import Derived.Test.YtinofjenoapeaaaProg
import Derived.Test.YtinofjenoapeaaaShelf
import Derived.Test.YtinofjenoapeaaaScP
import Derived.Test.YtinofjenoapeaaaSc
import Derived.Test.YtinofjenoapeaaaPl2
import Derived.Test.YtinofjenoapeaaaS9
import Derived.Test.YtinofjenoapeaaaLiQ
import Derived.Test.YtinofjenoapeaaaFaItem
section
namespace Go.Proofs.Ytinofjenoapeaaa
open Go.RowKit Go.Shelf
set_option linter.unusedSimpArgs false
set_option linter.unusedVariables false
/-- A block that is the call's own, all its cells known. -/
def RawC (e : TypeId) (g : Nat) (cs : List Value) : Ch where
  p O w := w.heap[g]? = some (.cells cs.toArray e (0, 0)) ∧ ∀ j, O j ↔ j = g
  st h _ hk := ⟨(hk g ((h.2 g).2 rfl)).trans h.1, h.2⟩
  lt h k hk := by rw [(h.2 k).1 hk]; exact (Array.getElem?_eq_some_iff.1 h.1).1
theorem RowC.raw {e k g n c : Nat} {xs : List Value} {O : Nat → Prop} {w : World} (h : (RowC e k (.slice (some ⟨g, 0, none⟩) n c) xs).p O w) : ∃ cs : List Value, n = xs.length ∧ n ≤ c ∧ c ≤ maxLen ∧ cs.length = c * k ∧ cs.take (n * k) = cellsOf xs ∧ (RawC e g cs).p O w := by
  obtain ⟨⟨h1, h2⟩, h3, h4, h5⟩ := h
  rcases h2 with ⟨h2, _⟩ | ⟨g', cap, cur, e1, h6, h7, h8, h9, h10, h11⟩
  · cases h2
  obtain ⟨e2, e3, e4⟩ := Value.slice.inj e1
  obtain ⟨rfl, _, _⟩ := Addr.mk.inj (Option.some.inj e2)
  subst e4
  subst e3
  refine ⟨cur.toList, rfl, h8, h9, by simpa using h10, h11, by simpa using h7, fun j => ?_⟩
  rw [h5 j]
  simp only [Value.ownBlock, Option.some.injEq]
  exact ⟨fun h => h.symm, fun h => h.symm⟩
theorem RawC.row {e k g c : Nat} {xs cs : List Value} {O : Nat → Prop} {w : World} (h : (RawC e g cs).p O w) (hn : xs.length ≤ c) (hc : c ≤ maxLen) (hl : cs.length = c * k) (ht : cs.take (xs.length * k) = cellsOf xs) (hx : ∀ x ∈ xs, (cv x).size = k) : (RowC e k (.slice (some ⟨g, 0, none⟩) xs.length c) xs).p O w := by
  refine RowC.mkp ⟨by rw [cellsOf_len hx], .inr ⟨g, c, cs.toArray, rfl, Nat.zero_le _, h.1, hn, hc, by simpa using hl, by simpa using ht⟩⟩ (fun h => by cases h) hx (fun j => ?_)
  rw [h.2 j]
  simp only [Value.ownBlock, Option.some.injEq]
  exact ⟨fun h => h.symm, fun h => h.symm⟩
section
variable {F : Fence} {m : Nat} {P : Program} {Q : Exit → Act → World → Prop} {K : Act → World → Prop} {n : Nat} {l : List (Nat × Value)} {d : List Deferred} {W0 : World} {X : Nat → Prop} {R C E : List Ch} {o : Oper} {t : Nat} {v : Value}
/-- An owned row is taken apart into cells. -/
theorem nx_raw {e k g i c : Nat} {xs : List Value} (hp : Pick C (RowC e k (.slice (some ⟨g, 0, none⟩) i c) xs) E) (h : ∀ cs : List Value, i = xs.length → i ≤ c → c ≤ maxLen → cs.length = c * k → cs.take (i * k) = cellsOf xs → Nx K n l d W0 X R (RawC e g cs :: E)) : Nx K n l d W0 X R C := fun a w ha hw => by
  have hw' := hw.perm hp
  obtain ⟨O, hO⟩ := hw'.hasC (c := RowC e k (.slice (some ⟨g, 0, none⟩) i c) xs) (by simp)
  obtain ⟨cs, h1, h2, h3, h4, h5, h6⟩ := RowC.raw hO
  refine h cs h1 h2 h3 h4 h5 a w ha (hw'.upd (fun O2 hO2 => ?_))
  obtain ⟨cs2, _, _, _, _, _, h7⟩ := RowC.raw hO2
  have h8 := h7.1.symm.trans h6.1
  obtain ⟨h9, _⟩ := Obj.cells.inj (Option.some.inj h8)
  have h10 : cs2 = cs := by have := congrArg Array.toList h9; simpa using this
  subst h10
  exact ⟨O2, Touch.refl _ _, h7, fun k hk => .inl hk⟩
/-- Cells are an owned row. -/
theorem nx_row {e k g c : Nat} {xs cs : List Value} (hp : Pick C (RawC e g cs) E) (hn : xs.length ≤ c) (hc : c ≤ maxLen) (hl : cs.length = c * k) (ht : cs.take (xs.length * k) = cellsOf xs) (hx : ∀ x ∈ xs, (cv x).size = k) (h : Nx K n l d W0 X R (RowC e k (.slice (some ⟨g, 0, none⟩) xs.length c) xs :: E)) : Nx K n l d W0 X R C := fun a w ha hw =>
  h a w ha ((hw.perm hp).upd (fun O hO => ⟨O, Touch.refl _ _, RawC.row hO hn hc hl ht hx, fun k hk => .inl hk⟩))
theorem run_copy_rowk (w : World) (dT sT ty elem : TypeId) (g off dLen dCap k : Nat) (a : Addr) (sLen sCap : Nat) (cur : Array Value) (tt : TypeId) (cs : List Value) (q : Nat)
    (hu : P.underlying dT = some (.slice elem)) (hs : (P.info? elem).map (·.size) = some k)
    (hg : w.heap[g]? = some (.cells cur tt (0, 0))) (hq : q = Nat.min sLen dLen) (hn : cs.length = q * k)
    (hsrc : ∀ j v, cs[j]? = some v → w.cell? (a.add j) = some v) (hfit : off + cs.length ≤ cur.size) (h1 : ∀ v ∈ cs, v.oneCell' = true) :
    (Builtin.copy_ #[dT, sT] ty #[.slice (some ⟨g, off, none⟩) dLen dCap, .slice (some a) sLen sCap]).run P w =
      .ok (goInt q) (w.setRow g (putL cur.toList cs off).toArray) := by
  have hl := run_loadCells_list (P := P) w a cs hsrc
  have hst := run_storeCells_at P g off tt cs 0 cur w hg (by simpa using hfit) h1
  cases hqq : P.info? elem with
  | none => simp [hqq] at hs
  | some i =>
    have hi : i.size = k := by simpa [hqq] using hs
    rw [hn] at hl
    simp [Builtin.copy_, run_underlying hu, Builtin.lenOf, Builtin.firstCells, sizeOf, typeInfo, hqq, hi, ← hq, hl, hst, putL]
theorem slT_info {T k : Nat} (h : slT P T k = true) : ∃ e, P.underlying T = some (.slice e) ∧ (P.info? e).map (·.size) = some k := by
  unfold slT at h
  split at h
  · rename_i e' hu
    split at h
    · rename_i inf hinf
      exact ⟨e', hu, by rw [hinf]; simpa using h⟩
    · cases h
  · cases h
/-- copy into cells. -/
theorem on_copyk (hF : IsWide F) {x y : Operand} {T T' e g off dl dc sl sc k q : Nat} {a : Addr} {cs zs : List Value} {C' : List Ch} (ho : o.op = Op.call { callee := Callee.builtin Builtin.copy, args := #[x, y], argTypes := #[T, T'] }) (hd : o.dst = some t) (ht : Nat.blt t n = true)
    (hx : ev l x = some (.slice (some ⟨g, off, none⟩) dl dc)) (hy : ev l y = some (.slice (some a) sl sc)) (hT : slT P T k = true) (hm : Turn C (RawC e g zs) (RawC e g (putL zs cs off)) C') (hq : q = Nat.min sl dl) (hn : cs.length = q * k) (hfit : off + cs.length ≤ zs.length)
    (hsrc : ∀ w, St W0 X R C w → ∀ j u, cs[j]? = some u → w.cell? (a.add j) = some u) (h1 : ∀ u ∈ cs, u.oneCell' = true)
    (h : Nx K n ((t, .int .i64 (q : Int)) :: l) d W0 X R C') : Nx (OpN F m P o K Q) n l d W0 X R C := by
  obtain ⟨e', hu, hs⟩ := slT_info hT
  refine on_world hF (fun c => by rw [ho]; exact (fun h => by cases h)) hd ht (ι := Unit) (fun _ => .int .i64 (q : Int)) (fun _ => R) (fun _ => C') (fun A w ha hw => ?_) (fun _ => h)
  obtain ⟨O1, hrow⟩ : ∃ O, (RawC e g zs).p O w := by
    obtain ⟨D, h1, h2⟩ := hm
    exact (hw.perm h1).hasC (c := RawC e g zs) (by simp)
  have hrun := run_copy_rowk (P := P) w T T' o.type e' g off dl dc k a sl sc zs.toArray e cs q hu hs hrow.1 hq hn (hsrc w hw) (by simpa using hfit) h1
  refine ⟨(), w.setRow g (putL zs cs off).toArray, ?_, hw.turn hm (fun O hO => ⟨O, Touch.setRow _ _ _ ((hO.2 g).2 rfl), ⟨setRow_heap _ _ _ _ _ _ hO.1, hO.2⟩, fun k hk => .inl hk⟩)⟩
  simp [execOp, ho, resolve, invoke, builtin, ha.eval hx, ha.eval hy, hrun, Sem.run_bind, Result.andThen, goInt]
/-- append(s[:i], make(..)...) where there is no room: a new block. -/
theorem on_appendZ (hF : IsWide F) {x y : Operand} {T Tn e k by_ i c q N : Nat} {a : Addr} {olds : List Value} (ho : o.op = Op.call { callee := Callee.builtin Builtin.append, args := #[x, y], argTypes := #[T, Tn] }) (hd : o.dst = some t) (ht : Nat.blt t n = true)
    (hx : ev l x = some (.slice (some a) i c)) (hy : ev l y = some (.int .i64 (q : Int))) (hT : apT P T e k by_ = true) (hTn : isIT P Tn .i64 = true) (hq : 0 < q) (hno : c < i + q) (hol : olds.length = i * k)
    (hsrc : ∀ w, St W0 X R C w → ∀ j u, olds[j]? = some u → w.cell? (a.add j) = some u) (hN : i + q = N) (b1 : N ≤ maxLen) (b2 : N * by_ ≤ 140737488355328)
    (h : ∀ (B c' : Nat) (zs : List Value), N ≤ c' → c' ≤ maxLen → zs.length = c' * k → zs.take (i * k) = olds → Nx K n ((t, .slice (some ⟨B, 0, none⟩) N c') :: l) d W0 X R (RawC e B zs :: C)) : Nx (OpN F m P o K Q) n l d W0 X R C := by
  subst hN
  refine on_world hF (fun c => by rw [ho]; exact (fun h => by cases h)) hd ht (ι := { p : Nat × Nat × List Value // i + q ≤ p.2.1 ∧ p.2.1 ≤ maxLen ∧ p.2.2.length = p.2.1 * k ∧ p.2.2.take (i * k) = olds }) (fun p => .slice (some ⟨p.1.1, 0, none⟩) (i + q) p.1.2.1) (fun _ => R) (fun p => RawC e p.1.1 p.1.2.2 :: C) (fun A w ha hw => ?_) (fun p => h p.1.1 p.1.2.1 p.1.2.2 p.2.1 p.2.2.1 p.2.2.2.1 p.2.2.2.2)
  obtain ⟨inf, z, t1, t2, t3, t4, t5, t6, t7⟩ := apT_spec hT
  obtain ⟨kk, hTn'⟩ : ∃ kk, P.underlying Tn = some (.int kk) := by
    unfold isIT at hTn
    split at hTn
    · exact ⟨_, by assumption⟩
    · cases hTn
  have hold : (Builtin.firstCells inf.size i (.slice (some a) i c)).run P w.drew = .ok olds.toArray w.drew := run_firstCells_some w.drew inf.size i a i c olds (by rw [hol, t4]) (fun j v hj => hsrc w hw j v hj)
  have hb3 : q * inf.bytes ≤ 281474976710656 := by
    rw [t5]; have : q * by_ ≤ (i + q) * by_ := Nat.mul_le_mul_right _ (by omega); omega
  have h48 : ((i + q : Nat) : Int) ≤ 9223372036854775807 := by unfold maxLen at b1; omega
  have hrun := Lib.run_append_grow_zeros (P := P) w T Tn o.type e inf z .i64 kk t1 hTn' t2 t3 (some a) i c olds hold q hq (by omega) hno h48 hb3 (growslice_fits hno (by rw [t5]; exact b2))
  have hzc : ∀ j, (Builtin.zeroCells z.cells j).size = j * k := fun j => by simp [Builtin.zeroCells, t6]
  have hge := grownCap_ge w (i + q) c e
  obtain ⟨G, hG⟩ : ∃ G, grownCap w (i + q) c e = G := ⟨_, rfl⟩
  have hle := grownCap_le_maxLen w (i + q) c e b1
  rw [hG] at hrun hge hle
  obtain ⟨zs, hzs⟩ : ∃ zs : Array Value, olds.toArray ++ Builtin.zeroCells z.cells q ++ Builtin.zeroCells z.cells (G - (i + q)) = zs := ⟨_, rfl⟩
  have hzl : zs.size = G * k := by
    rw [← hzs]
    simp only [Array.size_append, hzc, List.size_toArray, hol]
    rw [← Nat.add_mul, ← Nat.add_mul]; congr 1; omega
  have hzt : zs.toList.take (i * k) = olds := by
    rw [← hzs]
    simp only [Array.toList_append, List.append_assoc]
    rw [List.take_append_of_le_length (by simp [hol]), List.take_of_length_le (by simp [hol])]
  rw [hzs] at hrun
  refine ⟨⟨(w.heap.size, G, zs.toList), hge, hle, by simpa using hzl, hzt⟩, w.drew.alloc (.cells zs e), ?_, hw.new (((Touch.drew (fun _ => False) w).trans (Touch.alloc _ _ _)).below (Nat.le_refl _) (fun _ _ h => h)) ⟨fun j => j = w.heap.size, ⟨?_, fun j => Iff.rfl⟩, fun k hk => by omega⟩⟩
  · simp [execOp, ho, resolve, invoke, builtin, ha.eval hx, ha.eval hy, hrun, Sem.run_bind, Result.andThen]
  · have := heap_alloc_new w.drew (.cells zs e)
    simpa using this
/-- Parts of slices of elements of k cells. -/
theorem yl_slice_lk {G : World → Prop} {T : TypeId} {x lo : Operand} {b : Option Addr} {len cap i : Nat} (k : Nat) (ho : o.op = .slice T x (some lo) none none) (hx : ev l x = some (.slice b len cap)) (hl : ev l lo = some (.int .i64 (i : Int))) (hT : slT P T k = true) (hi : i ≤ len) : Yl P G n l d o (.slice (if cap = i then b else b.map (·.add (i * k))) (len - i) (cap - i)) := ⟨(fun c => by rw [ho]; exact (fun h => by cases h)), (fun A w ha hw => by
    obtain ⟨e', hu, hs⟩ := slT_info hT
    have hel : P.elem T = e' := by simp [Program.elem, hu]
    have hr := run_slice_l w T b len cap (by rw [hel]; exact hu) .i64 (i : Int) (by omega) (by omega)
    have hr2 := run_sliceAt_slice w T (.slice b len cap) (some (.int .i64 (i : Int))) none none (by rw [hel]; exact hu)
    rw [hr, hel] at hr2
    have hsz : (sizeOf e').run P w = .ok k w := by
      cases hq : P.info? e' with
      | none => simp [hq] at hs
      | some inf => have : inf.size = k := by simpa [hq] using hs
                    simp [sizeOf, typeInfo, hq, this]
    rw [hsz] at hr2
    simp only [Result.andThen, sliced, Int.toNat_natCast] at hr2
    simp [execOp, ho, ha.eval hx, ha.eval hl, hr2, Sem.run_bind, Result.andThen])⟩
theorem yl_slice_ln {G : World → Prop} {T : TypeId} {x lo : Operand} {g off len cap i : Nat} (k : Nat) (ho : o.op = .slice T x (some lo) none none) (hx : ev l x = some (.slice (some ⟨g, off, none⟩) len cap)) (hl : ev l lo = some (.int .i64 (i : Int))) (hT : slT P T k = true) (hi : i ≤ len) (hc : i < cap) : Yl P G n l d o (.slice (some ⟨g, off + i * k, none⟩) (len - i) (cap - i)) := by
  have h := yl_slice_lk (P := P) (G := G) (n := n) (d := d) k ho hx hl hT hi
  rw [if_neg (by omega)] at h
  simpa only [Option.map_some, Addr.add_mid] using h
/-- Two slices of two blocks don't overlap. -/
theorem on_overlaps (hF : IsWide F) {f : Nat} {xs : Array Operand} {ts : Array TypeId} {T Tb e1 e2 k g1 g2 o1 l1 c1 o2 l2 c2 : Nat} {z1 z2 : List Value} (ho : o.op = Op.call { callee := Callee.value (.func f), args := xs, argTypes := ts }) (hd : o.dst = some t) (ht : Nat.blt t n = true)
    (hx : evs l xs.toList = some [.slice (some ⟨g1, o1, none⟩) l1 c1, .slice (some ⟨g2, o2, none⟩) l2 c2])
    (hf : ∀ w, (callFunc f #[.slice (some ⟨g1, o1, none⟩) l1 c1, .slice (some ⟨g2, o2, none⟩) l2 c2]).run P w = ((Extern.SlicesOverlaps.overlaps #[T, T] #[Tb] #[.slice (some ⟨g1, o1, none⟩) l1 c1, .slice (some ⟨g2, o2, none⟩) l2 c2]).run P w).andThen fun v w => .ok (.value v) w)
    (hT : slT P T k = true) (hg : ∀ w, St W0 X R C w → g1 ≠ g2 ∧ ∃ y1 y2 : Array Value, w.heap[g1]? = some (.cells y1 e1 (0, 0)) ∧ w.heap[g2]? = some (.cells y2 e2 (0, 0)) ∧ y2.size ≠ 0)
    (h : Nx K n ((t, .bool false) :: l) d W0 X R C) : Nx (OpN F m P o K Q) n l d W0 X R C := by
  obtain ⟨e', hu, hs⟩ := slT_info hT
  refine on_world hF (fun c => by rw [ho]; exact (fun h => by cases h)) hd ht (ι := Unit) (fun _ => .bool false) (fun _ => R) (fun _ => C) (fun A w ha hw => ?_) (fun _ => h)
  obtain ⟨hne, y1, y2, h1, h2, h3⟩ := hg w hw
  have hsz : ∀ w, (sizeOf e').run P w = .ok k w := fun w => by
    cases hq : P.info? e' with
    | none => simp [hq] at hs
    | some inf => have : inf.size = k := by simpa [hq] using hs
                  simp [sizeOf, typeInfo, hq, this]
  have hr := Lib.run_overlaps_apart (P := P) w T Tb e' hu k hsz ⟨g1, o1, none⟩ ⟨g2, o2, none⟩ l1 c1 l2 c2 hne e1 e2 y1.size y2.size (by simp [World.shape?, h1]) (by simp [World.shape?, h2]) h3 (by simp [World.frozen?, h1]) (by simp [World.frozen?, h1])
  have hcf := hf w
  rw [hr] at hcf
  have e := ha.evals hx
  have e2 : xs.map A.eval = #[.slice (some ⟨g1, o1, none⟩) l1 c1, .slice (some ⟨g2, o2, none⟩) l2 c2] := by rw [← Array.toArray_toList (xs := xs.map A.eval), Array.toList_map, e]
  refine ⟨(), w, ?_, hw⟩
  simp only [Result.andThen] at hcf
  simp [execOp, ho, resolve, invoke, e2, hcf, Sem.run_bind, Result.andThen, Act.eval, Deferred.ofValue]
theorem yl_cap_s {G : World → Prop} {x : Operand} {T : TypeId} {q : Option Addr} {i c : Nat} (ho : o.op = Op.call { callee := Callee.builtin Builtin.cap, args := #[x], argTypes := #[T] }) (hx : ev l x = some (.slice q i c)) (hT : isSlT P T = true) : Yl P G n l d o (.int .i64 (c : Int)) := ⟨(fun c => by rw [ho]; exact (fun h => by cases h)), (fun a w ha hw => by
    unfold isSlT at hT
    split at hT
    · rename_i e hu
      simp [execOp, ho, resolve, invoke, builtin, ha.eval hx, Builtin.cap_, run_underlying hu, Sem.run_bind, Result.andThen, goInt]
    · cases hT)⟩
/-- Sums and differences, as they are wanted. -/
theorem yl_subZ {G : World → Prop} {T T2 : TypeId} {x y : Operand} {i j z : Int} (hz : i - j = z) (hb : -9223372036854775808 ≤ z ∧ z ≤ 9223372036854775807) (ho : o.op = .binOp .sub T x y T2) (hx : ev l x = some (.int .i64 i)) (hy : ev l y = some (.int .i64 j)) : Yl P G n l d o (.int .i64 z) := by
  subst hz; exact yl_sub ho hx hy hb
theorem yl_addZ {G : World → Prop} {T T2 : TypeId} {x y : Operand} {i j z : Int} (hz : i + j = z) (hb : -9223372036854775808 ≤ z ∧ z ≤ 9223372036854775807) (ho : o.op = .binOp .add T x y T2) (hx : ev l x = some (.int .i64 i)) (hy : ev l y = some (.int .i64 j)) : Yl P G n l d o (.int .i64 z) := by
  subst hz; exact yl_add ho hx hy hb
/-- Two blocks of the call's own are two. -/
theorem RawC.two {e1 e2 g1 g2 : Nat} {c1 c2 : List Value} {w : World} (h : St W0 X R (RawC e1 g1 c1 :: RawC e2 g2 c2 :: E) w) : g1 ≠ g2 := by
  obtain ⟨_, _, OC, _, ⟨O1, h1, h2, O2, h3, h4, _⟩, _⟩ := h
  intro e
  subst e
  exact (h4 g1 ((h3.2 g1).2 rfl)).2 ((h1.2 g1).2 rfl)
end
end Go.Proofs.Ytinofjenoapeaaa
end

section
namespace Go.Proofs.Ytinofjenoapeaaa
open Go.RowKit Go.Shelf
set_option linter.unusedSimpArgs false
set_option linter.unusedVariables false
theorem cellsOf_take {k : Nat} : ∀ (xs : List Value) (i : Nat), (∀ x ∈ xs, (cv x).size = k) → cellsOf (xs.take i) = (cellsOf xs).take (i * k)
  | [], i, _ => by simp [cellsOf]
  | x :: xs, 0, _ => by simp [cellsOf]
  | x :: xs, i + 1, h => by
    have hx : (cv x).toList.length = k := by simpa using h x (by simp)
    have ih := cellsOf_take xs i (fun y hy => h y (by simp [hy]))
    unfold cellsOf at ih ⊢
    rw [List.take_succ_cons, List.map_cons, List.flatten_cons, List.map_cons, List.flatten_cons, ih, Nat.succ_mul, List.take_append, hx, List.take_of_length_le (l := (cv x).toList) (by omega), Nat.add_sub_cancel]
theorem cellsOf_drop {k : Nat} : ∀ (xs : List Value) (i : Nat), (∀ x ∈ xs, (cv x).size = k) → cellsOf (xs.drop i) = (cellsOf xs).drop (i * k)
  | [], i, _ => by simp [cellsOf]
  | x :: xs, 0, _ => by simp
  | x :: xs, i + 1, h => by
    have hx : (cv x).toList.length = k := by simpa using h x (by simp)
    have ih := cellsOf_drop xs i (fun y hy => h y (by simp [hy]))
    unfold cellsOf at ih ⊢
    rw [List.drop_succ_cons, List.map_cons, List.flatten_cons, ih, Nat.succ_mul, List.drop_append, hx, List.drop_of_length_le (l := (cv x).toList) (by omega), List.nil_append, Nat.add_sub_cancel]
/-- What is known of an element put between others, as cells. -/
theorem ins_cells {k : Nat} {xs : List Value} {y : Value} {i : Nat} (hx : ∀ x ∈ xs, (cv x).size = k) : cellsOf (xs.take i ++ y :: xs.drop i) = (cellsOf xs).take (i * k) ++ ((cv y).toList ++ (cellsOf xs).drop (i * k)) := by
  rw [cellsOf_append, cellsOf_take xs i hx]
  congr 1
  rw [show cellsOf (y :: xs.drop i) = (cv y).toList ++ cellsOf (xs.drop i) from rfl, cellsOf_drop xs i hx]
theorem putL_take_to {l B : List Value} {off : Nat} (h : off + B.length ≤ l.length) : (putL l B off).take (off + B.length) = l.take off ++ B := by
  unfold putL
  rw [List.take_append_of_le_length (by simp; omega), List.take_of_length_le (by simp; omega)]
theorem putL_take_lt {l B : List Value} {off a : Nat} (h : off + B.length ≤ l.length) (ha : a ≤ off) : (putL l B off).take a = l.take a := by
  unfold putL
  rw [List.append_assoc, List.take_append_of_le_length (by simp; omega), List.take_take, Nat.min_eq_left ha]
/-- Grown, y, then what stood from i on. -/
theorem ins_grow {zs Y S A : List Value} {a : Nat} (ha : zs.take a = A) (hal : A.length = a) (hf : a + Y.length + S.length ≤ zs.length) : (putL (putL zs Y a) S (a + Y.length)).take (a + Y.length + S.length) = A ++ (Y ++ S) := by
  have h1 : (putL zs Y a).length = zs.length := putL_len (by omega)
  rw [putL_take_to (by rw [h1]; exact hf), putL_take_to (by omega), ha, List.append_assoc]
/-- In place: what stands from i on moves up, then y. -/
theorem ins_room {cs Y S A : List Value} {a : Nat} (ha : cs.take a = A) (hal : A.length = a) (hf : a + Y.length + S.length ≤ cs.length) : (putL (putL cs S (a + Y.length)) Y a).take (a + Y.length + S.length) = A ++ (Y ++ S) := by
  have h1 : (putL cs S (a + Y.length)).length = cs.length := putL_len hf
  have h2 : (putL cs S (a + Y.length)).take (a + Y.length + S.length) = cs.take (a + Y.length) ++ S := putL_take_to hf
  have h3 : (putL cs S (a + Y.length)).take a = A := by rw [putL_take_lt hf (by omega), ha]
  have h4 : putL (putL cs S (a + Y.length)) Y a = A ++ Y ++ (putL cs S (a + Y.length)).drop (a + Y.length) := by
    conv => lhs; unfold putL
    rw [show List.take a (cs.take (a + Y.length) ++ S ++ cs.drop (a + Y.length + S.length)) = A from h3]
    rfl
  have h5 : ((putL cs S (a + Y.length)).drop (a + Y.length)).take S.length = S := by
    unfold putL
    rw [List.append_assoc, List.drop_left' (by simp; omega), List.take_left' rfl]
  rw [h4, List.append_assoc, List.take_append, List.take_of_length_le (by omega), hal, show a + Y.length + S.length - a = Y.length + S.length by omega, List.take_append, List.take_of_length_le (by omega), show Y.length + S.length - Y.length = S.length by omega, h5]
/-- Cells of a block that is known. -/
theorem RawC.cell {e g o : Nat} {cs : List Value} {O : Nat → Prop} {w : World} (h : (RawC e g cs).p O w) {j : Nat} {u : Value} (hu : cs[o + j]? = some u) : w.cell? ((⟨g, o, none⟩ : Addr).add j) = some u := by
  rw [Addr.add_mid]
  have : w.cell? ⟨g, o + j, none⟩ = cs.toArray[o + j]? := by simp [World.cell?, h.1]
  rw [this]; simpa using hu
theorem Cel.cells {k : Nat} {xs : List Value} (h : Cel k xs) : ∀ u ∈ cellsOf xs, u.oneCell' = true := fun u hu => by
  unfold cellsOf at hu
  rw [List.mem_flatten] at hu
  obtain ⟨l', h1, h2⟩ := hu
  obtain ⟨y, hy, rfl⟩ := List.mem_map.1 h1
  exact (h y hy).2 u h2
namespace Ord
variable {W0 : World} {X : Nat → Prop} {R C : List Ch}
theorem ovl (g1 o1 l1 c1 g2 o2 l2 c2 : Nat) (w : World) : (callFunc 75 #[.slice (some ⟨g1, o1, none⟩) l1 c1, .slice (some ⟨g2, o2, none⟩) l2 c2]).run Try.prog w = ((Extern.SlicesOverlaps.overlaps #[85, 85] #[4] #[.slice (some ⟨g1, o1, none⟩) l1 c1, .slice (some ⟨g2, o2, none⟩) l2 c2]).run Try.prog w).andThen fun v w => .ok (.value v) w := by
  rw [run_callFunc_extern Try.func75 (by kernel_rfl) (by kernel_rfl) (by kernel_rfl) (e := Extern.SlicesOverlaps.overlaps #[85, 85] #[4]) (by kernel_rfl)]
set_option maxRecDepth 100000 in
set_option maxHeartbeats 4000000 in
theorem insert_ct (s : Value) (hs : IsSl s) (xs : List Value) (hx : Cel 2 xs) (y : Value) (hy : Cel 2 [y]) (vb : Nat) (i : Nat) (hi : i ≤ xs.length) (hm : xs.length ≤ 1000000000) :
    Ct Try.prog 57 [s, .int .i64 (i : Int), .slice (some ⟨vb, 0, none⟩) 1 1] W0 X R (RowC 93 2 s xs :: RowC 93 2 (.slice (some ⟨vb, 0, none⟩) 1 1) [y] :: C) SV (fun u => u.1) (fun _ => R) (fun u => RowC 93 2 u.1 (xs.take i ++ y :: xs.drop i) :: C) := by
  intro w hw
  have hF := isWide_wide
  obtain ⟨sa, sn, sc, rfl⟩ := hs
  have hl1 : xs.length + 1 ≤ maxLen := by unfold maxLen; omega
  have hl2 : (xs.length + 1) * 16 ≤ 140737488355328 := by omega
  by_cases hin : i = xs.length
  · subst hin
    rw [List.take_length, List.drop_length]
    refine calls_nx Try.func57 rfl Try.ntmps57 rfl ?_ hw
    refine nx_len (e := 93) (k := 2) (xs := xs) (i := sn) (by exact a_mem) (fun hlen => ?_)
    subst hlen
    repeat' (first
    | ((first | with_reducible refine nl_op rfl ?_ | refine nd_go rfl rfl rfl ?_); intro K hK; (first
      | ((first | refine on_E hF rfl rfl ?_ | refine od_E rfl rfl ?_ | refine od_R rfl rfl ?_); (first | refine ⟨_, yl_slice_lk (i := xs.length) 2 rfl rfl rfl (by kernel_rfl) (Nat.le_refl _), ?_⟩ | refine ⟨_, a_yl, ?_⟩))
      | ((first | refine on_Ec hF rfl rfl ?_ | refine od_Ec rfl rfl ?_); refine ⟨_, _, _, a_yc, ?_, ?_⟩ <;> (intro hc; try (exfalso; first | (omega; done) | exact absurd (by with_reducible rfl) hc | (simp at hc; done))))
      | ((first | (refine od_act (fun c => by exact (fun h => by cases h)) ?_; intro K2 hK2) | refine od_last (fun c => by exact (fun h => by cases h)) ?_ | skip); (first
      | (refine on_append (e := 93) (k := 2) (by_ := 16) (xs := xs) (ys := [y]) hF rfl rfl rfl rfl rfl a_pick (by kernel_rfl) a_sl hy hl1 hl2 (fun u => ?_))
      | (refine on_append (T := 85) (e := 93) (k := 2) (by_ := 16) hF rfl rfl rfl rfl rfl a_pick (by kernel_rfl) a_sl a_cel (by first | omega | (unfold maxLen; simp only [List.length_map, List.length_append, List.length_cons, List.length_nil, List.length_replicate]; omega) | (simp only [List.length_map, List.length_append, List.length_cons, List.length_nil, List.length_replicate]; omega)) (by first | omega | (unfold maxLen; simp only [List.length_map, List.length_append, List.length_cons, List.length_nil, List.length_replicate]; omega) | (simp only [List.length_map, List.length_append, List.length_cons, List.length_nil, List.length_replicate]; omega)) (fun v => ?_))
      
      | (refine on_box hF rfl rfl rfl rfl (fun B => ?_))
      | (refine on_store hF rfl rfl rfl rfl a_turn a_vof (by first | rfl | exact hsz.symm | exact hsz) ?_)
      | (refine on_storeE hF rfl rfl rfl rfl a_turn (by (first | omega | (simp only [List.length_append, List.length_cons, List.length_nil, List.length_map] at *; omega))) a_vof (by first | rfl | exact hsz) ?_)
      | (refine on_storeEF hF rfl rfl rfl rfl a_turn (by first | with_reducible assumption | rfl) (by decide) a_vof rfl ?_)
      | (refine on_storeF hF rfl rfl rfl rfl a_turn (by decide) a_vof rfl ?_)) <;> try (refine hK2 _ _ _ a_allK ?_; clear hK2 K2))) <;> (refine hK _ _ _ ?_; clear hK K))
    | with_reducible refine nx_seq ?_
        | with_reducible refine nx_region ?_
        | with_reducible refine nl_nil ?_
        | with_reducible refine nq_then_n ?_
        | with_reducible refine nx_block ?_
        | with_reducible refine nx_skip ?_
        | with_reducible refine nx_exit ?_
        | with_reducible refine nx_ret ?_
        | with_reducible refine nq_then_x ?_
        | with_reducible refine nq_then_r ?_
        | with_reducible refine nq_blk_n ?_
        | with_reducible refine nq_blk_r ?_
        | with_reducible refine nq_blk_hit ?_
        | with_reducible refine nq_blk_miss rfl ?_
        | with_reducible refine nd_nil ?_
    | refine nx_cond_t rfl ?_ | refine nx_cond_f rfl ?_
    | refine nl_pass hF rfl rfl rfl ?_
    | refine nd_pass rfl rfl rfl rfl rfl ?_
    | refine nd_pass2 rfl rfl rfl (fun c => by exact (fun h => by cases h)) a_allK rfl rfl ?_
    | refine nd_pass3 rfl rfl rfl (fun c => by exact (fun h => by cases h)) rfl rfl ?_
    | (with_reducible refine hQ1 _ _ _ ?_; clear hQ1 Q1)
    | (refine nd_region (id := 11) hF [0, 0, 0, 0, 0, 0, 0, 0, 2] [0, 1, 2, 3, 4, 5, 6, 7, 8] _ _ (by kernel_rfl) (by kernel_rfl) sub2_same ?_; intro Q1 hQ1)
    | (refine nd_region (id := 15) hF [0, 0, 0, 0, 0, 0, 0, 0, 2] [0, 1, 2, 3, 4, 5, 6, 7, 8] _ _ (by kernel_rfl) (by kernel_rfl) sub2_same ?_; intro Q1 hQ1))
    all_goals (try (exfalso; dsimp only at *; omega))
    refine nx_end [] rfl u (fun a w ha hw => res_tmp Try.results57 rfl ha) (by exact a_subR) (by exact a_holds2)
  · have hlt : i < xs.length := by omega
    refine calls_nx Try.func57 rfl Try.ntmps57 rfl ?_ hw
    refine nx_len (e := 93) (k := 2) (xs := xs) (i := sn) (by exact a_mem) (fun hlen => ?_)
    subst hlen
    refine nx_fact (φ := ∃ g, sa = some ⟨g, 0, none⟩) (fun w hw => by
      obtain ⟨O, h⟩ := hw.hasC (c := RowC 93 2 (.slice sa xs.length sc) xs) (by exact a_mem)
      obtain ⟨g, c, e, _⟩ := RowC.len0 h (by omega)
      injection e with e1
      exact ⟨g, e1⟩) (fun h => ?_)
    obtain ⟨g, rfl⟩ := h
    refine nx_raw (Pick.there Pick.here) (fun vc hv1 hv2 hv3 hv4 hv5 => ?_)
    refine nx_raw (Pick.there Pick.here) (fun cs _ hnc hcm hcl hct => ?_)
    refine nx_fact (φ := g ≠ vb) (fun w hw => RawC.two hw) (fun hne => ?_)
    obtain ⟨Y, hY⟩ : ∃ Y, (cv y).toList = Y := ⟨_, rfl⟩
    have hYl : Y.length = 2 := by rw [← hY]; simpa using (hy y (by simp)).1
    have hY1 : ∀ u ∈ Y, u.oneCell' = true := by rw [← hY]; exact (hy y (by simp)).2
    obtain rfl : Y = vc := by
      rw [List.take_of_length_le (by omega)] at hv5
      rw [hv5, ← hY]; simp [cellsOf]
    have hxs : ∀ x ∈ xs, (cv x).size = 2 := fun x h => (hx x h).1
    have hcx : (cellsOf xs).length = xs.length * 2 := cellsOf_len hxs
    have hcells := ins_cells (y := y) (i := i) hxs
    rw [hY] at hcells
    obtain ⟨S, hS⟩ : ∃ S, (cellsOf xs).drop (i * 2) = S := ⟨_, rfl⟩
    obtain ⟨A, hA⟩ : ∃ A, (cellsOf xs).take (i * 2) = A := ⟨_, rfl⟩
    rw [hS, hA] at hcells
    have hSl : S.length = (xs.length - i) * 2 := by rw [← hS, List.length_drop, hcx]; omega
    have hAl : A.length = i * 2 := by rw [← hA, List.length_take, hcx]; omega
    have hS1 : ∀ u ∈ S, u.oneCell' = true := fun u hu => hx.cells u (List.mem_of_mem_drop (by rw [hS]; exact hu))
    have hScs : ∀ j u, S[j]? = some u → cs[i * 2 + j]? = some u := fun j u hu => by
      have hj : j < S.length := (List.getElem?_eq_some_iff.1 hu).1
      rw [← hS, List.getElem?_drop, ← hct, List.getElem?_take, if_pos (by omega)] at hu
      exact hu
    have hAcs : cs.take (i * 2) = A := by rw [← hA, ← hct, List.take_take, Nat.min_eq_left (by omega)]
    have hAcs2 : ∀ j u, A[j]? = some u → cs[0 + j]? = some u := fun j u hu => by
      rw [← hAcs, List.getElem?_take] at hu
      split at hu
      · rw [Nat.zero_add]; exact hu
      · cases hu
    obtain ⟨xs', hxs'⟩ : ∃ xs', xs.take i ++ y :: xs.drop i = xs' := ⟨_, rfl⟩
    rw [hxs'] at hcells ⊢
    have hl' : xs'.length = xs.length + 1 := by rw [← hxs']; simp; omega
    have hk' : ∀ x ∈ xs', (cv x).size = 2 := fun x h => by
      rw [← hxs'] at h
      rcases List.mem_append.1 h with h | h
      · exact hxs x (List.mem_of_mem_take h)
      · rcases List.mem_cons.1 h with rfl | h
        · exact (hy x (by simp)).1
        · exact hxs x (List.mem_of_mem_drop h)
    have hz1 : (xs.length : Int) + ((1 : Nat) : Int) - (i : Int) = ((xs.length + 1 - i : Nat) : Int) := by omega
    have hz2 : (xs.length : Int) + ((1 : Nat) : Int) = ((xs.length + 1 : Nat) : Int) := by omega
    have hz3 : (i : Int) + ((1 : Nat) : Int) = ((i + 1 : Nat) : Int) := by omega
    have hq0 : Nat.min 1 (xs.length + 1 - i) = 1 := by show min _ _ = _; omega
    have hq1 : Nat.min (xs.length - i) (xs.length + 1 - (i + 1)) = xs.length - i := by show min _ _ = _; omega
    have hq2 : Nat.min (xs.length + 1 - i) (xs.length + 1 - (i + 1)) = xs.length - i := by show min _ _ = _; omega
    clear hxs' hS hA hxs
    by_cases hroom : xs.length + 1 ≤ sc
    · have hov := ovl vb 0 1 1 g (0 + (i + 1) * 2) (xs.length + 1 - (i + 1)) (sc - (i + 1))
      repeat' (first
    | ((first | with_reducible refine nl_op rfl ?_ | refine nd_go rfl rfl rfl ?_); intro K hK; (first
      | ((first | refine on_E hF rfl rfl ?_ | refine od_E rfl rfl ?_ | refine od_R rfl rfl ?_); (first | refine ⟨_, yl_cap_s rfl rfl (by kernel_rfl), ?_⟩ | refine ⟨_, yl_addZ hz2 (by omega) rfl rfl rfl, ?_⟩ | refine ⟨_, yl_addZ hz3 (by omega) rfl rfl rfl, ?_⟩ | refine ⟨_, yl_slice_ln 2 rfl rfl rfl (by kernel_rfl) (by omega) (by omega), ?_⟩ | refine ⟨_, yl_slice_hk 2 rfl rfl rfl (by kernel_rfl) (by omega), ?_⟩ | refine ⟨_, a_yl, ?_⟩))
      | ((first | refine on_Ec hF rfl rfl ?_ | refine od_Ec rfl rfl ?_); refine ⟨_, _, _, a_yc, ?_, ?_⟩ <;> (intro hc; try (exfalso; first | (omega; done) | exact absurd (by with_reducible rfl) hc | (simp at hc; done))))
      | ((first | (refine od_act (fun c => by exact (fun h => by cases h)) ?_; intro K2 hK2) | refine od_last (fun c => by exact (fun h => by cases h)) ?_ | skip); (first
      | (refine on_overlaps (T := 85) (Tb := 4) (e1 := 93) (e2 := 93) (k := 2) (z1 := []) (z2 := []) hF rfl rfl rfl rfl hov (by kernel_rfl) (fun w hw => by
          obtain ⟨O1, h1⟩ := hw.hasC (c := RawC 93 vb Y) (by exact a_mem)
          obtain ⟨O2, h2⟩ := hw.hasC (c := RawC 93 g cs) (by exact a_mem)
          exact ⟨fun e => hne e.symm, _, _, h1.1, h2.1, by rw [List.size_toArray, hcl]; omega⟩) ?_)
      | (refine on_copyk (e := 93) (k := 2) (q := xs.length - i) (cs := S) hF rfl rfl rfl rfl rfl (by kernel_rfl) a_turn hq2.symm hSl (by first | omega | (rw [putL_len (by omega)]; omega)) (fun w hw j u hu => by
          obtain ⟨O, h⟩ := hw.hasC (c := RawC 93 g cs) (by exact a_mem)
          exact RawC.cell h (by rw [Nat.zero_add]; exact hScs j u hu)) hS1 ?_)
      | (refine on_copyk (e := 93) (k := 2) (q := 1) (cs := Y) hF rfl rfl rfl rfl rfl (by kernel_rfl) a_turn hq0.symm (by omega) (by first | omega | (rw [putL_len (by omega)]; omega)) (fun w hw j u hu => by
          obtain ⟨O, h⟩ := hw.hasC (c := RawC 93 vb Y) (by exact a_mem)
          exact RawC.cell h (by rw [Nat.zero_add]; exact hu)) hY1 ?_)
      | (refine on_append (T := 85) (e := 93) (k := 2) (by_ := 16) hF rfl rfl rfl rfl rfl a_pick (by kernel_rfl) a_sl a_cel (by first | omega | (unfold maxLen; simp only [List.length_map, List.length_append, List.length_cons, List.length_nil, List.length_replicate]; omega) | (simp only [List.length_map, List.length_append, List.length_cons, List.length_nil, List.length_replicate]; omega)) (by first | omega | (unfold maxLen; simp only [List.length_map, List.length_append, List.length_cons, List.length_nil, List.length_replicate]; omega) | (simp only [List.length_map, List.length_append, List.length_cons, List.length_nil, List.length_replicate]; omega)) (fun v => ?_))
      
      | (refine on_box hF rfl rfl rfl rfl (fun B => ?_))
      | (refine on_store hF rfl rfl rfl rfl a_turn a_vof (by first | rfl | exact hsz.symm | exact hsz) ?_)
      | (refine on_storeE hF rfl rfl rfl rfl a_turn (by (first | omega | (simp only [List.length_append, List.length_cons, List.length_nil, List.length_map] at *; omega))) a_vof (by first | rfl | exact hsz) ?_)
      | (refine on_storeEF hF rfl rfl rfl rfl a_turn (by first | with_reducible assumption | rfl) (by decide) a_vof rfl ?_)
      | (refine on_storeF hF rfl rfl rfl rfl a_turn (by decide) a_vof rfl ?_)) <;> try (refine hK2 _ _ _ a_allK ?_; clear hK2 K2))) <;> (refine hK _ _ _ ?_; clear hK K))
    | with_reducible refine nx_seq ?_
        | with_reducible refine nx_region ?_
        | with_reducible refine nl_nil ?_
        | with_reducible refine nq_then_n ?_
        | with_reducible refine nx_block ?_
        | with_reducible refine nx_skip ?_
        | with_reducible refine nx_exit ?_
        | with_reducible refine nx_ret ?_
        | with_reducible refine nq_then_x ?_
        | with_reducible refine nq_then_r ?_
        | with_reducible refine nq_blk_n ?_
        | with_reducible refine nq_blk_r ?_
        | with_reducible refine nq_blk_hit ?_
        | with_reducible refine nq_blk_miss rfl ?_
        | with_reducible refine nd_nil ?_
    | refine nx_cond_t rfl ?_ | refine nx_cond_f rfl ?_
    | refine nl_pass hF rfl rfl rfl ?_
    | refine nd_pass rfl rfl rfl rfl rfl ?_
    | refine nd_pass2 rfl rfl rfl (fun c => by exact (fun h => by cases h)) a_allK rfl rfl ?_
    | refine nd_pass3 rfl rfl rfl (fun c => by exact (fun h => by cases h)) rfl rfl ?_
    | (with_reducible refine hQ1 _ _ _ ?_; clear hQ1 Q1)
    | (refine nd_region (id := 11) hF [0, 0, 0, 0, 0, 0, 0, 0, 2] [0, 1, 2, 3, 4, 5, 6, 7, 8] _ _ (by kernel_rfl) (by kernel_rfl) sub2_same ?_; intro Q1 hQ1)
    | (refine nd_region (id := 15) hF [0, 0, 0, 0, 0, 0, 0, 0, 2] [0, 1, 2, 3, 4, 5, 6, 7, 8] [] _ (by kernel_rfl) (by kernel_rfl) (sub2_mk (fun c h => by cases h) (fun c h => h)) ?_; intro Q1 hQ1))
      all_goals (try (exfalso; dsimp only at *; omega))
      have he1 : 0 + (i + 1) * 2 = 0 + i * 2 + Y.length := by omega
      have he2 : xs'.length * 2 = 0 + i * 2 + Y.length + S.length := by omega
      rw [he1]
      refine nx_row (k := 2) (c := sc) (xs := xs') (by exact a_pick) (by omega) (by omega) (by rw [putL_len (by rw [putL_len (by omega)]; omega), putL_len (by omega)]; omega) (by rw [he2, hcells]; exact ins_room (by rw [Nat.zero_add]; exact hAcs) (by omega) (by omega)) hk' ?_
      rw [hl']
      refine nx_end [] rfl ((⟨.slice (some ⟨g, 0, none⟩) (xs.length + 1) sc, _, _, _, rfl⟩ : SV)) (fun a w ha hw => res_tmp Try.results57 rfl ha) (by exact a_subR) (by exact a_holds2)
    · have hno : sc < i + (xs.length + 1 - i) := by omega
      have hN : i + (xs.length + 1 - i) = xs.length + 1 := by omega
      repeat' (first
    | ((first | with_reducible refine nl_op rfl ?_ | refine nd_go rfl rfl rfl ?_); intro K hK; (first
      | ((first | refine on_E hF rfl rfl ?_ | refine od_E rfl rfl ?_ | refine od_R rfl rfl ?_); (first | refine ⟨_, yl_cap_s rfl rfl (by kernel_rfl), ?_⟩ | refine ⟨_, yl_subZ hz1 (by omega) rfl rfl rfl, ?_⟩ | refine ⟨_, yl_addZ hz3 (by omega) rfl rfl rfl, ?_⟩ | refine ⟨_, yl_slice_ln 2 rfl rfl rfl (by kernel_rfl) (by omega) (by omega), ?_⟩ | refine ⟨_, yl_slice_hk 2 rfl rfl rfl (by kernel_rfl) (by omega), ?_⟩ | refine ⟨_, a_yl, ?_⟩))
      | ((first | refine on_Ec hF rfl rfl ?_ | refine od_Ec rfl rfl ?_); refine ⟨_, _, _, a_yc, ?_, ?_⟩ <;> (intro hc; try (exfalso; first | (omega; done) | exact absurd (by with_reducible rfl) hc | (simp at hc; done))))
      | ((first | (refine od_act (fun c => by exact (fun h => by cases h)) ?_; intro K2 hK2) | refine od_last (fun c => by exact (fun h => by cases h)) ?_ | skip); (first
      | (refine on_appendZ (e := 93) (k := 2) (by_ := 16) (olds := A) hF rfl rfl rfl rfl rfl (by kernel_rfl) (by kernel_rfl) (by omega) hno hAl (fun w hw j u hu => by
          obtain ⟨O, h⟩ := hw.hasC (c := RawC 93 g cs) (by exact a_mem)
          exact RawC.cell h (hAcs2 j u hu)) hN hl1 hl2 (fun nb nc zs hz4 hz5 hz6 hz7 => ?_))
      | (refine on_copyk (e := 93) (k := 2) (q := 1) (cs := Y) hF rfl rfl rfl rfl rfl (by kernel_rfl) a_turn hq0.symm (by omega) (by first | omega | (rw [putL_len (by omega)]; omega)) (fun w hw j u hu => by
          obtain ⟨O, h⟩ := hw.hasC (c := RawC 93 vb Y) (by exact a_mem)
          exact RawC.cell h (by rw [Nat.zero_add]; exact hu)) hY1 ?_)
      | (refine on_copyk (e := 93) (k := 2) (q := xs.length - i) (cs := S) hF rfl rfl rfl rfl rfl (by kernel_rfl) a_turn hq1.symm hSl (by first | omega | (rw [putL_len (by omega)]; omega)) (fun w hw j u hu => by
          obtain ⟨O, h⟩ := hw.hasC (c := RawC 93 g cs) (by exact a_mem)
          exact RawC.cell h (by rw [Nat.zero_add]; exact hScs j u hu)) hS1 ?_)
      | (refine on_append (T := 85) (e := 93) (k := 2) (by_ := 16) hF rfl rfl rfl rfl rfl a_pick (by kernel_rfl) a_sl a_cel (by first | omega | (unfold maxLen; simp only [List.length_map, List.length_append, List.length_cons, List.length_nil, List.length_replicate]; omega) | (simp only [List.length_map, List.length_append, List.length_cons, List.length_nil, List.length_replicate]; omega)) (by first | omega | (unfold maxLen; simp only [List.length_map, List.length_append, List.length_cons, List.length_nil, List.length_replicate]; omega) | (simp only [List.length_map, List.length_append, List.length_cons, List.length_nil, List.length_replicate]; omega)) (fun v => ?_))
      
      | (refine on_box hF rfl rfl rfl rfl (fun B => ?_))
      | (refine on_store hF rfl rfl rfl rfl a_turn a_vof (by first | rfl | exact hsz.symm | exact hsz) ?_)
      | (refine on_storeE hF rfl rfl rfl rfl a_turn (by (first | omega | (simp only [List.length_append, List.length_cons, List.length_nil, List.length_map] at *; omega))) a_vof (by first | rfl | exact hsz) ?_)
      | (refine on_storeEF hF rfl rfl rfl rfl a_turn (by first | with_reducible assumption | rfl) (by decide) a_vof rfl ?_)
      | (refine on_storeF hF rfl rfl rfl rfl a_turn (by decide) a_vof rfl ?_)) <;> try (refine hK2 _ _ _ a_allK ?_; clear hK2 K2))) <;> (refine hK _ _ _ ?_; clear hK K))
    | with_reducible refine nx_seq ?_
        | with_reducible refine nx_region ?_
        | with_reducible refine nl_nil ?_
        | with_reducible refine nq_then_n ?_
        | with_reducible refine nx_block ?_
        | with_reducible refine nx_skip ?_
        | with_reducible refine nx_exit ?_
        | with_reducible refine nx_ret ?_
        | with_reducible refine nq_then_x ?_
        | with_reducible refine nq_then_r ?_
        | with_reducible refine nq_blk_n ?_
        | with_reducible refine nq_blk_r ?_
        | with_reducible refine nq_blk_hit ?_
        | with_reducible refine nq_blk_miss rfl ?_
        | with_reducible refine nd_nil ?_
    | refine nx_cond_t rfl ?_ | refine nx_cond_f rfl ?_
    | refine nl_pass hF rfl rfl rfl ?_
    | refine nd_pass rfl rfl rfl rfl rfl ?_
    | refine nd_pass2 rfl rfl rfl (fun c => by exact (fun h => by cases h)) a_allK rfl rfl ?_
    | refine nd_pass3 rfl rfl rfl (fun c => by exact (fun h => by cases h)) rfl rfl ?_
    | (with_reducible refine hQ1 _ _ _ ?_; clear hQ1 Q1)
    | (refine nd_region (id := 11) hF [0, 0, 0, 0, 0, 0, 0, 0, 2] [0, 1, 2, 3, 4, 5, 6, 7, 8] [] _ (by kernel_rfl) (by kernel_rfl) (sub2_mk (fun c h => by cases h) (fun c h => h)) ?_; intro Q1 hQ1)
    | (refine nd_region (id := 15) hF [0, 0, 0, 0, 0, 0, 0, 0, 2] [0, 1, 2, 3, 4, 5, 6, 7, 8] _ _ (by kernel_rfl) (by kernel_rfl) sub2_same ?_; intro Q1 hQ1))
      all_goals (try (exfalso; dsimp only at *; omega))
      have he1 : 0 + (i + 1) * 2 = 0 + i * 2 + Y.length := by omega
      have he2 : xs'.length * 2 = 0 + i * 2 + Y.length + S.length := by omega
      rw [he1]
      refine nx_row (k := 2) (c := nc) (xs := xs') (by exact a_pick) (by omega) (by omega) (by rw [putL_len (by rw [putL_len (by omega)]; omega), putL_len (by omega)]; omega) (by rw [he2, hcells]; exact ins_grow (by rw [Nat.zero_add]; exact hz7) (by omega) (by omega)) hk' ?_
      rw [hl']
      refine nx_end [] rfl ((⟨.slice (some ⟨nb, 0, none⟩) (xs.length + 1) nc, _, _, _, rfl⟩ : SV)) (fun a w ha hw => res_tmp Try.results57 rfl ha) (by exact a_subR) (by exact a_holds2)
end Ord
end Go.Proofs.Ytinofjenoapeaaa
end

section
namespace Go.Proofs.Ytinofjenoapeaaa
open Go.RowKit Go.Shelf
set_option linter.unusedSimpArgs false
set_option linter.unusedVariables false
theorem yl_shr1 {P : Program} {G : World → Prop} {n : Nat} {l : List (Nat × Value)} {d : List Deferred} {o : Oper} {T T2 : TypeId} {x y : Operand} {i z : Int} (hz : i / 2 = z) (ho : o.op = .binOp .shr T x y T2) (hx : ev l x = some (.int .u64 i)) (hy : ev l y = some (.int .u64 1)) : Yl P G n l d o (.int .u64 z) := by
  subst hz
  exact yl_int ho hx hy (fun w => by
    have := shift_shr_u64 (x := i) (y := 1) (yk := .u64) (by omega) (by omega)
    rw [binOp_shr, this]; rfl)
/-- Rising lists of the same numbers are the same. -/
theorem lt_same : ∀ (a b : List Int), a.Pairwise (· < ·) → b.Pairwise (· < ·) → (∀ x, x ∈ a ↔ x ∈ b) → a = b
  | [], [], _, _, _ => rfl
  | [], y :: b, _, _, h => by have := (h y).2 (by simp); simp at this
  | x :: a, [], _, _, h => by have := (h x).1 (by simp); simp at this
  | x :: a, y :: b, ha, hb, h => by
    obtain ⟨ha1, ha2⟩ := List.pairwise_cons.1 ha
    obtain ⟨hb1, hb2⟩ := List.pairwise_cons.1 hb
    have hxy : x = y := by
      rcases List.mem_cons.1 ((h x).1 (by simp)) with h1 | h1
      · exact h1
      · rcases List.mem_cons.1 ((h y).2 (by simp)) with h2 | h2
        · exact h2.symm
        · have := hb1 x h1; have := ha1 y h2; omega
    subst hxy
    rw [lt_same a b ha2 hb2 (fun z => ⟨fun hz => ?_, fun hz => ?_⟩)]
    · rcases List.mem_cons.1 ((h z).1 (List.mem_cons_of_mem _ hz)) with h1 | h1
      · have := ha1 z hz; omega
      · exact h1
    · rcases List.mem_cons.1 ((h z).2 (List.mem_cons_of_mem _ hz)) with h1 | h1
      · have := hb1 z hz; omega
      · exact h1
namespace Ord
variable {W0 : World} {X : Nat → Prop} {R C : List Ch}
abbrev pv (k : Int) : Value := .agg #[.int .i64 k, .bool true]
theorem vofPv (k : Int) : VOf Try.prog 93 (pv k) := vofk (by kernel_rfl) rfl rfl
theorem celPv (ks : List Int) : Cel 2 (ks.map pv) := Cel.of (P := Try.prog) (T := 93) (fun y hy => by obtain ⟨i, _, rfl⟩ := List.mem_map.1 hy; exact vofPv i) (by kernel_rfl)
/-- How many keys are below one. -/
def lowI (ks : List Int) (k : Int) : Nat := (ks.filter fun x => decide (x < k)).length
structure LowI (ks : List Int) (k : Int) (i : Nat) : Prop where
  le : i ≤ ks.length
  lt : ∀ j x, j < i → ks[j]? = some x → x < k
  ge : ∀ j x, i ≤ j → ks[j]? = some x → k ≤ x
theorem LowI.take {ks : List Int} {k : Int} {i : Nat} (h : LowI ks k i) : ∀ x ∈ ks.take i, x < k := fun x hx => by
  obtain ⟨j, hj⟩ := List.mem_iff_getElem?.1 hx
  rw [List.getElem?_take] at hj
  split at hj
  · exact h.lt j x (by assumption) hj
  · cases hj
theorem LowI.drop {ks : List Int} {k : Int} {i : Nat} (h : LowI ks k i) : ∀ x ∈ ks.drop i, k ≤ x := fun x hx => by
  obtain ⟨j, hj⟩ := List.mem_iff_getElem?.1 hx
  rw [List.getElem?_drop] at hj
  exact h.ge (i + j) x (by omega) hj
theorem LowI.eq {ks : List Int} {k : Int} {i : Nat} (h : LowI ks k i) : lowI ks k = i := by
  unfold lowI
  conv => lhs; rw [← List.take_append_drop i ks]
  rw [List.filter_append, List.filter_eq_self.2 (fun x hx => by simpa using h.take x hx), List.filter_eq_nil_iff.2 (fun x hx => by have := h.drop x hx; simp; omega), List.append_nil, List.length_take]
  exact Nat.min_eq_left h.le
theorem lt_at {ks : List Int} (hks : ks.Pairwise (· < ·)) {i j : Nat} {x y : Int} (hij : i < j) (hx : ks[i]? = some x) (hy : ks[j]? = some y) : x < y := by
  obtain ⟨h1, rfl⟩ := List.getElem?_eq_some_iff.1 hx
  obtain ⟨h2, rfl⟩ := List.getElem?_eq_some_iff.1 hy
  exact List.pairwise_iff_getElem.1 hks i j h1 h2 hij
theorem LowI.mem {ks : List Int} (hks : ks.Pairwise (· < ·)) {k : Int} {i : Nat} (h : LowI ks k i) {x : Int} (hx : ks[i]? = some x) : k ∈ ks ↔ x = k := by
  refine ⟨fun hk => ?_, fun e => by rw [← e]; exact List.mem_of_getElem? hx⟩
  obtain ⟨j, hj⟩ := List.mem_iff_getElem?.1 hk
  have h1 : ¬ j < i := fun hl => by have := h.lt j k hl hj; omega
  have h2 := h.ge i x (Nat.le_refl _) hx
  rcases Nat.lt_or_ge i j with h3 | h3
  · have := lt_at hks h3 hx hj; omega
  · obtain rfl : j = i := by omega
    rw [hx] at hj; injection hj
theorem LowI.none {ks : List Int} {k : Int} (h : LowI ks k ks.length) : ¬ k ∈ ks := fun hk => by
  have := h.take k (by rw [List.take_length]; exact hk)
  omega
/-- A key put among others. -/
theorem put_eq {zs : List Int} {k : Int} {i : Nat} (h : LowI (Sc.upr zs) k i) (hk : ¬ k ∈ Sc.upr zs) : (Sc.upr zs).take i ++ k :: (Sc.upr zs).drop i = Sc.upr (zs ++ [k]) := by
  refine lt_same _ _ ?_ (Sc.upr_lt _) (fun x => ?_)
  · have hs := Sc.upr_lt zs
    rw [List.pairwise_append]
    refine ⟨hs.sublist (List.take_sublist _ _), ?_, ?_⟩
    · rw [List.pairwise_cons]
      refine ⟨fun x hx => ?_, hs.sublist (List.drop_sublist _ _)⟩
      have h1 := h.drop x hx
      have h2 : x ≠ k := fun e => hk (e ▸ List.mem_of_mem_drop hx)
      omega
    · intro x hx y hy
      have h1 := h.take x hx
      rcases List.mem_cons.1 hy with rfl | hy
      · exact h1
      · have := h.drop y hy; omega
  · rw [Sc.mem_upr, List.mem_append, List.mem_append, List.mem_cons, List.mem_singleton, ← Sc.mem_upr zs]
    conv => rhs; rw [← List.take_append_drop i (Sc.upr zs)]
    rw [List.mem_append]
    constructor
    · rintro (h | rfl | h) <;> simp_all
    · rintro ((h | h) | rfl) <;> simp_all
theorem put_has {zs : List Int} {k : Int} (hk : k ∈ Sc.upr zs) : Sc.upr zs = Sc.upr (zs ++ [k]) := by
  refine lt_same _ _ (Sc.upr_lt _) (Sc.upr_lt _) (fun x => ?_)
  rw [Sc.mem_upr] at hk
  rw [Sc.mem_upr, Sc.mem_upr, List.mem_append, List.mem_singleton]
  exact ⟨.inl, fun h => h.elim id (fun e => e ▸ hk)⟩
theorem cmp_ct (x y : Int) : Ct Try.prog 74 [.int .i64 x, .int .i64 y] W0 X R C Unit (fun _ => .int .i64 (Lib.compareInt x y)) (fun _ => R) (fun _ => C) := fun w hw =>
  (Try.cmp_Compare_int x y w).mono fun e w' ⟨h1, h2⟩ => ⟨(), h1, by subst h2; exact hw⟩
theorem cmp1_ct (k t : Int) : Ct Try.prog 73 [pv k, .int .i64 t] W0 X R C Unit (fun _ => .int .i64 (Lib.compareInt k t)) (fun _ => R) (fun _ => C) := by
  intro w hw
  have hF := isWide_wide
  have hvp := vofPv k
  obtain ⟨z, hz⟩ : ∃ z, Lib.compareInt k t = z := ⟨_, rfl⟩
  have cc := fun (W0 : World) (X : Nat → Prop) (R C : List Ch) => cmp_ct (W0 := W0) (X := X) (R := R) (C := C) k t
  rw [hz] at cc ⊢
  refine calls_nx Try.func73 rfl Try.ntmps73 rfl ?_ hw
  repeat' (first
    | ((first | with_reducible refine nl_op rfl ?_ | refine nd_go rfl rfl rfl ?_); intro K hK; (first
      | ((first | refine on_E hF rfl rfl ?_ | refine od_E rfl rfl ?_ | refine od_R rfl rfl ?_); (first | refine ⟨_, a_yl, ?_⟩ | refine ⟨_, yl_fieldB (T := 93) (f := 0) (q := 0) rfl rfl (by kernel_rfl), ?_⟩ | refine ⟨_, yl_fieldE (T := 93) (f := 0) (j := 0) rfl rfl a_sl (by (first | omega | (simp only [List.length_append, List.length_cons, List.length_nil, List.length_map] at *; omega))) (by kernel_rfl), ?_⟩))
      | ((first | refine on_Ec hF rfl rfl ?_ | refine od_Ec rfl rfl ?_); refine ⟨_, _, _, a_yc, ?_, ?_⟩ <;> (intro hc; try (exfalso; first | (omega; done) | exact absurd (by with_reducible rfl) hc | (simp at hc; done))))
      | ((first | (refine od_act (fun c => by exact (fun h => by cases h)) ?_; intro K2 hK2) | refine od_last (fun c => by exact (fun h => by cases h)) ?_ | skip); (first
      | (refine on_callG hF (enters_of Try.func74 (by kernel_rfl) rfl) rfl rfl rfl rfl (cc _ _ _ _) (fun _ => ?_))
      
      
      | (refine on_box hF rfl rfl rfl rfl (fun B => ?_))
      | (refine on_store hF rfl rfl rfl rfl a_turn a_vof (by first | rfl | exact hsz.symm | exact hsz) ?_)
      | (refine on_storeE hF rfl rfl rfl rfl a_turn (by (first | omega | (simp only [List.length_append, List.length_cons, List.length_nil, List.length_map] at *; omega))) a_vof (by first | rfl | exact hsz) ?_)
      | (refine on_storeEF hF rfl rfl rfl rfl a_turn (by first | with_reducible assumption | rfl) (by decide) a_vof rfl ?_)
      | (refine on_storeF hF rfl rfl rfl rfl a_turn (by decide) a_vof rfl ?_)) <;> try (refine hK2 _ _ _ a_allK ?_; clear hK2 K2))) <;> (refine hK _ _ _ ?_; clear hK K))
    | with_reducible refine nx_seq ?_
        | with_reducible refine nx_region ?_
        | with_reducible refine nl_nil ?_
        | with_reducible refine nq_then_n ?_
        | with_reducible refine nx_block ?_
        | with_reducible refine nx_skip ?_
        | with_reducible refine nx_exit ?_
        | with_reducible refine nx_ret ?_
        | with_reducible refine nq_then_x ?_
        | with_reducible refine nq_then_r ?_
        | with_reducible refine nq_blk_n ?_
        | with_reducible refine nq_blk_r ?_
        | with_reducible refine nq_blk_hit ?_
        | with_reducible refine nq_blk_miss rfl ?_
        | with_reducible refine nd_nil ?_
    | refine nx_cond_t rfl ?_ | refine nx_cond_f rfl ?_
    | refine nl_pass hF rfl rfl rfl ?_
    | refine nd_pass rfl rfl rfl rfl rfl ?_
    | refine nd_pass2 rfl rfl rfl (fun c => by exact (fun h => by cases h)) a_allK rfl rfl ?_
    | refine nd_pass3 rfl rfl rfl (fun c => by exact (fun h => by cases h)) rfl rfl ?_
    | (with_reducible refine hQ1 _ _ _ ?_; clear hQ1 Q1)
    )
  refine nx_end [] rfl () (fun a w ha hw => res_tmp Try.results73 rfl ha) (by exact a_subR) (by exact a_holds2)
structure BsI (ks : List Int) (k : Int) (p : Nat × Nat) : Prop where
  le : p.1 ≤ p.2
  to : p.2 ≤ ks.length
  lt : ∀ j x, j < p.1 → ks[j]? = some x → x < k
  ge : ∀ j x, p.2 ≤ j → ks[j]? = some x → k ≤ x
set_option maxRecDepth 100000 in
set_option maxHeartbeats 2000000 in
theorem bs_ct (s : Value) (hs : IsSl s) (ks : List Int) (hks : ks.Pairwise (· < ·)) (k : Int) (hsl : SlC 2 s (ks.map pv) ∈ R) (hm : ks.length ≤ 4000000000) :
    Ct Try.prog 72 [s, .int .i64 k, .func (.func 73) #[] #[]] W0 X R C Unit (fun _ => .tuple #[.int .i64 (lowI ks k : Int), .bool (decide (k ∈ ks))]) (fun _ => R) (fun _ => C) := by
  intro w hw
  have hF := isWide_wide
  obtain ⟨sa, sn, sc, rfl⟩ := hs
  obtain rfl := slLen (hw.hasR hsl)
  have hlk : (ks.map pv).length = ks.length := by simp
  obtain ⟨r, hr⟩ : ∃ r, (.tuple #[.int .i64 (lowI ks k : Int), .bool (decide (k ∈ ks))] : Value) = r := ⟨_, rfl⟩
  rw [hr]
  refine calls_nx Try.func72 rfl Try.ntmps72 rfl ?_ hw
  repeat' (first
    | ((first | with_reducible refine nl_op rfl ?_ | refine nd_go rfl rfl rfl ?_); intro K hK; (first
      | ((first | refine on_E hF rfl rfl ?_ | refine od_E rfl rfl ?_ | refine od_R rfl rfl ?_); (first | refine ⟨_, a_yl, ?_⟩ | refine ⟨_, yl_conv_u64 (S := 3) (T := 100) rfl rfl (by kernel_rfl) (by kernel_rfl) (by omega), ?_⟩ | refine ⟨_, yl_conv_i (S := 100) (T := 3) rfl rfl (by kernel_rfl) (by kernel_rfl) (by omega), ?_⟩))
      | ((first | refine on_Ec hF rfl rfl ?_ | refine od_Ec rfl rfl ?_); refine ⟨_, _, _, a_yc, ?_, ?_⟩ <;> (intro hc; try (exfalso; first | (omega; done) | exact absurd (by with_reducible rfl) hc | (simp at hc; done))))
      | ((first | (refine od_act (fun c => by exact (fun h => by cases h)) ?_; intro K2 hK2) | refine od_last (fun c => by exact (fun h => by cases h)) ?_ | skip); (first
      
      
      
      | (refine on_box hF rfl rfl rfl rfl (fun B => ?_))
      | (refine on_store hF rfl rfl rfl rfl a_turn a_vof (by first | rfl | exact hsz.symm | exact hsz) ?_)
      | (refine on_storeE hF rfl rfl rfl rfl a_turn (by (first | omega | (simp only [List.length_append, List.length_cons, List.length_nil, List.length_map] at *; omega))) a_vof (by first | rfl | exact hsz) ?_)
      | (refine on_storeEF hF rfl rfl rfl rfl a_turn (by first | with_reducible assumption | rfl) (by decide) a_vof rfl ?_)
      | (refine on_storeF hF rfl rfl rfl rfl a_turn (by decide) a_vof rfl ?_)) <;> try (refine hK2 _ _ _ a_allK ?_; clear hK2 K2))) <;> (refine hK _ _ _ ?_; clear hK K))
    | with_reducible refine nx_seq ?_
        | with_reducible refine nx_region ?_
        | with_reducible refine nl_nil ?_
        | with_reducible refine nq_then_n ?_
        | with_reducible refine nx_block ?_
        | with_reducible refine nx_skip ?_
        | with_reducible refine nx_exit ?_
        | with_reducible refine nx_ret ?_
        | with_reducible refine nq_then_x ?_
        | with_reducible refine nq_then_r ?_
        | with_reducible refine nq_blk_n ?_
        | with_reducible refine nq_blk_r ?_
        | with_reducible refine nq_blk_hit ?_
        | with_reducible refine nq_blk_miss rfl ?_
        | with_reducible refine nd_nil ?_
    | refine nx_cond_t rfl ?_ | refine nx_cond_f rfl ?_
    | refine nl_pass hF rfl rfl rfl ?_
    | refine nd_pass rfl rfl rfl rfl rfl ?_
    | refine nd_pass2 rfl rfl rfl (fun c => by exact (fun h => by cases h)) a_allK rfl rfl ?_
    | refine nd_pass3 rfl rfl rfl (fun c => by exact (fun h => by cases h)) rfl rfl ?_
    | (with_reducible refine hQ1 _ _ _ ?_; clear hQ1 Q1)
    )
  refine nx_loop (ι := { p : Nat × Nat // BsI ks k p }) (fun p => [(0, .slice sa (ks.map pv).length sc), (1, .int .i64 k), (2, .func (.func 73) #[] #[]), (8, .int .i64 ((ks.map pv).length : Int)), (9, .int .i64 (p.1.1 : Int)), (10, .int .i64 (p.1.2 : Int))]) (fun _ => R) (fun _ => C) (fun p => p.1.2 - p.1.1) ⟨(0, (ks.map pv).length), Nat.zero_le _, by dsimp only; omega, fun j x h => absurd h (Nat.not_lt_zero _), fun j x h hx => by rw [List.getElem?_eq_none (by dsimp only at h; omega)] at hx; cases hx⟩ (by exact a_sub) (by exact a_subR) (by exact a_holds) (fun p => ?_)
  obtain ⟨⟨i, j⟩, hij, hj, hlt, hge⟩ := p
  dsimp only at hij hj hlt hge ⊢
  by_cases hc : i < j
  · obtain ⟨h, hh⟩ : ∃ h, (i + j) / 2 = h := ⟨_, rfl⟩
    have hhl : h < ks.length := by omega
    obtain ⟨x, hx⟩ : ∃ x, ks[h]? = some x := ⟨_, List.getElem?_eq_getElem hhl⟩
    have hxv : (ks.map pv)[h]? = some (pv x) := by rw [List.getElem?_map, hx]; rfl
    have hz1 : ((i : Int) + (j : Int)) / 2 = (h : Int) := by omega
    have hvp := vofPv x
    have cc := fun (W0 : World) (X : Nat → Prop) (R C : List Ch) => cmp1_ct (W0 := W0) (X := X) (R := R) (C := C) x k
    have hcv : (Lib.compareInt x k < 0 ↔ x < k) := by unfold Lib.compareInt; repeat' split <;> omega
    obtain ⟨z, hz⟩ : ∃ z, Lib.compareInt x k = z := ⟨_, rfl⟩
    rw [hz] at cc hcv
    clear hz
    by_cases hzn : z < 0
    · have hxk := hcv.1 hzn
      repeat' (first
    | ((first | with_reducible refine nl_op rfl ?_ | refine nd_go rfl rfl rfl ?_); intro K hK; (first
      | ((first | refine on_E hF rfl rfl ?_ | refine od_E rfl rfl ?_ | refine od_R rfl rfl ?_); (first | refine ⟨_, yl_shr1 hz1 rfl rfl rfl, ?_⟩ | refine ⟨_, a_yl, ?_⟩ | refine ⟨_, yl_conv_u64 (S := 3) (T := 100) rfl rfl (by kernel_rfl) (by kernel_rfl) (by omega), ?_⟩ | refine ⟨_, yl_conv_i (S := 100) (T := 3) rfl rfl (by kernel_rfl) (by kernel_rfl) (by omega), ?_⟩))
      | ((first | refine on_Ec hF rfl rfl ?_ | refine od_Ec rfl rfl ?_); refine ⟨_, _, _, a_yc, ?_, ?_⟩ <;> (intro hc; try (exfalso; first | (omega; done) | exact absurd (by with_reducible rfl) hc | (simp at hc; done))))
      | ((first | (refine od_act (fun c => by exact (fun h => by cases h)) ?_; intro K2 hK2) | refine od_last (fun c => by exact (fun h => by cases h)) ?_ | skip); (first
      | (refine on_callc (lb := []) hF rfl rfl rfl rfl rfl (enters_of Try.func73 (by kernel_rfl) rfl) (cc _ _ _ _) (fun _ => ?_))
      
      
      | (refine on_box hF rfl rfl rfl rfl (fun B => ?_))
      | (refine on_store hF rfl rfl rfl rfl a_turn a_vof (by first | rfl | exact hsz.symm | exact hsz) ?_)
      | (refine on_storeE hF rfl rfl rfl rfl a_turn (by (first | omega | (simp only [List.length_append, List.length_cons, List.length_nil, List.length_map] at *; omega))) a_vof (by first | rfl | exact hsz) ?_)
      | (refine on_storeEF hF rfl rfl rfl rfl a_turn (by first | with_reducible assumption | rfl) (by decide) a_vof rfl ?_)
      | (refine on_storeF hF rfl rfl rfl rfl a_turn (by decide) a_vof rfl ?_)) <;> try (refine hK2 _ _ _ a_allK ?_; clear hK2 K2))) <;> (refine hK _ _ _ ?_; clear hK K))
    | with_reducible refine nx_seq ?_
        | with_reducible refine nx_region ?_
        | with_reducible refine nl_nil ?_
        | with_reducible refine nq_then_n ?_
        | with_reducible refine nx_block ?_
        | with_reducible refine nx_skip ?_
        | with_reducible refine nx_exit ?_
        | with_reducible refine nx_ret ?_
        | with_reducible refine nq_then_x ?_
        | with_reducible refine nq_then_r ?_
        | with_reducible refine nq_blk_n ?_
        | with_reducible refine nq_blk_r ?_
        | with_reducible refine nq_blk_hit ?_
        | with_reducible refine nq_blk_miss rfl ?_
        | with_reducible refine nd_nil ?_
    | refine nx_cond_t rfl ?_ | refine nx_cond_f rfl ?_
    | refine nl_pass hF rfl rfl rfl ?_
    | refine nd_pass rfl rfl rfl rfl rfl ?_
    | refine nd_pass2 rfl rfl rfl (fun c => by exact (fun h => by cases h)) a_allK rfl rfl ?_
    | refine nd_pass3 rfl rfl rfl (fun c => by exact (fun h => by cases h)) rfl rfl ?_
    | (with_reducible refine hQ1 _ _ _ ?_; clear hQ1 Q1)
    )
      all_goals (try (exfalso; dsimp only at *; omega))
      refine nx_again ⟨(h + 1, j), by dsimp only; omega, hj, fun q y hq hy => by
        dsimp only at hq
        rcases Nat.lt_or_ge q h with h1 | h1
        · have := lt_at hks h1 hy hx; omega
        · obtain rfl : q = h := by omega
          rw [hx] at hy; injection hy with e; omega, hge⟩ (by dsimp only; omega) (by exact a_sub) (by exact a_subR) (by exact a_holds)
    · have hxk : ¬ x < k := fun h => hzn (hcv.2 h)
      repeat' (first
    | ((first | with_reducible refine nl_op rfl ?_ | refine nd_go rfl rfl rfl ?_); intro K hK; (first
      | ((first | refine on_E hF rfl rfl ?_ | refine od_E rfl rfl ?_ | refine od_R rfl rfl ?_); (first | refine ⟨_, yl_shr1 hz1 rfl rfl rfl, ?_⟩ | refine ⟨_, a_yl, ?_⟩ | refine ⟨_, yl_conv_u64 (S := 3) (T := 100) rfl rfl (by kernel_rfl) (by kernel_rfl) (by omega), ?_⟩ | refine ⟨_, yl_conv_i (S := 100) (T := 3) rfl rfl (by kernel_rfl) (by kernel_rfl) (by omega), ?_⟩))
      | ((first | refine on_Ec hF rfl rfl ?_ | refine od_Ec rfl rfl ?_); refine ⟨_, _, _, a_yc, ?_, ?_⟩ <;> (intro hc; try (exfalso; first | (omega; done) | exact absurd (by with_reducible rfl) hc | (simp at hc; done))))
      | ((first | (refine od_act (fun c => by exact (fun h => by cases h)) ?_; intro K2 hK2) | refine od_last (fun c => by exact (fun h => by cases h)) ?_ | skip); (first
      | (refine on_callc (lb := []) hF rfl rfl rfl rfl rfl (enters_of Try.func73 (by kernel_rfl) rfl) (cc _ _ _ _) (fun _ => ?_))
      
      
      | (refine on_box hF rfl rfl rfl rfl (fun B => ?_))
      | (refine on_store hF rfl rfl rfl rfl a_turn a_vof (by first | rfl | exact hsz.symm | exact hsz) ?_)
      | (refine on_storeE hF rfl rfl rfl rfl a_turn (by (first | omega | (simp only [List.length_append, List.length_cons, List.length_nil, List.length_map] at *; omega))) a_vof (by first | rfl | exact hsz) ?_)
      | (refine on_storeEF hF rfl rfl rfl rfl a_turn (by first | with_reducible assumption | rfl) (by decide) a_vof rfl ?_)
      | (refine on_storeF hF rfl rfl rfl rfl a_turn (by decide) a_vof rfl ?_)) <;> try (refine hK2 _ _ _ a_allK ?_; clear hK2 K2))) <;> (refine hK _ _ _ ?_; clear hK K))
    | with_reducible refine nx_seq ?_
        | with_reducible refine nx_region ?_
        | with_reducible refine nl_nil ?_
        | with_reducible refine nq_then_n ?_
        | with_reducible refine nx_block ?_
        | with_reducible refine nx_skip ?_
        | with_reducible refine nx_exit ?_
        | with_reducible refine nx_ret ?_
        | with_reducible refine nq_then_x ?_
        | with_reducible refine nq_then_r ?_
        | with_reducible refine nq_blk_n ?_
        | with_reducible refine nq_blk_r ?_
        | with_reducible refine nq_blk_hit ?_
        | with_reducible refine nq_blk_miss rfl ?_
        | with_reducible refine nd_nil ?_
    | refine nx_cond_t rfl ?_ | refine nx_cond_f rfl ?_
    | refine nl_pass hF rfl rfl rfl ?_
    | refine nd_pass rfl rfl rfl rfl rfl ?_
    | refine nd_pass2 rfl rfl rfl (fun c => by exact (fun h => by cases h)) a_allK rfl rfl ?_
    | refine nd_pass3 rfl rfl rfl (fun c => by exact (fun h => by cases h)) rfl rfl ?_
    | (with_reducible refine hQ1 _ _ _ ?_; clear hQ1 Q1)
    )
      all_goals (try (exfalso; dsimp only at *; omega))
      refine nx_again ⟨(i, h), by dsimp only; omega, by dsimp only; omega, hlt, fun q y hq hy => by
        dsimp only at hq
        rcases Nat.lt_or_ge h q with h1 | h1
        · have := lt_at hks h1 hx hy; omega
        · obtain rfl : q = h := by omega
          rw [hx] at hy; injection hy with e; omega⟩ (by dsimp only; omega) (by exact a_sub) (by exact a_subR) (by exact a_holds)
  · obtain rfl : i = j := by omega
    have hL : LowI ks k i := ⟨hj, hlt, hge⟩
    rw [hL.eq] at hr
    by_cases hin : i < ks.length
    · obtain ⟨x, hx⟩ : ∃ x, ks[i]? = some x := ⟨_, List.getElem?_eq_getElem hin⟩
      have hxv : (ks.map pv)[i]? = some (pv x) := by rw [List.getElem?_map, hx]; rfl
      have hvp := vofPv x
      have hmem := hL.mem hks hx
      have cc := fun (W0 : World) (X : Nat → Prop) (R C : List Ch) => cmp1_ct (W0 := W0) (X := X) (R := R) (C := C) x k
      have hcv : (Lib.compareInt x k = 0 ↔ x = k) := by unfold Lib.compareInt; repeat' split <;> omega
      obtain ⟨z, hz⟩ : ∃ z, Lib.compareInt x k = z := ⟨_, rfl⟩
      rw [hz] at cc hcv
      clear hz
      by_cases hz0 : z = 0
      · rw [decide_eq_true (hmem.2 (hcv.1 hz0))] at hr
        subst hr
        repeat' (first
    | ((first | with_reducible refine nl_op rfl ?_ | refine nd_go rfl rfl rfl ?_); intro K hK; (first
      | ((first | refine on_E hF rfl rfl ?_ | refine od_E rfl rfl ?_ | refine od_R rfl rfl ?_); (first | refine ⟨_, a_yl, ?_⟩ | refine ⟨_, yl_conv_u64 (S := 3) (T := 100) rfl rfl (by kernel_rfl) (by kernel_rfl) (by omega), ?_⟩ | refine ⟨_, yl_conv_i (S := 100) (T := 3) rfl rfl (by kernel_rfl) (by kernel_rfl) (by omega), ?_⟩))
      | ((first | refine on_Ec hF rfl rfl ?_ | refine od_Ec rfl rfl ?_); refine ⟨_, _, _, a_yc, ?_, ?_⟩ <;> (intro hc; try (exfalso; first | (omega; done) | exact absurd (by with_reducible rfl) hc | (simp at hc; done))))
      | ((first | (refine od_act (fun c => by exact (fun h => by cases h)) ?_; intro K2 hK2) | refine od_last (fun c => by exact (fun h => by cases h)) ?_ | skip); (first
      | (refine on_callc (lb := []) hF rfl rfl rfl rfl rfl (enters_of Try.func73 (by kernel_rfl) rfl) (cc _ _ _ _) (fun _ => ?_))
      
      
      | (refine on_box hF rfl rfl rfl rfl (fun B => ?_))
      | (refine on_store hF rfl rfl rfl rfl a_turn a_vof (by first | rfl | exact hsz.symm | exact hsz) ?_)
      | (refine on_storeE hF rfl rfl rfl rfl a_turn (by (first | omega | (simp only [List.length_append, List.length_cons, List.length_nil, List.length_map] at *; omega))) a_vof (by first | rfl | exact hsz) ?_)
      | (refine on_storeEF hF rfl rfl rfl rfl a_turn (by first | with_reducible assumption | rfl) (by decide) a_vof rfl ?_)
      | (refine on_storeF hF rfl rfl rfl rfl a_turn (by decide) a_vof rfl ?_)) <;> try (refine hK2 _ _ _ a_allK ?_; clear hK2 K2))) <;> (refine hK _ _ _ ?_; clear hK K))
    | with_reducible refine nx_seq ?_
        | with_reducible refine nx_region ?_
        | with_reducible refine nl_nil ?_
        | with_reducible refine nq_then_n ?_
        | with_reducible refine nx_block ?_
        | with_reducible refine nx_skip ?_
        | with_reducible refine nx_exit ?_
        | with_reducible refine nx_ret ?_
        | with_reducible refine nq_then_x ?_
        | with_reducible refine nq_then_r ?_
        | with_reducible refine nq_blk_n ?_
        | with_reducible refine nq_blk_r ?_
        | with_reducible refine nq_blk_hit ?_
        | with_reducible refine nq_blk_miss rfl ?_
        | with_reducible refine nd_nil ?_
    | refine nx_cond_t rfl ?_ | refine nx_cond_f rfl ?_
    | refine nl_pass hF rfl rfl rfl ?_
    | refine nd_pass rfl rfl rfl rfl rfl ?_
    | refine nd_pass2 rfl rfl rfl (fun c => by exact (fun h => by cases h)) a_allK rfl rfl ?_
    | refine nd_pass3 rfl rfl rfl (fun c => by exact (fun h => by cases h)) rfl rfl ?_
    | (with_reducible refine hQ1 _ _ _ ?_; clear hQ1 Q1)
    )
        all_goals (try (exfalso; dsimp only at *; omega))
        refine nx_end [] rfl () (fun a w ha hw => res_tmp2 Try.results72 rfl rfl ha) (by exact a_subR) (by exact a_holds2)
      · rw [decide_eq_false (fun h => hz0 (hcv.2 (hmem.1 h)))] at hr
        subst hr
        repeat' (first
    | ((first | with_reducible refine nl_op rfl ?_ | refine nd_go rfl rfl rfl ?_); intro K hK; (first
      | ((first | refine on_E hF rfl rfl ?_ | refine od_E rfl rfl ?_ | refine od_R rfl rfl ?_); (first | refine ⟨_, a_yl, ?_⟩ | refine ⟨_, yl_conv_u64 (S := 3) (T := 100) rfl rfl (by kernel_rfl) (by kernel_rfl) (by omega), ?_⟩ | refine ⟨_, yl_conv_i (S := 100) (T := 3) rfl rfl (by kernel_rfl) (by kernel_rfl) (by omega), ?_⟩))
      | ((first | refine on_Ec hF rfl rfl ?_ | refine od_Ec rfl rfl ?_); refine ⟨_, _, _, a_yc, ?_, ?_⟩ <;> (intro hc; try (exfalso; first | (omega; done) | exact absurd (by with_reducible rfl) hc | (simp at hc; done))))
      | ((first | (refine od_act (fun c => by exact (fun h => by cases h)) ?_; intro K2 hK2) | refine od_last (fun c => by exact (fun h => by cases h)) ?_ | skip); (first
      | (refine on_callc (lb := []) hF rfl rfl rfl rfl rfl (enters_of Try.func73 (by kernel_rfl) rfl) (cc _ _ _ _) (fun _ => ?_))
      
      
      | (refine on_box hF rfl rfl rfl rfl (fun B => ?_))
      | (refine on_store hF rfl rfl rfl rfl a_turn a_vof (by first | rfl | exact hsz.symm | exact hsz) ?_)
      | (refine on_storeE hF rfl rfl rfl rfl a_turn (by (first | omega | (simp only [List.length_append, List.length_cons, List.length_nil, List.length_map] at *; omega))) a_vof (by first | rfl | exact hsz) ?_)
      | (refine on_storeEF hF rfl rfl rfl rfl a_turn (by first | with_reducible assumption | rfl) (by decide) a_vof rfl ?_)
      | (refine on_storeF hF rfl rfl rfl rfl a_turn (by decide) a_vof rfl ?_)) <;> try (refine hK2 _ _ _ a_allK ?_; clear hK2 K2))) <;> (refine hK _ _ _ ?_; clear hK K))
    | with_reducible refine nx_seq ?_
        | with_reducible refine nx_region ?_
        | with_reducible refine nl_nil ?_
        | with_reducible refine nq_then_n ?_
        | with_reducible refine nx_block ?_
        | with_reducible refine nx_skip ?_
        | with_reducible refine nx_exit ?_
        | with_reducible refine nx_ret ?_
        | with_reducible refine nq_then_x ?_
        | with_reducible refine nq_then_r ?_
        | with_reducible refine nq_blk_n ?_
        | with_reducible refine nq_blk_r ?_
        | with_reducible refine nq_blk_hit ?_
        | with_reducible refine nq_blk_miss rfl ?_
        | with_reducible refine nd_nil ?_
    | refine nx_cond_t rfl ?_ | refine nx_cond_f rfl ?_
    | refine nl_pass hF rfl rfl rfl ?_
    | refine nd_pass rfl rfl rfl rfl rfl ?_
    | refine nd_pass2 rfl rfl rfl (fun c => by exact (fun h => by cases h)) a_allK rfl rfl ?_
    | refine nd_pass3 rfl rfl rfl (fun c => by exact (fun h => by cases h)) rfl rfl ?_
    | (with_reducible refine hQ1 _ _ _ ?_; clear hQ1 Q1)
    )
        all_goals (try (exfalso; dsimp only at *; omega))
        refine nx_end [] rfl () (fun a w ha hw => res_tmp2 Try.results72 rfl rfl ha) (by exact a_subR) (by exact a_holds2)
    · obtain rfl : i = ks.length := by omega
      rw [decide_eq_false hL.none] at hr
      subst hr
      repeat' (first
    | ((first | with_reducible refine nl_op rfl ?_ | refine nd_go rfl rfl rfl ?_); intro K hK; (first
      | ((first | refine on_E hF rfl rfl ?_ | refine od_E rfl rfl ?_ | refine od_R rfl rfl ?_); (first | refine ⟨_, a_yl, ?_⟩ | refine ⟨_, yl_conv_u64 (S := 3) (T := 100) rfl rfl (by kernel_rfl) (by kernel_rfl) (by omega), ?_⟩ | refine ⟨_, yl_conv_i (S := 100) (T := 3) rfl rfl (by kernel_rfl) (by kernel_rfl) (by omega), ?_⟩))
      | ((first | refine on_Ec hF rfl rfl ?_ | refine od_Ec rfl rfl ?_); refine ⟨_, _, _, a_yc, ?_, ?_⟩ <;> (intro hc; try (exfalso; first | (omega; done) | exact absurd (by with_reducible rfl) hc | (simp at hc; done))))
      | ((first | (refine od_act (fun c => by exact (fun h => by cases h)) ?_; intro K2 hK2) | refine od_last (fun c => by exact (fun h => by cases h)) ?_ | skip); (first
      
      
      
      | (refine on_box hF rfl rfl rfl rfl (fun B => ?_))
      | (refine on_store hF rfl rfl rfl rfl a_turn a_vof (by first | rfl | exact hsz.symm | exact hsz) ?_)
      | (refine on_storeE hF rfl rfl rfl rfl a_turn (by (first | omega | (simp only [List.length_append, List.length_cons, List.length_nil, List.length_map] at *; omega))) a_vof (by first | rfl | exact hsz) ?_)
      | (refine on_storeEF hF rfl rfl rfl rfl a_turn (by first | with_reducible assumption | rfl) (by decide) a_vof rfl ?_)
      | (refine on_storeF hF rfl rfl rfl rfl a_turn (by decide) a_vof rfl ?_)) <;> try (refine hK2 _ _ _ a_allK ?_; clear hK2 K2))) <;> (refine hK _ _ _ ?_; clear hK K))
    | with_reducible refine nx_seq ?_
        | with_reducible refine nx_region ?_
        | with_reducible refine nl_nil ?_
        | with_reducible refine nq_then_n ?_
        | with_reducible refine nx_block ?_
        | with_reducible refine nx_skip ?_
        | with_reducible refine nx_exit ?_
        | with_reducible refine nx_ret ?_
        | with_reducible refine nq_then_x ?_
        | with_reducible refine nq_then_r ?_
        | with_reducible refine nq_blk_n ?_
        | with_reducible refine nq_blk_r ?_
        | with_reducible refine nq_blk_hit ?_
        | with_reducible refine nq_blk_miss rfl ?_
        | with_reducible refine nd_nil ?_
    | refine nx_cond_t rfl ?_ | refine nx_cond_f rfl ?_
    | refine nl_pass hF rfl rfl rfl ?_
    | refine nd_pass rfl rfl rfl rfl rfl ?_
    | refine nd_pass2 rfl rfl rfl (fun c => by exact (fun h => by cases h)) a_allK rfl rfl ?_
    | refine nd_pass3 rfl rfl rfl (fun c => by exact (fun h => by cases h)) rfl rfl ?_
    | (with_reducible refine hQ1 _ _ _ ?_; clear hQ1 Q1)
    )
      all_goals (try (exfalso; dsimp only at *; omega))
      refine nx_end [] rfl () (fun a w ha hw => res_tmp2 Try.results72 rfl rfl ha) (by exact a_subR) (by exact a_holds2)
end Ord
end Go.Proofs.Ytinofjenoapeaaa
end

section
namespace Go.Proofs.Ytinofjenoapeaaa
open Go.RowKit Go.Shelf
set_option linter.unusedSimpArgs false
set_option linter.unusedVariables false
namespace Ord
variable {W0 : World} {X : Nat → Prop} {R C : List Ch}
theorem lowI_ok {ks : List Int} (hks : ks.Pairwise (· < ·)) (k : Int) : LowI ks k (lowI ks k) := by
  induction ks with
  | nil => exact ⟨Nat.le_refl _, fun j x h => by simp [lowI] at h, fun j x h hx => by simp at hx⟩
  | cons y ks ih =>
    obtain ⟨h1, h2⟩ := List.pairwise_cons.1 hks
    have ih := ih h2
    unfold lowI at ih ⊢
    by_cases hy : y < k
    · rw [List.filter_cons_of_pos (by simpa using hy)]
      refine ⟨by have := ih.le; simp only [List.length_cons]; omega, fun j x hj hx => ?_, fun j x hj hx => ?_⟩
      · cases j with
        | zero => simp at hx; omega
        | succ j => exact ih.lt j x (by simp only [List.length_cons] at hj; omega) (by simpa using hx)
      · cases j with
        | zero => simp at hj
        | succ j => exact ih.ge j x (by simp only [List.length_cons] at hj; omega) (by simpa using hx)
    · have he : ks.filter (fun x => decide (x < k)) = [] := List.filter_eq_nil_iff.2 (fun x hx => by have := h1 x hx; simp; omega)
      rw [List.filter_cons_of_neg (by simpa using hy), he]
      refine ⟨Nat.zero_le _, fun j x hj => absurd hj (Nat.not_lt_zero _), fun j x _ hx => ?_⟩
      rcases List.mem_cons.1 (List.mem_of_getElem? hx) with rfl | h
      · omega
      · have := h1 x h; omega
/-- A map whose keys are these. -/
def OrdC (bm : Nat) (ks : List Int) : Ch := ExC (ι := SV) (fun s => [BoxC bm 87 (.agg #[s.1]), RowC 93 2 s.1 (ks.map pv)])
theorem ordOpen {bm : Nat} {ks : List Int} {E : List Ch} {w : World} (h : St W0 X R (OrdC bm ks :: E) w) : ∃ s : SV, St W0 X R (BoxC bm 87 (.agg #[s.1]) :: RowC 93 2 s.1 (ks.map pv) :: E) w := St.exC h
theorem nx_ord {K : Act → World → Prop} {n : Nat} {l : List (Nat × Value)} {d : List Deferred} {bm : Nat} {s : Value} (hs : IsSl s) {ks : List Int} {E1 E : List Ch} (h1 : Pick C (BoxC bm 87 (.agg #[s])) E1) (h2 : Pick E1 (RowC 93 2 s (ks.map pv)) E) (h : Nx K n l d W0 X R (OrdC bm ks :: E)) : Nx K n l d W0 X R C := fun a w ha hw =>
  h a w ha (St.toEx (f := fun s : SV => [BoxC bm 87 (.agg #[s.1]), RowC 93 2 s.1 (ks.map pv)]) ⟨s, hs⟩ (hw.perm (perm2 h1 h2)))
theorem ordR {bm : Nat} {ks : List Int} {w : World} (h : St W0 X R C w) (hm : OrdC bm ks ∈ R) : ∃ s : SV, St W0 X (BoxC bm 87 (.agg #[s.1]) :: SlC 2 s.1 (ks.map pv) :: R) C w := by
  obtain ⟨ht, OR, OC, h1, h2, h3, h4⟩ := h
  obtain ⟨O, ⟨⟨s, O1, g1, g2, O2, g3, g4, _⟩, _⟩, hO⟩ := h1 _ hm
  refine ⟨s, ht, OR, OC, fun r hr => ?_, h2, h3, h4⟩
  rcases List.mem_cons.1 hr with rfl | hr
  · exact ⟨O1, g1, fun k hk => hO k (g2 k hk)⟩
  · rcases List.mem_cons.1 hr with rfl | hr
    · obtain ⟨O', k1, k2⟩ := RowC.slC g3
      exact ⟨O', k1, fun k hk => hO k (g4 k (k2 k hk)).1⟩
    · exact h1 r hr
theorem vofM {s : Value} (hs : IsSl s) : VOf Try.prog 87 (.agg #[s]) := by
  obtain ⟨_, _, _, rfl⟩ := hs
  exact vofk (by kernel_rfl) rfl rfl
theorem find_ct (bm : Nat) (s : Value) (hs : IsSl s) (ks : List Int) (hks : ks.Pairwise (· < ·)) (k : Int) (hb : BoxC bm 87 (.agg #[s]) ∈ R) (hsl : SlC 2 s (ks.map pv) ∈ R) (hm : ks.length ≤ 4000000000) :
    Ct Try.prog 56 [ptr bm, .int .i64 k] W0 X R C Unit (fun _ => .tuple #[.int .i64 (lowI ks k : Int), .bool (decide (k ∈ ks))]) (fun _ => R) (fun _ => C) := by
  intro w hw
  have hF := isWide_wide
  have hvm := vofM hs
  have hvs : VOf Try.prog 85 s := vof_slice (by kernel_rfl) hs
  obtain ⟨sa, sn, sc, rfl⟩ := hs
  refine calls_nx Try.func56 rfl Try.ntmps56 rfl ?_ hw
  repeat' (first
    | ((first | with_reducible refine nl_op rfl ?_ | refine nd_go rfl rfl rfl ?_); intro K hK; (first
      | ((first | refine on_E hF rfl rfl ?_ | refine od_E rfl rfl ?_ | refine od_R rfl rfl ?_); (first | refine ⟨_, a_yl, ?_⟩ | refine ⟨_, yl_fieldB (T := 87) (f := 0) (q := 0) rfl rfl (by kernel_rfl), ?_⟩ | refine ⟨_, yl_fieldE (T := 87) (f := 0) (j := 0) rfl rfl a_sl (by (first | omega | (simp only [List.length_append, List.length_cons, List.length_nil, List.length_map] at *; omega))) (by kernel_rfl), ?_⟩))
      | ((first | refine on_Ec hF rfl rfl ?_ | refine od_Ec rfl rfl ?_); refine ⟨_, _, _, a_yc, ?_, ?_⟩ <;> (intro hc; try (exfalso; first | (omega; done) | exact absurd (by with_reducible rfl) hc | (simp at hc; done))))
      | ((first | (refine od_act (fun c => by exact (fun h => by cases h)) ?_; intro K2 hK2) | refine od_last (fun c => by exact (fun h => by cases h)) ?_ | skip); (first
      | (refine on_call (vs := [.slice sa sn sc, .int .i64 k, .func (.func 73) #[] #[]]) hF rfl rfl rfl rfl (enters_of Try.func72 (by kernel_rfl) rfl) (bs_ct _ ⟨_, _, _, rfl⟩ ks hks k (by exact a_mem) hm) (fun _ => ?_))
      
      
      | (refine on_box hF rfl rfl rfl rfl (fun B => ?_))
      | (refine on_store hF rfl rfl rfl rfl a_turn a_vof (by first | rfl | exact hsz.symm | exact hsz) ?_)
      | (refine on_storeE hF rfl rfl rfl rfl a_turn (by (first | omega | (simp only [List.length_append, List.length_cons, List.length_nil, List.length_map] at *; omega))) a_vof (by first | rfl | exact hsz) ?_)
      | (refine on_storeEF hF rfl rfl rfl rfl a_turn (by first | with_reducible assumption | rfl) (by decide) a_vof rfl ?_)
      | (refine on_storeF hF rfl rfl rfl rfl a_turn (by decide) a_vof rfl ?_)) <;> try (refine hK2 _ _ _ a_allK ?_; clear hK2 K2))) <;> (refine hK _ _ _ ?_; clear hK K))
    | with_reducible refine nx_seq ?_
        | with_reducible refine nx_region ?_
        | with_reducible refine nl_nil ?_
        | with_reducible refine nq_then_n ?_
        | with_reducible refine nx_block ?_
        | with_reducible refine nx_skip ?_
        | with_reducible refine nx_exit ?_
        | with_reducible refine nx_ret ?_
        | with_reducible refine nq_then_x ?_
        | with_reducible refine nq_then_r ?_
        | with_reducible refine nq_blk_n ?_
        | with_reducible refine nq_blk_r ?_
        | with_reducible refine nq_blk_hit ?_
        | with_reducible refine nq_blk_miss rfl ?_
        | with_reducible refine nd_nil ?_
    | refine nx_cond_t rfl ?_ | refine nx_cond_f rfl ?_
    | refine nl_pass hF rfl rfl rfl ?_
    | refine nd_pass rfl rfl rfl rfl rfl ?_
    | refine nd_pass2 rfl rfl rfl (fun c => by exact (fun h => by cases h)) a_allK rfl rfl ?_
    | refine nd_pass3 rfl rfl rfl (fun c => by exact (fun h => by cases h)) rfl rfl ?_
    | (with_reducible refine hQ1 _ _ _ ?_; clear hQ1 Q1)
    )
  refine nx_end [] rfl () (fun a w ha hw => res_tmp2 Try.results56 rfl rfl ha) (by exact a_subR) (by exact a_holds2)
theorem new_ct : Ct Try.prog 30 [] W0 X R C Nat (fun B => ptr B) (fun _ => R) (fun B => OrdC B [] :: C) := by
  intro w hw
  have hF := isWide_wide
  have hvm := vofM (s := .slice none 0 0) ⟨_, _, _, rfl⟩
  refine calls_nx Try.func30 rfl Try.ntmps30 rfl ?_ hw
  repeat' (first
    | ((first | with_reducible refine nl_op rfl ?_ | refine nd_go rfl rfl rfl ?_); intro K hK; (first
      | ((first | refine on_E hF rfl rfl ?_ | refine od_E rfl rfl ?_ | refine od_R rfl rfl ?_); (first | refine ⟨_, a_yl, ?_⟩ | refine ⟨_, yl_build (T := 87) (us := []) rfl rfl rfl (fun w => by go_simp; all_goals rfl), ?_⟩))
      | ((first | refine on_Ec hF rfl rfl ?_ | refine od_Ec rfl rfl ?_); refine ⟨_, _, _, a_yc, ?_, ?_⟩ <;> (intro hc; try (exfalso; first | (omega; done) | exact absurd (by with_reducible rfl) hc | (simp at hc; done))))
      | ((first | (refine od_act (fun c => by exact (fun h => by cases h)) ?_; intro K2 hK2) | refine od_last (fun c => by exact (fun h => by cases h)) ?_ | skip); (first
      
      
      
      | (refine on_box hF rfl rfl rfl rfl (fun B => ?_))
      | (refine on_store hF rfl rfl rfl rfl a_turn a_vof (by first | rfl | exact hsz.symm | exact hsz) ?_)
      | (refine on_storeE hF rfl rfl rfl rfl a_turn (by (first | omega | (simp only [List.length_append, List.length_cons, List.length_nil, List.length_map] at *; omega))) a_vof (by first | rfl | exact hsz) ?_)
      | (refine on_storeEF hF rfl rfl rfl rfl a_turn (by first | with_reducible assumption | rfl) (by decide) a_vof rfl ?_)
      | (refine on_storeF hF rfl rfl rfl rfl a_turn (by decide) a_vof rfl ?_)) <;> try (refine hK2 _ _ _ a_allK ?_; clear hK2 K2))) <;> (refine hK _ _ _ ?_; clear hK K))
    | with_reducible refine nx_seq ?_
        | with_reducible refine nx_region ?_
        | with_reducible refine nl_nil ?_
        | with_reducible refine nq_then_n ?_
        | with_reducible refine nx_block ?_
        | with_reducible refine nx_skip ?_
        | with_reducible refine nx_exit ?_
        | with_reducible refine nx_ret ?_
        | with_reducible refine nq_then_x ?_
        | with_reducible refine nq_then_r ?_
        | with_reducible refine nq_blk_n ?_
        | with_reducible refine nq_blk_r ?_
        | with_reducible refine nq_blk_hit ?_
        | with_reducible refine nq_blk_miss rfl ?_
        | with_reducible refine nd_nil ?_
    | refine nx_cond_t rfl ?_ | refine nx_cond_f rfl ?_
    | refine nl_pass hF rfl rfl rfl ?_
    | refine nd_pass rfl rfl rfl rfl rfl ?_
    | refine nd_pass2 rfl rfl rfl (fun c => by exact (fun h => by cases h)) a_allK rfl rfl ?_
    | refine nd_pass3 rfl rfl rfl (fun c => by exact (fun h => by cases h)) rfl rfl ?_
    | (with_reducible refine hQ1 _ _ _ ?_; clear hQ1 Q1)
    )
  obtain ⟨bm, hbm⟩ : ∃ bm, bm = B := ⟨_, rfl⟩
  subst hbm
  refine nx_nilRow 93 2 ?_
  refine nx_ord (bm := bm) (s := .slice none 0 0) (ks := []) ⟨_, _, _, rfl⟩ (by exact a_pick) (by exact a_pick) ?_
  refine nx_end [] rfl bm (fun a w ha hw => res_tmp Try.results30 rfl ha) (by exact a_subR) (by exact a_holds2)
theorem put_ct (bm : Nat) (zs : List Int) (k : Int) (hm : zs.length ≤ 1000000000) : Ct Try.prog 34 [ptr bm, .int .i64 k, .bool true] W0 X R (OrdC bm (Sc.upr zs) :: C) Unit (fun _ => .bool (!decide (k ∈ Sc.upr zs))) (fun _ => R) (fun _ => OrdC bm (Sc.upr (zs ++ [k])) :: C) := by
  intro w hw
  have hF := isWide_wide
  obtain ⟨⟨s, hs⟩, hw⟩ := ordOpen hw
  dsimp only at hw
  have hvm := vofM hs
  have hvs : VOf Try.prog 85 s := vof_slice (by kernel_rfl) hs
  obtain ⟨sa, sn, sc, rfl⟩ := hs
  have hul := Sc.upr_len zs
  have hlt := Sc.upr_lt zs
  have hL := lowI_ok hlt k
  have hpe := put_eq hL
  have hph := put_has (zs := zs) (k := k)
  have hmem := fun x h => hL.mem hlt (x := x) h
  obtain ⟨ks, hks⟩ : ∃ ks, Sc.upr zs = ks := ⟨_, rfl⟩
  obtain ⟨zs', hzs'⟩ : ∃ zs', Sc.upr (zs ++ [k]) = zs' := ⟨_, rfl⟩
  rw [hks] at hw hul hlt hL hpe hph hmem ⊢
  rw [hzs'] at hpe hph ⊢
  obtain ⟨i, hi⟩ : ∃ i, lowI ks k = i := ⟨_, rfl⟩
  have fc := fun (W0 : World) (X : Nat → Prop) (R C : List Ch) h1 h2 => find_ct (W0 := W0) (X := X) (R := R) (C := C) bm (.slice sa sn sc) ⟨_, _, _, rfl⟩ ks hlt k h1 h2 (by omega)
  rw [hi] at hL hpe hmem fc
  have hlk : (ks.map pv).length = ks.length := by simp
  clear hi hks hzs'
  by_cases hk : k ∈ ks
  · rw [decide_eq_true hk] at fc ⊢
    have h := hph hk
    subst h
    have hil : i < ks.length := by
      rcases Nat.lt_or_ge i ks.length with h | h
      · exact h
      · obtain rfl : i = ks.length := by have := hL.le; omega
        exact absurd hk hL.none
    obtain ⟨x, hx⟩ : ∃ x, ks[i]? = some x := ⟨_, List.getElem?_eq_getElem hil⟩
    obtain rfl := (hmem x hx).1 hk
    have hxv : (ks.map pv)[i]? = some (pv x) := by rw [List.getElem?_map, hx]; rfl
    have hset : (ks.map pv).set i (pv x) = ks.map pv := by
      obtain ⟨h1, h2⟩ := List.getElem?_eq_some_iff.1 hxv
      rw [← h2]; exact List.set_getElem_self h1
    refine calls_nx Try.func34 rfl Try.ntmps34 rfl ?_ hw
    repeat' (first
    | ((first | with_reducible refine nl_op rfl ?_ | refine nd_go rfl rfl rfl ?_); intro K hK; (first
      | ((first | refine on_E hF rfl rfl ?_ | refine od_E rfl rfl ?_ | refine od_R rfl rfl ?_); (first | refine ⟨_, a_yl, ?_⟩ | refine ⟨_, yl_build (T := 93) (us := [(0, _), (1, _)]) rfl rfl rfl (fun w => by go_simp; all_goals rfl), ?_⟩ | refine ⟨_, yl_fieldB (T := 87) (f := 0) (q := 0) rfl rfl (by kernel_rfl), ?_⟩ | refine ⟨_, yl_fieldE (T := 87) (f := 0) (j := 0) rfl rfl a_sl (by (first | omega | (simp only [List.length_append, List.length_cons, List.length_nil, List.length_map] at *; omega))) (by kernel_rfl), ?_⟩ | refine ⟨_, yl_fieldB (T := 93) (f := 1) (q := 1) rfl rfl (by kernel_rfl), ?_⟩ | refine ⟨_, yl_fieldE (T := 93) (f := 1) (j := 1) rfl rfl a_sl (by (first | omega | (simp only [List.length_append, List.length_cons, List.length_nil, List.length_map] at *; omega))) (by kernel_rfl), ?_⟩))
      | ((first | refine on_Ec hF rfl rfl ?_ | refine od_Ec rfl rfl ?_); refine ⟨_, _, _, a_yc, ?_, ?_⟩ <;> (intro hc; try (exfalso; first | (omega; done) | exact absurd (by with_reducible rfl) hc | (simp at hc; done))))
      | ((first | (refine od_act (fun c => by exact (fun h => by cases h)) ?_; intro K2 hK2) | refine od_last (fun c => by exact (fun h => by cases h)) ?_ | skip); (first
      | (refine on_callG (vs := [ptr bm, .int .i64 x]) hF (enters_of Try.func56 (by kernel_rfl) rfl) rfl rfl rfl rfl ((Ct.lend2 (readsOf_same (BoxC bm 87 (.agg #[.slice sa sn sc])) (readsOf_row (e := 93) (k := 2) (v := .slice sa sn sc) (xs := ks.map pv) readsOf_nil)) (fun W0 X => fc W0 X _ _ (by exact a_mem) (by exact a_mem))).pre (perm2 (by exact a_pick) (by exact a_pick))) (fun _ => ?_))
      | (refine on_storeEF (e := 93) (k := 2) (xs := ks.map pv) (cs := #[.int .i64 x, .bool true]) hF rfl rfl rfl rfl a_turn hxv (Nat.le_of_ble_eq_true rfl) a_vof rfl ?_; simp only [List.setIfInBounds_toArray, List.set_cons_succ, List.set_cons_zero]; rw [hset])
      | (refine on_buildSlice (T := 85) (e := 93) (k := 2) (by_ := 16) hF rfl rfl rfl rfl rfl rfl (by kernel_rfl) a_cel (Nat.le_of_ble_eq_true rfl) (fun b => ?_))
      
      | (refine on_box hF rfl rfl rfl rfl (fun B => ?_))
      | (refine on_store hF rfl rfl rfl rfl a_turn a_vof (by first | rfl | exact hsz.symm | exact hsz) ?_)
      | (refine on_storeE hF rfl rfl rfl rfl a_turn (by (first | omega | (simp only [List.length_append, List.length_cons, List.length_nil, List.length_map] at *; omega))) a_vof (by first | rfl | exact hsz) ?_)
      | (refine on_storeEF hF rfl rfl rfl rfl a_turn (by first | with_reducible assumption | rfl) (by decide) a_vof rfl ?_)
      | (refine on_storeF hF rfl rfl rfl rfl a_turn (by decide) a_vof rfl ?_)) <;> try (refine hK2 _ _ _ a_allK ?_; clear hK2 K2))) <;> (refine hK _ _ _ ?_; clear hK K))
    | with_reducible refine nx_seq ?_
        | with_reducible refine nx_region ?_
        | with_reducible refine nl_nil ?_
        | with_reducible refine nq_then_n ?_
        | with_reducible refine nx_block ?_
        | with_reducible refine nx_skip ?_
        | with_reducible refine nx_exit ?_
        | with_reducible refine nx_ret ?_
        | with_reducible refine nq_then_x ?_
        | with_reducible refine nq_then_r ?_
        | with_reducible refine nq_blk_n ?_
        | with_reducible refine nq_blk_r ?_
        | with_reducible refine nq_blk_hit ?_
        | with_reducible refine nq_blk_miss rfl ?_
        | with_reducible refine nd_nil ?_
    | refine nx_cond_t rfl ?_ | refine nx_cond_f rfl ?_
    | refine nl_pass hF rfl rfl rfl ?_
    | refine nd_pass rfl rfl rfl rfl rfl ?_
    | refine nd_pass2 rfl rfl rfl (fun c => by exact (fun h => by cases h)) a_allK rfl rfl ?_
    | refine nd_pass3 rfl rfl rfl (fun c => by exact (fun h => by cases h)) rfl rfl ?_
    | (with_reducible refine hQ1 _ _ _ ?_; clear hQ1 Q1)
    )
    refine nx_ord (bm := bm) (s := .slice sa sn sc) (ks := ks) ⟨_, _, _, rfl⟩ (by exact a_pick) (by exact a_pick) ?_
    refine nx_end [] rfl () (fun a w ha hw => res_tmp Try.results34 rfl ha) (by exact a_subR) (by exact a_holds2)
  · rw [decide_eq_false hk] at fc ⊢
    have h := hpe hk
    subst h
    have hcy : Cel 2 [pv k] := celPv [k]
    have hins : (ks.map pv).take i ++ pv k :: (ks.map pv).drop i = (ks.take i ++ k :: ks.drop i).map pv := by simp
    have hil : i ≤ (ks.map pv).length := by rw [hlk]; exact hL.le
    refine calls_nx Try.func34 rfl Try.ntmps34 rfl ?_ hw
    repeat' (first
    | ((first | with_reducible refine nl_op rfl ?_ | refine nd_go rfl rfl rfl ?_); intro K hK; (first
      | ((first | refine on_E hF rfl rfl ?_ | refine od_E rfl rfl ?_ | refine od_R rfl rfl ?_); (first | refine ⟨_, a_yl, ?_⟩ | refine ⟨_, yl_build (T := 93) (us := [(0, _), (1, _)]) rfl rfl rfl (fun w => by go_simp; all_goals rfl), ?_⟩ | refine ⟨_, yl_fieldB (T := 87) (f := 0) (q := 0) rfl rfl (by kernel_rfl), ?_⟩ | refine ⟨_, yl_fieldE (T := 87) (f := 0) (j := 0) rfl rfl a_sl (by (first | omega | (simp only [List.length_append, List.length_cons, List.length_nil, List.length_map] at *; omega))) (by kernel_rfl), ?_⟩ | refine ⟨_, yl_fieldB (T := 93) (f := 1) (q := 1) rfl rfl (by kernel_rfl), ?_⟩ | refine ⟨_, yl_fieldE (T := 93) (f := 1) (j := 1) rfl rfl a_sl (by (first | omega | (simp only [List.length_append, List.length_cons, List.length_nil, List.length_map] at *; omega))) (by kernel_rfl), ?_⟩))
      | ((first | refine on_Ec hF rfl rfl ?_ | refine od_Ec rfl rfl ?_); refine ⟨_, _, _, a_yc, ?_, ?_⟩ <;> (intro hc; try (exfalso; first | (omega; done) | exact absurd (by with_reducible rfl) hc | (simp at hc; done))))
      | ((first | (refine od_act (fun c => by exact (fun h => by cases h)) ?_; intro K2 hK2) | refine od_last (fun c => by exact (fun h => by cases h)) ?_ | skip); (first
      | (refine on_callG (vs := [ptr bm, .int .i64 k]) hF (enters_of Try.func56 (by kernel_rfl) rfl) rfl rfl rfl rfl ((Ct.lend2 (readsOf_same (BoxC bm 87 (.agg #[.slice sa sn sc])) (readsOf_row (e := 93) (k := 2) (v := .slice sa sn sc) (xs := ks.map pv) readsOf_nil)) (fun W0 X => fc W0 X _ _ (by exact a_mem) (by exact a_mem))).pre (perm2 (by exact a_pick) (by exact a_pick))) (fun _ => ?_))
      | (refine on_buildSlice (e := 93) (k := 2) (by_ := 16) hF rfl rfl rfl rfl rfl rfl (by kernel_rfl) hcy (Nat.le_of_ble_eq_true rfl) (fun bq => ?_))
      | (refine on_callG hF (enters_of Try.func57 (by kernel_rfl) rfl) rfl rfl rfl rfl ((insert_ct (.slice sa sn sc) ⟨_, _, _, rfl⟩ (ks.map pv) (celPv ks) (pv k) hcy bq i hil (by omega)).pre (perm2 (by exact a_pick) (by exact a_pick))) (fun u => ?_); rw [hins]; obtain ⟨u, ua, un, uc, rfl⟩ := u; dsimp only)
      | (refine on_storeF hF rfl rfl rfl rfl a_turn (Nat.le_of_ble_eq_true rfl) a_vof rfl ?_; simp only [List.setIfInBounds_toArray, List.set_cons_succ, List.set_cons_zero])
      | (refine on_buildSlice (T := 85) (e := 93) (k := 2) (by_ := 16) hF rfl rfl rfl rfl rfl rfl (by kernel_rfl) a_cel (Nat.le_of_ble_eq_true rfl) (fun b => ?_))
      
      | (refine on_box hF rfl rfl rfl rfl (fun B => ?_))
      | (refine on_store hF rfl rfl rfl rfl a_turn a_vof (by first | rfl | exact hsz.symm | exact hsz) ?_)
      | (refine on_storeE hF rfl rfl rfl rfl a_turn (by (first | omega | (simp only [List.length_append, List.length_cons, List.length_nil, List.length_map] at *; omega))) a_vof (by first | rfl | exact hsz) ?_)
      | (refine on_storeEF hF rfl rfl rfl rfl a_turn (by first | with_reducible assumption | rfl) (by decide) a_vof rfl ?_)
      | (refine on_storeF hF rfl rfl rfl rfl a_turn (by decide) a_vof rfl ?_)) <;> try (refine hK2 _ _ _ a_allK ?_; clear hK2 K2))) <;> (refine hK _ _ _ ?_; clear hK K))
    | with_reducible refine nx_seq ?_
        | with_reducible refine nx_region ?_
        | with_reducible refine nl_nil ?_
        | with_reducible refine nq_then_n ?_
        | with_reducible refine nx_block ?_
        | with_reducible refine nx_skip ?_
        | with_reducible refine nx_exit ?_
        | with_reducible refine nx_ret ?_
        | with_reducible refine nq_then_x ?_
        | with_reducible refine nq_then_r ?_
        | with_reducible refine nq_blk_n ?_
        | with_reducible refine nq_blk_r ?_
        | with_reducible refine nq_blk_hit ?_
        | with_reducible refine nq_blk_miss rfl ?_
        | with_reducible refine nd_nil ?_
    | refine nx_cond_t rfl ?_ | refine nx_cond_f rfl ?_
    | refine nl_pass hF rfl rfl rfl ?_
    | refine nd_pass rfl rfl rfl rfl rfl ?_
    | refine nd_pass2 rfl rfl rfl (fun c => by exact (fun h => by cases h)) a_allK rfl rfl ?_
    | refine nd_pass3 rfl rfl rfl (fun c => by exact (fun h => by cases h)) rfl rfl ?_
    | (with_reducible refine hQ1 _ _ _ ?_; clear hQ1 Q1)
    )
    refine nx_ord (bm := bm) (s := .slice ua un uc) (ks := ks.take i ++ k :: ks.drop i) ⟨_, _, _, rfl⟩ (by exact a_pick) (by exact a_pick) ?_
    refine nx_end [] rfl () (fun a w ha hw => res_tmp Try.results34 rfl ha) (by exact a_subR) (by exact a_holds2)
theorem get_ct (bm : Nat) (ks : List Int) (hks : ks.Pairwise (· < ·)) (k : Int) (hb : OrdC bm ks ∈ R) (hm : ks.length ≤ 4000000000) : Ct Try.prog 33 [ptr bm, .int .i64 k] W0 X R C Unit (fun _ => .tuple #[.bool (decide (k ∈ ks)), .bool (decide (k ∈ ks))]) (fun _ => R) (fun _ => C) := by
  intro w hw
  have hF := isWide_wide
  obtain ⟨⟨s, hs⟩, hw⟩ := ordR hw hb
  dsimp only at hw
  have hvm := vofM hs
  have hvs : VOf Try.prog 85 s := vof_slice (by kernel_rfl) hs
  obtain ⟨sa, sn, sc, rfl⟩ := hs
  have hL := lowI_ok hks k
  have hmem := fun x h => hL.mem hks (x := x) h
  have fc := fun (W0 : World) (X : Nat → Prop) (R C : List Ch) h1 h2 => find_ct (W0 := W0) (X := X) (R := R) (C := C) bm (.slice sa sn sc) ⟨_, _, _, rfl⟩ ks hks k h1 h2 hm
  obtain ⟨i, hi⟩ : ∃ i, lowI ks k = i := ⟨_, rfl⟩
  rw [hi] at hL hmem fc
  have hlk : (ks.map pv).length = ks.length := by simp
  clear hi
  by_cases hk : k ∈ ks
  · rw [decide_eq_true hk] at fc ⊢
    have hil : i < ks.length := by
      rcases Nat.lt_or_ge i ks.length with h | h
      · exact h
      · obtain rfl : i = ks.length := by have := hL.le; omega
        exact absurd hk hL.none
    obtain ⟨x, hx⟩ : ∃ x, ks[i]? = some x := ⟨_, List.getElem?_eq_getElem hil⟩
    obtain rfl := (hmem x hx).1 hk
    have hxv : (ks.map pv)[i]? = some (pv x) := by rw [List.getElem?_map, hx]; rfl
    have hvp := vofPv x
    refine calls_nx Try.func33 rfl Try.ntmps33 rfl ?_ hw
    repeat' (first
    | ((first | with_reducible refine nl_op rfl ?_ | refine nd_go rfl rfl rfl ?_); intro K hK; (first
      | ((first | refine on_E hF rfl rfl ?_ | refine od_E rfl rfl ?_ | refine od_R rfl rfl ?_); (first | refine ⟨_, a_yl, ?_⟩ | refine ⟨_, yl_fieldB (T := 87) (f := 0) (q := 0) rfl rfl (by kernel_rfl), ?_⟩ | refine ⟨_, yl_fieldE (T := 87) (f := 0) (j := 0) rfl rfl a_sl (by (first | omega | (simp only [List.length_append, List.length_cons, List.length_nil, List.length_map] at *; omega))) (by kernel_rfl), ?_⟩ | refine ⟨_, yl_fieldB (T := 93) (f := 1) (q := 1) rfl rfl (by kernel_rfl), ?_⟩ | refine ⟨_, yl_fieldE (T := 93) (f := 1) (j := 1) rfl rfl a_sl (by (first | omega | (simp only [List.length_append, List.length_cons, List.length_nil, List.length_map] at *; omega))) (by kernel_rfl), ?_⟩))
      | ((first | refine on_Ec hF rfl rfl ?_ | refine od_Ec rfl rfl ?_); refine ⟨_, _, _, a_yc, ?_, ?_⟩ <;> (intro hc; try (exfalso; first | (omega; done) | exact absurd (by with_reducible rfl) hc | (simp at hc; done))))
      | ((first | (refine od_act (fun c => by exact (fun h => by cases h)) ?_; intro K2 hK2) | refine od_last (fun c => by exact (fun h => by cases h)) ?_ | skip); (first
      | (refine on_callG hF (enters_of Try.func56 (by kernel_rfl) rfl) rfl rfl rfl rfl (fc _ _ _ _ (by exact a_mem) (by exact a_mem)) (fun _ => ?_))
      
      
      | (refine on_box hF rfl rfl rfl rfl (fun B => ?_))
      | (refine on_store hF rfl rfl rfl rfl a_turn a_vof (by first | rfl | exact hsz.symm | exact hsz) ?_)
      | (refine on_storeE hF rfl rfl rfl rfl a_turn (by (first | omega | (simp only [List.length_append, List.length_cons, List.length_nil, List.length_map] at *; omega))) a_vof (by first | rfl | exact hsz) ?_)
      | (refine on_storeEF hF rfl rfl rfl rfl a_turn (by first | with_reducible assumption | rfl) (by decide) a_vof rfl ?_)
      | (refine on_storeF hF rfl rfl rfl rfl a_turn (by decide) a_vof rfl ?_)) <;> try (refine hK2 _ _ _ a_allK ?_; clear hK2 K2))) <;> (refine hK _ _ _ ?_; clear hK K))
    | with_reducible refine nx_seq ?_
        | with_reducible refine nx_region ?_
        | with_reducible refine nl_nil ?_
        | with_reducible refine nq_then_n ?_
        | with_reducible refine nx_block ?_
        | with_reducible refine nx_skip ?_
        | with_reducible refine nx_exit ?_
        | with_reducible refine nx_ret ?_
        | with_reducible refine nq_then_x ?_
        | with_reducible refine nq_then_r ?_
        | with_reducible refine nq_blk_n ?_
        | with_reducible refine nq_blk_r ?_
        | with_reducible refine nq_blk_hit ?_
        | with_reducible refine nq_blk_miss rfl ?_
        | with_reducible refine nd_nil ?_
    | refine nx_cond_t rfl ?_ | refine nx_cond_f rfl ?_
    | refine nl_pass hF rfl rfl rfl ?_
    | refine nd_pass rfl rfl rfl rfl rfl ?_
    | refine nd_pass2 rfl rfl rfl (fun c => by exact (fun h => by cases h)) a_allK rfl rfl ?_
    | refine nd_pass3 rfl rfl rfl (fun c => by exact (fun h => by cases h)) rfl rfl ?_
    | (with_reducible refine hQ1 _ _ _ ?_; clear hQ1 Q1)
    )
    refine nx_end [] rfl () (fun a w ha hw => res_tmp2 Try.results33 rfl rfl ha) (by exact a_subR) (by exact a_holds2)
  · rw [decide_eq_false hk] at fc ⊢
    refine calls_nx Try.func33 rfl Try.ntmps33 rfl ?_ hw
    repeat' (first
    | ((first | with_reducible refine nl_op rfl ?_ | refine nd_go rfl rfl rfl ?_); intro K hK; (first
      | ((first | refine on_E hF rfl rfl ?_ | refine od_E rfl rfl ?_ | refine od_R rfl rfl ?_); (first | refine ⟨_, a_yl, ?_⟩ | refine ⟨_, yl_fieldB (T := 87) (f := 0) (q := 0) rfl rfl (by kernel_rfl), ?_⟩ | refine ⟨_, yl_fieldE (T := 87) (f := 0) (j := 0) rfl rfl a_sl (by (first | omega | (simp only [List.length_append, List.length_cons, List.length_nil, List.length_map] at *; omega))) (by kernel_rfl), ?_⟩ | refine ⟨_, yl_fieldB (T := 93) (f := 1) (q := 1) rfl rfl (by kernel_rfl), ?_⟩ | refine ⟨_, yl_fieldE (T := 93) (f := 1) (j := 1) rfl rfl a_sl (by (first | omega | (simp only [List.length_append, List.length_cons, List.length_nil, List.length_map] at *; omega))) (by kernel_rfl), ?_⟩))
      | ((first | refine on_Ec hF rfl rfl ?_ | refine od_Ec rfl rfl ?_); refine ⟨_, _, _, a_yc, ?_, ?_⟩ <;> (intro hc; try (exfalso; first | (omega; done) | exact absurd (by with_reducible rfl) hc | (simp at hc; done))))
      | ((first | (refine od_act (fun c => by exact (fun h => by cases h)) ?_; intro K2 hK2) | refine od_last (fun c => by exact (fun h => by cases h)) ?_ | skip); (first
      | (refine on_callG hF (enters_of Try.func56 (by kernel_rfl) rfl) rfl rfl rfl rfl (fc _ _ _ _ (by exact a_mem) (by exact a_mem)) (fun _ => ?_))
      
      
      | (refine on_box hF rfl rfl rfl rfl (fun B => ?_))
      | (refine on_store hF rfl rfl rfl rfl a_turn a_vof (by first | rfl | exact hsz.symm | exact hsz) ?_)
      | (refine on_storeE hF rfl rfl rfl rfl a_turn (by (first | omega | (simp only [List.length_append, List.length_cons, List.length_nil, List.length_map] at *; omega))) a_vof (by first | rfl | exact hsz) ?_)
      | (refine on_storeEF hF rfl rfl rfl rfl a_turn (by first | with_reducible assumption | rfl) (by decide) a_vof rfl ?_)
      | (refine on_storeF hF rfl rfl rfl rfl a_turn (by decide) a_vof rfl ?_)) <;> try (refine hK2 _ _ _ a_allK ?_; clear hK2 K2))) <;> (refine hK _ _ _ ?_; clear hK K))
    | with_reducible refine nx_seq ?_
        | with_reducible refine nx_region ?_
        | with_reducible refine nl_nil ?_
        | with_reducible refine nq_then_n ?_
        | with_reducible refine nx_block ?_
        | with_reducible refine nx_skip ?_
        | with_reducible refine nx_exit ?_
        | with_reducible refine nx_ret ?_
        | with_reducible refine nq_then_x ?_
        | with_reducible refine nq_then_r ?_
        | with_reducible refine nq_blk_n ?_
        | with_reducible refine nq_blk_r ?_
        | with_reducible refine nq_blk_hit ?_
        | with_reducible refine nq_blk_miss rfl ?_
        | with_reducible refine nd_nil ?_
    | refine nx_cond_t rfl ?_ | refine nx_cond_f rfl ?_
    | refine nl_pass hF rfl rfl rfl ?_
    | refine nd_pass rfl rfl rfl rfl rfl ?_
    | refine nd_pass2 rfl rfl rfl (fun c => by exact (fun h => by cases h)) a_allK rfl rfl ?_
    | refine nd_pass3 rfl rfl rfl (fun c => by exact (fun h => by cases h)) rfl rfl ?_
    | (with_reducible refine hQ1 _ _ _ ?_; clear hQ1 Q1)
    )
    refine nx_end [] rfl () (fun a w ha hw => res_tmp2 Try.results33 rfl rfl ha) (by exact a_subR) (by exact a_holds2)
end Ord
end Go.Proofs.Ytinofjenoapeaaa
end

section
namespace Go.Proofs.Ytinofjenoapeaaa
open Go.RowKit Go.Shelf
set_option linter.unusedSimpArgs false
set_option linter.unusedVariables false
theorem list_at {α : Type} {l : List α} {i : Nat} {x : α} (h : l[i]? = some x) : l = l.take i ++ x :: l.drop (i + 1) ∧ l.take (i + 1) = l.take i ++ [x] := by
  obtain ⟨h1, rfl⟩ := List.getElem?_eq_some_iff.1 h
  refine ⟨by rw [← List.drop_eq_getElem_cons h1, List.take_append_drop], by rw [List.take_add_one, h]; rfl⟩
namespace Ord
variable {W0 : World} {X : Nat → Prop} {R C : List Ch}
theorem clone_ct (s : Value) (hsh : IsSl s) (ks : List Int) (hs : SlC 2 s (ks.map pv) ∈ R) (hm : ks.length ≤ 1000000000) : Ct Try.prog 79 [s] W0 X R C SV (fun v => v.1) (fun _ => R) (fun v => RowC 93 2 v.1 (ks.map pv) :: C) := by
  intro w hw
  have hF := isWide_wide
  have hc := celPv ks
  obtain ⟨xs, hxs⟩ : ∃ xs, ks.map pv = xs := ⟨_, rfl⟩
  have hlx : xs.length = ks.length := by rw [← hxs]; simp
  rw [hxs] at hc hs ⊢
  obtain ⟨a, i, c, rfl⟩ := hsh
  have h1 := hw.hasR hs
  obtain ⟨_, ⟨A, c', e1, h2, h3, h4⟩, _⟩ := h1
  have hm1 : 0 + xs.length ≤ maxLen := by unfold maxLen; omega
  have hm2 : (0 + xs.length) * 16 ≤ 140737488355328 := by omega
  clear hxs
  refine calls_nx Try.func79 rfl Try.ntmps79 rfl ?_ hw
  cases a with
  | none =>
    obtain rfl : xs = [] := by
      injection e1 with e2 e3 e4
      have := h3 e2.symm
      exact List.eq_nil_of_length_eq_zero (by omega)
    repeat' (first
    | ((first | with_reducible refine nl_op rfl ?_ | refine nd_go rfl rfl rfl ?_); intro K hK; (first
      | ((first | refine on_E hF rfl rfl ?_ | refine od_E rfl rfl ?_ | refine od_R rfl rfl ?_); (first | refine ⟨_, a_yl, ?_⟩))
      | ((first | refine on_Ec hF rfl rfl ?_ | refine od_Ec rfl rfl ?_); refine ⟨_, _, _, a_yc, ?_, ?_⟩ <;> (intro hc; try (exfalso; first | (omega; done) | exact absurd (by with_reducible rfl) hc | (simp at hc; done))))
      | ((first | (refine od_act (fun c => by exact (fun h => by cases h)) ?_; intro K2 hK2) | refine od_last (fun c => by exact (fun h => by cases h)) ?_ | skip); (first
      
      | (refine on_buildSlice (T := 85) (e := 93) (k := 2) (by_ := 16) hF rfl rfl rfl rfl rfl rfl (by kernel_rfl) a_cel (Nat.le_of_ble_eq_true rfl) (fun b => ?_))
      | (refine on_append (T := 85) (e := 93) (k := 2) (by_ := 16) hF rfl rfl rfl rfl rfl a_pick (by kernel_rfl) a_sl a_cel (by first | omega | (unfold maxLen; simp only [List.length_map, List.length_append, List.length_cons, List.length_nil, List.length_replicate]; omega) | (simp only [List.length_map, List.length_append, List.length_cons, List.length_nil, List.length_replicate]; omega)) (by first | omega | (unfold maxLen; simp only [List.length_map, List.length_append, List.length_cons, List.length_nil, List.length_replicate]; omega) | (simp only [List.length_map, List.length_append, List.length_cons, List.length_nil, List.length_replicate]; omega)) (fun v => ?_))
      
      | (refine on_box hF rfl rfl rfl rfl (fun B => ?_))
      | (refine on_store hF rfl rfl rfl rfl a_turn a_vof (by first | rfl | exact hsz.symm | exact hsz) ?_)
      | (refine on_storeE hF rfl rfl rfl rfl a_turn (by (first | omega | (simp only [List.length_append, List.length_cons, List.length_nil, List.length_map] at *; omega))) a_vof (by first | rfl | exact hsz) ?_)
      | (refine on_storeEF hF rfl rfl rfl rfl a_turn (by first | with_reducible assumption | rfl) (by decide) a_vof rfl ?_)
      | (refine on_storeF hF rfl rfl rfl rfl a_turn (by decide) a_vof rfl ?_)) <;> try (refine hK2 _ _ _ a_allK ?_; clear hK2 K2))) <;> (refine hK _ _ _ ?_; clear hK K))
    | with_reducible refine nx_seq ?_
        | with_reducible refine nx_region ?_
        | with_reducible refine nl_nil ?_
        | with_reducible refine nq_then_n ?_
        | with_reducible refine nx_block ?_
        | with_reducible refine nx_skip ?_
        | with_reducible refine nx_exit ?_
        | with_reducible refine nx_ret ?_
        | with_reducible refine nq_then_x ?_
        | with_reducible refine nq_then_r ?_
        | with_reducible refine nq_blk_n ?_
        | with_reducible refine nq_blk_r ?_
        | with_reducible refine nq_blk_hit ?_
        | with_reducible refine nq_blk_miss rfl ?_
        | with_reducible refine nd_nil ?_
    | refine nx_cond_t rfl ?_ | refine nx_cond_f rfl ?_
    | refine nl_pass hF rfl rfl rfl ?_
    | refine nd_pass rfl rfl rfl rfl rfl ?_
    | refine nd_pass2 rfl rfl rfl (fun c => by exact (fun h => by cases h)) a_allK rfl rfl ?_
    | refine nd_pass3 rfl rfl rfl (fun c => by exact (fun h => by cases h)) rfl rfl ?_
    | (with_reducible refine hQ1 _ _ _ ?_; clear hQ1 Q1)
    )
    refine nx_nilRow 93 2 ?_
    refine nx_end [] rfl (⟨.slice none 0 0, _, _, _, rfl⟩) (fun a w ha hw => res_tmp Try.results79 rfl ha) (by exact a_subR) (by exact a_holds2)
  | some a =>
    repeat' (first
    | ((first | with_reducible refine nl_op rfl ?_ | refine nd_go rfl rfl rfl ?_); intro K hK; (first
      | ((first | refine on_E hF rfl rfl ?_ | refine od_E rfl rfl ?_ | refine od_R rfl rfl ?_); (first | refine ⟨_, a_yl, ?_⟩))
      | ((first | refine on_Ec hF rfl rfl ?_ | refine od_Ec rfl rfl ?_); refine ⟨_, _, _, a_yc, ?_, ?_⟩ <;> (intro hc; try (exfalso; first | (omega; done) | exact absurd (by with_reducible rfl) hc | (simp at hc; done))))
      | ((first | (refine od_act (fun c => by exact (fun h => by cases h)) ?_; intro K2 hK2) | refine od_last (fun c => by exact (fun h => by cases h)) ?_ | skip); (first
      | (refine on_buildSlice (e := 93) (k := 2) (by_ := 16) hF rfl rfl rfl rfl rfl rfl (by kernel_rfl) Cel.nil (by decide) (fun B => ?_)) | (refine on_append (e := 93) (k := 2) (by_ := 16) hF rfl rfl rfl rfl rfl (by exact a_pick) (by kernel_rfl) (by exact a_sl) hc (by exact hm1) (by exact hm2) (fun v => ?_))
      | (refine on_buildSlice (T := 85) (e := 93) (k := 2) (by_ := 16) hF rfl rfl rfl rfl rfl rfl (by kernel_rfl) a_cel (Nat.le_of_ble_eq_true rfl) (fun b => ?_))
      | (refine on_append (T := 85) (e := 93) (k := 2) (by_ := 16) hF rfl rfl rfl rfl rfl a_pick (by kernel_rfl) a_sl a_cel (by first | omega | (unfold maxLen; simp only [List.length_map, List.length_append, List.length_cons, List.length_nil, List.length_replicate]; omega) | (simp only [List.length_map, List.length_append, List.length_cons, List.length_nil, List.length_replicate]; omega)) (by first | omega | (unfold maxLen; simp only [List.length_map, List.length_append, List.length_cons, List.length_nil, List.length_replicate]; omega) | (simp only [List.length_map, List.length_append, List.length_cons, List.length_nil, List.length_replicate]; omega)) (fun v => ?_))
      
      | (refine on_box hF rfl rfl rfl rfl (fun B => ?_))
      | (refine on_store hF rfl rfl rfl rfl a_turn a_vof (by first | rfl | exact hsz.symm | exact hsz) ?_)
      | (refine on_storeE hF rfl rfl rfl rfl a_turn (by (first | omega | (simp only [List.length_append, List.length_cons, List.length_nil, List.length_map] at *; omega))) a_vof (by first | rfl | exact hsz) ?_)
      | (refine on_storeEF hF rfl rfl rfl rfl a_turn (by first | with_reducible assumption | rfl) (by decide) a_vof rfl ?_)
      | (refine on_storeF hF rfl rfl rfl rfl a_turn (by decide) a_vof rfl ?_)) <;> try (refine hK2 _ _ _ a_allK ?_; clear hK2 K2))) <;> (refine hK _ _ _ ?_; clear hK K))
    | with_reducible refine nx_seq ?_
        | with_reducible refine nx_region ?_
        | with_reducible refine nl_nil ?_
        | with_reducible refine nq_then_n ?_
        | with_reducible refine nx_block ?_
        | with_reducible refine nx_skip ?_
        | with_reducible refine nx_exit ?_
        | with_reducible refine nx_ret ?_
        | with_reducible refine nq_then_x ?_
        | with_reducible refine nq_then_r ?_
        | with_reducible refine nq_blk_n ?_
        | with_reducible refine nq_blk_r ?_
        | with_reducible refine nq_blk_hit ?_
        | with_reducible refine nq_blk_miss rfl ?_
        | with_reducible refine nd_nil ?_
    | refine nx_cond_t rfl ?_ | refine nx_cond_f rfl ?_
    | refine nl_pass hF rfl rfl rfl ?_
    | refine nd_pass rfl rfl rfl rfl rfl ?_
    | refine nd_pass2 rfl rfl rfl (fun c => by exact (fun h => by cases h)) a_allK rfl rfl ?_
    | refine nd_pass3 rfl rfl rfl (fun c => by exact (fun h => by cases h)) rfl rfl ?_
    | (with_reducible refine hQ1 _ _ _ ?_; clear hQ1 Q1)
    )
    refine nx_end [] rfl v (fun a w ha hw => res_tmp Try.results79 rfl ha) (by exact a_subR) (by exact a_holds2)
theorem all_ct (s : Value) (hs : IsSl s) : Ct Try.prog 78 [s] W0 X R C Nat (fun B => .func (.func 97) #[] #[ptr B]) (fun B => BoxC B 85 s :: R) (fun _ => C) := by
  intro w hw
  have hF := isWide_wide
  have hvs : VOf Try.prog 85 s := vof_slice (by kernel_rfl) hs
  refine calls_nx Try.func78 rfl Try.ntmps78 rfl ?_ hw
  repeat' (first
    | ((first | with_reducible refine nl_op rfl ?_ | refine nd_go rfl rfl rfl ?_); intro K hK; (first
      | ((first | refine on_E hF rfl rfl ?_ | refine od_E rfl rfl ?_ | refine od_R rfl rfl ?_); (first | refine ⟨_, a_yl, ?_⟩))
      | ((first | refine on_Ec hF rfl rfl ?_ | refine od_Ec rfl rfl ?_); refine ⟨_, _, _, a_yc, ?_, ?_⟩ <;> (intro hc; try (exfalso; first | (omega; done) | exact absurd (by with_reducible rfl) hc | (simp at hc; done))))
      | ((first | (refine od_act (fun c => by exact (fun h => by cases h)) ?_; intro K2 hK2) | refine od_last (fun c => by exact (fun h => by cases h)) ?_ | skip); (first
      
      
      
      | (refine on_box hF rfl rfl rfl rfl (fun B => ?_))
      | (refine on_store hF rfl rfl rfl rfl a_turn a_vof (by first | rfl | exact hsz.symm | exact hsz) ?_)
      | (refine on_storeE hF rfl rfl rfl rfl a_turn (by (first | omega | (simp only [List.length_append, List.length_cons, List.length_nil, List.length_map] at *; omega))) a_vof (by first | rfl | exact hsz) ?_)
      | (refine on_storeEF hF rfl rfl rfl rfl a_turn (by first | with_reducible assumption | rfl) (by decide) a_vof rfl ?_)
      | (refine on_storeF hF rfl rfl rfl rfl a_turn (by decide) a_vof rfl ?_)) <;> try (refine hK2 _ _ _ a_allK ?_; clear hK2 K2))) <;> (refine hK _ _ _ ?_; clear hK K))
    | with_reducible refine nx_seq ?_
        | with_reducible refine nx_region ?_
        | with_reducible refine nl_nil ?_
        | with_reducible refine nq_then_n ?_
        | with_reducible refine nx_block ?_
        | with_reducible refine nx_skip ?_
        | with_reducible refine nx_exit ?_
        | with_reducible refine nx_ret ?_
        | with_reducible refine nq_then_x ?_
        | with_reducible refine nq_then_r ?_
        | with_reducible refine nq_blk_n ?_
        | with_reducible refine nq_blk_r ?_
        | with_reducible refine nq_blk_hit ?_
        | with_reducible refine nq_blk_miss rfl ?_
        | with_reducible refine nd_nil ?_
    | refine nx_cond_t rfl ?_ | refine nx_cond_f rfl ?_
    | refine nl_pass hF rfl rfl rfl ?_
    | refine nd_pass rfl rfl rfl rfl rfl ?_
    | refine nd_pass2 rfl rfl rfl (fun c => by exact (fun h => by cases h)) a_allK rfl rfl ?_
    | refine nd_pass3 rfl rfl rfl (fun c => by exact (fun h => by cases h)) rfl rfl ?_
    | (with_reducible refine hQ1 _ _ _ ?_; clear hQ1 Q1)
    )
  refine nx_frz _ Pick.here ?_
  refine nx_end [] rfl B (fun a w ha hw => res_tmp Try.results78 rfl ha) (by exact a_subR) (by exact a_holds2)
def allV (p : Int × Nat) (vs : List Value) : Prop := vs = [.int .i64 (p.2 : Int), pv p.1]
set_option maxRecDepth 100000 in
set_option maxHeartbeats 1000000 in
theorem all_it (B : Nat) (s : Value) (hs : IsSl s) (ks : List Int) (hm : ks.length ≤ 1000000000) : ItS Try.prog allV (fun _ _ => []) (fun _ => []) ks.zipIdx (.func (.func 97) #[] #[ptr B]) [BoxC B 85 s, SlC 2 s (ks.map pv)] := by
  refine ⟨97, [ptr B], rfl, (enters_of Try.func97 (by kernel_rfl) rfl), ?_⟩
  intro y RY J JX hY hy W0 X R E hRS hRY w hw
  have hF := isWide_wide
  have hb : BoxC B 85 s ∈ R := hRS _ (by simp)
  have hsl : SlC 2 s (ks.map pv) ∈ R := hRS _ (by simp)
  have hvs : VOf Try.prog 85 s := vof_slice (by kernel_rfl) hs
  have hyv : VOf Try.prog 133 y := vof_func (by kernel_rfl) (by obtain ⟨f, lb, h⟩ := hy; exact ⟨f, _, lb, h⟩)
  obtain ⟨sa, sn, sc, rfl⟩ := hs
  obtain rfl := slLen (hw.hasR hsl)
  have hlp : (ks.map pv).length = ks.length := by simp
  refine calls_nx Try.func97 rfl Try.ntmps97 rfl ?_ hw
  repeat' (first
    | ((first | with_reducible refine nl_op rfl ?_ | refine nd_go rfl rfl rfl ?_); intro K hK; (first
      | ((first | refine on_E hF rfl rfl ?_ | refine od_E rfl rfl ?_ | refine od_R rfl rfl ?_); (first | refine ⟨_, a_yl, ?_⟩))
      | ((first | refine on_Ec hF rfl rfl ?_ | refine od_Ec rfl rfl ?_); refine ⟨_, _, _, a_yc, ?_, ?_⟩ <;> (intro hc; try (exfalso; first | (omega; done) | exact absurd (by with_reducible rfl) hc | (simp at hc; done))))
      | ((first | (refine od_act (fun c => by exact (fun h => by cases h)) ?_; intro K2 hK2) | refine od_last (fun c => by exact (fun h => by cases h)) ?_ | skip); (first
      
      
      | (refine on_alloc hF rfl Try.zeroValue93 rfl rfl (fun B => ?_))
      | (refine on_box hF rfl rfl rfl rfl (fun B => ?_))
      | (refine on_store hF rfl rfl rfl rfl a_turn a_vof (by first | rfl | exact hsz.symm | exact hsz) ?_)
      | (refine on_storeE hF rfl rfl rfl rfl a_turn (by (first | omega | (simp only [List.length_append, List.length_cons, List.length_nil, List.length_map] at *; omega))) a_vof (by first | rfl | exact hsz) ?_)
      | (refine on_storeEF hF rfl rfl rfl rfl a_turn (by first | with_reducible assumption | rfl) (by decide) a_vof rfl ?_)
      | (refine on_storeF hF rfl rfl rfl rfl a_turn (by decide) a_vof rfl ?_)) <;> try (refine hK2 _ _ _ a_allK ?_; clear hK2 K2))) <;> (refine hK _ _ _ ?_; clear hK K))
    | with_reducible refine nx_seq ?_
        | with_reducible refine nx_region ?_
        | with_reducible refine nl_nil ?_
        | with_reducible refine nq_then_n ?_
        | with_reducible refine nx_block ?_
        | with_reducible refine nx_skip ?_
        | with_reducible refine nx_exit ?_
        | with_reducible refine nx_ret ?_
        | with_reducible refine nq_then_x ?_
        | with_reducible refine nq_then_r ?_
        | with_reducible refine nq_blk_n ?_
        | with_reducible refine nq_blk_r ?_
        | with_reducible refine nq_blk_hit ?_
        | with_reducible refine nq_blk_miss rfl ?_
        | with_reducible refine nd_nil ?_
    | refine nx_cond_t rfl ?_ | refine nx_cond_f rfl ?_
    | refine nl_pass hF rfl rfl rfl ?_
    | refine nd_pass rfl rfl rfl rfl rfl ?_
    | refine nd_pass2 rfl rfl rfl (fun c => by exact (fun h => by cases h)) a_allK rfl rfl ?_
    | refine nd_pass3 rfl rfl rfl (fun c => by exact (fun h => by cases h)) rfl rfl ?_
    | (with_reducible refine hQ1 _ _ _ ?_; clear hQ1 Q1)
    )
  rw [← List.take_zero (l := ks.zipIdx)]
  refine nx_loop (ι := { i : Nat // i ≤ ks.length }) (fun i => [(0, y), (1, ptr B), (5, .slice sa (ks.map pv).length sc), (6, .int .i64 ((ks.map pv).length : Int)), (7, .int .i64 (i.1 : Int))]) (fun _ => R) (fun i => J (ks.zipIdx.take i.1) :: E) (fun i => ks.length - i.1) ⟨0, Nat.zero_le _⟩ (by exact a_sub) (by exact a_subR) (by exact a_holds) (fun i => ?_)
  obtain ⟨i, hi⟩ := i
  dsimp only
  by_cases hlt : i < ks.length
  · obtain ⟨x, hx⟩ : ∃ x, ks[i]? = some x := ⟨_, List.getElem?_eq_getElem hlt⟩
    have hxv : (ks.map pv)[i]? = some (pv x) := by rw [List.getElem?_map, hx]; rfl
    have hvx := vofPv x
    have hz : ks.zipIdx[i]? = some (x, i) := by rw [List.getElem?_zipIdx, hx]; simp
    obtain ⟨hsp, hnx⟩ := list_at hz
    repeat' (first
    | ((first | with_reducible refine nl_op rfl ?_ | refine nd_go rfl rfl rfl ?_); intro K hK; (first
      | ((first | refine on_E hF rfl rfl ?_ | refine od_E rfl rfl ?_ | refine od_R rfl rfl ?_); (first | refine ⟨_, a_yl, ?_⟩))
      | ((first | refine on_Ec hF rfl rfl ?_ | refine od_Ec rfl rfl ?_); refine ⟨_, _, _, a_yc, ?_, ?_⟩ <;> (intro hc; try (exfalso; first | (omega; done) | exact absurd (by with_reducible rfl) hc | (simp at hc; done))))
      | ((first | (refine od_act (fun c => by exact (fun h => by cases h)) ?_; intro K2 hK2) | refine od_last (fun c => by exact (fun h => by cases h)) ?_ | skip); (first
      | (refine on_yieldD hF hY (ks.zipIdx.take i) (x, i) _ hsp rfl rfl rfl rfl rfl rfl hRY (show Pick _ _ _ from by exact a_pick) ?_ ?_)
      
      | (refine on_alloc hF rfl Try.zeroValue93 rfl rfl (fun B => ?_))
      | (refine on_box hF rfl rfl rfl rfl (fun B => ?_))
      | (refine on_store hF rfl rfl rfl rfl a_turn a_vof (by first | rfl | exact hsz.symm | exact hsz) ?_)
      | (refine on_storeE hF rfl rfl rfl rfl a_turn (by (first | omega | (simp only [List.length_append, List.length_cons, List.length_nil, List.length_map] at *; omega))) a_vof (by first | rfl | exact hsz) ?_)
      | (refine on_storeEF hF rfl rfl rfl rfl a_turn (by first | with_reducible assumption | rfl) (by decide) a_vof rfl ?_)
      | (refine on_storeF hF rfl rfl rfl rfl a_turn (by decide) a_vof rfl ?_)) <;> try (refine hK2 _ _ _ a_allK ?_; clear hK2 K2))) <;> (refine hK _ _ _ ?_; clear hK K))
    | with_reducible refine nx_seq ?_
        | with_reducible refine nx_region ?_
        | with_reducible refine nl_nil ?_
        | with_reducible refine nq_then_n ?_
        | with_reducible refine nx_block ?_
        | with_reducible refine nx_skip ?_
        | with_reducible refine nx_exit ?_
        | with_reducible refine nx_ret ?_
        | with_reducible refine nq_then_x ?_
        | with_reducible refine nq_then_r ?_
        | with_reducible refine nq_blk_n ?_
        | with_reducible refine nq_blk_r ?_
        | with_reducible refine nq_blk_hit ?_
        | with_reducible refine nq_blk_miss rfl ?_
        | with_reducible refine nd_nil ?_
    | refine nx_cond_t rfl ?_ | refine nx_cond_f rfl ?_
    | refine nl_pass hF rfl rfl rfl ?_
    | refine nd_pass rfl rfl rfl rfl rfl ?_
    | refine nd_pass2 rfl rfl rfl (fun c => by exact (fun h => by cases h)) a_allK rfl rfl ?_
    | refine nd_pass3 rfl rfl rfl (fun c => by exact (fun h => by cases h)) rfl rfl ?_
    | (with_reducible refine hQ1 _ _ _ ?_; clear hQ1 Q1)
    )
    all_goals (try (exfalso; dsimp only at *; omega))
    · rw [← hnx]
      refine nx_again ⟨i + 1, by omega⟩ (by dsimp only; omega) (by exact a_sub) (by exact a_subR) (by exact a_holds)
    · refine nx_end [] rfl (some ⟨ks.zipIdx.take i ++ [(x, i)], _, _, _, rfl, hsp⟩) (fun a w ha hw => res_none Try.results97) (by exact a_subR) (by exact a_holds2)
  · have he : ks.zipIdx.take i = ks.zipIdx := List.take_of_length_le (by rw [List.length_zipIdx]; omega)
    rw [he]
    repeat' (first
    | ((first | with_reducible refine nl_op rfl ?_ | refine nd_go rfl rfl rfl ?_); intro K hK; (first
      | ((first | refine on_E hF rfl rfl ?_ | refine od_E rfl rfl ?_ | refine od_R rfl rfl ?_); (first | refine ⟨_, a_yl, ?_⟩))
      | ((first | refine on_Ec hF rfl rfl ?_ | refine od_Ec rfl rfl ?_); refine ⟨_, _, _, a_yc, ?_, ?_⟩ <;> (intro hc; try (exfalso; first | (omega; done) | exact absurd (by with_reducible rfl) hc | (simp at hc; done))))
      | ((first | (refine od_act (fun c => by exact (fun h => by cases h)) ?_; intro K2 hK2) | refine od_last (fun c => by exact (fun h => by cases h)) ?_ | skip); (first
      
      
      | (refine on_alloc hF rfl Try.zeroValue93 rfl rfl (fun B => ?_))
      | (refine on_box hF rfl rfl rfl rfl (fun B => ?_))
      | (refine on_store hF rfl rfl rfl rfl a_turn a_vof (by first | rfl | exact hsz.symm | exact hsz) ?_)
      | (refine on_storeE hF rfl rfl rfl rfl a_turn (by (first | omega | (simp only [List.length_append, List.length_cons, List.length_nil, List.length_map] at *; omega))) a_vof (by first | rfl | exact hsz) ?_)
      | (refine on_storeEF hF rfl rfl rfl rfl a_turn (by first | with_reducible assumption | rfl) (by decide) a_vof rfl ?_)
      | (refine on_storeF hF rfl rfl rfl rfl a_turn (by decide) a_vof rfl ?_)) <;> try (refine hK2 _ _ _ a_allK ?_; clear hK2 K2))) <;> (refine hK _ _ _ ?_; clear hK K))
    | with_reducible refine nx_seq ?_
        | with_reducible refine nx_region ?_
        | with_reducible refine nl_nil ?_
        | with_reducible refine nq_then_n ?_
        | with_reducible refine nx_block ?_
        | with_reducible refine nx_skip ?_
        | with_reducible refine nx_exit ?_
        | with_reducible refine nx_ret ?_
        | with_reducible refine nq_then_x ?_
        | with_reducible refine nq_then_r ?_
        | with_reducible refine nq_blk_n ?_
        | with_reducible refine nq_blk_r ?_
        | with_reducible refine nq_blk_hit ?_
        | with_reducible refine nq_blk_miss rfl ?_
        | with_reducible refine nd_nil ?_
    | refine nx_cond_t rfl ?_ | refine nx_cond_f rfl ?_
    | refine nl_pass hF rfl rfl rfl ?_
    | refine nd_pass rfl rfl rfl rfl rfl ?_
    | refine nd_pass2 rfl rfl rfl (fun c => by exact (fun h => by cases h)) a_allK rfl rfl ?_
    | refine nd_pass3 rfl rfl rfl (fun c => by exact (fun h => by cases h)) rfl rfl ?_
    | (with_reducible refine hQ1 _ _ _ ?_; clear hQ1 Q1)
    )
    all_goals (try (exfalso; dsimp only at *; omega))
    refine nx_end_n [] rfl none (fun a w ha hw => res_none Try.results97) (by exact a_subR) (by exact a_holds2)
theorem walk_ct (f : Value) (hf : fnB f = true) : Ct Try.prog 77 [f] W0 X R C Nat (fun B => .func (.func 96) #[] #[ptr B]) (fun B => BoxC B 115 f :: R) (fun _ => C) := by
  intro w hw
  have hF := isWide_wide
  have hvf : VOf Try.prog 115 f := vof_fn (by kernel_rfl) hf
  refine calls_nx Try.func77 rfl Try.ntmps77 rfl ?_ hw
  repeat' (first
    | ((first | with_reducible refine nl_op rfl ?_ | refine nd_go rfl rfl rfl ?_); intro K hK; (first
      | ((first | refine on_E hF rfl rfl ?_ | refine od_E rfl rfl ?_ | refine od_R rfl rfl ?_); (first | refine ⟨_, a_yl, ?_⟩))
      | ((first | refine on_Ec hF rfl rfl ?_ | refine od_Ec rfl rfl ?_); refine ⟨_, _, _, a_yc, ?_, ?_⟩ <;> (intro hc; try (exfalso; first | (omega; done) | exact absurd (by with_reducible rfl) hc | (simp at hc; done))))
      | ((first | (refine od_act (fun c => by exact (fun h => by cases h)) ?_; intro K2 hK2) | refine od_last (fun c => by exact (fun h => by cases h)) ?_ | skip); (first
      
      
      
      | (refine on_box hF rfl rfl rfl rfl (fun B => ?_))
      | (refine on_store hF rfl rfl rfl rfl a_turn a_vof (by first | rfl | exact hsz.symm | exact hsz) ?_)
      | (refine on_storeE hF rfl rfl rfl rfl a_turn (by (first | omega | (simp only [List.length_append, List.length_cons, List.length_nil, List.length_map] at *; omega))) a_vof (by first | rfl | exact hsz) ?_)
      | (refine on_storeEF hF rfl rfl rfl rfl a_turn (by first | with_reducible assumption | rfl) (by decide) a_vof rfl ?_)
      | (refine on_storeF hF rfl rfl rfl rfl a_turn (by decide) a_vof rfl ?_)) <;> try (refine hK2 _ _ _ a_allK ?_; clear hK2 K2))) <;> (refine hK _ _ _ ?_; clear hK K))
    | with_reducible refine nx_seq ?_
        | with_reducible refine nx_region ?_
        | with_reducible refine nl_nil ?_
        | with_reducible refine nq_then_n ?_
        | with_reducible refine nx_block ?_
        | with_reducible refine nx_skip ?_
        | with_reducible refine nx_exit ?_
        | with_reducible refine nx_ret ?_
        | with_reducible refine nq_then_x ?_
        | with_reducible refine nq_then_r ?_
        | with_reducible refine nq_blk_n ?_
        | with_reducible refine nq_blk_r ?_
        | with_reducible refine nq_blk_hit ?_
        | with_reducible refine nq_blk_miss rfl ?_
        | with_reducible refine nd_nil ?_
    | refine nx_cond_t rfl ?_ | refine nx_cond_f rfl ?_
    | refine nl_pass hF rfl rfl rfl ?_
    | refine nd_pass rfl rfl rfl rfl rfl ?_
    | refine nd_pass2 rfl rfl rfl (fun c => by exact (fun h => by cases h)) a_allK rfl rfl ?_
    | refine nd_pass3 rfl rfl rfl (fun c => by exact (fun h => by cases h)) rfl rfl ?_
    | (with_reducible refine hQ1 _ _ _ ?_; clear hQ1 Q1)
    )
  refine nx_frz _ Pick.here ?_
  refine nx_end [] rfl B (fun a w ha hw => res_tmp Try.results77 rfl ha) (by exact a_subR) (by exact a_holds2)
def keyV (k : Int) (vs : List Value) : Prop := vs = [.int .i64 k, .bool true]
theorem zip_fst {ks : List Int} {pre post : List (Int × Nat)} (h : ks.zipIdx = pre ++ post) : ks = pre.map (·.1) ++ post.map (·.1) := by
  have := congrArg (List.map (·.1)) h
  rw [List.map_append] at this
  rw [← this]; simp
set_option maxRecDepth 100000 in
set_option maxHeartbeats 1000000 in
theorem walk_it (B2 Bs : Nat) (s : Value) (hs : IsSl s) (ks : List Int) (hm : ks.length ≤ 1000000000) : ItS Try.prog keyV (fun _ _ => []) (fun _ => []) ks (.func (.func 96) #[] #[ptr B2]) (BoxC B2 115 (.func (.func 97) #[] #[ptr Bs]) :: [BoxC Bs 85 s, SlC 2 s (ks.map pv)]) := by
  refine ⟨96, [ptr B2], rfl, (enters_of Try.func96 (by kernel_rfl) rfl), ?_⟩
  intro y RY J JX hY hy W0 X R E hRS hRY w hw
  have hF := isWide_wide
  have hb : BoxC B2 115 (.func (.func 97) #[] #[ptr Bs]) ∈ R := hRS _ (by simp)
  have hR1 : ∀ r ∈ [BoxC Bs 85 s, SlC 2 s (ks.map pv)], r ∈ R := fun r hr => hRS r (List.mem_cons_of_mem _ hr)
  have hvf : VOf Try.prog 115 (.func (.func 97) #[] #[ptr Bs]) := vof_fn (by kernel_rfl) rfl
  have hyv : VOf Try.prog 65 y := vof_func (by kernel_rfl) (by obtain ⟨f, lb, h⟩ := hy; exact ⟨f, _, lb, h⟩)
  clear hRS
  refine calls_nx Try.func96 rfl Try.ntmps96 rfl ?_ hw
  repeat' (first
    | ((first | with_reducible refine nl_op rfl ?_ | refine nd_go rfl rfl rfl ?_); intro K hK; (first
      | ((first | refine on_E hF rfl rfl ?_ | refine od_E rfl rfl ?_ | refine od_R rfl rfl ?_); (first | refine ⟨_, a_yl, ?_⟩ | refine ⟨_, yl_fieldB (T := 93) (f := 0) (q := 0) rfl rfl (by kernel_rfl), ?_⟩ | refine ⟨_, yl_fieldE (T := 93) (f := 0) (j := 0) rfl rfl a_sl (by (first | omega | (simp only [List.length_append, List.length_cons, List.length_nil, List.length_map] at *; omega))) (by kernel_rfl), ?_⟩ | refine ⟨_, yl_fieldB (T := 93) (f := 1) (q := 1) rfl rfl (by kernel_rfl), ?_⟩ | refine ⟨_, yl_fieldE (T := 93) (f := 1) (j := 1) rfl rfl a_sl (by (first | omega | (simp only [List.length_append, List.length_cons, List.length_nil, List.length_map] at *; omega))) (by kernel_rfl), ?_⟩))
      | ((first | refine on_Ec hF rfl rfl ?_ | refine od_Ec rfl rfl ?_); refine ⟨_, _, _, a_yc, ?_, ?_⟩ <;> (intro hc; try (exfalso; first | (omega; done) | exact absurd (by with_reducible rfl) hc | (simp at hc; done))))
      | ((first | (refine od_act (fun c => by exact (fun h => by cases h)) ?_; intro K2 hK2) | refine od_last (fun c => by exact (fun h => by cases h)) ?_ | skip); (first
      
      
      | (refine on_alloc hF rfl Try.zeroValue93 rfl rfl (fun B => ?_))
      | (refine on_box hF rfl rfl rfl rfl (fun B => ?_))
      | (refine on_store hF rfl rfl rfl rfl a_turn a_vof (by first | rfl | exact hsz.symm | exact hsz) ?_)
      | (refine on_storeE hF rfl rfl rfl rfl a_turn (by (first | omega | (simp only [List.length_append, List.length_cons, List.length_nil, List.length_map] at *; omega))) a_vof (by first | rfl | exact hsz) ?_)
      | (refine on_storeEF hF rfl rfl rfl rfl a_turn (by first | with_reducible assumption | rfl) (by decide) a_vof rfl ?_)
      | (refine on_storeF hF rfl rfl rfl rfl a_turn (by decide) a_vof rfl ?_)) <;> try (refine hK2 _ _ _ a_allK ?_; clear hK2 K2))) <;> (refine hK _ _ _ ?_; clear hK K))
    | with_reducible refine nx_seq ?_
        | with_reducible refine nx_region ?_
        | with_reducible refine nl_nil ?_
        | with_reducible refine nq_then_n ?_
        | with_reducible refine nx_block ?_
        | with_reducible refine nx_skip ?_
        | with_reducible refine nx_exit ?_
        | with_reducible refine nx_ret ?_
        | with_reducible refine nq_then_x ?_
        | with_reducible refine nq_then_r ?_
        | with_reducible refine nq_blk_n ?_
        | with_reducible refine nq_blk_r ?_
        | with_reducible refine nq_blk_hit ?_
        | with_reducible refine nq_blk_miss rfl ?_
        | with_reducible refine nd_nil ?_
    | refine nx_cond_t rfl ?_ | refine nx_cond_f rfl ?_
    | refine nl_pass hF rfl rfl rfl ?_
    | refine nd_pass rfl rfl rfl rfl rfl ?_
    | refine nd_pass2 rfl rfl rfl (fun c => by exact (fun h => by cases h)) a_allK rfl rfl ?_
    | refine nd_pass3 rfl rfl rfl (fun c => by exact (fun h => by cases h)) rfl rfl ?_
    | (with_reducible refine hQ1 _ _ _ ?_; clear hQ1 Q1)
    )
  refine nx_frz _ Pick.here ?_
  refine nx_range hF rfl rfl (all_it Bs s hs ks hm) (fun r hr => List.mem_cons_of_mem _ (hR1 r hr)) (by rfl) (fun x vs h => by rw [h]; rfl) (fun _ (_ : Unit) => True) (fun pre _ => J (pre.map (·.1)) :: E) (fun q j (_ : Unit) => j = none) (fun q _ _ => JX (q.map (·.1)) :: E) () trivial (by exact a_holds2) ?round ?done ?stop
  case round =>
    rintro lp pre ⟨x, i⟩ post hx vs rfl _ _ W1 X1 R' hR' E1 K HK
    have hF := isWide_wide.inRound lp
    have hvx := vofPv x
    have hby : BoxC B 65 y ∈ R' := hR' _ List.mem_cons_self
    have hRY : ∀ r ∈ RY, r ∈ R' := fun r hr => hR' r (List.mem_cons_of_mem _ (hRY r hr))
    have hsp := zip_fst hx
    rw [List.map_cons] at hsp
    have hnx : (pre ++ [(x, i)]).map (·.1) = pre.map (·.1) ++ [x] := by simp
    dsimp only at hsp ⊢
    clear hR' hR1 hb
    (try simp only [List.cons_append, List.nil_append])
    repeat' (first
    | ((first | with_reducible refine nl_op rfl ?_ | refine nd_go rfl rfl rfl ?_); intro K hK; (first
      | ((first | refine on_E hF rfl rfl ?_ | refine od_E rfl rfl ?_ | refine od_R rfl rfl ?_); (first | refine ⟨_, a_yl, ?_⟩ | refine ⟨_, yl_fieldB (T := 93) (f := 0) (q := 0) rfl rfl (by kernel_rfl), ?_⟩ | refine ⟨_, yl_fieldE (T := 93) (f := 0) (j := 0) rfl rfl a_sl (by (first | omega | (simp only [List.length_append, List.length_cons, List.length_nil, List.length_map] at *; omega))) (by kernel_rfl), ?_⟩ | refine ⟨_, yl_fieldB (T := 93) (f := 1) (q := 1) rfl rfl (by kernel_rfl), ?_⟩ | refine ⟨_, yl_fieldE (T := 93) (f := 1) (j := 1) rfl rfl a_sl (by (first | omega | (simp only [List.length_append, List.length_cons, List.length_nil, List.length_map] at *; omega))) (by kernel_rfl), ?_⟩))
      | ((first | refine on_Ec hF rfl rfl ?_ | refine od_Ec rfl rfl ?_); refine ⟨_, _, _, a_yc, ?_, ?_⟩ <;> (intro hc; try (exfalso; first | (omega; done) | exact absurd (by with_reducible rfl) hc | (simp at hc; done))))
      | ((first | (refine od_act (fun c => by exact (fun h => by cases h)) ?_; intro K2 hK2) | refine od_last (fun c => by exact (fun h => by cases h)) ?_ | skip); (first
      
      
      | (refine on_alloc hF rfl Try.zeroValue93 rfl rfl (fun B => ?_))
      | (refine on_box hF rfl rfl rfl rfl (fun B => ?_))
      | (refine on_store hF rfl rfl rfl rfl a_turn a_vof (by first | rfl | exact hsz.symm | exact hsz) ?_)
      | (refine on_storeE hF rfl rfl rfl rfl a_turn (by (first | omega | (simp only [List.length_append, List.length_cons, List.length_nil, List.length_map] at *; omega))) a_vof (by first | rfl | exact hsz) ?_)
      | (refine on_storeEF hF rfl rfl rfl rfl a_turn (by first | with_reducible assumption | rfl) (by decide) a_vof rfl ?_)
      | (refine on_storeF hF rfl rfl rfl rfl a_turn (by decide) a_vof rfl ?_)) <;> try (refine hK2 _ _ _ a_allK ?_; clear hK2 K2))) <;> (refine hK _ _ _ ?_; clear hK K))
    | with_reducible refine nx_seq ?_
        | with_reducible refine nx_region ?_
        | with_reducible refine nl_nil ?_
        | with_reducible refine nq_then_n ?_
        | with_reducible refine nx_block ?_
        | with_reducible refine nx_skip ?_
        | with_reducible refine nx_exit ?_
        | with_reducible refine nx_ret ?_
        | with_reducible refine nq_then_x ?_
        | with_reducible refine nq_then_r ?_
        | with_reducible refine nq_blk_n ?_
        | with_reducible refine nq_blk_r ?_
        | with_reducible refine nq_blk_hit ?_
        | with_reducible refine nq_blk_miss rfl ?_
        | with_reducible refine nd_nil ?_
    | refine nx_cond_t rfl ?_ | refine nx_cond_f rfl ?_
    | refine nl_pass hF rfl rfl rfl ?_
    | refine nd_pass rfl rfl rfl rfl rfl ?_
    | refine nd_pass2 rfl rfl rfl (fun c => by exact (fun h => by cases h)) a_allK rfl rfl ?_
    | refine nd_pass3 rfl rfl rfl (fun c => by exact (fun h => by cases h)) rfl rfl ?_
    | (with_reducible refine hQ1 _ _ _ ?_; clear hQ1 Q1)
    )
    refine nx_frz (BoxC _ _ (pv x)) Pick.here ?_
    refine HK _ _ (J (pre.map (·.1)) :: E) _ (by exact a_subR) (by exact a_holds2) (fun E2 => ?_)
    clear HK K
    (try simp only [List.cons_append, List.nil_append])
    rw [hnx]
    repeat' (first
    | ((first | with_reducible refine nl_op rfl ?_ | refine nd_go rfl rfl rfl ?_); intro K hK; (first
      | ((first | refine on_E hF rfl rfl ?_ | refine od_E rfl rfl ?_ | refine od_R rfl rfl ?_); (first | refine ⟨_, a_yl, ?_⟩ | refine ⟨_, yl_fieldB (T := 93) (f := 0) (q := 0) rfl rfl (by kernel_rfl), ?_⟩ | refine ⟨_, yl_fieldE (T := 93) (f := 0) (j := 0) rfl rfl a_sl (by (first | omega | (simp only [List.length_append, List.length_cons, List.length_nil, List.length_map] at *; omega))) (by kernel_rfl), ?_⟩ | refine ⟨_, yl_fieldB (T := 93) (f := 1) (q := 1) rfl rfl (by kernel_rfl), ?_⟩ | refine ⟨_, yl_fieldE (T := 93) (f := 1) (j := 1) rfl rfl a_sl (by (first | omega | (simp only [List.length_append, List.length_cons, List.length_nil, List.length_map] at *; omega))) (by kernel_rfl), ?_⟩))
      | ((first | refine on_Ec hF rfl rfl ?_ | refine od_Ec rfl rfl ?_); refine ⟨_, _, _, a_yc, ?_, ?_⟩ <;> (intro hc; try (exfalso; first | (omega; done) | exact absurd (by with_reducible rfl) hc | (simp at hc; done))))
      | ((first | (refine od_act (fun c => by exact (fun h => by cases h)) ?_; intro K2 hK2) | refine od_last (fun c => by exact (fun h => by cases h)) ?_ | skip); (first
      | (refine on_yieldD hF hY (pre.map (·.1)) x _ hsp rfl rfl rfl rfl rfl rfl (by exact a_subR) (show Pick _ _ _ from by exact a_pick) ?_ ?_)
      
      | (refine on_alloc hF rfl Try.zeroValue93 rfl rfl (fun B => ?_))
      | (refine on_box hF rfl rfl rfl rfl (fun B => ?_))
      | (refine on_store hF rfl rfl rfl rfl a_turn a_vof (by first | rfl | exact hsz.symm | exact hsz) ?_)
      | (refine on_storeE hF rfl rfl rfl rfl a_turn (by (first | omega | (simp only [List.length_append, List.length_cons, List.length_nil, List.length_map] at *; omega))) a_vof (by first | rfl | exact hsz) ?_)
      | (refine on_storeEF hF rfl rfl rfl rfl a_turn (by first | with_reducible assumption | rfl) (by decide) a_vof rfl ?_)
      | (refine on_storeF hF rfl rfl rfl rfl a_turn (by decide) a_vof rfl ?_)) <;> try (refine hK2 _ _ _ a_allK ?_; clear hK2 K2))) <;> (refine hK _ _ _ ?_; clear hK K))
    | with_reducible refine nx_seq ?_
        | with_reducible refine nx_region ?_
        | with_reducible refine nl_nil ?_
        | with_reducible refine nq_then_n ?_
        | with_reducible refine nx_block ?_
        | with_reducible refine nx_skip ?_
        | with_reducible refine nx_exit ?_
        | with_reducible refine nx_ret ?_
        | with_reducible refine nq_then_x ?_
        | with_reducible refine nq_then_r ?_
        | with_reducible refine nq_blk_n ?_
        | with_reducible refine nq_blk_r ?_
        | with_reducible refine nq_blk_hit ?_
        | with_reducible refine nq_blk_miss rfl ?_
        | with_reducible refine nd_nil ?_
    | refine nx_cond_t rfl ?_ | refine nx_cond_f rfl ?_
    | refine nl_pass hF rfl rfl rfl ?_
    | refine nd_pass rfl rfl rfl rfl rfl ?_
    | refine nd_pass2 rfl rfl rfl (fun c => by exact (fun h => by cases h)) a_allK rfl rfl ?_
    | refine nd_pass3 rfl rfl rfl (fun c => by exact (fun h => by cases h)) rfl rfl ?_
    | (with_reducible refine hQ1 _ _ _ ?_; clear hQ1 Q1)
    )
    · exact rq_n () trivial (by exact a_subR) (by exact a_holds2)
    · exact rq_r () rfl (by exact a_subR) (by exact a_holds2)
  case done =>
    intro _ _ M
    rw [show ks.zipIdx.map (·.1) = ks by simp]
    repeat' (first
    | ((first | with_reducible refine nl_op rfl ?_ | refine nd_go rfl rfl rfl ?_); intro K hK; (first
      | ((first | refine on_E hF rfl rfl ?_ | refine od_E rfl rfl ?_ | refine od_R rfl rfl ?_); (first | refine ⟨_, a_yl, ?_⟩ | refine ⟨_, yl_fieldB (T := 93) (f := 0) (q := 0) rfl rfl (by kernel_rfl), ?_⟩ | refine ⟨_, yl_fieldE (T := 93) (f := 0) (j := 0) rfl rfl a_sl (by (first | omega | (simp only [List.length_append, List.length_cons, List.length_nil, List.length_map] at *; omega))) (by kernel_rfl), ?_⟩ | refine ⟨_, yl_fieldB (T := 93) (f := 1) (q := 1) rfl rfl (by kernel_rfl), ?_⟩ | refine ⟨_, yl_fieldE (T := 93) (f := 1) (j := 1) rfl rfl a_sl (by (first | omega | (simp only [List.length_append, List.length_cons, List.length_nil, List.length_map] at *; omega))) (by kernel_rfl), ?_⟩))
      | ((first | refine on_Ec hF rfl rfl ?_ | refine od_Ec rfl rfl ?_); refine ⟨_, _, _, a_yc, ?_, ?_⟩ <;> (intro hc; try (exfalso; first | (omega; done) | exact absurd (by with_reducible rfl) hc | (simp at hc; done))))
      | ((first | (refine od_act (fun c => by exact (fun h => by cases h)) ?_; intro K2 hK2) | refine od_last (fun c => by exact (fun h => by cases h)) ?_ | skip); (first
      
      
      | (refine on_alloc hF rfl Try.zeroValue93 rfl rfl (fun B => ?_))
      | (refine on_box hF rfl rfl rfl rfl (fun B => ?_))
      | (refine on_store hF rfl rfl rfl rfl a_turn a_vof (by first | rfl | exact hsz.symm | exact hsz) ?_)
      | (refine on_storeE hF rfl rfl rfl rfl a_turn (by (first | omega | (simp only [List.length_append, List.length_cons, List.length_nil, List.length_map] at *; omega))) a_vof (by first | rfl | exact hsz) ?_)
      | (refine on_storeEF hF rfl rfl rfl rfl a_turn (by first | with_reducible assumption | rfl) (by decide) a_vof rfl ?_)
      | (refine on_storeF hF rfl rfl rfl rfl a_turn (by decide) a_vof rfl ?_)) <;> try (refine hK2 _ _ _ a_allK ?_; clear hK2 K2))) <;> (refine hK _ _ _ ?_; clear hK K))
    | with_reducible refine nx_seq ?_
        | with_reducible refine nx_region ?_
        | with_reducible refine nl_nil ?_
        | with_reducible refine nq_then_n ?_
        | with_reducible refine nx_block ?_
        | with_reducible refine nx_skip ?_
        | with_reducible refine nx_exit ?_
        | with_reducible refine nx_ret ?_
        | with_reducible refine nq_then_x ?_
        | with_reducible refine nq_then_r ?_
        | with_reducible refine nq_blk_n ?_
        | with_reducible refine nq_blk_r ?_
        | with_reducible refine nq_blk_hit ?_
        | with_reducible refine nq_blk_miss rfl ?_
        | with_reducible refine nd_nil ?_
    | refine nx_cond_t rfl ?_ | refine nx_cond_f rfl ?_
    | refine nl_pass hF rfl rfl rfl ?_
    | refine nd_pass rfl rfl rfl rfl rfl ?_
    | refine nd_pass2 rfl rfl rfl (fun c => by exact (fun h => by cases h)) a_allK rfl rfl ?_
    | refine nd_pass3 rfl rfl rfl (fun c => by exact (fun h => by cases h)) rfl rfl ?_
    | (with_reducible refine hQ1 _ _ _ ?_; clear hQ1 Q1)
    )
    refine nx_end_n [M] rfl none (fun a w ha hw => res_none Try.results96) (by exact a_subR) (by exact a_holds2)
  case stop =>
    rintro pre ⟨x, i⟩ post hx _ _ rfl M
    have hsp := zip_fst hx
    rw [List.map_cons] at hsp
    have hnx : (pre ++ [(x, i)]).map (·.1) = pre.map (·.1) ++ [x] := by simp
    dsimp only at hsp
    refine nx_ret ?_
    repeat' (first
    | ((first | with_reducible refine nl_op rfl ?_ | refine nd_go rfl rfl rfl ?_); intro K hK; (first
      | ((first | refine on_E hF rfl rfl ?_ | refine od_E rfl rfl ?_ | refine od_R rfl rfl ?_); (first | refine ⟨_, a_yl, ?_⟩ | refine ⟨_, yl_fieldB (T := 93) (f := 0) (q := 0) rfl rfl (by kernel_rfl), ?_⟩ | refine ⟨_, yl_fieldE (T := 93) (f := 0) (j := 0) rfl rfl a_sl (by (first | omega | (simp only [List.length_append, List.length_cons, List.length_nil, List.length_map] at *; omega))) (by kernel_rfl), ?_⟩ | refine ⟨_, yl_fieldB (T := 93) (f := 1) (q := 1) rfl rfl (by kernel_rfl), ?_⟩ | refine ⟨_, yl_fieldE (T := 93) (f := 1) (j := 1) rfl rfl a_sl (by (first | omega | (simp only [List.length_append, List.length_cons, List.length_nil, List.length_map] at *; omega))) (by kernel_rfl), ?_⟩))
      | ((first | refine on_Ec hF rfl rfl ?_ | refine od_Ec rfl rfl ?_); refine ⟨_, _, _, a_yc, ?_, ?_⟩ <;> (intro hc; try (exfalso; first | (omega; done) | exact absurd (by with_reducible rfl) hc | (simp at hc; done))))
      | ((first | (refine od_act (fun c => by exact (fun h => by cases h)) ?_; intro K2 hK2) | refine od_last (fun c => by exact (fun h => by cases h)) ?_ | skip); (first
      
      
      | (refine on_alloc hF rfl Try.zeroValue93 rfl rfl (fun B => ?_))
      | (refine on_box hF rfl rfl rfl rfl (fun B => ?_))
      | (refine on_store hF rfl rfl rfl rfl a_turn a_vof (by first | rfl | exact hsz.symm | exact hsz) ?_)
      | (refine on_storeE hF rfl rfl rfl rfl a_turn (by (first | omega | (simp only [List.length_append, List.length_cons, List.length_nil, List.length_map] at *; omega))) a_vof (by first | rfl | exact hsz) ?_)
      | (refine on_storeEF hF rfl rfl rfl rfl a_turn (by first | with_reducible assumption | rfl) (by decide) a_vof rfl ?_)
      | (refine on_storeF hF rfl rfl rfl rfl a_turn (by decide) a_vof rfl ?_)) <;> try (refine hK2 _ _ _ a_allK ?_; clear hK2 K2))) <;> (refine hK _ _ _ ?_; clear hK K))
    | with_reducible refine nx_seq ?_
        | with_reducible refine nx_region ?_
        | with_reducible refine nl_nil ?_
        | with_reducible refine nq_then_n ?_
        | with_reducible refine nx_block ?_
        | with_reducible refine nx_skip ?_
        | with_reducible refine nx_exit ?_
        | with_reducible refine nx_ret ?_
        | with_reducible refine nq_then_x ?_
        | with_reducible refine nq_then_r ?_
        | with_reducible refine nq_blk_n ?_
        | with_reducible refine nq_blk_r ?_
        | with_reducible refine nq_blk_hit ?_
        | with_reducible refine nq_blk_miss rfl ?_
        | with_reducible refine nd_nil ?_
    | refine nx_cond_t rfl ?_ | refine nx_cond_f rfl ?_
    | refine nl_pass hF rfl rfl rfl ?_
    | refine nd_pass rfl rfl rfl rfl rfl ?_
    | refine nd_pass2 rfl rfl rfl (fun c => by exact (fun h => by cases h)) a_allK rfl rfl ?_
    | refine nd_pass3 rfl rfl rfl (fun c => by exact (fun h => by cases h)) rfl rfl ?_
    | (with_reducible refine hQ1 _ _ _ ?_; clear hQ1 Q1)
    )
    rw [hnx]
    refine nx_end [M] rfl (some ⟨pre.map (·.1) ++ [x], _, _, post.map (·.1), rfl, by rw [hsp]⟩) (fun a w ha hw => res_none Try.results96) (by exact a_subR) (by exact a_holds2)
/-- What the map's iterator is. -/
def mallR (bm : Nat) (ks : List Int) (i : Nat × Nat × SV) : List Ch := BoxC i.1 115 (.func (.func 97) #[] #[ptr i.2.1]) :: [BoxC i.2.1 85 i.2.2.1, SlC 2 i.2.2.1 (ks.map pv)]
theorem mall_ct (bm : Nat) (ks : List Int) (hb : OrdC bm ks ∈ R) (hm : ks.length ≤ 1000000000) : Ct Try.prog 58 [ptr bm] W0 X R C (Nat × Nat × SV) (fun i => .func (.func 96) #[] #[ptr i.1]) (fun i => mallR bm ks i ++ R) (fun _ => C) := by
  intro w hw
  have hF := isWide_wide
  obtain ⟨⟨s, hs⟩, hw⟩ := ordR hw hb
  dsimp only at hw
  have hvm := vofM hs
  have hvs : VOf Try.prog 85 s := vof_slice (by kernel_rfl) hs
  obtain ⟨sa, sn, sc, rfl⟩ := hs
  refine calls_nx Try.func58 rfl Try.ntmps58 rfl ?_ hw
  repeat' (first
    | ((first | with_reducible refine nl_op rfl ?_ | refine nd_go rfl rfl rfl ?_); intro K hK; (first
      | ((first | refine on_E hF rfl rfl ?_ | refine od_E rfl rfl ?_ | refine od_R rfl rfl ?_); (first | refine ⟨_, a_yl, ?_⟩ | refine ⟨_, yl_fieldB (T := 87) (f := 0) (q := 0) rfl rfl (by kernel_rfl), ?_⟩ | refine ⟨_, yl_fieldE (T := 87) (f := 0) (j := 0) rfl rfl a_sl (by (first | omega | (simp only [List.length_append, List.length_cons, List.length_nil, List.length_map] at *; omega))) (by kernel_rfl), ?_⟩))
      | ((first | refine on_Ec hF rfl rfl ?_ | refine od_Ec rfl rfl ?_); refine ⟨_, _, _, a_yc, ?_, ?_⟩ <;> (intro hc; try (exfalso; first | (omega; done) | exact absurd (by with_reducible rfl) hc | (simp at hc; done))))
      | ((first | (refine od_act (fun c => by exact (fun h => by cases h)) ?_; intro K2 hK2) | refine od_last (fun c => by exact (fun h => by cases h)) ?_ | skip); (first
      | (refine on_callG hF (enters_of Try.func79 (by kernel_rfl) rfl) rfl rfl rfl rfl (clone_ct (.slice sa sn sc) ⟨_, _, _, rfl⟩ ks (by exact a_mem) hm) (fun v => ?_); refine nx_frzRow Pick.here ?_)
      | (refine on_callG hF (enters_of Try.func78 (by kernel_rfl) rfl) rfl rfl rfl rfl (all_ct v.1 v.2) (fun b1 => ?_))
      | (refine on_call (vs := [.func (.func 97) #[] #[ptr b1]]) hF rfl rfl rfl rfl (enters_of Try.func77 (by kernel_rfl) rfl) (walk_ct _ rfl) (fun b2 => ?_))
      | (refine on_buildSlice (T := 85) (e := 93) (k := 2) (by_ := 16) hF rfl rfl rfl rfl rfl rfl (by kernel_rfl) a_cel (Nat.le_of_ble_eq_true rfl) (fun b => ?_))
      
      | (refine on_box hF rfl rfl rfl rfl (fun B => ?_))
      | (refine on_store hF rfl rfl rfl rfl a_turn a_vof (by first | rfl | exact hsz.symm | exact hsz) ?_)
      | (refine on_storeE hF rfl rfl rfl rfl a_turn (by (first | omega | (simp only [List.length_append, List.length_cons, List.length_nil, List.length_map] at *; omega))) a_vof (by first | rfl | exact hsz) ?_)
      | (refine on_storeEF hF rfl rfl rfl rfl a_turn (by first | with_reducible assumption | rfl) (by decide) a_vof rfl ?_)
      | (refine on_storeF hF rfl rfl rfl rfl a_turn (by decide) a_vof rfl ?_)) <;> try (refine hK2 _ _ _ a_allK ?_; clear hK2 K2))) <;> (refine hK _ _ _ ?_; clear hK K))
    | with_reducible refine nx_seq ?_
        | with_reducible refine nx_region ?_
        | with_reducible refine nl_nil ?_
        | with_reducible refine nq_then_n ?_
        | with_reducible refine nx_block ?_
        | with_reducible refine nx_skip ?_
        | with_reducible refine nx_exit ?_
        | with_reducible refine nx_ret ?_
        | with_reducible refine nq_then_x ?_
        | with_reducible refine nq_then_r ?_
        | with_reducible refine nq_blk_n ?_
        | with_reducible refine nq_blk_r ?_
        | with_reducible refine nq_blk_hit ?_
        | with_reducible refine nq_blk_miss rfl ?_
        | with_reducible refine nd_nil ?_
    | refine nx_cond_t rfl ?_ | refine nx_cond_f rfl ?_
    | refine nl_pass hF rfl rfl rfl ?_
    | refine nd_pass rfl rfl rfl rfl rfl ?_
    | refine nd_pass2 rfl rfl rfl (fun c => by exact (fun h => by cases h)) a_allK rfl rfl ?_
    | refine nd_pass3 rfl rfl rfl (fun c => by exact (fun h => by cases h)) rfl rfl ?_
    | (with_reducible refine hQ1 _ _ _ ?_; clear hQ1 Q1)
    )
  unfold mallR
  (try simp only [List.cons_append, List.nil_append])
  refine nx_end [] rfl ((b2, b1, v) : Nat × Nat × SV) (fun a w ha hw => res_tmp Try.results58 rfl ha) (by exact a_subR) (by exact a_holds2)
theorem keys_ct (bm : Nat) (ks : List Int) (hb : OrdC bm ks ∈ R) (hm : ks.length ≤ 1000000000) : Ct Try.prog 35 [ptr bm] W0 X R C SV (fun v => v.1) (fun _ => R) (fun v => RowC 3 1 v.1 (ks.map (.int .i64)) :: C) := by
  intro w hw
  have hF := isWide_wide
  refine calls_nx Try.func35 rfl Try.ntmps35 rfl ?_ hw
  repeat' (first
    | ((first | with_reducible refine nl_op rfl ?_ | refine nd_go rfl rfl rfl ?_); intro K hK; (first
      | ((first | refine on_E hF rfl rfl ?_ | refine od_E rfl rfl ?_ | refine od_R rfl rfl ?_); (first | refine ⟨_, a_yl, ?_⟩))
      | ((first | refine on_Ec hF rfl rfl ?_ | refine od_Ec rfl rfl ?_); refine ⟨_, _, _, a_yc, ?_, ?_⟩ <;> (intro hc; try (exfalso; first | (omega; done) | exact absurd (by with_reducible rfl) hc | (simp at hc; done))))
      | ((first | (refine od_act (fun c => by exact (fun h => by cases h)) ?_; intro K2 hK2) | refine od_last (fun c => by exact (fun h => by cases h)) ?_ | skip); (first
      | (refine on_callG hF (enters_of Try.func58 (by kernel_rfl) rfl) rfl rfl rfl rfl (mall_ct bm ks (by exact a_mem) hm) (fun i => ?_); unfold mallR; (try simp only [List.cons_append, List.nil_append]))
      | (refine on_buildSlice (T := 28) (e := 3) (k := 1) (by_ := 8) hF rfl rfl rfl rfl rfl rfl (by kernel_rfl) a_cel (Nat.le_of_ble_eq_true rfl) (fun b => ?_))
      | (refine on_append (T := 28) (e := 3) (k := 1) (by_ := 8) hF rfl rfl rfl rfl rfl a_pick (by kernel_rfl) a_sl a_cel (by first | omega | (unfold maxLen; simp only [List.length_map, List.length_append, List.length_cons, List.length_nil, List.length_replicate]; omega) | (simp only [List.length_map, List.length_append, List.length_cons, List.length_nil, List.length_replicate]; omega)) (by first | omega | (unfold maxLen; simp only [List.length_map, List.length_append, List.length_cons, List.length_nil, List.length_replicate]; omega) | (simp only [List.length_map, List.length_append, List.length_cons, List.length_nil, List.length_replicate]; omega)) (fun v => ?_))
      | (refine on_alloc hF rfl Try.zeroValue28 rfl rfl (fun B => ?_))
      | (refine on_box hF rfl rfl rfl rfl (fun B => ?_))
      | (refine on_store hF rfl rfl rfl rfl a_turn a_vof (by first | rfl | exact hsz.symm | exact hsz) ?_)
      | (refine on_storeE hF rfl rfl rfl rfl a_turn (by (first | omega | (simp only [List.length_append, List.length_cons, List.length_nil, List.length_map] at *; omega))) a_vof (by first | rfl | exact hsz) ?_)
      | (refine on_storeEF hF rfl rfl rfl rfl a_turn (by first | with_reducible assumption | rfl) (by decide) a_vof rfl ?_)
      | (refine on_storeF hF rfl rfl rfl rfl a_turn (by decide) a_vof rfl ?_)) <;> try (refine hK2 _ _ _ a_allK ?_; clear hK2 K2))) <;> (refine hK _ _ _ ?_; clear hK K))
    | with_reducible refine nx_seq ?_
        | with_reducible refine nx_region ?_
        | with_reducible refine nl_nil ?_
        | with_reducible refine nq_then_n ?_
        | with_reducible refine nx_block ?_
        | with_reducible refine nx_skip ?_
        | with_reducible refine nx_exit ?_
        | with_reducible refine nx_ret ?_
        | with_reducible refine nq_then_x ?_
        | with_reducible refine nq_then_r ?_
        | with_reducible refine nq_blk_n ?_
        | with_reducible refine nq_blk_r ?_
        | with_reducible refine nq_blk_hit ?_
        | with_reducible refine nq_blk_miss rfl ?_
        | with_reducible refine nd_nil ?_
    | refine nx_cond_t rfl ?_ | refine nx_cond_f rfl ?_
    | refine nl_pass hF rfl rfl rfl ?_
    | refine nd_pass rfl rfl rfl rfl rfl ?_
    | refine nd_pass2 rfl rfl rfl (fun c => by exact (fun h => by cases h)) a_allK rfl rfl ?_
    | refine nd_pass3 rfl rfl rfl (fun c => by exact (fun h => by cases h)) rfl rfl ?_
    | (with_reducible refine hQ1 _ _ _ ?_; clear hQ1 Q1)
    )
  obtain ⟨b3, hb3⟩ : ∃ b3, b3 = B := ⟨_, rfl⟩
  subst hb3
  obtain ⟨b2, b1, v⟩ := i
  dsimp only
  refine nx_nilRow 3 1 ?_
  refine nx_range hF rfl rfl (walk_it b2 b1 v.1 v.2 ks hm) (by exact a_subR) (by rfl) (fun x vs h => by rw [h]; rfl) (fun _ (_ : SV) => True) (fun pre u => BoxC b3 28 u.1 :: RowC 3 1 u.1 (pre.map (.int .i64)) :: C) (fun _ _ (_ : Unit) => False) (fun _ _ _ => []) ⟨.slice none 0 0, _, _, _, rfl⟩ trivial (by exact a_holds2) ?round ?done ?stop
  case round =>
    rintro lp pre x post hx vs rfl ⟨u, hu⟩ _ W1 X1 R' hR' E1 K HK
    have hF := isWide_wide.inRound lp
    have hvu : VOf Try.prog 28 u := vof_slice (by kernel_rfl) hu
    have hsu : (cv u).size = 1 := by obtain ⟨_, _, _, rfl⟩ := hu; rfl
    have hcx : Cel 1 [Value.int .i64 x] := Cel.of (P := Try.prog) (T := 3) (fun y hy => by simp at hy; rw [hy]; exact vof1 (by kernel_rfl) rfl rfl) (by kernel_rfl)
    have hl : pre.length + 1 ≤ ks.length := by rw [hx]; simp
    have hm1 : (pre.map (Value.int .i64)).length + 1 ≤ maxLen := by unfold maxLen; rw [List.length_map]; omega
    have hm2 : ((pre.map (Value.int .i64)).length + 1) * 8 ≤ 140737488355328 := by rw [List.length_map]; omega
    have hnx : (pre ++ [x]).map (Value.int .i64) = pre.map (.int .i64) ++ [.int .i64 x] := by simp
    dsimp only
    clear hR'
    (try simp only [List.cons_append, List.nil_append])
    repeat' (first
    | ((first | with_reducible refine nl_op rfl ?_ | refine nd_go rfl rfl rfl ?_); intro K hK; (first
      | ((first | refine on_E hF rfl rfl ?_ | refine od_E rfl rfl ?_ | refine od_R rfl rfl ?_); (first | refine ⟨_, a_yl, ?_⟩))
      | ((first | refine on_Ec hF rfl rfl ?_ | refine od_Ec rfl rfl ?_); refine ⟨_, _, _, a_yc, ?_, ?_⟩ <;> (intro hc; try (exfalso; first | (omega; done) | exact absurd (by with_reducible rfl) hc | (simp at hc; done))))
      | ((first | (refine od_act (fun c => by exact (fun h => by cases h)) ?_; intro K2 hK2) | refine od_last (fun c => by exact (fun h => by cases h)) ?_ | skip); (first
      
      | (refine on_buildSlice (T := 28) (e := 3) (k := 1) (by_ := 8) hF rfl rfl rfl rfl rfl rfl (by kernel_rfl) a_cel (Nat.le_of_ble_eq_true rfl) (fun b => ?_))
      | (refine on_append (T := 28) (e := 3) (k := 1) (by_ := 8) hF rfl rfl rfl rfl rfl a_pick (by kernel_rfl) a_sl a_cel (by first | omega | (unfold maxLen; simp only [List.length_map, List.length_append, List.length_cons, List.length_nil, List.length_replicate]; omega) | (simp only [List.length_map, List.length_append, List.length_cons, List.length_nil, List.length_replicate]; omega)) (by first | omega | (unfold maxLen; simp only [List.length_map, List.length_append, List.length_cons, List.length_nil, List.length_replicate]; omega) | (simp only [List.length_map, List.length_append, List.length_cons, List.length_nil, List.length_replicate]; omega)) (fun v => ?_))
      | (refine on_alloc hF rfl Try.zeroValue28 rfl rfl (fun B => ?_))
      | (refine on_box hF rfl rfl rfl rfl (fun B => ?_))
      | (refine on_store hF rfl rfl rfl rfl a_turn a_vof (by first | rfl | exact hsz.symm | exact hsz) ?_)
      | (refine on_storeE hF rfl rfl rfl rfl a_turn (by (first | omega | (simp only [List.length_append, List.length_cons, List.length_nil, List.length_map] at *; omega))) a_vof (by first | rfl | exact hsz) ?_)
      | (refine on_storeEF hF rfl rfl rfl rfl a_turn (by first | with_reducible assumption | rfl) (by decide) a_vof rfl ?_)
      | (refine on_storeF hF rfl rfl rfl rfl a_turn (by decide) a_vof rfl ?_)) <;> try (refine hK2 _ _ _ a_allK ?_; clear hK2 K2))) <;> (refine hK _ _ _ ?_; clear hK K))
    | with_reducible refine nx_seq ?_
        | with_reducible refine nx_region ?_
        | with_reducible refine nl_nil ?_
        | with_reducible refine nq_then_n ?_
        | with_reducible refine nx_block ?_
        | with_reducible refine nx_skip ?_
        | with_reducible refine nx_exit ?_
        | with_reducible refine nx_ret ?_
        | with_reducible refine nq_then_x ?_
        | with_reducible refine nq_then_r ?_
        | with_reducible refine nq_blk_n ?_
        | with_reducible refine nq_blk_r ?_
        | with_reducible refine nq_blk_hit ?_
        | with_reducible refine nq_blk_miss rfl ?_
        | with_reducible refine nd_nil ?_
    | refine nx_cond_t rfl ?_ | refine nx_cond_f rfl ?_
    | refine nl_pass hF rfl rfl rfl ?_
    | refine nd_pass rfl rfl rfl rfl rfl ?_
    | refine nd_pass2 rfl rfl rfl (fun c => by exact (fun h => by cases h)) a_allK rfl rfl ?_
    | refine nd_pass3 rfl rfl rfl (fun c => by exact (fun h => by cases h)) rfl rfl ?_
    | (with_reducible refine hQ1 _ _ _ ?_; clear hQ1 Q1)
    )
    refine HK _ _ (BoxC b3 28 u :: RowC 3 1 u (pre.map (.int .i64)) :: C) _ (by exact a_subR) (by exact a_holds2) (fun E2 => ?_)
    clear HK K
    (try simp only [List.cons_append, List.nil_append])
    repeat' (first
    | ((first | with_reducible refine nl_op rfl ?_ | refine nd_go rfl rfl rfl ?_); intro K hK; (first
      | ((first | refine on_E hF rfl rfl ?_ | refine od_E rfl rfl ?_ | refine od_R rfl rfl ?_); (first | refine ⟨_, a_yl, ?_⟩))
      | ((first | refine on_Ec hF rfl rfl ?_ | refine od_Ec rfl rfl ?_); refine ⟨_, _, _, a_yc, ?_, ?_⟩ <;> (intro hc; try (exfalso; first | (omega; done) | exact absurd (by with_reducible rfl) hc | (simp at hc; done))))
      | ((first | (refine od_act (fun c => by exact (fun h => by cases h)) ?_; intro K2 hK2) | refine od_last (fun c => by exact (fun h => by cases h)) ?_ | skip); (first
      | (refine on_buildSlice (e := 3) (k := 1) (by_ := 8) hF rfl rfl rfl rfl rfl rfl (by kernel_rfl) hcx (Nat.le_of_ble_eq_true rfl) (fun B => ?_)) | (refine on_append (e := 3) (k := 1) (by_ := 8) (xs := pre.map (.int .i64)) (ys := [.int .i64 x]) hF rfl rfl rfl rfl rfl a_pick (by kernel_rfl) a_sl hcx hm1 hm2 (fun v2 => ?_)) | (refine on_store hF rfl rfl rfl rfl (by exact a_turn) (vof_slice (by kernel_rfl) v2.2) (by obtain ⟨_, _, _, e⟩ := v2.2; rw [e, hsu]; rfl) ?_)
      | (refine on_buildSlice (T := 28) (e := 3) (k := 1) (by_ := 8) hF rfl rfl rfl rfl rfl rfl (by kernel_rfl) a_cel (Nat.le_of_ble_eq_true rfl) (fun b => ?_))
      | (refine on_append (T := 28) (e := 3) (k := 1) (by_ := 8) hF rfl rfl rfl rfl rfl a_pick (by kernel_rfl) a_sl a_cel (by first | omega | (unfold maxLen; simp only [List.length_map, List.length_append, List.length_cons, List.length_nil, List.length_replicate]; omega) | (simp only [List.length_map, List.length_append, List.length_cons, List.length_nil, List.length_replicate]; omega)) (by first | omega | (unfold maxLen; simp only [List.length_map, List.length_append, List.length_cons, List.length_nil, List.length_replicate]; omega) | (simp only [List.length_map, List.length_append, List.length_cons, List.length_nil, List.length_replicate]; omega)) (fun v => ?_))
      | (refine on_alloc hF rfl Try.zeroValue28 rfl rfl (fun B => ?_))
      | (refine on_box hF rfl rfl rfl rfl (fun B => ?_))
      | (refine on_store hF rfl rfl rfl rfl a_turn a_vof (by first | rfl | exact hsz.symm | exact hsz) ?_)
      | (refine on_storeE hF rfl rfl rfl rfl a_turn (by (first | omega | (simp only [List.length_append, List.length_cons, List.length_nil, List.length_map] at *; omega))) a_vof (by first | rfl | exact hsz) ?_)
      | (refine on_storeEF hF rfl rfl rfl rfl a_turn (by first | with_reducible assumption | rfl) (by decide) a_vof rfl ?_)
      | (refine on_storeF hF rfl rfl rfl rfl a_turn (by decide) a_vof rfl ?_)) <;> try (refine hK2 _ _ _ a_allK ?_; clear hK2 K2))) <;> (refine hK _ _ _ ?_; clear hK K))
    | with_reducible refine nx_seq ?_
        | with_reducible refine nx_region ?_
        | with_reducible refine nl_nil ?_
        | with_reducible refine nq_then_n ?_
        | with_reducible refine nx_block ?_
        | with_reducible refine nx_skip ?_
        | with_reducible refine nx_exit ?_
        | with_reducible refine nx_ret ?_
        | with_reducible refine nq_then_x ?_
        | with_reducible refine nq_then_r ?_
        | with_reducible refine nq_blk_n ?_
        | with_reducible refine nq_blk_r ?_
        | with_reducible refine nq_blk_hit ?_
        | with_reducible refine nq_blk_miss rfl ?_
        | with_reducible refine nd_nil ?_
    | refine nx_cond_t rfl ?_ | refine nx_cond_f rfl ?_
    | refine nl_pass hF rfl rfl rfl ?_
    | refine nd_pass rfl rfl rfl rfl rfl ?_
    | refine nd_pass2 rfl rfl rfl (fun c => by exact (fun h => by cases h)) a_allK rfl rfl ?_
    | refine nd_pass3 rfl rfl rfl (fun c => by exact (fun h => by cases h)) rfl rfl ?_
    | (with_reducible refine hQ1 _ _ _ ?_; clear hQ1 Q1)
    )
    exact rq_n v2 trivial (by exact a_subR) (by rw [hnx]; exact a_holds2)
  case done =>
    rintro ⟨u, hu⟩ _ M
    have hvu : VOf Try.prog 28 u := vof_slice (by kernel_rfl) hu
    dsimp only
    (try simp only [List.cons_append, List.nil_append])
    repeat' (first
    | ((first | with_reducible refine nl_op rfl ?_ | refine nd_go rfl rfl rfl ?_); intro K hK; (first
      | ((first | refine on_E hF rfl rfl ?_ | refine od_E rfl rfl ?_ | refine od_R rfl rfl ?_); (first | refine ⟨_, a_yl, ?_⟩))
      | ((first | refine on_Ec hF rfl rfl ?_ | refine od_Ec rfl rfl ?_); refine ⟨_, _, _, a_yc, ?_, ?_⟩ <;> (intro hc; try (exfalso; first | (omega; done) | exact absurd (by with_reducible rfl) hc | (simp at hc; done))))
      | ((first | (refine od_act (fun c => by exact (fun h => by cases h)) ?_; intro K2 hK2) | refine od_last (fun c => by exact (fun h => by cases h)) ?_ | skip); (first
      
      | (refine on_buildSlice (T := 28) (e := 3) (k := 1) (by_ := 8) hF rfl rfl rfl rfl rfl rfl (by kernel_rfl) a_cel (Nat.le_of_ble_eq_true rfl) (fun b => ?_))
      | (refine on_append (T := 28) (e := 3) (k := 1) (by_ := 8) hF rfl rfl rfl rfl rfl a_pick (by kernel_rfl) a_sl a_cel (by first | omega | (unfold maxLen; simp only [List.length_map, List.length_append, List.length_cons, List.length_nil, List.length_replicate]; omega) | (simp only [List.length_map, List.length_append, List.length_cons, List.length_nil, List.length_replicate]; omega)) (by first | omega | (unfold maxLen; simp only [List.length_map, List.length_append, List.length_cons, List.length_nil, List.length_replicate]; omega) | (simp only [List.length_map, List.length_append, List.length_cons, List.length_nil, List.length_replicate]; omega)) (fun v => ?_))
      | (refine on_alloc hF rfl Try.zeroValue28 rfl rfl (fun B => ?_))
      | (refine on_box hF rfl rfl rfl rfl (fun B => ?_))
      | (refine on_store hF rfl rfl rfl rfl a_turn a_vof (by first | rfl | exact hsz.symm | exact hsz) ?_)
      | (refine on_storeE hF rfl rfl rfl rfl a_turn (by (first | omega | (simp only [List.length_append, List.length_cons, List.length_nil, List.length_map] at *; omega))) a_vof (by first | rfl | exact hsz) ?_)
      | (refine on_storeEF hF rfl rfl rfl rfl a_turn (by first | with_reducible assumption | rfl) (by decide) a_vof rfl ?_)
      | (refine on_storeF hF rfl rfl rfl rfl a_turn (by decide) a_vof rfl ?_)) <;> try (refine hK2 _ _ _ a_allK ?_; clear hK2 K2))) <;> (refine hK _ _ _ ?_; clear hK K))
    | with_reducible refine nx_seq ?_
        | with_reducible refine nx_region ?_
        | with_reducible refine nl_nil ?_
        | with_reducible refine nq_then_n ?_
        | with_reducible refine nx_block ?_
        | with_reducible refine nx_skip ?_
        | with_reducible refine nx_exit ?_
        | with_reducible refine nx_ret ?_
        | with_reducible refine nq_then_x ?_
        | with_reducible refine nq_then_r ?_
        | with_reducible refine nq_blk_n ?_
        | with_reducible refine nq_blk_r ?_
        | with_reducible refine nq_blk_hit ?_
        | with_reducible refine nq_blk_miss rfl ?_
        | with_reducible refine nd_nil ?_
    | refine nx_cond_t rfl ?_ | refine nx_cond_f rfl ?_
    | refine nl_pass hF rfl rfl rfl ?_
    | refine nd_pass rfl rfl rfl rfl rfl ?_
    | refine nd_pass2 rfl rfl rfl (fun c => by exact (fun h => by cases h)) a_allK rfl rfl ?_
    | refine nd_pass3 rfl rfl rfl (fun c => by exact (fun h => by cases h)) rfl rfl ?_
    | (with_reducible refine hQ1 _ _ _ ?_; clear hQ1 Q1)
    )
    refine nx_end [M] rfl (⟨u, hu⟩) (fun a w ha hw => res_tmp Try.results35 rfl ha) (by exact a_subR) (by exact a_holds2)
  case stop =>
    intro pre x post hx j _ h
    exact h.elim
end Ord
end Go.Proofs.Ytinofjenoapeaaa
end

section
namespace Go.Proofs.Ytinofjenoapeaaa
open Go.RowKit Go.Shelf
set_option linter.unusedSimpArgs false
set_option linter.unusedVariables false
section
variable {F : Fence} {m : Nat} {P : Program} {Q : Exit → Act → World → Prop} {K : Act → World → Prop} {n : Nat} {l : List (Nat × Value)} {d : List Deferred} {W0 : World} {X : Nat → Prop} {R C E : List Ch} {o : Oper} {t : Nat} {v : Value}
/-- append(nil, make(..)...): a new block. -/
theorem on_appendZ0 (hF : IsWide F) {x y : Operand} {T Tn e k by_ q : Nat} (ho : o.op = Op.call { callee := Callee.builtin Builtin.append, args := #[x, y], argTypes := #[T, Tn] }) (hd : o.dst = some t) (ht : Nat.blt t n = true)
    (hx : ev l x = some (.slice none 0 0)) (hy : ev l y = some (.int .i64 (q : Int))) (hT : apT P T e k by_ = true) (hTn : isIT P Tn .i64 = true) (hq : 0 < q) (b1 : q ≤ maxLen) (b2 : q * by_ ≤ 140737488355328)
    (h : ∀ (B c' : Nat) (zs : List Value), q ≤ c' → c' ≤ maxLen → zs.length = c' * k → Nx K n ((t, .slice (some ⟨B, 0, none⟩) q c') :: l) d W0 X R (RawC e B zs :: C)) : Nx (OpN F m P o K Q) n l d W0 X R C := by
  refine on_world hF (fun c => by rw [ho]; exact (fun h => by cases h)) hd ht (ι := { p : Nat × Nat × List Value // q ≤ p.2.1 ∧ p.2.1 ≤ maxLen ∧ p.2.2.length = p.2.1 * k }) (fun p => .slice (some ⟨p.1.1, 0, none⟩) q p.1.2.1) (fun _ => R) (fun p => RawC e p.1.1 p.1.2.2 :: C) (fun A w ha hw => ?_) (fun p => h p.1.1 p.1.2.1 p.1.2.2 p.2.1 p.2.2.1 p.2.2.2)
  obtain ⟨inf, z, t1, t2, t3, t4, t5, t6, t7⟩ := apT_spec hT
  obtain ⟨kk, hTn'⟩ : ∃ kk, P.underlying Tn = some (.int kk) := by
    unfold isIT at hTn
    split at hTn
    · exact ⟨_, by assumption⟩
    · cases hTn
  have hrun := Lib.run_append_nil_zeros (P := P) w T Tn o.type e inf z .i64 kk t1 hTn' t2 t3 q hq (by omega) (by unfold maxLen at b1; omega) (by rw [t5]; omega)
  have hzc : ∀ j, (Builtin.zeroCells z.cells j).size = j * k := fun j => by simp [Builtin.zeroCells, t6]
  have hge := grownCap_ge w q 0 e
  have hle := grownCap_le_maxLen w q 0 e b1
  obtain ⟨G, hG⟩ : ∃ G, grownCap w q 0 e = G := ⟨_, rfl⟩
  rw [hG] at hrun hge hle
  obtain ⟨zs, hzs⟩ : ∃ zs : Array Value, Builtin.zeroCells z.cells q ++ Builtin.zeroCells z.cells (G - q) = zs := ⟨_, rfl⟩
  have hzl : zs.size = G * k := by
    rw [← hzs]
    simp only [Array.size_append, hzc]
    rw [← Nat.add_mul]; congr 1; omega
  rw [hzs] at hrun
  refine ⟨⟨(w.heap.size, G, zs.toList), hge, hle, by simpa using hzl⟩, w.drew.alloc (.cells zs e), ?_, hw.new (((Touch.drew (fun _ => False) w).trans (Touch.alloc _ _ _)).below (Nat.le_refl _) (fun _ _ h => h)) ⟨fun j => j = w.heap.size, ⟨?_, fun j => Iff.rfl⟩, fun k hk => by omega⟩⟩
  · simp [execOp, ho, resolve, invoke, builtin, ha.eval hx, ha.eval hy, hrun, Sem.run_bind, Result.andThen]
  · have := heap_alloc_new w.drew (.cells zs e)
    simpa using this
theorem yl_slice_nilh {G : World → Prop} {T : TypeId} {x hi : Operand} (k : Nat) (ho : o.op = .slice T x none (some hi) none) (hx : ev l x = some (.slice none 0 0)) (hl : ev l hi = some (.int .i64 0)) (hT : slT P T k = true) : Yl P G n l d o (.slice none 0 0) := ⟨(fun c => by rw [ho]; exact (fun h => by cases h)), (fun A w ha hw => by
    obtain ⟨e', hu, hs⟩ := slT_info hT
    have hel : P.elem T = e' := by simp [Program.elem, hu]
    have hr := run_slice_h w T none 0 0 (by rw [hel]; exact hu) .i64 (0 : Int) (by omega) (by omega)
    have hr2 := run_sliceAt_slice w T (.slice none 0 0) none (some (.int .i64 (0 : Int))) none (by rw [hel]; exact hu)
    rw [hr, hel] at hr2
    have hsz : (sizeOf e').run P w = .ok k w := by
      cases hq : P.info? e' with
      | none => simp [hq] at hs
      | some inf => have : inf.size = k := by simpa [hq] using hs
                    simp [sizeOf, typeInfo, hq, this]
    rw [hsz] at hr2
    simp only [Result.andThen, sliced] at hr2
    simp [execOp, ho, ha.eval hx, ha.eval hl, hr2, Sem.run_bind, Result.andThen])⟩
end
namespace Pl
variable {W0 : World} {X : Nat → Prop} {R C : List Ch}
set_option maxRecDepth 100000 in
theorem grow_ct (q : Nat) (hq : q ≤ 1000000000) : Ct Try.prog 93 [.slice none 0 0, .int .i64 (q : Int)] W0 X R C SV (fun v => v.1) (fun _ => R) (fun v => RowC 3 1 v.1 [] :: C) := by
  intro w hw
  have hF := isWide_wide
  have hb1 : q ≤ maxLen := by unfold maxLen; omega
  have hb2 : q * 8 ≤ 140737488355328 := by omega
  have hz : (q : Int) - (((0 : Nat) : Int) - ((0 : Nat) : Int)) = (q : Int) := by omega
  refine calls_nx Try.func93 rfl Try.ntmps93 rfl ?_ hw
  by_cases h0 : q = 0
  · subst h0
    repeat' (first
    | ((first | with_reducible refine nl_op rfl ?_ | refine nd_go rfl rfl rfl ?_); intro K hK; (first
      | ((first | refine on_E hF rfl rfl ?_ | refine od_E rfl rfl ?_ | refine od_R rfl rfl ?_); (first | refine ⟨_, yl_cap_s rfl rfl (by kernel_rfl), ?_⟩ | refine ⟨_, a_yl, ?_⟩))
      | ((first | refine on_Ec hF rfl rfl ?_ | refine od_Ec rfl rfl ?_); refine ⟨_, _, _, a_yc, ?_, ?_⟩ <;> (intro hc; try (exfalso; first | (omega; done) | exact absurd (by with_reducible rfl) hc | (simp at hc; done))))
      | ((first | (refine od_act (fun c => by exact (fun h => by cases h)) ?_; intro K2 hK2) | refine od_last (fun c => by exact (fun h => by cases h)) ?_ | skip); (first
      
      | (refine on_append (T := 28) (e := 3) (k := 1) (by_ := 8) hF rfl rfl rfl rfl rfl a_pick (by kernel_rfl) a_sl a_cel (by first | omega | (unfold maxLen; simp only [List.length_map, List.length_append, List.length_cons, List.length_nil, List.length_replicate]; omega) | (simp only [List.length_map, List.length_append, List.length_cons, List.length_nil, List.length_replicate]; omega)) (by first | omega | (unfold maxLen; simp only [List.length_map, List.length_append, List.length_cons, List.length_nil, List.length_replicate]; omega) | (simp only [List.length_map, List.length_append, List.length_cons, List.length_nil, List.length_replicate]; omega)) (fun v => ?_))
      
      | (refine on_box hF rfl rfl rfl rfl (fun B => ?_))
      | (refine on_store hF rfl rfl rfl rfl a_turn a_vof (by first | rfl | exact hsz.symm | exact hsz) ?_)
      | (refine on_storeE hF rfl rfl rfl rfl a_turn (by (first | omega | (simp only [List.length_append, List.length_cons, List.length_nil, List.length_map] at *; omega))) a_vof (by first | rfl | exact hsz) ?_)
      | (refine on_storeEF hF rfl rfl rfl rfl a_turn (by first | with_reducible assumption | rfl) (by decide) a_vof rfl ?_)
      | (refine on_storeF hF rfl rfl rfl rfl a_turn (by decide) a_vof rfl ?_)) <;> try (refine hK2 _ _ _ a_allK ?_; clear hK2 K2))) <;> (refine hK _ _ _ ?_; clear hK K))
    | with_reducible refine nx_seq ?_
        | with_reducible refine nx_region ?_
        | with_reducible refine nl_nil ?_
        | with_reducible refine nq_then_n ?_
        | with_reducible refine nx_block ?_
        | with_reducible refine nx_skip ?_
        | with_reducible refine nx_exit ?_
        | with_reducible refine nx_ret ?_
        | with_reducible refine nq_then_x ?_
        | with_reducible refine nq_then_r ?_
        | with_reducible refine nq_blk_n ?_
        | with_reducible refine nq_blk_r ?_
        | with_reducible refine nq_blk_hit ?_
        | with_reducible refine nq_blk_miss rfl ?_
        | with_reducible refine nd_nil ?_
    | refine nx_cond_t rfl ?_ | refine nx_cond_f rfl ?_
    | refine nl_pass hF rfl rfl rfl ?_
    | refine nd_pass rfl rfl rfl rfl rfl ?_
    | refine nd_pass2 rfl rfl rfl (fun c => by exact (fun h => by cases h)) a_allK rfl rfl ?_
    | refine nd_pass3 rfl rfl rfl (fun c => by exact (fun h => by cases h)) rfl rfl ?_
    | (with_reducible refine hQ1 _ _ _ ?_; clear hQ1 Q1)
    )
    all_goals (try (exfalso; dsimp only at *; omega))
    refine nx_nilRow 3 1 ?_
    refine nx_end [] rfl ((⟨.slice none 0 0, _, _, _, rfl⟩ : SV)) (fun a w ha hw => res_tmp Try.results93 rfl ha) (by exact a_subR) (by exact a_holds2)
  · repeat' (first
    | ((first | with_reducible refine nl_op rfl ?_ | refine nd_go rfl rfl rfl ?_); intro K hK; (first
      | ((first | refine on_E hF rfl rfl ?_ | refine od_E rfl rfl ?_ | refine od_R rfl rfl ?_); (first | refine ⟨_, yl_cap_s rfl rfl (by kernel_rfl), ?_⟩ | refine ⟨_, yl_subZ hz (by omega) rfl rfl rfl, ?_⟩ | refine ⟨_, yl_slice_nilh 1 rfl rfl rfl (by kernel_rfl), ?_⟩ | refine ⟨_, yl_slice_hk (i := 0) 1 rfl rfl rfl (by kernel_rfl) (by omega), ?_⟩ | refine ⟨_, a_yl, ?_⟩))
      | ((first | refine on_Ec hF rfl rfl ?_ | refine od_Ec rfl rfl ?_); refine ⟨_, _, _, a_yc, ?_, ?_⟩ <;> (intro hc; try (exfalso; first | (omega; done) | exact absurd (by with_reducible rfl) hc | (simp at hc; done))))
      | ((first | (refine od_act (fun c => by exact (fun h => by cases h)) ?_; intro K2 hK2) | refine od_last (fun c => by exact (fun h => by cases h)) ?_ | skip); (first
      | (refine on_appendZ0 (e := 3) (k := 1) (by_ := 8) hF rfl rfl rfl rfl rfl (by kernel_rfl) (by kernel_rfl) (by omega) hb1 hb2 (fun nb nc zs hz1 hz2 hz3 => ?_))
      | (refine on_append (T := 28) (e := 3) (k := 1) (by_ := 8) hF rfl rfl rfl rfl rfl a_pick (by kernel_rfl) a_sl a_cel (by first | omega | (unfold maxLen; simp only [List.length_map, List.length_append, List.length_cons, List.length_nil, List.length_replicate]; omega) | (simp only [List.length_map, List.length_append, List.length_cons, List.length_nil, List.length_replicate]; omega)) (by first | omega | (unfold maxLen; simp only [List.length_map, List.length_append, List.length_cons, List.length_nil, List.length_replicate]; omega) | (simp only [List.length_map, List.length_append, List.length_cons, List.length_nil, List.length_replicate]; omega)) (fun v => ?_))
      
      | (refine on_box hF rfl rfl rfl rfl (fun B => ?_))
      | (refine on_store hF rfl rfl rfl rfl a_turn a_vof (by first | rfl | exact hsz.symm | exact hsz) ?_)
      | (refine on_storeE hF rfl rfl rfl rfl a_turn (by (first | omega | (simp only [List.length_append, List.length_cons, List.length_nil, List.length_map] at *; omega))) a_vof (by first | rfl | exact hsz) ?_)
      | (refine on_storeEF hF rfl rfl rfl rfl a_turn (by first | with_reducible assumption | rfl) (by decide) a_vof rfl ?_)
      | (refine on_storeF hF rfl rfl rfl rfl a_turn (by decide) a_vof rfl ?_)) <;> try (refine hK2 _ _ _ a_allK ?_; clear hK2 K2))) <;> (refine hK _ _ _ ?_; clear hK K))
    | with_reducible refine nx_seq ?_
        | with_reducible refine nx_region ?_
        | with_reducible refine nl_nil ?_
        | with_reducible refine nq_then_n ?_
        | with_reducible refine nx_block ?_
        | with_reducible refine nx_skip ?_
        | with_reducible refine nx_exit ?_
        | with_reducible refine nx_ret ?_
        | with_reducible refine nq_then_x ?_
        | with_reducible refine nq_then_r ?_
        | with_reducible refine nq_blk_n ?_
        | with_reducible refine nq_blk_r ?_
        | with_reducible refine nq_blk_hit ?_
        | with_reducible refine nq_blk_miss rfl ?_
        | with_reducible refine nd_nil ?_
    | refine nx_cond_t rfl ?_ | refine nx_cond_f rfl ?_
    | refine nl_pass hF rfl rfl rfl ?_
    | refine nd_pass rfl rfl rfl rfl rfl ?_
    | refine nd_pass2 rfl rfl rfl (fun c => by exact (fun h => by cases h)) a_allK rfl rfl ?_
    | refine nd_pass3 rfl rfl rfl (fun c => by exact (fun h => by cases h)) rfl rfl ?_
    | (with_reducible refine hQ1 _ _ _ ?_; clear hQ1 Q1)
    )
    all_goals (try (exfalso; dsimp only at *; omega))
    refine nx_row (k := 1) (c := nc) (xs := []) (by exact a_pick) (Nat.zero_le _) (by omega) (by omega) (by simp [cellsOf]) (fun x hx => by cases hx) ?_
    refine nx_end [] rfl ((⟨.slice (some ⟨nb, 0, none⟩) 0 nc, _, _, _, rfl⟩ : SV)) (fun a w ha hw => res_tmp Try.results93 rfl ha) (by exact a_subR) (by exact a_holds2)
end Pl
end Go.Proofs.Ytinofjenoapeaaa
end

section
namespace Go.Proofs.Ytinofjenoapeaaa
open Go.RowKit Go.Shelf
set_option linter.unusedSimpArgs false
set_option linter.unusedVariables false
namespace Pl
variable {W0 : World} {X : Nat → Prop} {R C : List Ch}
/-- The first i of two lists together. -/
def upto2 (xs ys : List Int) : Nat → List Int
  | 0 => []
  | 1 => xs
  | _ => xs ++ ys
def len2 (n m : Nat) : Nat → Nat
  | 0 => 0
  | 1 => n
  | _ => n + m
set_option maxRecDepth 100000 in
set_option maxHeartbeats 1000000 in
theorem concat_ct (s : Nat) (c g : Value) (hc : IsSl c) (hg : IsSl g) (xs ys : List Int) (hs : SlC 1 (.slice (some ⟨s, 0, none⟩) 2 2) [c, g] ∈ R) (hx : SlC 1 c (xs.map (.int .i64)) ∈ R) (hy : SlC 1 g (ys.map (.int .i64)) ∈ R) (hm : xs.length ≤ 10000000) (hm2 : ys.length ≤ 10000000) :
    Ct Try.prog 69 [.slice (some ⟨s, 0, none⟩) 2 2] W0 X R C SV (fun v => v.1) (fun _ => R) (fun v => RowC 3 1 v.1 ((xs ++ ys).map (.int .i64)) :: C) := by
  intro w hw
  have hF := isWide_wide
  obtain ⟨ca, cn, cc, rfl⟩ := hc
  obtain ⟨ga, gn, gc, rfl⟩ := hg
  obtain rfl := slLen (hw.hasR hx)
  obtain rfl := slLen (hw.hasR hy)
  have hlx : (xs.map (Value.int .i64)).length = xs.length := by simp
  have hly : (ys.map (Value.int .i64)).length = ys.length := by simp
  have hs0 : ([.slice ca (xs.map (Value.int .i64)).length cc, .slice ga (ys.map (Value.int .i64)).length gc] : List Value)[0]? = some (.slice ca (xs.map (Value.int .i64)).length cc) := rfl
  have hs1 : ([.slice ca (xs.map (Value.int .i64)).length cc, .slice ga (ys.map (Value.int .i64)).length gc] : List Value)[1]? = some (.slice ga (ys.map (Value.int .i64)).length gc) := rfl
  have hvc : VOf Try.prog 28 (.slice ca (xs.map (Value.int .i64)).length cc) := vof_slice (by kernel_rfl) ⟨_, _, _, rfl⟩
  have hvg : VOf Try.prog 28 (.slice ga (ys.map (Value.int .i64)).length gc) := vof_slice (by kernel_rfl) ⟨_, _, _, rfl⟩
  have hcx : Cel 1 (xs.map (Value.int .i64)) := celI xs
  have hcy : Cel 1 (ys.map (Value.int .i64)) := celI ys
  refine calls_nx Try.func69 rfl Try.ntmps69 rfl ?_ hw
  repeat' (first
    | ((first | with_reducible refine nl_op rfl ?_ | refine nd_go rfl rfl rfl ?_); intro K hK; (first
      | ((first | refine on_E hF rfl rfl ?_ | refine od_E rfl rfl ?_ | refine od_R rfl rfl ?_); (first | refine ⟨_, a_yl, ?_⟩))
      | ((first | refine on_Ec hF rfl rfl ?_ | refine od_Ec rfl rfl ?_); refine ⟨_, _, _, a_yc, ?_, ?_⟩ <;> (intro hc; try (exfalso; first | (omega; done) | exact absurd (by with_reducible rfl) hc | (simp at hc; done))))
      | ((first | (refine od_act (fun c => by exact (fun h => by cases h)) ?_; intro K2 hK2) | refine od_last (fun c => by exact (fun h => by cases h)) ?_ | skip); (first
      
      | (refine on_append (T := 28) (e := 3) (k := 1) (by_ := 8) hF rfl rfl rfl rfl rfl a_pick (by kernel_rfl) a_sl a_cel (by first | omega | (unfold maxLen; simp only [List.length_map, List.length_append, List.length_cons, List.length_nil, List.length_replicate]; omega) | (simp only [List.length_map, List.length_append, List.length_cons, List.length_nil, List.length_replicate]; omega)) (by first | omega | (unfold maxLen; simp only [List.length_map, List.length_append, List.length_cons, List.length_nil, List.length_replicate]; omega) | (simp only [List.length_map, List.length_append, List.length_cons, List.length_nil, List.length_replicate]; omega)) (fun v => ?_))
      
      | (refine on_box hF rfl rfl rfl rfl (fun B => ?_))
      | (refine on_store hF rfl rfl rfl rfl a_turn a_vof (by first | rfl | exact hsz.symm | exact hsz) ?_)
      | (refine on_storeE hF rfl rfl rfl rfl a_turn (by (first | omega | (simp only [List.length_append, List.length_cons, List.length_nil, List.length_map] at *; omega))) a_vof (by first | rfl | exact hsz) ?_)
      | (refine on_storeEF hF rfl rfl rfl rfl a_turn (by first | with_reducible assumption | rfl) (by decide) a_vof rfl ?_)
      | (refine on_storeF hF rfl rfl rfl rfl a_turn (by decide) a_vof rfl ?_)) <;> try (refine hK2 _ _ _ a_allK ?_; clear hK2 K2))) <;> (refine hK _ _ _ ?_; clear hK K))
    | with_reducible refine nx_seq ?_
        | with_reducible refine nx_region ?_
        | with_reducible refine nl_nil ?_
        | with_reducible refine nq_then_n ?_
        | with_reducible refine nx_block ?_
        | with_reducible refine nx_skip ?_
        | with_reducible refine nx_exit ?_
        | with_reducible refine nx_ret ?_
        | with_reducible refine nq_then_x ?_
        | with_reducible refine nq_then_r ?_
        | with_reducible refine nq_blk_n ?_
        | with_reducible refine nq_blk_r ?_
        | with_reducible refine nq_blk_hit ?_
        | with_reducible refine nq_blk_miss rfl ?_
        | with_reducible refine nd_nil ?_
    | refine nx_cond_t rfl ?_ | refine nx_cond_f rfl ?_
    | refine nl_pass hF rfl rfl rfl ?_
    | refine nd_pass rfl rfl rfl rfl rfl ?_
    | refine nd_pass2 rfl rfl rfl (fun c => by exact (fun h => by cases h)) a_allK rfl rfl ?_
    | refine nd_pass3 rfl rfl rfl (fun c => by exact (fun h => by cases h)) rfl rfl ?_
    | (with_reducible refine hQ1 _ _ _ ?_; clear hQ1 Q1)
    )
  obtain ⟨n, hn⟩ : ∃ n, (xs.map (Value.int .i64)).length = n := ⟨_, rfl⟩
  obtain ⟨m, hmm⟩ : ∃ m, (ys.map (Value.int .i64)).length = m := ⟨_, rfl⟩
  have hzp : ∀ a b : Nat, (a : Int) + (b : Int) = ((a + b : Nat) : Int) := fun a b => by omega
  have hz0 : ((0 : Nat) : Int) + (n : Int) = (n : Int) := by omega
  have hz1 := hzp n m
  have hb0 : -9223372036854775808 ≤ (n : Int) ∧ (n : Int) ≤ 9223372036854775807 := by omega
  have hb1 : -9223372036854775808 ≤ ((n + m : Nat) : Int) ∧ ((n + m : Nat) : Int) ≤ 9223372036854775807 := by omega
  rw [hn, hmm] at hs0 hs1 hs
  rw [hn] at hvc hx hlx
  rw [hmm] at hvg hy hly
  refine nx_loop (ι := { i : Nat // i ≤ 2 }) (fun i => [(0, .slice (some ⟨s, 0, none⟩) 2 2), (3, .int .i64 ((len2 n m i.1 : Nat) : Int)), (9, .slice (some ⟨s, 0, none⟩) 2 2), (10, .int .i64 ((2 : Nat) : Int)), (11, .int .i64 (i.1 : Int))]) (fun _ => R) (fun _ => C) (fun i => 2 - i.1) ⟨0, Nat.zero_le _⟩ (by exact a_sub) (by exact a_subR) (by exact a_holds) (fun i => ?_)
  obtain ⟨i, hi⟩ := i
  match i, hi with
  | 0, _ =>
    rw [show len2 n m 0 = 0 from rfl]
    repeat' (first
    | ((first | with_reducible refine nl_op rfl ?_ | refine nd_go rfl rfl rfl ?_); intro K hK; (first
      | ((first | refine on_E hF rfl rfl ?_ | refine od_E rfl rfl ?_ | refine od_R rfl rfl ?_); (first | refine ⟨_, yl_addZ hz0 hb0 rfl rfl rfl, ?_⟩ | refine ⟨_, a_yl, ?_⟩))
      | ((first | refine on_Ec hF rfl rfl ?_ | refine od_Ec rfl rfl ?_); refine ⟨_, _, _, a_yc, ?_, ?_⟩ <;> (intro hc; try (exfalso; first | (omega; done) | exact absurd (by with_reducible rfl) hc | (simp at hc; done))))
      | ((first | (refine od_act (fun c => by exact (fun h => by cases h)) ?_; intro K2 hK2) | refine od_last (fun c => by exact (fun h => by cases h)) ?_ | skip); (first
      
      | (refine on_append (T := 28) (e := 3) (k := 1) (by_ := 8) hF rfl rfl rfl rfl rfl a_pick (by kernel_rfl) a_sl a_cel (by first | omega | (unfold maxLen; simp only [List.length_map, List.length_append, List.length_cons, List.length_nil, List.length_replicate]; omega) | (simp only [List.length_map, List.length_append, List.length_cons, List.length_nil, List.length_replicate]; omega)) (by first | omega | (unfold maxLen; simp only [List.length_map, List.length_append, List.length_cons, List.length_nil, List.length_replicate]; omega) | (simp only [List.length_map, List.length_append, List.length_cons, List.length_nil, List.length_replicate]; omega)) (fun v => ?_))
      
      | (refine on_box hF rfl rfl rfl rfl (fun B => ?_))
      | (refine on_store hF rfl rfl rfl rfl a_turn a_vof (by first | rfl | exact hsz.symm | exact hsz) ?_)
      | (refine on_storeE hF rfl rfl rfl rfl a_turn (by (first | omega | (simp only [List.length_append, List.length_cons, List.length_nil, List.length_map] at *; omega))) a_vof (by first | rfl | exact hsz) ?_)
      | (refine on_storeEF hF rfl rfl rfl rfl a_turn (by first | with_reducible assumption | rfl) (by decide) a_vof rfl ?_)
      | (refine on_storeF hF rfl rfl rfl rfl a_turn (by decide) a_vof rfl ?_)) <;> try (refine hK2 _ _ _ a_allK ?_; clear hK2 K2))) <;> (refine hK _ _ _ ?_; clear hK K))
    | with_reducible refine nx_seq ?_
        | with_reducible refine nx_region ?_
        | with_reducible refine nl_nil ?_
        | with_reducible refine nq_then_n ?_
        | with_reducible refine nx_block ?_
        | with_reducible refine nx_skip ?_
        | with_reducible refine nx_exit ?_
        | with_reducible refine nx_ret ?_
        | with_reducible refine nq_then_x ?_
        | with_reducible refine nq_then_r ?_
        | with_reducible refine nq_blk_n ?_
        | with_reducible refine nq_blk_r ?_
        | with_reducible refine nq_blk_hit ?_
        | with_reducible refine nq_blk_miss rfl ?_
        | with_reducible refine nd_nil ?_
    | refine nx_cond_t rfl ?_ | refine nx_cond_f rfl ?_
    | refine nl_pass hF rfl rfl rfl ?_
    | refine nd_pass rfl rfl rfl rfl rfl ?_
    | refine nd_pass2 rfl rfl rfl (fun c => by exact (fun h => by cases h)) a_allK rfl rfl ?_
    | refine nd_pass3 rfl rfl rfl (fun c => by exact (fun h => by cases h)) rfl rfl ?_
    | (with_reducible refine hQ1 _ _ _ ?_; clear hQ1 Q1)
    )
    all_goals (try (exfalso; dsimp only at *; omega))
    refine nx_again ⟨1, by omega⟩ (by dsimp only; omega) (by exact a_sub) (by exact a_subR) (by exact a_holds)
  | 1, _ =>
    rw [show len2 n m 1 = n from rfl]
    repeat' (first
    | ((first | with_reducible refine nl_op rfl ?_ | refine nd_go rfl rfl rfl ?_); intro K hK; (first
      | ((first | refine on_E hF rfl rfl ?_ | refine od_E rfl rfl ?_ | refine od_R rfl rfl ?_); (first | refine ⟨_, yl_addZ hz1 hb1 rfl rfl rfl, ?_⟩ | refine ⟨_, a_yl, ?_⟩))
      | ((first | refine on_Ec hF rfl rfl ?_ | refine od_Ec rfl rfl ?_); refine ⟨_, _, _, a_yc, ?_, ?_⟩ <;> (intro hc; try (exfalso; first | (omega; done) | exact absurd (by with_reducible rfl) hc | (simp at hc; done))))
      | ((first | (refine od_act (fun c => by exact (fun h => by cases h)) ?_; intro K2 hK2) | refine od_last (fun c => by exact (fun h => by cases h)) ?_ | skip); (first
      
      | (refine on_append (T := 28) (e := 3) (k := 1) (by_ := 8) hF rfl rfl rfl rfl rfl a_pick (by kernel_rfl) a_sl a_cel (by first | omega | (unfold maxLen; simp only [List.length_map, List.length_append, List.length_cons, List.length_nil, List.length_replicate]; omega) | (simp only [List.length_map, List.length_append, List.length_cons, List.length_nil, List.length_replicate]; omega)) (by first | omega | (unfold maxLen; simp only [List.length_map, List.length_append, List.length_cons, List.length_nil, List.length_replicate]; omega) | (simp only [List.length_map, List.length_append, List.length_cons, List.length_nil, List.length_replicate]; omega)) (fun v => ?_))
      
      | (refine on_box hF rfl rfl rfl rfl (fun B => ?_))
      | (refine on_store hF rfl rfl rfl rfl a_turn a_vof (by first | rfl | exact hsz.symm | exact hsz) ?_)
      | (refine on_storeE hF rfl rfl rfl rfl a_turn (by (first | omega | (simp only [List.length_append, List.length_cons, List.length_nil, List.length_map] at *; omega))) a_vof (by first | rfl | exact hsz) ?_)
      | (refine on_storeEF hF rfl rfl rfl rfl a_turn (by first | with_reducible assumption | rfl) (by decide) a_vof rfl ?_)
      | (refine on_storeF hF rfl rfl rfl rfl a_turn (by decide) a_vof rfl ?_)) <;> try (refine hK2 _ _ _ a_allK ?_; clear hK2 K2))) <;> (refine hK _ _ _ ?_; clear hK K))
    | with_reducible refine nx_seq ?_
        | with_reducible refine nx_region ?_
        | with_reducible refine nl_nil ?_
        | with_reducible refine nq_then_n ?_
        | with_reducible refine nx_block ?_
        | with_reducible refine nx_skip ?_
        | with_reducible refine nx_exit ?_
        | with_reducible refine nx_ret ?_
        | with_reducible refine nq_then_x ?_
        | with_reducible refine nq_then_r ?_
        | with_reducible refine nq_blk_n ?_
        | with_reducible refine nq_blk_r ?_
        | with_reducible refine nq_blk_hit ?_
        | with_reducible refine nq_blk_miss rfl ?_
        | with_reducible refine nd_nil ?_
    | refine nx_cond_t rfl ?_ | refine nx_cond_f rfl ?_
    | refine nl_pass hF rfl rfl rfl ?_
    | refine nd_pass rfl rfl rfl rfl rfl ?_
    | refine nd_pass2 rfl rfl rfl (fun c => by exact (fun h => by cases h)) a_allK rfl rfl ?_
    | refine nd_pass3 rfl rfl rfl (fun c => by exact (fun h => by cases h)) rfl rfl ?_
    | (with_reducible refine hQ1 _ _ _ ?_; clear hQ1 Q1)
    )
    all_goals (try (exfalso; dsimp only at *; omega))
    refine nx_again ⟨2, by omega⟩ (by dsimp only; omega) (by exact a_sub) (by exact a_subR) (by exact a_holds)
  | 2, _ =>
    rw [show len2 n m 2 = n + m from rfl]
    repeat' (first
    | ((first | with_reducible refine nl_op rfl ?_ | refine nd_go rfl rfl rfl ?_); intro K hK; (first
      | ((first | refine on_E hF rfl rfl ?_ | refine od_E rfl rfl ?_ | refine od_R rfl rfl ?_); (first | refine ⟨_, a_yl, ?_⟩))
      | ((first | refine on_Ec hF rfl rfl ?_ | refine od_Ec rfl rfl ?_); refine ⟨_, _, _, a_yc, ?_, ?_⟩ <;> (intro hc; try (exfalso; first | (omega; done) | exact absurd (by with_reducible rfl) hc | (simp at hc; done))))
      | ((first | (refine od_act (fun c => by exact (fun h => by cases h)) ?_; intro K2 hK2) | refine od_last (fun c => by exact (fun h => by cases h)) ?_ | skip); (first
      | (refine on_callG hF (enters_of Try.func93 (by kernel_rfl) rfl) rfl rfl rfl rfl (grow_ct (n + m) (by omega)) (fun u => ?_))
      | (refine on_append (T := 28) (e := 3) (k := 1) (by_ := 8) hF rfl rfl rfl rfl rfl a_pick (by kernel_rfl) a_sl a_cel (by first | omega | (unfold maxLen; simp only [List.length_map, List.length_append, List.length_cons, List.length_nil, List.length_replicate]; omega) | (simp only [List.length_map, List.length_append, List.length_cons, List.length_nil, List.length_replicate]; omega)) (by first | omega | (unfold maxLen; simp only [List.length_map, List.length_append, List.length_cons, List.length_nil, List.length_replicate]; omega) | (simp only [List.length_map, List.length_append, List.length_cons, List.length_nil, List.length_replicate]; omega)) (fun v => ?_))
      
      | (refine on_box hF rfl rfl rfl rfl (fun B => ?_))
      | (refine on_store hF rfl rfl rfl rfl a_turn a_vof (by first | rfl | exact hsz.symm | exact hsz) ?_)
      | (refine on_storeE hF rfl rfl rfl rfl a_turn (by (first | omega | (simp only [List.length_append, List.length_cons, List.length_nil, List.length_map] at *; omega))) a_vof (by first | rfl | exact hsz) ?_)
      | (refine on_storeEF hF rfl rfl rfl rfl a_turn (by first | with_reducible assumption | rfl) (by decide) a_vof rfl ?_)
      | (refine on_storeF hF rfl rfl rfl rfl a_turn (by decide) a_vof rfl ?_)) <;> try (refine hK2 _ _ _ a_allK ?_; clear hK2 K2))) <;> (refine hK _ _ _ ?_; clear hK K))
    | with_reducible refine nx_seq ?_
        | with_reducible refine nx_region ?_
        | with_reducible refine nl_nil ?_
        | with_reducible refine nq_then_n ?_
        | with_reducible refine nx_block ?_
        | with_reducible refine nx_skip ?_
        | with_reducible refine nx_exit ?_
        | with_reducible refine nx_ret ?_
        | with_reducible refine nq_then_x ?_
        | with_reducible refine nq_then_r ?_
        | with_reducible refine nq_blk_n ?_
        | with_reducible refine nq_blk_r ?_
        | with_reducible refine nq_blk_hit ?_
        | with_reducible refine nq_blk_miss rfl ?_
        | with_reducible refine nd_nil ?_
    | refine nx_cond_t rfl ?_ | refine nx_cond_f rfl ?_
    | refine nl_pass hF rfl rfl rfl ?_
    | refine nd_pass rfl rfl rfl rfl rfl ?_
    | refine nd_pass2 rfl rfl rfl (fun c => by exact (fun h => by cases h)) a_allK rfl rfl ?_
    | refine nd_pass3 rfl rfl rfl (fun c => by exact (fun h => by cases h)) rfl rfl ?_
    | (with_reducible refine hQ1 _ _ _ ?_; clear hQ1 Q1)
    )
    all_goals (try (exfalso; dsimp only at *; omega))
    refine nx_loop (ι := { i : Nat // i ≤ 2 } × SV) (fun p => [(6, p.2.1), (25, .slice (some ⟨s, 0, none⟩) 2 2), (26, .int .i64 ((2 : Nat) : Int)), (27, .int .i64 (p.1.1 : Int))]) (fun _ => R) (fun p => RowC 3 1 p.2.1 ((upto2 xs ys p.1.1).map (.int .i64)) :: C) (fun p => 2 - p.1.1) (⟨0, Nat.zero_le _⟩, u) (by exact a_sub) (by exact a_subR) (by exact a_holds) (fun p => ?_)
    obtain ⟨⟨j, hj⟩, v⟩ := p
    have hl0 : (([] : List Int).map (Value.int .i64)).length = 0 := rfl
    have hxy : xs.map (Value.int .i64) ++ ys.map (Value.int .i64) = (xs ++ ys).map (.int .i64) := by simp
    have hl1 : (([] : List Int).map (Value.int .i64)).length + (xs.map (Value.int .i64)).length ≤ maxLen := by unfold maxLen; omega
    have hl2 : ((([] : List Int).map (Value.int .i64)).length + (xs.map (Value.int .i64)).length) * 8 ≤ 140737488355328 := by omega
    have hl3 : (xs.map (Value.int .i64)).length + (ys.map (Value.int .i64)).length ≤ maxLen := by unfold maxLen; omega
    have hl4 : ((xs.map (Value.int .i64)).length + (ys.map (Value.int .i64)).length) * 8 ≤ 140737488355328 := by omega
    match j, hj with
    | 0, _ =>
      rw [show upto2 xs ys 0 = [] from rfl]
      dsimp only
      repeat' (first
    | ((first | with_reducible refine nl_op rfl ?_ | refine nd_go rfl rfl rfl ?_); intro K hK; (first
      | ((first | refine on_E hF rfl rfl ?_ | refine od_E rfl rfl ?_ | refine od_R rfl rfl ?_); (first | refine ⟨_, a_yl, ?_⟩))
      | ((first | refine on_Ec hF rfl rfl ?_ | refine od_Ec rfl rfl ?_); refine ⟨_, _, _, a_yc, ?_, ?_⟩ <;> (intro hc; try (exfalso; first | (omega; done) | exact absurd (by with_reducible rfl) hc | (simp at hc; done))))
      | ((first | (refine od_act (fun c => by exact (fun h => by cases h)) ?_; intro K2 hK2) | refine od_last (fun c => by exact (fun h => by cases h)) ?_ | skip); (first
      | (refine on_append (e := 3) (k := 1) (by_ := 8) (xs := ([] : List Int).map (.int .i64)) (ys := xs.map (.int .i64)) hF rfl rfl rfl rfl rfl a_pick (by kernel_rfl) a_sl hcx hl1 hl2 (fun u => ?_))
      | (refine on_append (T := 28) (e := 3) (k := 1) (by_ := 8) hF rfl rfl rfl rfl rfl a_pick (by kernel_rfl) a_sl a_cel (by first | omega | (unfold maxLen; simp only [List.length_map, List.length_append, List.length_cons, List.length_nil, List.length_replicate]; omega) | (simp only [List.length_map, List.length_append, List.length_cons, List.length_nil, List.length_replicate]; omega)) (by first | omega | (unfold maxLen; simp only [List.length_map, List.length_append, List.length_cons, List.length_nil, List.length_replicate]; omega) | (simp only [List.length_map, List.length_append, List.length_cons, List.length_nil, List.length_replicate]; omega)) (fun v => ?_))
      
      | (refine on_box hF rfl rfl rfl rfl (fun B => ?_))
      | (refine on_store hF rfl rfl rfl rfl a_turn a_vof (by first | rfl | exact hsz.symm | exact hsz) ?_)
      | (refine on_storeE hF rfl rfl rfl rfl a_turn (by (first | omega | (simp only [List.length_append, List.length_cons, List.length_nil, List.length_map] at *; omega))) a_vof (by first | rfl | exact hsz) ?_)
      | (refine on_storeEF hF rfl rfl rfl rfl a_turn (by first | with_reducible assumption | rfl) (by decide) a_vof rfl ?_)
      | (refine on_storeF hF rfl rfl rfl rfl a_turn (by decide) a_vof rfl ?_)) <;> try (refine hK2 _ _ _ a_allK ?_; clear hK2 K2))) <;> (refine hK _ _ _ ?_; clear hK K))
    | with_reducible refine nx_seq ?_
        | with_reducible refine nx_region ?_
        | with_reducible refine nl_nil ?_
        | with_reducible refine nq_then_n ?_
        | with_reducible refine nx_block ?_
        | with_reducible refine nx_skip ?_
        | with_reducible refine nx_exit ?_
        | with_reducible refine nx_ret ?_
        | with_reducible refine nq_then_x ?_
        | with_reducible refine nq_then_r ?_
        | with_reducible refine nq_blk_n ?_
        | with_reducible refine nq_blk_r ?_
        | with_reducible refine nq_blk_hit ?_
        | with_reducible refine nq_blk_miss rfl ?_
        | with_reducible refine nd_nil ?_
    | refine nx_cond_t rfl ?_ | refine nx_cond_f rfl ?_
    | refine nl_pass hF rfl rfl rfl ?_
    | refine nd_pass rfl rfl rfl rfl rfl ?_
    | refine nd_pass2 rfl rfl rfl (fun c => by exact (fun h => by cases h)) a_allK rfl rfl ?_
    | refine nd_pass3 rfl rfl rfl (fun c => by exact (fun h => by cases h)) rfl rfl ?_
    | (with_reducible refine hQ1 _ _ _ ?_; clear hQ1 Q1)
    )
      all_goals (try (exfalso; dsimp only at *; omega))
      refine nx_again (⟨1, by omega⟩, u) (by dsimp only; omega) (by exact a_sub) (by exact a_subR) (by exact a_holds)
    | 1, _ =>
      rw [show upto2 xs ys 1 = xs from rfl]
      dsimp only
      repeat' (first
    | ((first | with_reducible refine nl_op rfl ?_ | refine nd_go rfl rfl rfl ?_); intro K hK; (first
      | ((first | refine on_E hF rfl rfl ?_ | refine od_E rfl rfl ?_ | refine od_R rfl rfl ?_); (first | refine ⟨_, a_yl, ?_⟩))
      | ((first | refine on_Ec hF rfl rfl ?_ | refine od_Ec rfl rfl ?_); refine ⟨_, _, _, a_yc, ?_, ?_⟩ <;> (intro hc; try (exfalso; first | (omega; done) | exact absurd (by with_reducible rfl) hc | (simp at hc; done))))
      | ((first | (refine od_act (fun c => by exact (fun h => by cases h)) ?_; intro K2 hK2) | refine od_last (fun c => by exact (fun h => by cases h)) ?_ | skip); (first
      | (refine on_append (e := 3) (k := 1) (by_ := 8) (xs := xs.map (.int .i64)) (ys := ys.map (.int .i64)) hF rfl rfl rfl rfl rfl a_pick (by kernel_rfl) a_sl hcy hl3 hl4 (fun u => ?_); rw [hxy])
      | (refine on_append (T := 28) (e := 3) (k := 1) (by_ := 8) hF rfl rfl rfl rfl rfl a_pick (by kernel_rfl) a_sl a_cel (by first | omega | (unfold maxLen; simp only [List.length_map, List.length_append, List.length_cons, List.length_nil, List.length_replicate]; omega) | (simp only [List.length_map, List.length_append, List.length_cons, List.length_nil, List.length_replicate]; omega)) (by first | omega | (unfold maxLen; simp only [List.length_map, List.length_append, List.length_cons, List.length_nil, List.length_replicate]; omega) | (simp only [List.length_map, List.length_append, List.length_cons, List.length_nil, List.length_replicate]; omega)) (fun v => ?_))
      
      | (refine on_box hF rfl rfl rfl rfl (fun B => ?_))
      | (refine on_store hF rfl rfl rfl rfl a_turn a_vof (by first | rfl | exact hsz.symm | exact hsz) ?_)
      | (refine on_storeE hF rfl rfl rfl rfl a_turn (by (first | omega | (simp only [List.length_append, List.length_cons, List.length_nil, List.length_map] at *; omega))) a_vof (by first | rfl | exact hsz) ?_)
      | (refine on_storeEF hF rfl rfl rfl rfl a_turn (by first | with_reducible assumption | rfl) (by decide) a_vof rfl ?_)
      | (refine on_storeF hF rfl rfl rfl rfl a_turn (by decide) a_vof rfl ?_)) <;> try (refine hK2 _ _ _ a_allK ?_; clear hK2 K2))) <;> (refine hK _ _ _ ?_; clear hK K))
    | with_reducible refine nx_seq ?_
        | with_reducible refine nx_region ?_
        | with_reducible refine nl_nil ?_
        | with_reducible refine nq_then_n ?_
        | with_reducible refine nx_block ?_
        | with_reducible refine nx_skip ?_
        | with_reducible refine nx_exit ?_
        | with_reducible refine nx_ret ?_
        | with_reducible refine nq_then_x ?_
        | with_reducible refine nq_then_r ?_
        | with_reducible refine nq_blk_n ?_
        | with_reducible refine nq_blk_r ?_
        | with_reducible refine nq_blk_hit ?_
        | with_reducible refine nq_blk_miss rfl ?_
        | with_reducible refine nd_nil ?_
    | refine nx_cond_t rfl ?_ | refine nx_cond_f rfl ?_
    | refine nl_pass hF rfl rfl rfl ?_
    | refine nd_pass rfl rfl rfl rfl rfl ?_
    | refine nd_pass2 rfl rfl rfl (fun c => by exact (fun h => by cases h)) a_allK rfl rfl ?_
    | refine nd_pass3 rfl rfl rfl (fun c => by exact (fun h => by cases h)) rfl rfl ?_
    | (with_reducible refine hQ1 _ _ _ ?_; clear hQ1 Q1)
    )
      all_goals (try (exfalso; dsimp only at *; omega))
      refine nx_again (⟨2, by omega⟩, u) (by dsimp only; omega) (by exact a_sub) (by exact a_subR) (by exact a_holds)
    | 2, _ =>
      rw [show upto2 xs ys 2 = xs ++ ys from rfl]
      dsimp only
      repeat' (first
    | ((first | with_reducible refine nl_op rfl ?_ | refine nd_go rfl rfl rfl ?_); intro K hK; (first
      | ((first | refine on_E hF rfl rfl ?_ | refine od_E rfl rfl ?_ | refine od_R rfl rfl ?_); (first | refine ⟨_, a_yl, ?_⟩))
      | ((first | refine on_Ec hF rfl rfl ?_ | refine od_Ec rfl rfl ?_); refine ⟨_, _, _, a_yc, ?_, ?_⟩ <;> (intro hc; try (exfalso; first | (omega; done) | exact absurd (by with_reducible rfl) hc | (simp at hc; done))))
      | ((first | (refine od_act (fun c => by exact (fun h => by cases h)) ?_; intro K2 hK2) | refine od_last (fun c => by exact (fun h => by cases h)) ?_ | skip); (first
      
      | (refine on_append (T := 28) (e := 3) (k := 1) (by_ := 8) hF rfl rfl rfl rfl rfl a_pick (by kernel_rfl) a_sl a_cel (by first | omega | (unfold maxLen; simp only [List.length_map, List.length_append, List.length_cons, List.length_nil, List.length_replicate]; omega) | (simp only [List.length_map, List.length_append, List.length_cons, List.length_nil, List.length_replicate]; omega)) (by first | omega | (unfold maxLen; simp only [List.length_map, List.length_append, List.length_cons, List.length_nil, List.length_replicate]; omega) | (simp only [List.length_map, List.length_append, List.length_cons, List.length_nil, List.length_replicate]; omega)) (fun v => ?_))
      
      | (refine on_box hF rfl rfl rfl rfl (fun B => ?_))
      | (refine on_store hF rfl rfl rfl rfl a_turn a_vof (by first | rfl | exact hsz.symm | exact hsz) ?_)
      | (refine on_storeE hF rfl rfl rfl rfl a_turn (by (first | omega | (simp only [List.length_append, List.length_cons, List.length_nil, List.length_map] at *; omega))) a_vof (by first | rfl | exact hsz) ?_)
      | (refine on_storeEF hF rfl rfl rfl rfl a_turn (by first | with_reducible assumption | rfl) (by decide) a_vof rfl ?_)
      | (refine on_storeF hF rfl rfl rfl rfl a_turn (by decide) a_vof rfl ?_)) <;> try (refine hK2 _ _ _ a_allK ?_; clear hK2 K2))) <;> (refine hK _ _ _ ?_; clear hK K))
    | with_reducible refine nx_seq ?_
        | with_reducible refine nx_region ?_
        | with_reducible refine nl_nil ?_
        | with_reducible refine nq_then_n ?_
        | with_reducible refine nx_block ?_
        | with_reducible refine nx_skip ?_
        | with_reducible refine nx_exit ?_
        | with_reducible refine nx_ret ?_
        | with_reducible refine nq_then_x ?_
        | with_reducible refine nq_then_r ?_
        | with_reducible refine nq_blk_n ?_
        | with_reducible refine nq_blk_r ?_
        | with_reducible refine nq_blk_hit ?_
        | with_reducible refine nq_blk_miss rfl ?_
        | with_reducible refine nd_nil ?_
    | refine nx_cond_t rfl ?_ | refine nx_cond_f rfl ?_
    | refine nl_pass hF rfl rfl rfl ?_
    | refine nd_pass rfl rfl rfl rfl rfl ?_
    | refine nd_pass2 rfl rfl rfl (fun c => by exact (fun h => by cases h)) a_allK rfl rfl ?_
    | refine nd_pass3 rfl rfl rfl (fun c => by exact (fun h => by cases h)) rfl rfl ?_
    | (with_reducible refine hQ1 _ _ _ ?_; clear hQ1 Q1)
    )
      all_goals (try (exfalso; dsimp only at *; omega))
      refine nx_end [] rfl v (fun a w ha hw => res_tmp Try.results69 rfl ha) (by exact a_subR) (by exact a_holds2)
set_option maxRecDepth 100000 in
set_option maxHeartbeats 1000000 in
theorem objects_ct (c g lm : Value) (hc : IsSl c) (hg : IsSl g) (hlm : IsSl lm) (fr to : Int) (xs ys : List Int) (h0 : xs ≠ []) (hx : SlC 1 c (xs.map (.int .i64)) ∈ R) (hy : SlC 1 g (ys.map (.int .i64)) ∈ R) (hm : xs.length ≤ 10000000) (hm2 : ys.length ≤ 10000000) :
    Ct Try.prog 52 [planV c g lm fr to] W0 X R C SV (fun v => v.1) (fun _ => R) (fun v => RowC 3 1 v.1 ((Sc.upr (xs ++ ys)).map (.int .i64)) :: C) := by
  intro w hw
  have hF := isWide_wide
  have hvp := vofPlan hc hg hlm fr to
  have hn0 : xs ++ ys ≠ [] := fun h => h0 (List.append_eq_nil_iff.1 h).1
  have hl1 : (xs ++ ys).length ≤ 4611686018427387903 := by rw [List.length_append]; omega
  have hn1 : (xs ++ ys).mergeSort (fun x y => decide (x ≤ y)) ≠ [] := fun e => by have := congrArg List.length e; simp only [List.length_mergeSort, List.length_nil] at this; exact hn0 (List.eq_nil_of_length_eq_zero this)
  have hl2 : ((xs ++ ys).mergeSort (fun x y => decide (x ≤ y))).length ≤ 4611686018427387903 := by rw [List.length_mergeSort]; exact hl1
  have cc := fun (W0 : World) (X : Nat → Prop) (R C : List Ch) s h1 h2 h3 => concat_ct (W0 := W0) (X := X) (R := R) (C := C) s c g hc hg xs ys h1 h2 h3 hm hm2
  obtain ⟨ca, cn, cc', rfl⟩ := hc
  obtain ⟨ga, gn, gc, rfl⟩ := hg
  obtain ⟨la, ln, lc, rfl⟩ := hlm
  have hcl : Cel 1 [Value.slice ca cn cc', .slice ga gn gc] := Cel.one1 rfl (Cel.one1 rfl Cel.nil)
  refine calls_nx Try.func52 rfl Try.ntmps52 rfl ?_ hw
  repeat' (first
    | ((first | with_reducible refine nl_op rfl ?_ | refine nd_go rfl rfl rfl ?_); intro K hK; (first
      | ((first | refine on_E hF rfl rfl ?_ | refine od_E rfl rfl ?_ | refine od_R rfl rfl ?_); (first | refine ⟨_, a_yl, ?_⟩ | refine ⟨_, yl_fieldB (T := 43) (f := 0) (q := 0) rfl rfl (by kernel_rfl), ?_⟩ | refine ⟨_, yl_fieldE (T := 43) (f := 0) (j := 0) rfl rfl a_sl (by (first | omega | (simp only [List.length_append, List.length_cons, List.length_nil, List.length_map] at *; omega))) (by kernel_rfl), ?_⟩ | refine ⟨_, yl_fieldB (T := 43) (f := 1) (q := 1) rfl rfl (by kernel_rfl), ?_⟩ | refine ⟨_, yl_fieldE (T := 43) (f := 1) (j := 1) rfl rfl a_sl (by (first | omega | (simp only [List.length_append, List.length_cons, List.length_nil, List.length_map] at *; omega))) (by kernel_rfl), ?_⟩))
      | ((first | refine on_Ec hF rfl rfl ?_ | refine od_Ec rfl rfl ?_); refine ⟨_, _, _, a_yc, ?_, ?_⟩ <;> (intro hc; try (exfalso; first | (omega; done) | exact absurd (by with_reducible rfl) hc | (simp at hc; done))))
      | ((first | (refine od_act (fun c => by exact (fun h => by cases h)) ?_; intro K2 hK2) | refine od_last (fun c => by exact (fun h => by cases h)) ?_ | skip); (first
      | (refine on_buildSlice (e := 28) (k := 1) (by_ := 24) (vs := [_, _]) hF rfl rfl rfl rfl rfl rfl (by kernel_rfl) hcl (Nat.le_of_ble_eq_true rfl) (fun bq => ?_); refine nx_frzRow Pick.here ?_)
      | (refine on_callG hF (enters_of Try.func69 (by kernel_rfl) rfl) rfl rfl rfl rfl (cc _ _ _ _ _ (by exact a_mem) (by exact a_mem) (by exact a_mem)) (fun u => ?_))
      | (refine on_callG hF (enters_of Try.func37 (by kernel_rfl) rfl) rfl rfl rfl rfl ((Sc.sort_ct u.1 (xs ++ ys) hn0 hl1).pre (perm1 (by exact a_pick))) (fun _ => ?_))
      | (refine on_callG hF (enters_of Try.func39 (by kernel_rfl) rfl) rfl rfl rfl rfl ((Sc.compact_ct u.1 _ hn1 hl2).pre (perm1 (by exact a_pick))) (fun v => ?_))
      | (refine on_buildSlice (T := 132) (e := 28) (k := 1) (by_ := 24) hF rfl rfl rfl rfl rfl rfl (by kernel_rfl) a_cel (Nat.le_of_ble_eq_true rfl) (fun b => ?_))
      
      | (refine on_box hF rfl rfl rfl rfl (fun B => ?_))
      | (refine on_store hF rfl rfl rfl rfl a_turn a_vof (by first | rfl | exact hsz.symm | exact hsz) ?_)
      | (refine on_storeE hF rfl rfl rfl rfl a_turn (by (first | omega | (simp only [List.length_append, List.length_cons, List.length_nil, List.length_map] at *; omega))) a_vof (by first | rfl | exact hsz) ?_)
      | (refine on_storeEF hF rfl rfl rfl rfl a_turn (by first | with_reducible assumption | rfl) (by decide) a_vof rfl ?_)
      | (refine on_storeF hF rfl rfl rfl rfl a_turn (by decide) a_vof rfl ?_)) <;> try (refine hK2 _ _ _ a_allK ?_; clear hK2 K2))) <;> (refine hK _ _ _ ?_; clear hK K))
    | with_reducible refine nx_seq ?_
        | with_reducible refine nx_region ?_
        | with_reducible refine nl_nil ?_
        | with_reducible refine nq_then_n ?_
        | with_reducible refine nx_block ?_
        | with_reducible refine nx_skip ?_
        | with_reducible refine nx_exit ?_
        | with_reducible refine nx_ret ?_
        | with_reducible refine nq_then_x ?_
        | with_reducible refine nq_then_r ?_
        | with_reducible refine nq_blk_n ?_
        | with_reducible refine nq_blk_r ?_
        | with_reducible refine nq_blk_hit ?_
        | with_reducible refine nq_blk_miss rfl ?_
        | with_reducible refine nd_nil ?_
    | refine nx_cond_t rfl ?_ | refine nx_cond_f rfl ?_
    | refine nl_pass hF rfl rfl rfl ?_
    | refine nd_pass rfl rfl rfl rfl rfl ?_
    | refine nd_pass2 rfl rfl rfl (fun c => by exact (fun h => by cases h)) a_allK rfl rfl ?_
    | refine nd_pass3 rfl rfl rfl (fun c => by exact (fun h => by cases h)) rfl rfl ?_
    | (with_reducible refine hQ1 _ _ _ ?_; clear hQ1 Q1)
    )
  refine nx_end [] rfl v (fun a w ha hw => res_tmp Try.results52 rfl ha) (by exact a_subR) (by exact a_holds2)
end Pl
end Go.Proofs.Ytinofjenoapeaaa
end

section
namespace Go.Proofs.Ytinofjenoapeaaa
open Go.RowKit Go.Shelf
set_option linter.unusedSimpArgs false
set_option linter.unusedVariables false
namespace NInt
variable {W0 : World} {X : Nat → Prop} {R C : List Ch}
set_option maxRecDepth 100000 in
theorem vals_ct (s : Value) : Ct Try.prog 38 [s] W0 X R C Nat (fun B => .func (.func 61) #[] #[ptr B]) (fun B => BoxC B 28 s :: R) (fun _ => C) := by
  intro w hw
  have hF := isWide_wide
  refine calls_nx Try.func38 rfl Try.ntmps38 rfl ?_ hw
  repeat' (first
    | ((first | with_reducible refine nl_op rfl ?_ | refine nd_go rfl rfl rfl ?_); intro K hK; (first
      | ((first | refine on_E hF rfl rfl ?_ | refine od_E rfl rfl ?_ | refine od_R rfl rfl ?_); (first | refine ⟨_, a_yl, ?_⟩))
      | ((first | refine on_Ec hF rfl rfl ?_ | refine od_Ec rfl rfl ?_); refine ⟨_, _, _, a_yc, ?_, ?_⟩ <;> (intro hc; try (exfalso; first | (omega; done) | exact absurd (by with_reducible rfl) hc | (simp at hc; done))))
      | ((first | (refine od_act (fun c => by exact (fun h => by cases h)) ?_; intro K2 hK2) | refine od_last (fun c => by exact (fun h => by cases h)) ?_ | skip); (first
      
      
      
      | (refine on_box hF rfl rfl rfl rfl (fun B => ?_))
      | (refine on_store hF rfl rfl rfl rfl a_turn a_vof (by first | rfl | exact hsz.symm | exact hsz) ?_)
      | (refine on_storeE hF rfl rfl rfl rfl a_turn (by (first | omega | (simp only [List.length_append, List.length_cons, List.length_nil, List.length_map] at *; omega))) a_vof (by first | rfl | exact hsz) ?_)
      | (refine on_storeEF hF rfl rfl rfl rfl a_turn (by first | with_reducible assumption | rfl) (by decide) a_vof rfl ?_)
      | (refine on_storeF hF rfl rfl rfl rfl a_turn (by decide) a_vof rfl ?_)) <;> try (refine hK2 _ _ _ a_allK ?_; clear hK2 K2))) <;> (refine hK _ _ _ ?_; clear hK K))
    | with_reducible refine nx_seq ?_
        | with_reducible refine nx_region ?_
        | with_reducible refine nl_nil ?_
        | with_reducible refine nq_then_n ?_
        | with_reducible refine nx_block ?_
        | with_reducible refine nx_skip ?_
        | with_reducible refine nx_exit ?_
        | with_reducible refine nx_ret ?_
        | with_reducible refine nq_then_x ?_
        | with_reducible refine nq_then_r ?_
        | with_reducible refine nq_blk_n ?_
        | with_reducible refine nq_blk_r ?_
        | with_reducible refine nq_blk_hit ?_
        | with_reducible refine nq_blk_miss rfl ?_
        | with_reducible refine nd_nil ?_
    | refine nx_cond_t rfl ?_ | refine nx_cond_f rfl ?_
    | refine nl_pass hF rfl rfl rfl ?_
    | refine nd_pass rfl rfl rfl rfl rfl ?_
    | refine nd_pass2 rfl rfl rfl (fun c => by exact (fun h => by cases h)) a_allK rfl rfl ?_
    | refine nd_pass3 rfl rfl rfl (fun c => by exact (fun h => by cases h)) rfl rfl ?_
    | (with_reducible refine hQ1 _ _ _ ?_; clear hQ1 Q1)
    )
  refine nx_frz (BoxC _ _ _) Pick.here ?_
  refine nx_end [] rfl B (fun a w ha hw => res_tmp Try.results38 rfl ha) (by exact a_subR) (by exact a_holds2)
set_option maxRecDepth 100000 in
set_option maxHeartbeats 1000000 in
theorem vals_it (B : Nat) (s : Value) (xs : List Value) (hv : ∀ x ∈ xs, VOf Try.prog 3 x) (hs : IsSl s) (hm : xs.length ≤ maxLen) : It Try.prog xs (.func (.func 61) #[] #[ptr B]) [BoxC B 28 s, SlC 1 s xs] := by
  refine ⟨61, [ptr B], rfl, (enters_of Try.func61 (by kernel_rfl) rfl), ?_⟩
  intro y RY J JX hY hy W0 X R E hRS hRY w hw
  have hF := isWide_wide
  have hb : BoxC B 28 s ∈ R := hRS _ (by simp)
  have hsl : SlC 1 s xs ∈ R := hRS _ (by simp)
  have hvs : VOf Try.prog 28 s := vof_slice (by kernel_rfl) hs
  have hyv : VOf Try.prog 48 y := vof_func (by kernel_rfl) (by obtain ⟨f, lb, h⟩ := hy; exact ⟨f, _, lb, h⟩)
  unfold maxLen at hm
  refine calls_nx Try.func61 rfl Try.ntmps61 rfl ?_ hw
  repeat' (first
    | ((first | with_reducible refine nl_op rfl ?_ | refine nd_go rfl rfl rfl ?_); intro K hK; (first
      | ((first | refine on_E hF rfl rfl ?_ | refine od_E rfl rfl ?_ | refine od_R rfl rfl ?_); (first | refine ⟨_, a_yl, ?_⟩))
      | ((first | refine on_Ec hF rfl rfl ?_ | refine od_Ec rfl rfl ?_); refine ⟨_, _, _, a_yc, ?_, ?_⟩ <;> (intro hc; try (exfalso; first | (omega; done) | exact absurd (by with_reducible rfl) hc | (simp at hc; done))))
      | ((first | (refine od_act (fun c => by exact (fun h => by cases h)) ?_; intro K2 hK2) | refine od_last (fun c => by exact (fun h => by cases h)) ?_ | skip); (first
      
      
      
      | (refine on_box hF rfl rfl rfl rfl (fun B => ?_))
      | (refine on_store hF rfl rfl rfl rfl a_turn a_vof (by first | rfl | exact hsz.symm | exact hsz) ?_)
      | (refine on_storeE hF rfl rfl rfl rfl a_turn (by (first | omega | (simp only [List.length_append, List.length_cons, List.length_nil, List.length_map] at *; omega))) a_vof (by first | rfl | exact hsz) ?_)
      | (refine on_storeEF hF rfl rfl rfl rfl a_turn (by first | with_reducible assumption | rfl) (by decide) a_vof rfl ?_)
      | (refine on_storeF hF rfl rfl rfl rfl a_turn (by decide) a_vof rfl ?_)) <;> try (refine hK2 _ _ _ a_allK ?_; clear hK2 K2))) <;> (refine hK _ _ _ ?_; clear hK K))
    | with_reducible refine nx_seq ?_
        | with_reducible refine nx_region ?_
        | with_reducible refine nl_nil ?_
        | with_reducible refine nq_then_n ?_
        | with_reducible refine nx_block ?_
        | with_reducible refine nx_skip ?_
        | with_reducible refine nx_exit ?_
        | with_reducible refine nx_ret ?_
        | with_reducible refine nq_then_x ?_
        | with_reducible refine nq_then_r ?_
        | with_reducible refine nq_blk_n ?_
        | with_reducible refine nq_blk_r ?_
        | with_reducible refine nq_blk_hit ?_
        | with_reducible refine nq_blk_miss rfl ?_
        | with_reducible refine nd_nil ?_
    | refine nx_cond_t rfl ?_ | refine nx_cond_f rfl ?_
    | refine nl_pass hF rfl rfl rfl ?_
    | refine nd_pass rfl rfl rfl rfl rfl ?_
    | refine nd_pass2 rfl rfl rfl (fun c => by exact (fun h => by cases h)) a_allK rfl rfl ?_
    | refine nd_pass3 rfl rfl rfl (fun c => by exact (fun h => by cases h)) rfl rfl ?_
    | (with_reducible refine hQ1 _ _ _ ?_; clear hQ1 Q1)
    )
  refine nx_loop (ι := { i : Nat // i ≤ xs.length }) (fun i => [(0, y), (5, s), (6, .int .i64 (xs.length : Int)), (7, .int .i64 (i.1 : Int))]) (fun _ => R) (fun i => J (xs.take i.1) :: E) (fun i => xs.length - i.1) ⟨0, Nat.zero_le _⟩ (by exact a_sub) (by exact a_subR) (by exact a_holds) (fun i => ?_)
  obtain ⟨i, hi⟩ := i
  dsimp only
  by_cases hlt : i < xs.length
  · have hx : xs[i]? = some xs[i] := by simp [hlt]
    have hvx : VOf Try.prog 3 xs[i] := hv _ (by simp)
    have hz : xs = xs.take i ++ xs[i] :: xs.drop (i + 1) := by rw [List.getElem_cons_drop, List.take_append_drop]
    have htk : xs.take (i + 1) = xs.take i ++ [xs[i]] := by rw [List.take_succ_eq_append_getElem hlt]
    have hsz : ((cv (xs[i])).size) = 1 := by have := hvx.size; rw [show (Try.prog.info? 3).map (·.size) = some 1 from by kernel_rfl] at this; exact (Option.some.inj this).symm
    repeat' (first
    | ((first | with_reducible refine nl_op rfl ?_ | refine nd_go rfl rfl rfl ?_); intro K hK; (first
      | ((first | refine on_E hF rfl rfl ?_ | refine od_E rfl rfl ?_ | refine od_R rfl rfl ?_); (first | refine ⟨_, a_yl, ?_⟩))
      | ((first | refine on_Ec hF rfl rfl ?_ | refine od_Ec rfl rfl ?_); refine ⟨_, _, _, a_yc, ?_, ?_⟩ <;> (intro hc; try (exfalso; first | (omega; done) | exact absurd (by with_reducible rfl) hc | (simp at hc; done))))
      | ((first | (refine od_act (fun c => by exact (fun h => by cases h)) ?_; intro K2 hK2) | refine od_last (fun c => by exact (fun h => by cases h)) ?_ | skip); (first
      | (refine on_yield hF hY (xs.take i) xs[i] (xs.drop (i + 1)) hz rfl rfl rfl rfl rfl rfl hRY rfl (by exact a_pick) ?_ ?_)
      
      
      | (refine on_box hF rfl rfl rfl rfl (fun B => ?_))
      | (refine on_store hF rfl rfl rfl rfl a_turn a_vof (by first | rfl | exact hsz.symm | exact hsz) ?_)
      | (refine on_storeE hF rfl rfl rfl rfl a_turn (by (first | omega | (simp only [List.length_append, List.length_cons, List.length_nil, List.length_map] at *; omega))) a_vof (by first | rfl | exact hsz) ?_)
      | (refine on_storeEF hF rfl rfl rfl rfl a_turn (by first | with_reducible assumption | rfl) (by decide) a_vof rfl ?_)
      | (refine on_storeF hF rfl rfl rfl rfl a_turn (by decide) a_vof rfl ?_)) <;> try (refine hK2 _ _ _ a_allK ?_; clear hK2 K2))) <;> (refine hK _ _ _ ?_; clear hK K))
    | with_reducible refine nx_seq ?_
        | with_reducible refine nx_region ?_
        | with_reducible refine nl_nil ?_
        | with_reducible refine nq_then_n ?_
        | with_reducible refine nx_block ?_
        | with_reducible refine nx_skip ?_
        | with_reducible refine nx_exit ?_
        | with_reducible refine nx_ret ?_
        | with_reducible refine nq_then_x ?_
        | with_reducible refine nq_then_r ?_
        | with_reducible refine nq_blk_n ?_
        | with_reducible refine nq_blk_r ?_
        | with_reducible refine nq_blk_hit ?_
        | with_reducible refine nq_blk_miss rfl ?_
        | with_reducible refine nd_nil ?_
    | refine nx_cond_t rfl ?_ | refine nx_cond_f rfl ?_
    | refine nl_pass hF rfl rfl rfl ?_
    | refine nd_pass rfl rfl rfl rfl rfl ?_
    | refine nd_pass2 rfl rfl rfl (fun c => by exact (fun h => by cases h)) a_allK rfl rfl ?_
    | refine nd_pass3 rfl rfl rfl (fun c => by exact (fun h => by cases h)) rfl rfl ?_
    | (with_reducible refine hQ1 _ _ _ ?_; clear hQ1 Q1)
    )
    · rw [← htk]
      refine nx_again ⟨i + 1, by omega⟩ (by dsimp only; omega) (by exact a_sub) (by exact a_subR) (by exact a_holds)
    · refine nx_end [] rfl (some ⟨xs.take i ++ [xs[i]], _, _, _, rfl, hz⟩) (fun a w ha hw => res_none Try.results61) (by exact a_subR) (by exact a_holds2)
  · repeat' (first
    | ((first | with_reducible refine nl_op rfl ?_ | refine nd_go rfl rfl rfl ?_); intro K hK; (first
      | ((first | refine on_E hF rfl rfl ?_ | refine od_E rfl rfl ?_ | refine od_R rfl rfl ?_); (first | refine ⟨_, a_yl, ?_⟩))
      | ((first | refine on_Ec hF rfl rfl ?_ | refine od_Ec rfl rfl ?_); refine ⟨_, _, _, a_yc, ?_, ?_⟩ <;> (intro hc; try (exfalso; first | (omega; done) | exact absurd (by with_reducible rfl) hc | (simp at hc; done))))
      | ((first | (refine od_act (fun c => by exact (fun h => by cases h)) ?_; intro K2 hK2) | refine od_last (fun c => by exact (fun h => by cases h)) ?_ | skip); (first
      
      
      
      | (refine on_box hF rfl rfl rfl rfl (fun B => ?_))
      | (refine on_store hF rfl rfl rfl rfl a_turn a_vof (by first | rfl | exact hsz.symm | exact hsz) ?_)
      | (refine on_storeE hF rfl rfl rfl rfl a_turn (by (first | omega | (simp only [List.length_append, List.length_cons, List.length_nil, List.length_map] at *; omega))) a_vof (by first | rfl | exact hsz) ?_)
      | (refine on_storeEF hF rfl rfl rfl rfl a_turn (by first | with_reducible assumption | rfl) (by decide) a_vof rfl ?_)
      | (refine on_storeF hF rfl rfl rfl rfl a_turn (by decide) a_vof rfl ?_)) <;> try (refine hK2 _ _ _ a_allK ?_; clear hK2 K2))) <;> (refine hK _ _ _ ?_; clear hK K))
    | with_reducible refine nx_seq ?_
        | with_reducible refine nx_region ?_
        | with_reducible refine nl_nil ?_
        | with_reducible refine nq_then_n ?_
        | with_reducible refine nx_block ?_
        | with_reducible refine nx_skip ?_
        | with_reducible refine nx_exit ?_
        | with_reducible refine nx_ret ?_
        | with_reducible refine nq_then_x ?_
        | with_reducible refine nq_then_r ?_
        | with_reducible refine nq_blk_n ?_
        | with_reducible refine nq_blk_r ?_
        | with_reducible refine nq_blk_hit ?_
        | with_reducible refine nq_blk_miss rfl ?_
        | with_reducible refine nd_nil ?_
    | refine nx_cond_t rfl ?_ | refine nx_cond_f rfl ?_
    | refine nl_pass hF rfl rfl rfl ?_
    | refine nd_pass rfl rfl rfl rfl rfl ?_
    | refine nd_pass2 rfl rfl rfl (fun c => by exact (fun h => by cases h)) a_allK rfl rfl ?_
    | refine nd_pass3 rfl rfl rfl (fun c => by exact (fun h => by cases h)) rfl rfl ?_
    | (with_reducible refine hQ1 _ _ _ ?_; clear hQ1 Q1)
    )
    have : xs.take i = xs := List.take_of_length_le (by omega)
    rw [this]
    refine nx_end_n [] rfl none (fun a w ha hw => res_none Try.results61) (by exact a_subR) (by exact a_holds2)
def ofV (B : Nat) : Value := .func (.func 61) #[] #[ptr B]
end NInt
end Go.Proofs.Ytinofjenoapeaaa
end

section
namespace Go.Proofs.Ytinofjenoapeaaa
open Go.RowKit Go.Shelf
set_option linter.unusedSimpArgs false
set_option linter.unusedVariables false
namespace Li
def isKn (L : List It2) (x : It2) : Bool := decide (x.kind = 4) && knownL L x.tl
def rawL (L : List It2) : List Int := 1 :: (L.filter (isKn L)).map (·.tl)
def allL (L : List It2) : List Int := Sc.upr (rawL L)
theorem known_pos {L : List It2} {t : Int} (h : knownL L t = true) : 1 ≤ t := by
  by_cases h1 : 1 < t
  · omega
  · rw [knownL_le h1] at h; have := of_decide_eq_true h; omega
theorem known_one (L : List It2) : knownL L 1 = true := by rw [knownL_le (by omega)]; rfl
theorem mem_all {L : List It2} {t : Int} : t ∈ allL L ↔ t = 1 ∨ ∃ x ∈ L, isKn L x = true ∧ x.tl = t := by
  unfold allL
  rw [Sc.mem_upr]
  unfold rawL
  rw [List.mem_cons, List.mem_map]
  refine ⟨fun h => h.imp id (fun ⟨x, hx, e⟩ => ⟨x, (List.mem_filter.1 hx).1, (List.mem_filter.1 hx).2, e⟩), fun h => h.imp id (fun ⟨x, h1, h2, e⟩ => ⟨x, List.mem_filter.2 ⟨h1, h2⟩, e⟩)⟩
theorem isKn_known {L : List It2} {x : It2} (h : isKn L x = true) : knownL L x.tl = true := by
  unfold isKn at h; simp at h; exact h.2
theorem isKn_mk {L : List It2} {x : It2} (h : x.kind = 4) (h2 : knownL L x.tl = true) : isKn L x = true := by unfold isKn; simp [h, h2]
theorem all_known {L : List It2} {t : Int} (h : t ∈ allL L) : knownL L t = true := by
  rcases mem_all.1 h with rfl | ⟨x, _, hk, rfl⟩
  · exact known_one L
  · exact isKn_known hk
theorem all_lt (L : List It2) : (allL L).Pairwise (· < ·) := Sc.upr_lt _
theorem raw_len (L : List It2) : (rawL L).length ≤ L.length + 1 := by
  unfold rawL
  have := List.length_filter_le (isKn L) L
  simp only [List.length_cons, List.length_map]; omega
theorem all_len (L : List It2) : (allL L).length ≤ L.length + 1 := Nat.le_trans (Sc.upr_len _) (raw_len L)
end Li
end Go.Proofs.Ytinofjenoapeaaa
end

section
namespace Go.Proofs.Ytinofjenoapeaaa
open Go.RowKit Go.Shelf
set_option linter.unusedSimpArgs false
set_option linter.unusedVariables false
namespace Li
variable {W0 : World} {X : Nat → Prop} {R C : List Ch}
set_option maxRecDepth 100000 in
set_option maxHeartbeats 1000000 in
theorem all1_ct (s : Value) (hs : IsSl s) (L : List It2) (hok : ∀ x ∈ L, x.ok) (hm : L.length * 88 ≤ 140737488355328) (x : It2) (hx : x.ok) (b : Nat) (hb : BoxC b 22 s ∈ R) (hsl : SlC 9 s (L.map It2.v) ∈ R) :
    Ct Try.prog 36 [x.v, ptr b] W0 X R C Unit (fun _ => .bool (isKn L x)) (fun _ => R) (fun _ => C) := by
  intro w hw
  have hF := isWide_wide
  have kc := fun (W0 : World) (X : Nat → Prop) (R C : List Ch) h => known_ct (W0 := W0) (X := X) (R := R) (C := C) s hs L hok x.tl h hm
  have hi : isKn L x = (decide (x.kind = 4) && knownL L x.tl) := rfl
  have hvs : VOf Try.prog 22 s := vof_slice (by kernel_rfl) hs
  obtain ⟨d1, kind, tl, d4, d5, d6, d7, d8, e⟩ := x
  obtain ⟨ea, en, ec, rfl⟩ : IsSl e := hx
  dsimp only at hi kc
  obtain ⟨k, hk⟩ : ∃ k, knownL L tl = k := ⟨_, rfl⟩
  rw [hk] at kc hi
  rw [hi]
  by_cases h1 : kind = 4
  · subst h1
    rw [decide_eq_true rfl, Bool.true_and]
    refine calls_nx Try.func36 rfl Try.ntmps36 rfl ?_ hw
    cases k with
    | true =>
      repeat' (first
    | ((first | with_reducible refine nl_op rfl ?_ | refine nd_go rfl rfl rfl ?_); intro K hK; (first
      | ((first | refine on_E hF rfl rfl ?_ | refine od_E rfl rfl ?_ | refine od_R rfl rfl ?_); (first | refine ⟨_, a_yl, ?_⟩ | refine ⟨_, yl_fieldB (T := 27) (f := 1) (q := 1) rfl rfl (by kernel_rfl), ?_⟩ | refine ⟨_, yl_fieldE (T := 27) (f := 1) (j := 1) rfl rfl a_sl (by (first | omega | (simp only [List.length_append, List.length_cons, List.length_nil, List.length_map] at *; omega))) (by kernel_rfl), ?_⟩ | refine ⟨_, yl_fieldB (T := 27) (f := 2) (q := 2) rfl rfl (by kernel_rfl), ?_⟩ | refine ⟨_, yl_fieldE (T := 27) (f := 2) (j := 2) rfl rfl a_sl (by (first | omega | (simp only [List.length_append, List.length_cons, List.length_nil, List.length_map] at *; omega))) (by kernel_rfl), ?_⟩))
      | ((first | refine on_Ec hF rfl rfl ?_ | refine od_Ec rfl rfl ?_); refine ⟨_, _, _, a_yc, ?_, ?_⟩ <;> (intro hc; try (exfalso; first | (omega; done) | exact absurd (by with_reducible rfl) hc | (simp at hc; done))))
      | ((first | (refine od_act (fun c => by exact (fun h => by cases h)) ?_; intro K2 hK2) | refine od_last (fun c => by exact (fun h => by cases h)) ?_ | skip); (first
      | (refine on_callG hF (enters_of Try.func8 (by kernel_rfl) rfl) rfl rfl rfl rfl (kc _ _ _ _ (by exact a_mem)) (fun _ => ?_))
      
      
      | (refine on_box hF rfl rfl rfl rfl (fun B => ?_))
      | (refine on_store hF rfl rfl rfl rfl a_turn a_vof (by first | rfl | exact hsz.symm | exact hsz) ?_)
      | (refine on_storeE hF rfl rfl rfl rfl a_turn (by (first | omega | (simp only [List.length_append, List.length_cons, List.length_nil, List.length_map] at *; omega))) a_vof (by first | rfl | exact hsz) ?_)
      | (refine on_storeEF hF rfl rfl rfl rfl a_turn (by first | with_reducible assumption | rfl) (by decide) a_vof rfl ?_)
      | (refine on_storeF hF rfl rfl rfl rfl a_turn (by decide) a_vof rfl ?_)) <;> try (refine hK2 _ _ _ a_allK ?_; clear hK2 K2))) <;> (refine hK _ _ _ ?_; clear hK K))
    | with_reducible refine nx_seq ?_
        | with_reducible refine nx_region ?_
        | with_reducible refine nl_nil ?_
        | with_reducible refine nq_then_n ?_
        | with_reducible refine nx_block ?_
        | with_reducible refine nx_skip ?_
        | with_reducible refine nx_exit ?_
        | with_reducible refine nx_ret ?_
        | with_reducible refine nq_then_x ?_
        | with_reducible refine nq_then_r ?_
        | with_reducible refine nq_blk_n ?_
        | with_reducible refine nq_blk_r ?_
        | with_reducible refine nq_blk_hit ?_
        | with_reducible refine nq_blk_miss rfl ?_
        | with_reducible refine nd_nil ?_
    | refine nx_cond_t rfl ?_ | refine nx_cond_f rfl ?_
    | refine nl_pass hF rfl rfl rfl ?_
    | refine nd_pass rfl rfl rfl rfl rfl ?_
    | refine nd_pass2 rfl rfl rfl (fun c => by exact (fun h => by cases h)) a_allK rfl rfl ?_
    | refine nd_pass3 rfl rfl rfl (fun c => by exact (fun h => by cases h)) rfl rfl ?_
    | (with_reducible refine hQ1 _ _ _ ?_; clear hQ1 Q1)
    )
      all_goals (first | (exfalso; dsimp only at *; omega) | (refine nx_end [] rfl () (fun a w ha hw => res_tmp Try.results36 rfl ha) (by exact a_subR) (by exact a_holds2)))
    | false =>
      repeat' (first
    | ((first | with_reducible refine nl_op rfl ?_ | refine nd_go rfl rfl rfl ?_); intro K hK; (first
      | ((first | refine on_E hF rfl rfl ?_ | refine od_E rfl rfl ?_ | refine od_R rfl rfl ?_); (first | refine ⟨_, a_yl, ?_⟩ | refine ⟨_, yl_fieldB (T := 27) (f := 1) (q := 1) rfl rfl (by kernel_rfl), ?_⟩ | refine ⟨_, yl_fieldE (T := 27) (f := 1) (j := 1) rfl rfl a_sl (by (first | omega | (simp only [List.length_append, List.length_cons, List.length_nil, List.length_map] at *; omega))) (by kernel_rfl), ?_⟩ | refine ⟨_, yl_fieldB (T := 27) (f := 2) (q := 2) rfl rfl (by kernel_rfl), ?_⟩ | refine ⟨_, yl_fieldE (T := 27) (f := 2) (j := 2) rfl rfl a_sl (by (first | omega | (simp only [List.length_append, List.length_cons, List.length_nil, List.length_map] at *; omega))) (by kernel_rfl), ?_⟩))
      | ((first | refine on_Ec hF rfl rfl ?_ | refine od_Ec rfl rfl ?_); refine ⟨_, _, _, a_yc, ?_, ?_⟩ <;> (intro hc; try (exfalso; first | (omega; done) | exact absurd (by with_reducible rfl) hc | (simp at hc; done))))
      | ((first | (refine od_act (fun c => by exact (fun h => by cases h)) ?_; intro K2 hK2) | refine od_last (fun c => by exact (fun h => by cases h)) ?_ | skip); (first
      | (refine on_callG hF (enters_of Try.func8 (by kernel_rfl) rfl) rfl rfl rfl rfl (kc _ _ _ _ (by exact a_mem)) (fun _ => ?_))
      
      
      | (refine on_box hF rfl rfl rfl rfl (fun B => ?_))
      | (refine on_store hF rfl rfl rfl rfl a_turn a_vof (by first | rfl | exact hsz.symm | exact hsz) ?_)
      | (refine on_storeE hF rfl rfl rfl rfl a_turn (by (first | omega | (simp only [List.length_append, List.length_cons, List.length_nil, List.length_map] at *; omega))) a_vof (by first | rfl | exact hsz) ?_)
      | (refine on_storeEF hF rfl rfl rfl rfl a_turn (by first | with_reducible assumption | rfl) (by decide) a_vof rfl ?_)
      | (refine on_storeF hF rfl rfl rfl rfl a_turn (by decide) a_vof rfl ?_)) <;> try (refine hK2 _ _ _ a_allK ?_; clear hK2 K2))) <;> (refine hK _ _ _ ?_; clear hK K))
    | with_reducible refine nx_seq ?_
        | with_reducible refine nx_region ?_
        | with_reducible refine nl_nil ?_
        | with_reducible refine nq_then_n ?_
        | with_reducible refine nx_block ?_
        | with_reducible refine nx_skip ?_
        | with_reducible refine nx_exit ?_
        | with_reducible refine nx_ret ?_
        | with_reducible refine nq_then_x ?_
        | with_reducible refine nq_then_r ?_
        | with_reducible refine nq_blk_n ?_
        | with_reducible refine nq_blk_r ?_
        | with_reducible refine nq_blk_hit ?_
        | with_reducible refine nq_blk_miss rfl ?_
        | with_reducible refine nd_nil ?_
    | refine nx_cond_t rfl ?_ | refine nx_cond_f rfl ?_
    | refine nl_pass hF rfl rfl rfl ?_
    | refine nd_pass rfl rfl rfl rfl rfl ?_
    | refine nd_pass2 rfl rfl rfl (fun c => by exact (fun h => by cases h)) a_allK rfl rfl ?_
    | refine nd_pass3 rfl rfl rfl (fun c => by exact (fun h => by cases h)) rfl rfl ?_
    | (with_reducible refine hQ1 _ _ _ ?_; clear hQ1 Q1)
    )
      all_goals (first | (exfalso; dsimp only at *; omega) | (refine nx_end [] rfl () (fun a w ha hw => res_tmp Try.results36 rfl ha) (by exact a_subR) (by exact a_holds2)))
  · rw [decide_eq_false h1, Bool.false_and]
    refine calls_nx Try.func36 rfl Try.ntmps36 rfl ?_ hw
    repeat' (first
    | ((first | with_reducible refine nl_op rfl ?_ | refine nd_go rfl rfl rfl ?_); intro K hK; (first
      | ((first | refine on_E hF rfl rfl ?_ | refine od_E rfl rfl ?_ | refine od_R rfl rfl ?_); (first | refine ⟨_, a_yl, ?_⟩ | refine ⟨_, yl_fieldB (T := 27) (f := 1) (q := 1) rfl rfl (by kernel_rfl), ?_⟩ | refine ⟨_, yl_fieldE (T := 27) (f := 1) (j := 1) rfl rfl a_sl (by (first | omega | (simp only [List.length_append, List.length_cons, List.length_nil, List.length_map] at *; omega))) (by kernel_rfl), ?_⟩ | refine ⟨_, yl_fieldB (T := 27) (f := 2) (q := 2) rfl rfl (by kernel_rfl), ?_⟩ | refine ⟨_, yl_fieldE (T := 27) (f := 2) (j := 2) rfl rfl a_sl (by (first | omega | (simp only [List.length_append, List.length_cons, List.length_nil, List.length_map] at *; omega))) (by kernel_rfl), ?_⟩))
      | ((first | refine on_Ec hF rfl rfl ?_ | refine od_Ec rfl rfl ?_); refine ⟨_, _, _, a_yc, ?_, ?_⟩ <;> (intro hc; try (exfalso; first | (omega; done) | exact absurd (by with_reducible rfl) hc | (simp at hc; done))))
      | ((first | (refine od_act (fun c => by exact (fun h => by cases h)) ?_; intro K2 hK2) | refine od_last (fun c => by exact (fun h => by cases h)) ?_ | skip); (first
      
      
      
      | (refine on_box hF rfl rfl rfl rfl (fun B => ?_))
      | (refine on_store hF rfl rfl rfl rfl a_turn a_vof (by first | rfl | exact hsz.symm | exact hsz) ?_)
      | (refine on_storeE hF rfl rfl rfl rfl a_turn (by (first | omega | (simp only [List.length_append, List.length_cons, List.length_nil, List.length_map] at *; omega))) a_vof (by first | rfl | exact hsz) ?_)
      | (refine on_storeEF hF rfl rfl rfl rfl a_turn (by first | with_reducible assumption | rfl) (by decide) a_vof rfl ?_)
      | (refine on_storeF hF rfl rfl rfl rfl a_turn (by decide) a_vof rfl ?_)) <;> try (refine hK2 _ _ _ a_allK ?_; clear hK2 K2))) <;> (refine hK _ _ _ ?_; clear hK K))
    | with_reducible refine nx_seq ?_
        | with_reducible refine nx_region ?_
        | with_reducible refine nl_nil ?_
        | with_reducible refine nq_then_n ?_
        | with_reducible refine nx_block ?_
        | with_reducible refine nx_skip ?_
        | with_reducible refine nx_exit ?_
        | with_reducible refine nx_ret ?_
        | with_reducible refine nq_then_x ?_
        | with_reducible refine nq_then_r ?_
        | with_reducible refine nq_blk_n ?_
        | with_reducible refine nq_blk_r ?_
        | with_reducible refine nq_blk_hit ?_
        | with_reducible refine nq_blk_miss rfl ?_
        | with_reducible refine nd_nil ?_
    | refine nx_cond_t rfl ?_ | refine nx_cond_f rfl ?_
    | refine nl_pass hF rfl rfl rfl ?_
    | refine nd_pass rfl rfl rfl rfl rfl ?_
    | refine nd_pass2 rfl rfl rfl (fun c => by exact (fun h => by cases h)) a_allK rfl rfl ?_
    | refine nd_pass3 rfl rfl rfl (fun c => by exact (fun h => by cases h)) rfl rfl ?_
    | (with_reducible refine hQ1 _ _ _ ?_; clear hQ1 Q1)
    )
    all_goals (first | (exfalso; dsimp only at *; omega) | (refine nx_end [] rfl () (fun a w ha hw => res_tmp Try.results36 rfl ha) (by exact a_subR) (by exact a_holds2)))
theorem all1_pred (s : Value) (hs : IsSl s) (L : List It2) (hok : ∀ x ∈ L, x.ok) (hm : L.length * 88 ≤ 140737488355328) (b : Nat) : PredS Try.prog (L.map It2.v) (fun v => isKn L (toIt2 v)) (.func (.func 36) #[] #[ptr b]) [BoxC b 22 s, SlC 9 s (L.map It2.v)] := ⟨36, [ptr b], rfl, (enters_of Try.func36 (by kernel_rfl) rfl), fun W0 X R C hR x hx => by
  obtain ⟨y, hy, rfl⟩ := List.mem_map.1 hx
  exact all1_ct s hs L hok hm y (hok y hy) b (hR _ (by simp)) (hR _ (by simp))⟩
theorem keepAll_it (b0 b1 : Nat) (s f : Value) (L : List It2) (hok : ∀ x ∈ L, x.ok) (RS RF : List Ch) (hs : ItN Try.prog (L.map It2.v) s RS) (hf : PredN Try.prog (L.map It2.v) (fun v => isKn L (toIt2 v)) f RF) :
    It Try.prog ((L.filter (isKn L)).map It2.v) (.func (.func 53) #[] #[ptr b0, ptr b1]) (BoxC b1 54 f :: BoxC b0 52 s :: (RS ++ RF)) := by
  have h := NItem.keep_it b0 b1 s f (L.map It2.v) _ RS RF hs hf (vofs_it2 L hok)
  rw [filter_it2 L (isKn L)] at h
  exact h
set_option maxRecDepth 100000 in
set_option maxHeartbeats 4000000 in
theorem all_ct (s : Value) (hs : IsSl s) (L : List It2) (hok : ∀ x ∈ L, x.ok) (hsl : SlC 9 s (L.map It2.v) ∈ R) (hm : L.length * 88 ≤ 140737488355328) :
    Ct Try.prog 15 [s] W0 X R C (SV × Nat) (fun i => NInt.ofV i.2) (fun i => BoxC i.2 28 i.1.1 :: SlC 1 i.1.1 ((allL L).map (.int .i64)) :: R) (fun _ => C) := by
  intro w hw
  have hF := isWide_wide
  have hml : (L.map It2.v).length * 88 ≤ 140737488355328 := by simpa using hm
  have hmx : (L.map It2.v).length ≤ maxLen := by unfold maxLen; simp; omega
  have hvs : VOf Try.prog 22 s := vof_slice (by kernel_rfl) hs
  have hrl := raw_len L
  refine calls_nx Try.func15 rfl Try.ntmps15 rfl ?_ hw
  repeat' (first
    | ((first | with_reducible refine nl_op rfl ?_ | refine nd_go rfl rfl rfl ?_); intro K hK; (first
      | ((first | refine on_E hF rfl rfl ?_ | refine od_E rfl rfl ?_ | refine od_R rfl rfl ?_); (first | refine ⟨_, a_yl, ?_⟩ | refine ⟨_, yl_fieldB (T := 27) (f := 2) (q := 2) rfl rfl (by kernel_rfl), ?_⟩ | refine ⟨_, yl_fieldE (T := 27) (f := 2) (j := 2) rfl rfl a_sl (by (first | omega | (simp only [List.length_append, List.length_cons, List.length_nil, List.length_map] at *; omega))) (by kernel_rfl), ?_⟩))
      | ((first | refine on_Ec hF rfl rfl ?_ | refine od_Ec rfl rfl ?_); refine ⟨_, _, _, a_yc, ?_, ?_⟩ <;> (intro hc; try (exfalso; first | (omega; done) | exact absurd (by with_reducible rfl) hc | (simp at hc; done))))
      | ((first | (refine od_act (fun c => by exact (fun h => by cases h)) ?_; intro K2 hK2) | refine od_last (fun c => by exact (fun h => by cases h)) ?_ | skip); (first
      
      | (refine on_buildSlice (T := 28) (e := 3) (k := 1) (by_ := 8) hF rfl rfl rfl rfl rfl rfl (by kernel_rfl) a_cel (Nat.le_of_ble_eq_true rfl) (fun b => ?_))
      | (refine on_append (T := 28) (e := 3) (k := 1) (by_ := 8) hF rfl rfl rfl rfl rfl a_pick (by kernel_rfl) a_sl a_cel (by first | omega | (unfold maxLen; simp only [List.length_map, List.length_append, List.length_cons, List.length_nil, List.length_replicate]; omega) | (simp only [List.length_map, List.length_append, List.length_cons, List.length_nil, List.length_replicate]; omega)) (by first | omega | (unfold maxLen; simp only [List.length_map, List.length_append, List.length_cons, List.length_nil, List.length_replicate]; omega) | (simp only [List.length_map, List.length_append, List.length_cons, List.length_nil, List.length_replicate]; omega)) (fun v => ?_))
      | (refine on_alloc hF rfl Try.zeroValue27 rfl rfl (fun B => ?_))
      | (refine on_alloc hF rfl Try.zeroValue28 rfl rfl (fun B => ?_))
      | (refine on_box hF rfl rfl rfl rfl (fun B => ?_))
      | (refine on_store hF rfl rfl rfl rfl a_turn a_vof (by first | rfl | exact hsz.symm | exact hsz) ?_)
      | (refine on_storeE hF rfl rfl rfl rfl a_turn (by (first | omega | (simp only [List.length_append, List.length_cons, List.length_nil, List.length_map] at *; omega))) a_vof (by first | rfl | exact hsz) ?_)
      | (refine on_storeEF hF rfl rfl rfl rfl a_turn (by first | with_reducible assumption | rfl) (by decide) a_vof rfl ?_)
      | (refine on_storeF hF rfl rfl rfl rfl a_turn (by decide) a_vof rfl ?_)) <;> try (refine hK2 _ _ _ a_allK ?_; clear hK2 K2))) <;> (refine hK _ _ _ ?_; clear hK K))
    | with_reducible refine nx_seq ?_
        | with_reducible refine nx_region ?_
        | with_reducible refine nl_nil ?_
        | with_reducible refine nq_then_n ?_
        | with_reducible refine nx_block ?_
        | with_reducible refine nx_skip ?_
        | with_reducible refine nx_exit ?_
        | with_reducible refine nx_ret ?_
        | with_reducible refine nq_then_x ?_
        | with_reducible refine nq_then_r ?_
        | with_reducible refine nq_blk_n ?_
        | with_reducible refine nq_blk_r ?_
        | with_reducible refine nq_blk_hit ?_
        | with_reducible refine nq_blk_miss rfl ?_
        | with_reducible refine nd_nil ?_
    | refine nx_cond_t rfl ?_ | refine nx_cond_f rfl ?_
    | refine nl_pass hF rfl rfl rfl ?_
    | refine nd_pass rfl rfl rfl rfl rfl ?_
    | refine nd_pass2 rfl rfl rfl (fun c => by exact (fun h => by cases h)) a_allK rfl rfl ?_
    | refine nd_pass3 rfl rfl rfl (fun c => by exact (fun h => by cases h)) rfl rfl ?_
    | (with_reducible refine hQ1 _ _ _ ?_; clear hQ1 Q1)
    )
  rename_i bs
  obtain ⟨b3, hb3⟩ : ∃ b3, b3 = B := ⟨_, rfl⟩
  subst hb3
  obtain ⟨b4, hb4⟩ : ∃ b4, b4 = b := ⟨_, rfl⟩
  subst hb4
  refine nx_frz (BoxC bs 22 s) (Pick.there (Pick.there Pick.here)) ?_
  repeat' (first
    | ((first | with_reducible refine nl_op rfl ?_ | refine nd_go rfl rfl rfl ?_); intro K hK; (first
      | ((first | refine on_E hF rfl rfl ?_ | refine od_E rfl rfl ?_ | refine od_R rfl rfl ?_); (first | refine ⟨_, a_yl, ?_⟩ | refine ⟨_, yl_fieldB (T := 27) (f := 2) (q := 2) rfl rfl (by kernel_rfl), ?_⟩ | refine ⟨_, yl_fieldE (T := 27) (f := 2) (j := 2) rfl rfl a_sl (by (first | omega | (simp only [List.length_append, List.length_cons, List.length_nil, List.length_map] at *; omega))) (by kernel_rfl), ?_⟩))
      | ((first | refine on_Ec hF rfl rfl ?_ | refine od_Ec rfl rfl ?_); refine ⟨_, _, _, a_yc, ?_, ?_⟩ <;> (intro hc; try (exfalso; first | (omega; done) | exact absurd (by with_reducible rfl) hc | (simp at hc; done))))
      | ((first | (refine od_act (fun c => by exact (fun h => by cases h)) ?_; intro K2 hK2) | refine od_last (fun c => by exact (fun h => by cases h)) ?_ | skip); (first
      | (refine on_callG hF (enters_of Try.func22 (by kernel_rfl) rfl) rfl rfl rfl rfl (NItem.of_ct s (L.map It2.v) (by exact a_mem) hs (vofs_it2 L hok) hml) (fun j => ?_))
      | (refine on_callG hF (enters_of Try.func31 (by kernel_rfl) rfl) rfl rfl rfl rfl (NItem.keep_ct _ _ rfl rfl) (fun k => ?_))
      | (refine on_buildSlice (T := 28) (e := 3) (k := 1) (by_ := 8) hF rfl rfl rfl rfl rfl rfl (by kernel_rfl) a_cel (Nat.le_of_ble_eq_true rfl) (fun b => ?_))
      | (refine on_append (T := 28) (e := 3) (k := 1) (by_ := 8) hF rfl rfl rfl rfl rfl a_pick (by kernel_rfl) a_sl a_cel (by first | omega | (unfold maxLen; simp only [List.length_map, List.length_append, List.length_cons, List.length_nil, List.length_replicate]; omega) | (simp only [List.length_map, List.length_append, List.length_cons, List.length_nil, List.length_replicate]; omega)) (by first | omega | (unfold maxLen; simp only [List.length_map, List.length_append, List.length_cons, List.length_nil, List.length_replicate]; omega) | (simp only [List.length_map, List.length_append, List.length_cons, List.length_nil, List.length_replicate]; omega)) (fun v => ?_))
      | (refine on_alloc hF rfl Try.zeroValue27 rfl rfl (fun B => ?_))
      | (refine on_alloc hF rfl Try.zeroValue28 rfl rfl (fun B => ?_))
      | (refine on_box hF rfl rfl rfl rfl (fun B => ?_))
      | (refine on_store hF rfl rfl rfl rfl a_turn a_vof (by first | rfl | exact hsz.symm | exact hsz) ?_)
      | (refine on_storeE hF rfl rfl rfl rfl a_turn (by (first | omega | (simp only [List.length_append, List.length_cons, List.length_nil, List.length_map] at *; omega))) a_vof (by first | rfl | exact hsz) ?_)
      | (refine on_storeEF hF rfl rfl rfl rfl a_turn (by first | with_reducible assumption | rfl) (by decide) a_vof rfl ?_)
      | (refine on_storeF hF rfl rfl rfl rfl a_turn (by decide) a_vof rfl ?_)) <;> try (refine hK2 _ _ _ a_allK ?_; clear hK2 K2))) <;> (refine hK _ _ _ ?_; clear hK K))
    | with_reducible refine nx_seq ?_
        | with_reducible refine nx_region ?_
        | with_reducible refine nl_nil ?_
        | with_reducible refine nq_then_n ?_
        | with_reducible refine nx_block ?_
        | with_reducible refine nx_skip ?_
        | with_reducible refine nx_exit ?_
        | with_reducible refine nx_ret ?_
        | with_reducible refine nq_then_x ?_
        | with_reducible refine nq_then_r ?_
        | with_reducible refine nq_blk_n ?_
        | with_reducible refine nq_blk_r ?_
        | with_reducible refine nq_blk_hit ?_
        | with_reducible refine nq_blk_miss rfl ?_
        | with_reducible refine nd_nil ?_
    | refine nx_cond_t rfl ?_ | refine nx_cond_f rfl ?_
    | refine nl_pass hF rfl rfl rfl ?_
    | refine nd_pass rfl rfl rfl rfl rfl ?_
    | refine nd_pass2 rfl rfl rfl (fun c => by exact (fun h => by cases h)) a_allK rfl rfl ?_
    | refine nd_pass3 rfl rfl rfl (fun c => by exact (fun h => by cases h)) rfl rfl ?_
    | (with_reducible refine hQ1 _ _ _ ?_; clear hQ1 Q1)
    )
  refine nx_range hF rfl rfl (keepAll_it k.1 k.2 _ _ L hok _ _ (NItem.of_it j _ (vofs_it2 L hok) hmx).n (all1_pred s hs L hok hm bs).n) (by exact a_subR) (by rfl) (fun x vs h => by rw [h]; rfl) (fun _ (_ : SV) => True) (fun pre v => BoxC b3 28 v.1 :: RowC 3 1 v.1 ((1 :: pre.map fun v => (toIt2 v).tl).map (.int .i64)) :: C) (fun _ _ (_ : Unit) => False) (fun _ _ _ => []) (⟨.slice (some ⟨b4, 0, none⟩) 1 1, _, _, _, rfl⟩ : SV) trivial (by dsimp only [List.map_cons, List.map_nil, List.nil_append]; exact a_holds2) ?round ?done ?stop
  case round =>
    rintro lp pre x post hx vs rfl ⟨v, hv0⟩ _ W1 X1 R' hR' E1 K HK
    have hF := isWide_wide.inRound lp
    have hmem : x ∈ (L.filter (isKn L)).map It2.v := by rw [hx]; simp
    obtain ⟨y, hy, rfl⟩ := List.mem_map.1 hmem
    have hyo := hok y (List.mem_filter.1 hy).1
    have hvx := y.vof hyo
    have hvv : VOf Try.prog 28 v := vof_slice (by kernel_rfl) hv0
    have hsv : (cv v).size = 1 := by obtain ⟨_, _, _, rfl⟩ := hv0; rfl
    have hl : pre.length + 1 ≤ L.length := by
      have h1 := congrArg List.length hx
      have h2 := List.length_filter_le (isKn L) L
      simp at h1; omega
    obtain ⟨xs, hxs⟩ : ∃ xs, (1 :: pre.map fun v => (toIt2 v).tl).map (Value.int .i64) = xs := ⟨_, rfl⟩
    have hxl : xs.length = pre.length + 1 := by rw [← hxs]; simp
    have hxn : xs ++ [.int .i64 y.tl] = (1 :: (pre ++ [y.v]).map fun v => (toIt2 v).tl).map (Value.int .i64) := by rw [← hxs]; simp
    have hm1 : xs.length + [Value.int .i64 y.tl].length ≤ maxLen := by unfold maxLen; simp; omega
    have hm2 : (xs.length + [Value.int .i64 y.tl].length) * 8 ≤ 140737488355328 := by simp; omega
    dsimp only
    rw [hxs]
    obtain ⟨d1, kind, tl, d4, a, d6, par, d8, e⟩ := y
    obtain ⟨ea, en, ec, rfl⟩ : IsSl e := hyo
    dsimp only at hxn hm1 hm2
    (try simp only [List.cons_append, List.nil_append])
    repeat' (first
    | ((first | with_reducible refine nl_op rfl ?_ | refine nd_go rfl rfl rfl ?_); intro K hK; (first
      | ((first | refine on_E hF rfl rfl ?_ | refine od_E rfl rfl ?_ | refine od_R rfl rfl ?_); (first | refine ⟨_, a_yl, ?_⟩ | refine ⟨_, yl_fieldB (T := 27) (f := 2) (q := 2) rfl rfl (by kernel_rfl), ?_⟩ | refine ⟨_, yl_fieldE (T := 27) (f := 2) (j := 2) rfl rfl a_sl (by (first | omega | (simp only [List.length_append, List.length_cons, List.length_nil, List.length_map] at *; omega))) (by kernel_rfl), ?_⟩))
      | ((first | refine on_Ec hF rfl rfl ?_ | refine od_Ec rfl rfl ?_); refine ⟨_, _, _, a_yc, ?_, ?_⟩ <;> (intro hc; try (exfalso; first | (omega; done) | exact absurd (by with_reducible rfl) hc | (simp at hc; done))))
      | ((first | (refine od_act (fun c => by exact (fun h => by cases h)) ?_; intro K2 hK2) | refine od_last (fun c => by exact (fun h => by cases h)) ?_ | skip); (first
      
      | (refine on_buildSlice (T := 28) (e := 3) (k := 1) (by_ := 8) hF rfl rfl rfl rfl rfl rfl (by kernel_rfl) a_cel (Nat.le_of_ble_eq_true rfl) (fun b => ?_))
      | (refine on_append (T := 28) (e := 3) (k := 1) (by_ := 8) hF rfl rfl rfl rfl rfl a_pick (by kernel_rfl) a_sl a_cel (by first | omega | (unfold maxLen; simp only [List.length_map, List.length_append, List.length_cons, List.length_nil, List.length_replicate]; omega) | (simp only [List.length_map, List.length_append, List.length_cons, List.length_nil, List.length_replicate]; omega)) (by first | omega | (unfold maxLen; simp only [List.length_map, List.length_append, List.length_cons, List.length_nil, List.length_replicate]; omega) | (simp only [List.length_map, List.length_append, List.length_cons, List.length_nil, List.length_replicate]; omega)) (fun v => ?_))
      | (refine on_alloc hF rfl Try.zeroValue27 rfl rfl (fun B => ?_))
      | (refine on_alloc hF rfl Try.zeroValue28 rfl rfl (fun B => ?_))
      | (refine on_box hF rfl rfl rfl rfl (fun B => ?_))
      | (refine on_store hF rfl rfl rfl rfl a_turn a_vof (by first | rfl | exact hsz.symm | exact hsz) ?_)
      | (refine on_storeE hF rfl rfl rfl rfl a_turn (by (first | omega | (simp only [List.length_append, List.length_cons, List.length_nil, List.length_map] at *; omega))) a_vof (by first | rfl | exact hsz) ?_)
      | (refine on_storeEF hF rfl rfl rfl rfl a_turn (by first | with_reducible assumption | rfl) (by decide) a_vof rfl ?_)
      | (refine on_storeF hF rfl rfl rfl rfl a_turn (by decide) a_vof rfl ?_)) <;> try (refine hK2 _ _ _ a_allK ?_; clear hK2 K2))) <;> (refine hK _ _ _ ?_; clear hK K))
    | with_reducible refine nx_seq ?_
        | with_reducible refine nx_region ?_
        | with_reducible refine nl_nil ?_
        | with_reducible refine nq_then_n ?_
        | with_reducible refine nx_block ?_
        | with_reducible refine nx_skip ?_
        | with_reducible refine nx_exit ?_
        | with_reducible refine nx_ret ?_
        | with_reducible refine nq_then_x ?_
        | with_reducible refine nq_then_r ?_
        | with_reducible refine nq_blk_n ?_
        | with_reducible refine nq_blk_r ?_
        | with_reducible refine nq_blk_hit ?_
        | with_reducible refine nq_blk_miss rfl ?_
        | with_reducible refine nd_nil ?_
    | refine nx_cond_t rfl ?_ | refine nx_cond_f rfl ?_
    | refine nl_pass hF rfl rfl rfl ?_
    | refine nd_pass rfl rfl rfl rfl rfl ?_
    | refine nd_pass2 rfl rfl rfl (fun c => by exact (fun h => by cases h)) a_allK rfl rfl ?_
    | refine nd_pass3 rfl rfl rfl (fun c => by exact (fun h => by cases h)) rfl rfl ?_
    | (with_reducible refine hQ1 _ _ _ ?_; clear hQ1 Q1)
    )
    all_goals try (refine nx_frz (BoxC _ _ (It2.v _)) Pick.here ?_)
    refine HK _ _ (BoxC b3 28 v :: RowC 3 1 v xs :: C) _ (by exact a_subR) (by exact a_holds2) (fun E2 => ?_)
    clear HK K
    (try simp only [List.cons_append, List.nil_append])
    repeat' (first
    | ((first | with_reducible refine nl_op rfl ?_ | refine nd_go rfl rfl rfl ?_); intro K hK; (first
      | ((first | refine on_E hF rfl rfl ?_ | refine od_E rfl rfl ?_ | refine od_R rfl rfl ?_); (first | refine ⟨_, a_yl, ?_⟩ | refine ⟨_, yl_fieldB (T := 27) (f := 2) (q := 2) rfl rfl (by kernel_rfl), ?_⟩ | refine ⟨_, yl_fieldE (T := 27) (f := 2) (j := 2) rfl rfl a_sl (by (first | omega | (simp only [List.length_append, List.length_cons, List.length_nil, List.length_map] at *; omega))) (by kernel_rfl), ?_⟩))
      | ((first | refine on_Ec hF rfl rfl ?_ | refine od_Ec rfl rfl ?_); refine ⟨_, _, _, a_yc, ?_, ?_⟩ <;> (intro hc; try (exfalso; first | (omega; done) | exact absurd (by with_reducible rfl) hc | (simp at hc; done))))
      | ((first | (refine od_act (fun c => by exact (fun h => by cases h)) ?_; intro K2 hK2) | refine od_last (fun c => by exact (fun h => by cases h)) ?_ | skip); (first
      | (refine on_append (e := 3) (k := 1) (by_ := 8) (xs := xs) (ys := [.int .i64 tl]) hF rfl rfl rfl rfl rfl (by exact a_pick) (by kernel_rfl) (by exact a_sl) a_cel hm1 hm2 (fun v2 => ?_)) | (refine on_store hF rfl rfl rfl rfl (by exact a_turn) (vof_slice (by kernel_rfl) v2.2) (by obtain ⟨_, _, _, e⟩ := v2.2; rw [e, hsv]; rfl) ?_)
      | (refine on_buildSlice (T := 28) (e := 3) (k := 1) (by_ := 8) hF rfl rfl rfl rfl rfl rfl (by kernel_rfl) a_cel (Nat.le_of_ble_eq_true rfl) (fun b => ?_))
      | (refine on_append (T := 28) (e := 3) (k := 1) (by_ := 8) hF rfl rfl rfl rfl rfl a_pick (by kernel_rfl) a_sl a_cel (by first | omega | (unfold maxLen; simp only [List.length_map, List.length_append, List.length_cons, List.length_nil, List.length_replicate]; omega) | (simp only [List.length_map, List.length_append, List.length_cons, List.length_nil, List.length_replicate]; omega)) (by first | omega | (unfold maxLen; simp only [List.length_map, List.length_append, List.length_cons, List.length_nil, List.length_replicate]; omega) | (simp only [List.length_map, List.length_append, List.length_cons, List.length_nil, List.length_replicate]; omega)) (fun v => ?_))
      | (refine on_alloc hF rfl Try.zeroValue27 rfl rfl (fun B => ?_))
      | (refine on_alloc hF rfl Try.zeroValue28 rfl rfl (fun B => ?_))
      | (refine on_box hF rfl rfl rfl rfl (fun B => ?_))
      | (refine on_store hF rfl rfl rfl rfl a_turn a_vof (by first | rfl | exact hsz.symm | exact hsz) ?_)
      | (refine on_storeE hF rfl rfl rfl rfl a_turn (by (first | omega | (simp only [List.length_append, List.length_cons, List.length_nil, List.length_map] at *; omega))) a_vof (by first | rfl | exact hsz) ?_)
      | (refine on_storeEF hF rfl rfl rfl rfl a_turn (by first | with_reducible assumption | rfl) (by decide) a_vof rfl ?_)
      | (refine on_storeF hF rfl rfl rfl rfl a_turn (by decide) a_vof rfl ?_)) <;> try (refine hK2 _ _ _ a_allK ?_; clear hK2 K2))) <;> (refine hK _ _ _ ?_; clear hK K))
    | with_reducible refine nx_seq ?_
        | with_reducible refine nx_region ?_
        | with_reducible refine nl_nil ?_
        | with_reducible refine nq_then_n ?_
        | with_reducible refine nx_block ?_
        | with_reducible refine nx_skip ?_
        | with_reducible refine nx_exit ?_
        | with_reducible refine nx_ret ?_
        | with_reducible refine nq_then_x ?_
        | with_reducible refine nq_then_r ?_
        | with_reducible refine nq_blk_n ?_
        | with_reducible refine nq_blk_r ?_
        | with_reducible refine nq_blk_hit ?_
        | with_reducible refine nq_blk_miss rfl ?_
        | with_reducible refine nd_nil ?_
    | refine nx_cond_t rfl ?_ | refine nx_cond_f rfl ?_
    | refine nl_pass hF rfl rfl rfl ?_
    | refine nd_pass rfl rfl rfl rfl rfl ?_
    | refine nd_pass2 rfl rfl rfl (fun c => by exact (fun h => by cases h)) a_allK rfl rfl ?_
    | refine nd_pass3 rfl rfl rfl (fun c => by exact (fun h => by cases h)) rfl rfl ?_
    | (with_reducible refine hQ1 _ _ _ ?_; clear hQ1 Q1)
    )
    rw [hxn]
    exact rq_n v2 trivial (by exact a_subR) (by exact a_holds2)
  case done =>
    rintro ⟨v, hv0⟩ _ M
    have hvv : VOf Try.prog 28 v := vof_slice (by kernel_rfl) hv0
    have hraw : (1 :: ((L.filter (isKn L)).map It2.v).map fun v => (toIt2 v).tl) = rawL L := by unfold rawL; rw [List.map_map]; rfl
    have hne : rawL L ≠ [] := List.cons_ne_nil _ _
    have hne2 : ((rawL L).mergeSort fun x y => decide (x ≤ y)) ≠ [] := fun h => hne (by have := congrArg List.length h; simpa using this)
    have hall : Go.Lib.compact ((rawL L).mergeSort fun x y => decide (x ≤ y)) = allL L := rfl
    have hml1 : (rawL L).length ≤ 4611686018427387903 := by omega
    have hml2 : ((rawL L).mergeSort fun x y => decide (x ≤ y)).length ≤ 4611686018427387903 := by simp; omega
    dsimp only
    rw [hraw]
    (try simp only [List.cons_append, List.nil_append])
    repeat' (first
    | ((first | with_reducible refine nl_op rfl ?_ | refine nd_go rfl rfl rfl ?_); intro K hK; (first
      | ((first | refine on_E hF rfl rfl ?_ | refine od_E rfl rfl ?_ | refine od_R rfl rfl ?_); (first | refine ⟨_, a_yl, ?_⟩ | refine ⟨_, yl_fieldB (T := 27) (f := 2) (q := 2) rfl rfl (by kernel_rfl), ?_⟩ | refine ⟨_, yl_fieldE (T := 27) (f := 2) (j := 2) rfl rfl a_sl (by (first | omega | (simp only [List.length_append, List.length_cons, List.length_nil, List.length_map] at *; omega))) (by kernel_rfl), ?_⟩))
      | ((first | refine on_Ec hF rfl rfl ?_ | refine od_Ec rfl rfl ?_); refine ⟨_, _, _, a_yc, ?_, ?_⟩ <;> (intro hc; try (exfalso; first | (omega; done) | exact absurd (by with_reducible rfl) hc | (simp at hc; done))))
      | ((first | (refine od_act (fun c => by exact (fun h => by cases h)) ?_; intro K2 hK2) | refine od_last (fun c => by exact (fun h => by cases h)) ?_ | skip); (first
      | (refine on_callG hF (enters_of Try.func37 (by kernel_rfl) rfl) rfl rfl rfl rfl ((Sc.sort_ct v (rawL L) hne hml1).pre (perm1 (by exact a_pick))) (fun _ => ?_))
      | (refine on_callG hF (enters_of Try.func39 (by kernel_rfl) rfl) rfl rfl rfl rfl ((Sc.compact_ct v _ hne2 hml2).pre (perm1 (by exact a_pick))) (fun u => ?_); rw [hall]; refine nx_frzRow Pick.here ?_)
      | (refine on_callG hF (enters_of Try.func38 (by kernel_rfl) rfl) rfl rfl rfl rfl (NInt.vals_ct _) (fun b => ?_))
      | (refine on_buildSlice (T := 28) (e := 3) (k := 1) (by_ := 8) hF rfl rfl rfl rfl rfl rfl (by kernel_rfl) a_cel (Nat.le_of_ble_eq_true rfl) (fun b => ?_))
      | (refine on_append (T := 28) (e := 3) (k := 1) (by_ := 8) hF rfl rfl rfl rfl rfl a_pick (by kernel_rfl) a_sl a_cel (by first | omega | (unfold maxLen; simp only [List.length_map, List.length_append, List.length_cons, List.length_nil, List.length_replicate]; omega) | (simp only [List.length_map, List.length_append, List.length_cons, List.length_nil, List.length_replicate]; omega)) (by first | omega | (unfold maxLen; simp only [List.length_map, List.length_append, List.length_cons, List.length_nil, List.length_replicate]; omega) | (simp only [List.length_map, List.length_append, List.length_cons, List.length_nil, List.length_replicate]; omega)) (fun v => ?_))
      | (refine on_alloc hF rfl Try.zeroValue27 rfl rfl (fun B => ?_))
      | (refine on_alloc hF rfl Try.zeroValue28 rfl rfl (fun B => ?_))
      | (refine on_box hF rfl rfl rfl rfl (fun B => ?_))
      | (refine on_store hF rfl rfl rfl rfl a_turn a_vof (by first | rfl | exact hsz.symm | exact hsz) ?_)
      | (refine on_storeE hF rfl rfl rfl rfl a_turn (by (first | omega | (simp only [List.length_append, List.length_cons, List.length_nil, List.length_map] at *; omega))) a_vof (by first | rfl | exact hsz) ?_)
      | (refine on_storeEF hF rfl rfl rfl rfl a_turn (by first | with_reducible assumption | rfl) (by decide) a_vof rfl ?_)
      | (refine on_storeF hF rfl rfl rfl rfl a_turn (by decide) a_vof rfl ?_)) <;> try (refine hK2 _ _ _ a_allK ?_; clear hK2 K2))) <;> (refine hK _ _ _ ?_; clear hK K))
    | with_reducible refine nx_seq ?_
        | with_reducible refine nx_region ?_
        | with_reducible refine nl_nil ?_
        | with_reducible refine nq_then_n ?_
        | with_reducible refine nx_block ?_
        | with_reducible refine nx_skip ?_
        | with_reducible refine nx_exit ?_
        | with_reducible refine nx_ret ?_
        | with_reducible refine nq_then_x ?_
        | with_reducible refine nq_then_r ?_
        | with_reducible refine nq_blk_n ?_
        | with_reducible refine nq_blk_r ?_
        | with_reducible refine nq_blk_hit ?_
        | with_reducible refine nq_blk_miss rfl ?_
        | with_reducible refine nd_nil ?_
    | refine nx_cond_t rfl ?_ | refine nx_cond_f rfl ?_
    | refine nl_pass hF rfl rfl rfl ?_
    | refine nd_pass rfl rfl rfl rfl rfl ?_
    | refine nd_pass2 rfl rfl rfl (fun c => by exact (fun h => by cases h)) a_allK rfl rfl ?_
    | refine nd_pass3 rfl rfl rfl (fun c => by exact (fun h => by cases h)) rfl rfl ?_
    | (with_reducible refine hQ1 _ _ _ ?_; clear hQ1 Q1)
    )
    refine nx_end [M] rfl (u, b) (fun a w ha hw => res_tmp Try.results15 rfl ha) (by exact a_subR) (by exact a_holds2)
  case stop =>
    intro pre x post hx j _ h
    exact h.elim
end Li
end Go.Proofs.Ytinofjenoapeaaa
end
