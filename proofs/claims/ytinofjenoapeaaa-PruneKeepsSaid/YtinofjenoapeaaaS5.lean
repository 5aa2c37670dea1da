/- Rules of this claim's own, over any program: rows that are made and appended to, function values held against nil, what is frozen, loops whose rounds leave deferred calls. No condition. -/
import Derived.Test.YtinofjenoapeaaaS4
import Derived.Maps.AppendAt
namespace Go.Proofs.Ytinofjenoapeaaa
open Go.RowKit Go.Shelf
set_option linter.unusedSimpArgs false
set_option linter.unusedVariables false

/-! ### what is frozen, what is begun -/
section frz
variable {K : Act → World → Prop} {n : Nat} {l : List (Nat × Value)} {d : List Deferred} {W0 : World} {X : Nat → Prop} {R C E : List Ch}
theorem nx_frz (c : Ch) (hp : Pick C c E) (h : Nx K n l d W0 X (c :: R) E) : Nx K n l d W0 X R C := fun a w ha hw => h a w ha ((hw.perm hp).freeze (fun O ho => ⟨O, ho, fun _ h => h⟩))
theorem nx_frzRow {e : TypeId} {k : Nat} {v : Value} {xs : List Value} (hp : Pick C (RowC e k v xs) E) (h : Nx K n l d W0 X (SlC k v xs :: R) E) : Nx K n l d W0 X R C := fun a w ha hw => h a w ha ((hw.perm hp).freeze (fun O ho => RowC.slC ho))
theorem RowC.nil (e : TypeId) (k : Nat) (w : World) : (RowC e k (.slice none 0 0) []).p (fun _ => False) w := ⟨⟨by simp [cellsOf], .inl ⟨rfl, rfl⟩⟩, fun _ => rfl, fun x hx => by simp at hx, fun j => ⟨fun h => h.elim, fun h => by cases h⟩⟩
theorem nx_nilRow (e : TypeId) (k : Nat) (h : Nx K n l d W0 X R (RowC e k (.slice none 0 0) [] :: C)) : Nx K n l d W0 X R C := fun a w ha hw =>
  h a w ha (hw.new (Below.refl _ _) ⟨fun _ => False, RowC.nil e k w, fun _ h => h.elim⟩)
theorem nx_perm (hp : C.Perm E) (h : Nx K n l d W0 X R E) : Nx K n l d W0 X R C := fun a w ha hw => h a w ha (hw.perm hp)
theorem nx_keep (hp : Holds C E) (h : Nx K n l d W0 X R E) : Nx K n l d W0 X R C := fun a w ha hw => h a w ha (hw.keep hp)
theorem nx_lk {l' : List (Nat × Value)} (hl : ∀ j v, lk j l' = some v → lk j l = some v) (h : Nx K n l' d W0 X R C) : Nx K n l d W0 X R C := fun a w ha hw => h a w (ha.sub hl) hw
/-- What a party tells. -/
theorem nx_fact {φ : Prop} (hφ : ∀ w, St W0 X R C w → φ) (h : φ → Nx K n l d W0 X R C) : Nx K n l d W0 X R C := fun a w ha hw => h (hφ w hw) a w ha hw
end frz
/-- A slice value's shape. -/
theorem Rdg.shape {W0 : World} {X : Nat → Prop} {R C : List Ch} {k : Nat} {v : Value} {xs : List Value} (h : Rdg (St W0 X R C) k v xs) : ∀ w, St W0 X R C w → ∃ a c, v = .slice a xs.length c ∧ (xs ≠ [] → ∃ b o, a = some ⟨b, o, none⟩) ∧ (a = none → c = 0) := fun w hw => by
  obtain ⟨A, c, h1, h2, h3, h4⟩ := h w hw
  refine ⟨A, c, h1, fun hx => ?_, h3⟩
  cases xs with
  | nil => exact absurd rfl hx
  | cons x xs => obtain ⟨b, o, h5, _⟩ := h4 0 x rfl; exact ⟨b, o, h5⟩

/-! ### function values and slices held against nil -/
def isFnT (P : Program) (T : TypeId) : Bool := match P.underlying T with | some (.func _ _ _) => true | _ => false
def isPtT (P : Program) (T : TypeId) : Bool := match P.underlying T with | some (.pointer _) => true | _ => false
section nils
variable {P : Program} {G : World → Prop} {n : Nat} {l : List (Nat × Value)} {d : List Deferred} {o : Oper}
theorem yl_eql_fn {f : Fn} {a1 a2 : Array Value} {T T2 : TypeId} {x y : Operand} (ho : o.op = .binOp .eql T x y T2) (hx : ev l x = some (.func f a1 a2)) (hy : ev l y = some .nilFunc) (hT : isFnT P T = true) : Yl P G n l d o (.bool false) := yl_bin ho hx hy (fun w => by
  have hg : (eqGuard .eql T x y (.func f a1 a2) .nilFunc).run P w = .ok () w := by unfold eqGuard; simp
  have he : (Op.equal T (.func f a1 a2) .nilFunc).run P w = .ok false w := by
    unfold isFnT at hT
    split at hT
    · rename_i hu
      unfold Op.equal Op.maxDepth; rw [Op.equalIn]; simp [Sem.run_bind, run_underlying hu, Result.andThen]
    · cases hT
  simp [Sem.run_bind, hg, binOp, he, Result.andThen])
theorem yl_neq_fn {f : Fn} {a1 a2 : Array Value} {T T2 : TypeId} {x y : Operand} (ho : o.op = .binOp .neq T x y T2) (hx : ev l x = some (.func f a1 a2)) (hy : ev l y = some .nilFunc) (hT : isFnT P T = true) : Yl P G n l d o (.bool true) := yl_bin ho hx hy (fun w => by
  have hg : (eqGuard .neq T x y (.func f a1 a2) .nilFunc).run P w = .ok () w := by unfold eqGuard; simp
  have he : (Op.equal T (.func f a1 a2) .nilFunc).run P w = .ok false w := by
    unfold isFnT at hT
    split at hT
    · rename_i hu
      unfold Op.equal Op.maxDepth; rw [Op.equalIn]; simp [Sem.run_bind, run_underlying hu, Result.andThen]
    · cases hT
  simp [Sem.run_bind, hg, binOp, he, Result.andThen])
theorem yl_eql_fn0  {T T2 : TypeId} {x y : Operand} (ho : o.op = .binOp .eql T x y T2) (hx : ev l x = some .nilFunc) (hy : ev l y = some .nilFunc) (hT : isFnT P T = true) : Yl P G n l d o (.bool true) := yl_bin ho hx hy (fun w => by
  have hg : (eqGuard .eql T x y .nilFunc .nilFunc).run P w = .ok () w := by unfold eqGuard; simp
  have he : (Op.equal T .nilFunc .nilFunc).run P w = .ok true w := by
    unfold isFnT at hT
    split at hT
    · rename_i hu
      unfold Op.equal Op.maxDepth; rw [Op.equalIn]; simp [Sem.run_bind, run_underlying hu, Result.andThen]
    · cases hT
  simp [Sem.run_bind, hg, binOp, he, Result.andThen])
theorem yl_neq_fn0  {T T2 : TypeId} {x y : Operand} (ho : o.op = .binOp .neq T x y T2) (hx : ev l x = some .nilFunc) (hy : ev l y = some .nilFunc) (hT : isFnT P T = true) : Yl P G n l d o (.bool false) := yl_bin ho hx hy (fun w => by
  have hg : (eqGuard .neq T x y .nilFunc .nilFunc).run P w = .ok () w := by unfold eqGuard; simp
  have he : (Op.equal T .nilFunc .nilFunc).run P w = .ok true w := by
    unfold isFnT at hT
    split at hT
    · rename_i hu
      unfold Op.equal Op.maxDepth; rw [Op.equalIn]; simp [Sem.run_bind, run_underlying hu, Result.andThen]
    · cases hT
  simp [Sem.run_bind, hg, binOp, he, Result.andThen])
theorem yl_eql_pt {q : Addr} {T T2 : TypeId} {x y : Operand} (ho : o.op = .binOp .eql T x y T2) (hx : ev l x = some (.pointer (some q))) (hy : ev l y = some (.pointer none)) (hT : isPtT P T = true) : Yl P G n l d o (.bool false) := yl_bin ho hx hy (fun w => by
  have hg : (eqGuard .eql T x y (.pointer (some q)) (.pointer none)).run P w = .ok () w := by unfold eqGuard; simp
  have he : (Op.equal T (.pointer (some q)) (.pointer none)).run P w = .ok false w := by
    unfold isPtT at hT
    split at hT
    · rename_i hu
      unfold Op.equal Op.maxDepth; rw [Op.equalIn]; simp [Sem.run_bind, run_underlying hu, Result.andThen]
    · cases hT
  simp [Sem.run_bind, hg, binOp, he, Result.andThen])
theorem yl_neq_pt {q : Addr} {T T2 : TypeId} {x y : Operand} (ho : o.op = .binOp .neq T x y T2) (hx : ev l x = some (.pointer (some q))) (hy : ev l y = some (.pointer none)) (hT : isPtT P T = true) : Yl P G n l d o (.bool true) := yl_bin ho hx hy (fun w => by
  have hg : (eqGuard .neq T x y (.pointer (some q)) (.pointer none)).run P w = .ok () w := by unfold eqGuard; simp
  have he : (Op.equal T (.pointer (some q)) (.pointer none)).run P w = .ok false w := by
    unfold isPtT at hT
    split at hT
    · rename_i hu
      unfold Op.equal Op.maxDepth; rw [Op.equalIn]; simp [Sem.run_bind, run_underlying hu, Result.andThen]
    · cases hT
  simp [Sem.run_bind, hg, binOp, he, Result.andThen])
theorem yl_eql_pt0  {T T2 : TypeId} {x y : Operand} (ho : o.op = .binOp .eql T x y T2) (hx : ev l x = some (.pointer none)) (hy : ev l y = some (.pointer none)) (hT : isPtT P T = true) : Yl P G n l d o (.bool true) := yl_bin ho hx hy (fun w => by
  have hg : (eqGuard .eql T x y (.pointer none) (.pointer none)).run P w = .ok () w := by unfold eqGuard; simp
  have he : (Op.equal T (.pointer none) (.pointer none)).run P w = .ok true w := by
    unfold isPtT at hT
    split at hT
    · rename_i hu
      unfold Op.equal Op.maxDepth; rw [Op.equalIn]; simp [Sem.run_bind, run_underlying hu, Result.andThen]
    · cases hT
  simp [Sem.run_bind, hg, binOp, he, Result.andThen])
theorem yl_neq_pt0  {T T2 : TypeId} {x y : Operand} (ho : o.op = .binOp .neq T x y T2) (hx : ev l x = some (.pointer none)) (hy : ev l y = some (.pointer none)) (hT : isPtT P T = true) : Yl P G n l d o (.bool false) := yl_bin ho hx hy (fun w => by
  have hg : (eqGuard .neq T x y (.pointer none) (.pointer none)).run P w = .ok () w := by unfold eqGuard; simp
  have he : (Op.equal T (.pointer none) (.pointer none)).run P w = .ok true w := by
    unfold isPtT at hT
    split at hT
    · rename_i hu
      unfold Op.equal Op.maxDepth; rw [Op.equalIn]; simp [Sem.run_bind, run_underlying hu, Result.andThen]
    · cases hT
  simp [Sem.run_bind, hg, binOp, he, Result.andThen])
theorem yl_eql_sl {q : Addr} {i c : Nat} {T T2 : TypeId} {x y : Operand} (ho : o.op = .binOp .eql T x y T2) (hx : ev l x = some (.slice (some q) i c)) (hy : ev l y = some (.slice none 0 0)) (hT : isSlT P T = true) : Yl P G n l d o (.bool false) := yl_bin ho hx hy (fun w => by
  have hg : (eqGuard .eql T x y (.slice (some q) i c) (.slice none 0 0)).run P w = .ok () w := by unfold eqGuard; simp
  have he : (Op.equal T (.slice (some q) i c) (.slice none 0 0)).run P w = .ok false w := by
    unfold isSlT at hT
    split at hT
    · rename_i hu
      unfold Op.equal Op.maxDepth; rw [Op.equalIn]; simp [Sem.run_bind, run_underlying hu, Result.andThen]
    · cases hT
  simp [Sem.run_bind, hg, binOp, he, Result.andThen])
theorem yl_neq_sl {q : Addr} {i c : Nat} {T T2 : TypeId} {x y : Operand} (ho : o.op = .binOp .neq T x y T2) (hx : ev l x = some (.slice (some q) i c)) (hy : ev l y = some (.slice none 0 0)) (hT : isSlT P T = true) : Yl P G n l d o (.bool true) := yl_bin ho hx hy (fun w => by
  have hg : (eqGuard .neq T x y (.slice (some q) i c) (.slice none 0 0)).run P w = .ok () w := by unfold eqGuard; simp
  have he : (Op.equal T (.slice (some q) i c) (.slice none 0 0)).run P w = .ok false w := by
    unfold isSlT at hT
    split at hT
    · rename_i hu
      unfold Op.equal Op.maxDepth; rw [Op.equalIn]; simp [Sem.run_bind, run_underlying hu, Result.andThen]
    · cases hT
  simp [Sem.run_bind, hg, binOp, he, Result.andThen])
theorem yl_eql_sl0 {i c : Nat} {T T2 : TypeId} {x y : Operand} (ho : o.op = .binOp .eql T x y T2) (hx : ev l x = some (.slice none i c)) (hy : ev l y = some (.slice none 0 0)) (hT : isSlT P T = true) : Yl P G n l d o (.bool true) := yl_bin ho hx hy (fun w => by
  have hg : (eqGuard .eql T x y (.slice none i c) (.slice none 0 0)).run P w = .ok () w := by unfold eqGuard; simp
  have he : (Op.equal T (.slice none i c) (.slice none 0 0)).run P w = .ok true w := by
    unfold isSlT at hT
    split at hT
    · rename_i hu
      unfold Op.equal Op.maxDepth; rw [Op.equalIn]; simp [Sem.run_bind, run_underlying hu, Result.andThen]
    · cases hT
  simp [Sem.run_bind, hg, binOp, he, Result.andThen])
theorem yl_neq_sl0 {i c : Nat} {T T2 : TypeId} {x y : Operand} (ho : o.op = .binOp .neq T x y T2) (hx : ev l x = some (.slice none i c)) (hy : ev l y = some (.slice none 0 0)) (hT : isSlT P T = true) : Yl P G n l d o (.bool false) := yl_bin ho hx hy (fun w => by
  have hg : (eqGuard .neq T x y (.slice none i c) (.slice none 0 0)).run P w = .ok () w := by unfold eqGuard; simp
  have he : (Op.equal T (.slice none i c) (.slice none 0 0)).run P w = .ok true w := by
    unfold isSlT at hT
    split at hT
    · rename_i hu
      unfold Op.equal Op.maxDepth; rw [Op.equalIn]; simp [Sem.run_bind, run_underlying hu, Result.andThen]
    · cases hT
  simp [Sem.run_bind, hg, binOp, he, Result.andThen])
def isBoT (P : Program) (T : TypeId) : Bool := match P.underlying T with | some .bool => true | _ => false
theorem run_eq_bool {T : TypeId} (hT : isBoT P T = true) (b c : Bool) (w : World) : (Op.equal T (.bool b) (.bool c)).run P w = .ok (b == c) w := by
  unfold isBoT at hT
  split at hT
  · rename_i hu
    unfold Op.equal Op.maxDepth; rw [Op.equalIn]; simp [Sem.run_bind, run_underlying hu, Result.andThen]
  · cases hT
theorem yl_eql_bo {T T2 : TypeId} {x y : Operand} {b c : Bool} (ho : o.op = .binOp .eql T x y T2) (hx : ev l x = some (.bool b)) (hy : ev l y = some (.bool c)) (hT : isBoT P T = true) : Yl P G n l d o (.bool (b == c)) := yl_bin ho hx hy (fun w => by
  have hg : (eqGuard .eql T x y (.bool b) (.bool c)).run P w = .ok () w := by unfold eqGuard; simp
  simp [Sem.run_bind, hg, binOp, run_eq_bool hT, Result.andThen])
theorem yl_neq_bo {T T2 : TypeId} {x y : Operand} {b c : Bool} (ho : o.op = .binOp .neq T x y T2) (hx : ev l x = some (.bool b)) (hy : ev l y = some (.bool c)) (hT : isBoT P T = true) : Yl P G n l d o (.bool (!(b == c))) := yl_bin ho hx hy (fun w => by
  have hg : (eqGuard .neq T x y (.bool b) (.bool c)).run P w = .ok () w := by unfold eqGuard; simp
  simp [Sem.run_bind, hg, binOp, run_eq_bool hT, Result.andThen])
end nils

/-! ### rows that are made, and appended to -/
def IsSl (v : Value) : Prop := ∃ a b c, v = .slice a b c
/-- Slice values. -/
def SV : Type := { v : Value // IsSl v }
/-- The facts of a type of slices that append wants: its elements' type, their cells and bytes. -/
def apT (P : Program) (t e k by_ : Nat) : Bool := match P.underlying t, P.info? e with
  | some (.slice e'), some i => e' == e && i.size == k && i.bytes == by_ && (match i.zero with | some z => z.cells.size == k | none => false) && decide (0 < k)
  | _, _ => false
theorem apT_spec {P : Program} {t e k by_ : Nat} (h : apT P t e k by_ = true) : ∃ i z, P.underlying t = some (.slice e) ∧ P.info? e = some i ∧ i.zero = some z ∧ i.size = k ∧ i.bytes = by_ ∧ z.cells.size = k ∧ 0 < k := by
  unfold apT at h
  split at h
  · rename_i e' i h1 h2
    cases hz : i.zero with
    | none => simp [hz] at h
    | some z =>
      simp [hz] at h
      obtain ⟨⟨⟨⟨rfl, h3⟩, h4⟩, h5⟩, h6⟩ := h
      exact ⟨i, z, h1, h2, hz, h3, h4, h5, h6⟩
  · cases h
/-- Values of k cells, each cell one. -/
def Cel (k : Nat) (ys : List Value) : Prop := ∀ y ∈ ys, (cv y).size = k ∧ ∀ u ∈ (cv y).toList, u.oneCell' = true
theorem Cel.of {P : Program} {T k : Nat} {ys : List Value} (h : ∀ y ∈ ys, VOf P T y) (hk : (P.info? T).map (·.size) = some k) : Cel k ys := fun y hy => by
  have h1 := h y hy
  refine ⟨by have := h1.size; rw [hk] at this; exact (Option.some.inj this).symm, fun u hu => Array.all_eq_true_iff_forall_mem.1 h1.one u (by simpa using hu)⟩
theorem Cel.nil {k : Nat} : Cel k [] := fun y hy => by cases hy
theorem Cel.cons {k : Nat} {y : Value} {ys : List Value} (h1 : (cv y).size = k) (h2 : (cv y).all (·.oneCell') = true) (h : Cel k ys) : Cel k (y :: ys) := fun z hz => by
  rcases List.mem_cons.1 hz with rfl | hz
  · exact ⟨h1, fun u hu => Array.all_eq_true_iff_forall_mem.1 h2 u (by simpa using hu)⟩
  · exact h z hz
theorem RowC.mkp {e k : Nat} {v : Value} {xs : List Value} {w : World} {O : Nat → Prop} (h : w.ownsRow 0 e k v xs.length (cellsOf xs)) (hn : v = .slice none 0 0 → xs = []) (hk : ∀ x ∈ xs, (cv x).size = k) (hO : ∀ j, O j ↔ v.ownBlock = some j) : (RowC e k v xs).p O w := ⟨h, hn, hk, hO⟩
theorem cellsOf_append (xs ys : List Value) : cellsOf (xs ++ ys) = cellsOf xs ++ cellsOf ys := by simp [cellsOf]
section rows
variable {F : Fence} {m : Nat} {P : Program} {Q : Exit → Act → World → Prop} {K : Act → World → Prop} {n : Nat} {l : List (Nat × Value)} {d : List Deferred} {W0 : World} {X : Nat → Prop} {R C E : List Ch} {o : Oper} {t : Nat} {v : Value}
/-- append(s, x...): s is the call's own. -/
theorem on_append (hF : IsWide F) {s x : Operand} {T e k by_ : Nat} {u : Value} {xs ys : List Value} (ho : o.op = Op.call { callee := Callee.builtin Builtin.append, args := #[s, x], argTypes := #[T, T] }) (hd : o.dst = some t) (ht : Nat.blt t n = true) (hs : ev l s = some v) (hx : ev l x = some u)
    (hm : Pick C (RowC e k v xs) E) (hT : apT P T e k by_ = true) (hr : Rdg (St W0 X R C) k u ys) (hc : Cel k ys) (b1 : xs.length + ys.length ≤ maxLen) (b2 : (xs.length + ys.length) * by_ ≤ 140737488355328)
    (h : ∀ v' : SV, Nx K n ((t, v'.1) :: l) d W0 X R (RowC e k v'.1 (xs ++ ys) :: E)) : Nx (OpN F m P o K Q) n l d W0 X R C :=
  on_world hF (fun c => by rw [ho]; exact (fun h => by cases h)) hd ht (fun v' : SV => v'.1) (fun _ => R) (fun v' => RowC e k v'.1 (xs ++ ys) :: E) (fun a w ha hw => by
    obtain ⟨i, z, t1, t2, t3, t4, t5, t6, t7⟩ := apT_spec hT
    have hsl := hr w hw
    have hw' := hw.perm hm
    obtain ⟨O, hrow⟩ := hw'.hasC (c := RowC e k v xs) (by simp)
    have hown : w.ownsRow 0 e k v xs.length (cellsOf xs) := hrow.1
    have hargs : ∀ v' w', (Builtin.append_ #[T, T] o.type #[v, u]).run P w = .ok v' w' → (execOp a.eval o).run P w = .ok (.value v') w' := fun v' w' hv => by
      simp [execOp, ho, resolve, invoke, builtin, ha.eval hs, ha.eval hx, hv, Result.andThen]
    have hsl' := hsl
    obtain ⟨A, c, rfl, hcc, hA, hel⟩ := hsl
    cases A with
    | some ad =>
      obtain ⟨v', w', hrun, h2, h3, h4, h5⟩ := run_append_own_at (P := P) w 0 T o.type e i z k by_ t1 t2 t3 t4 t5 t6 t7 v xs.length (cellsOf xs) hown ad ys.length c (cellsOf ys) (cellsOf_len (fun y hy => (hc y hy).1)) (hsl'.cells (fun y hy => (hc y hy).1))
        (fun q hq => by
          obtain ⟨y, hy, hq'⟩ : ∃ y ∈ ys, q ∈ (cv y).toList := by
            unfold cellsOf at hq; rw [List.mem_flatten] at hq
            obtain ⟨l', h1, h2⟩ := hq
            obtain ⟨y, hy, rfl⟩ := List.mem_map.1 h1
            exact ⟨y, hy, h2⟩
          exact (hc y hy).2 q hq') b1 b2 (Nat.zero_le _)
      have hsl2 : IsSl v' := by rcases h2.2 with ⟨rfl, _⟩ | ⟨g, cap, cur, rfl, _⟩ <;> exact ⟨_, _, _, rfl⟩
      refine ⟨⟨v', hsl2⟩, w', hargs v' w' hrun, hw'.upd (fun O hO => ?_)⟩
      refine ⟨fun j => v'.ownBlock = some j, ?_, ?_, ?_⟩
      · exact Touch.of_grownBy h3 (fun j hj => (hO.2.2.2 j).2 hj)
      · refine RowC.mkp (by rw [cellsOf_append, List.length_append]; exact h2) (fun hv => ?_) (fun q hq => ?_) (fun _ => Iff.rfl)
        · obtain ⟨e1, e2⟩ := h4.1 hv
          rw [hO.2.1 e1, List.eq_nil_of_length_eq_zero e2]; rfl
        · rcases List.mem_append.1 hq with hq | hq
          · exact hO.2.2.1 q hq
          · exact (hc q hq).1
      · intro j hj
        rcases h5 with h5 | h5
        · exact .inl ((hO.2.2.2 j).2 (h5 ▸ hj))
        · rw [h5] at hj; cases hj; exact .inr (Nat.le_refl _)
    | none =>
      obtain ⟨rfl, _, rfl⟩ := hsl'.nil
      have hv : ∃ av nv cvv, v = .slice av nv cvv ∧ nv ≤ cvv := by
        rcases hown.2 with ⟨rfl, _⟩ | ⟨g, cap, cur, rfl, _, _, hle, _⟩
        · exact ⟨none, 0, 0, rfl, Nat.le_refl _⟩
        · exact ⟨_, _, _, rfl, hle⟩
      obtain ⟨av, nv, cvv, rfl, hle⟩ := hv
      have hrun := run_append_src_nil (P := P) T o.type e i z t1 t2 t3 av nv cvv hle w
      exact ⟨⟨_, _, _, _, rfl⟩, w, hargs _ _ hrun, by rw [List.append_nil]; exact hw'⟩) h
/-- The row that a literal of a slice makes. -/
def partsL : Nat → List Value → List (Nat × Value)
  | _, [] => []
  | i, v :: vs => (i, v) :: partsL (i + 1) vs
theorem set_all : ∀ (us : List Value) (j0 off : Nat) (cs : Array Value), off + j0 + us.length ≤ cs.size → ((us.zipIdx j0).foldl (fun cs (c, j) => cs.setIfInBounds (off + j) c) cs).toList = cs.toList.take (off + j0) ++ us ++ cs.toList.drop (off + j0 + us.length)
  | [], j0, off, cs, _ => by simp
  | u :: us, j0, off, cs, h => by
    simp only [List.zipIdx_cons, List.foldl_cons, List.length_cons] at h ⊢
    rw [set_all us (j0 + 1) off _ (by simp; omega)]
    have h1 : off + j0 < cs.toList.length := by simp; omega
    simp only [Array.toList_setIfInBounds]
    rw [List.take_set, List.drop_set]
    have e1 : (List.take (off + (j0 + 1)) cs.toList).set (off + j0) u = cs.toList.take (off + j0) ++ [u] := by
      rw [show off + (j0 + 1) = off + j0 + 1 by omega, List.take_succ_eq_append_getElem h1, List.set_append_right _ _ (by simp; omega)]
      simp [Nat.min_eq_left (Nat.le_of_lt h1)]
      have hz : cs.toList.length = cs.size := by simp
      have : off + j0 - min (off + j0) cs.size = 0 := by omega
      simp [this]
    rw [e1, if_pos (by omega), show off + (j0 + 1) + us.length = off + j0 + (us.length + 1) by omega]
    simp
theorem fill_all {k : Nat} : ∀ (vs : List Value) (i : Nat) (cs : Array Value), (∀ v ∈ vs, v.cells.size = k) → cs.size = (i + vs.length) * k → ∃ cs', Instr.fill (fun i => some (i * k, k)) cs (partsL i vs) = some cs' ∧ cs'.toList = cs.toList.take (i * k) ++ (vs.map fun v => v.cells.toList).flatten
  | [], i, cs, _, h => ⟨cs, rfl, by simp at h; simp [List.take_of_length_le (show cs.toList.length ≤ i * k by simp [h])]⟩
  | v :: vs, i, cs, hk, h => by
    have hv := hk v (by simp)
    simp only [List.length_cons] at h
    have hsz : (i + (vs.length + 1)) * k = i * k + (vs.length * k + k) := by rw [Nat.add_mul, Nat.succ_mul]
    simp only [partsL, Instr.fill, hv]
    rw [if_neg (by simp; omega)]
    have hset : (v.cells.zipIdx.foldl (fun cs x => cs.setIfInBounds (i * k + x.2) x.1) cs).toList = cs.toList.take (i * k) ++ v.cells.toList ++ cs.toList.drop (i * k + k) := by
      have := set_all v.cells.toList 0 (i * k) cs (by simp; omega)
      simp only [Array.length_toList, hv, Nat.add_zero] at this
      rw [← this, ← Array.foldl_toList, Array.toList_zipIdx]
    obtain ⟨cs', h1, h2⟩ := fill_all vs (i + 1) (v.cells.zipIdx.foldl (fun cs x => cs.setIfInBounds (i * k + x.2) x.1) cs) (fun u hu => hk u (by simp [hu])) (by
      have h3 := congrArg List.length hset
      simp only [Array.length_toList, List.length_append, List.length_take, List.length_drop] at h3
      rw [h3, hv, Nat.add_mul, Nat.add_mul]; omega)
    refine ⟨cs', h1, ?_⟩
    rw [h2, hset]
    have hl : (cs.toList.take (i * k) ++ v.cells.toList).length = (i + 1) * k := by simp [hv, Nat.succ_mul]; omega
    rw [List.take_append_of_le_length (by rw [hl]; exact Nat.le_refl _), List.take_of_length_le (by rw [hl]; exact Nat.le_refl _)]
    simp
theorem run_buildSlice {T e k by_ : Nat} (hT : apT P T e k by_ = true) (vs : List Value) (hk : ∀ v ∈ vs, (cv v).size = k) (hn : vs.length * k ≤ 16777216) (w : World) :
    (Instr.buildSlice T vs.length (partsL 0 vs).toArray).run P w = .ok (.slice (some ⟨w.heap.size, 0, none⟩) vs.length vs.length) (w.alloc (.cells (cellsOf vs).toArray e)) := by
  obtain ⟨i, z, t1, t2, t3, t4, t5, t6, t7⟩ := apT_spec hT
  have hsz : (sizeOf e).run P w = .ok k w := by simp [sizeOf, typeInfo, t2, t4]
  have hze : (zeroValue e).run P w = .ok z w := by simp [zeroValue, typeInfo, t2, t3]
  have key : ∀ zc : Array Value, zc.size = vs.length * k → ∃ cs', Instr.fill (fun i => some (i * k, k)) zc (partsL 0 vs) = some cs' ∧ cs' = (cellsOf vs).toArray := fun zc hz => by
    obtain ⟨cs', h1, h2⟩ := fill_all (k := k) vs 0 zc hk (by rw [hz]; simp)
    refine ⟨cs', h1, ?_⟩
    rw [← Array.toArray_toList (xs := cs'), h2]
    simp [cellsOf, cv]
  unfold Instr.buildSlice
  simp only [Sem.run_bind, run_underlying t1, Result.andThen, hsz]
  rw [if_neg (by simpa using hn)]
  by_cases h0 : vs.length * k = 0
  · obtain ⟨cs', h1, rfl⟩ := key #[] (by simp [h0])
    have hr0 : ∀ f : Nat → Value, Array.map f (Array.range 0) = #[] := fun f => by rw [show Array.range 0 = #[] from rfl]; simp
    simp only [h0, if_true, Sem.run_pure, hr0]
    simp [Sem.run_bind, Sem.run_pure, h1, newRow, Result.andThen]
  · obtain ⟨cs', h1, rfl⟩ := key ((Array.range (vs.length * k)).map (fun j => z.cells[j % z.cells.size]!)) (by simp)
    simp only [h0, if_false, Sem.run_bind, hze, Result.andThen, Sem.run_pure]
    simp [Sem.run_bind, Sem.run_pure, h1, newRow, Result.andThen]
theorem on_buildSlice (hF : IsWide F) {T e k by_ c : Nat} {ps : Array (Nat × Operand)} {vs : List Value} (ho : o.op = .buildSlice T c ps) (hd : o.dst = some t) (ht : Nat.blt t n = true) (hx : evs l (ps.toList.map (·.2)) = some vs) (hi : ps.toList.map (·.1) = List.range vs.length) (hc : c = vs.length) (hT : apT P T e k by_ = true) (hk : Cel k vs) (hn : vs.length * k ≤ 16777216)
    (h : ∀ B, Nx K n ((t, .slice (some ⟨B, 0, none⟩) c c) :: l) d W0 X R (RowC e k (.slice (some ⟨B, 0, none⟩) c c) vs :: C)) : Nx (OpN F m P o K Q) n l d W0 X R C :=
  on_world hF (fun c => by rw [ho]; exact (fun h => by cases h)) hd ht (fun B => .slice (some ⟨B, 0, none⟩) c c) (fun _ => R) (fun B => RowC e k (.slice (some ⟨B, 0, none⟩) c c) vs :: C) (fun a w ha hw => by
    have e1 := ha.evals hx
    have e2 : (ps.map fun (i, x) => (i, a.eval x)) = (partsL 0 vs).toArray := by
      have h3 : ∀ (q : List (Nat × Operand)) (j : Nat) (us : List Value), q.map (·.1) = List.range' j us.length → (q.map (·.2)).map a.eval = us → q.map (fun p => (p.1, a.eval p.2)) = partsL j us := fun q => by
        induction q with
        | nil => intro j us h1 h2; cases us with
          | nil => rfl
          | cons u us => cases h2
        | cons p q ih =>
          intro j us h1 h2
          cases us with
          | nil => cases h2
          | cons u us =>
            simp only [List.map_cons, List.length_cons, List.range'_succ, List.cons.injEq] at h1 h2
            simp only [List.map_cons, partsL]
            rw [h1.1, h2.1, ih (j + 1) us h1.2 h2.2]
      have := h3 ps.toList 0 vs (by rw [hi, List.range_eq_range']) e1
      rw [← this, ← Array.toList_map]
    have hrun := run_buildSlice hT vs (fun v hv => (hk v hv).1) hn w
    refine ⟨w.heap.size, w.alloc (.cells (cellsOf vs).toArray e), ?_, ?_⟩
    · subst hc
      simp only [execOp, ho, Sem.run_bind, e2, hrun, Result.andThen]; rfl
    · refine hw.new ((Below.refl _ _).alloc (Nat.le_refl _) _) ⟨fun j => j = w.heap.size, ⟨?_, (fun h => by cases h), fun x hx => (hk x hx).1, fun j => ⟨fun h => by simp [Value.ownBlock, h], fun h => by simp [Value.ownBlock] at h; exact h.symm⟩⟩, fun j hj => by omega⟩
      subst hc
      refine ⟨cellsOf_len (fun x hx => (hk x hx).1), .inr ⟨w.heap.size, vs.length, (cellsOf vs).toArray, rfl, Nat.zero_le _, World.alloc_heap_new w _, Nat.le_refl _, ?_, ?_, ?_⟩⟩
      · obtain ⟨_, _, _, _, _, _, _, _, t7⟩ := apT_spec hT
        have : vs.length ≤ vs.length * k := Nat.le_mul_of_pos_right _ t7
        unfold maxLen; omega
      · simp [cellsOf_len (fun x hx => (hk x hx).1)]
      · rw [List.take_of_length_le (by simp [cellsOf_len (fun x hx => (hk x hx).1)])]) h
end rows

/-! ### loops whose rounds leave deferred calls -/
section loopD
variable {F : Fence} {m : Nat} {P : Program} {Q : Exit → Act → World → Prop} {n : Nat} {l : List (Nat × Value)} {W0 : World} {X : Nat → Prop} {R C : List Ch}
theorem nx_loopD {c : Code} {ι : Type} (Ds : List Nat) (L : ι → List (Nat × Value)) (RR CC : ι → List Ch) (DD : ι → List Nat) (μ : ι → Nat) (i0 : ι) (hd : DD i0 = Ds) (h0 : ∀ j v, lk j (L i0) = some v → lk j l = some v) (hR : ∀ r ∈ RR i0, r ∈ R) (hC : Holds C (CC i0))
    (h : ∀ i, Nx (c.wpIn F m P (Exit.then (fun a w => ∃ j, μ j < μ i ∧ Kn n (L j) (dfr (DD j)) a ∧ St W0 X (RR j) (CC j) w) Q)) n (L i) (dfr (DD i)) W0 X (RR i) (CC i)) : Nx ((Code.loop c).wpIn F m P Q) n l (dfr Ds) W0 X R C := by
  intro a w ha hw
  classical
  let J : Nat → Act → World → Prop := fun k a w => ∃ j, μ j = k ∧ Kn n (L j) (dfr (DD j)) a ∧ St W0 X (RR j) (CC j) w
  let I : Act → World → Prop := fun a w => ∃ k, J k a w
  have least : ∀ a w, I a w → ∃ k, J k a w ∧ ∀ k', k' < k → ¬ J k' a w := fun a w hi => by
    obtain ⟨k, hk⟩ := hi
    induction k using Nat.strongRecOn with
    | _ k ih =>
      by_cases hq : ∃ k', k' < k ∧ J k' a w
      · obtain ⟨k', hlt, hj⟩ := hq; exact ih k' hlt hj
      · exact ⟨k, hk, fun k' hlt hj => hq ⟨k', hlt, hj⟩⟩
  let M : Act → World → Nat := fun a w => if hi : I a w then (least a w hi).choose else 0
  have hM : ∀ a w (hi : I a w), J (M a w) a w ∧ ∀ k', k' < M a w → ¬ J k' a w := fun a w hi => by
    have := (least a w hi).choose_spec
    simp only [M, dif_pos hi]
    exact this
  have hle : ∀ a w j, Kn n (L j) (dfr (DD j)) a → St W0 X (RR j) (CC j) w → M a w ≤ μ j := fun a w j h1 h2 => by
    have := (hM a w ⟨μ j, j, rfl, h1, h2⟩).2 (μ j)
    rcases Nat.lt_or_ge (μ j) (M a w) with h | h
    · exact absurd ⟨j, rfl, h1, h2⟩ (this h)
    · exact h
  refine wpIn_loop I M ⟨μ i0, i0, rfl, by rw [hd]; exact ha.sub h0, (hw.subR hR).keep hC⟩ (fun a1 w1 hi => ?_)
  obtain ⟨⟨j, hj, g1, g2⟩, _⟩ := hM a1 w1 hi
  refine wpIn_mono (h j a1 w1 g1 g2) ?_
  intro e a2 w2 hq
  cases e with
  | normal =>
    obtain ⟨j2, hlt, h3, h4⟩ := hq
    exact ⟨⟨μ j2, j2, rfl, h3, h4⟩, Nat.lt_of_le_of_lt (hle a2 w2 j2 h3 h4) (by rw [← hj]; exact hlt)⟩
  | exit id => exact hq
  | goto t => exact hq
  | ret => exact hq
  | panic ch => exact hq
  | outgrown => exact hq
theorem nx_againD {ι : Type} {L : ι → List (Nat × Value)} {RR CC : ι → List Ch} {DD : ι → List Nat} {μ : ι → Nat} {k : Nat} {Ds : List Nat} {d : List Deferred} (i : ι) (hμ : μ i < k) (hd : d = dfr Ds) (hD : DD i = Ds) (hl : ∀ j v, lk j (L i) = some v → lk j l = some v) (hR : ∀ r ∈ RR i, r ∈ R) (hC : Holds C (CC i)) : Nx (fun a w => ∃ j, μ j < k ∧ Kn n (L j) (dfr (DD j)) a ∧ St W0 X (RR j) (CC j) w) n l d W0 X R C :=
  fun a w ha hw => ⟨i, hμ, by rw [hD, ← hd]; exact ha.sub hl, (hw.subR hR).keep hC⟩
end loopD
end Go.Proofs.Ytinofjenoapeaaa
