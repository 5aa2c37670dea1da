/- Rules of this claim's own, over any program: what is owned is lent to a call that only reads it. No condition. -/
import Derived.Test.YtinofjenoapeaaaS9
namespace Go.Proofs.Ytinofjenoapeaaa
open Go.RowKit Go.Shelf
set_option linter.unusedSimpArgs false
set_option linter.unusedVariables false
/-- What is owned, as it is read. -/
def ReadsOf (D Dr : List Ch) : Prop := ∀ O w, Sep D O w → Shr Dr O w
theorem readsOf_nil : ReadsOf [] [] := fun _ _ _ r hr => by cases hr
theorem readsOf_same (c : Ch) {D Dr : List Ch} (h : ReadsOf D Dr) : ReadsOf (c :: D) (c :: Dr) := fun O w ⟨O1, h1, h2, h3⟩ r hr => by
  rcases List.mem_cons.1 hr with rfl | hr
  · exact ⟨O1, h1, h2⟩
  · obtain ⟨O2, g1, g2⟩ := h _ w h3 r hr; exact ⟨O2, g1, fun k hk => (g2 k hk).1⟩
theorem readsOf_row {e k : Nat} {v : Value} {xs : List Value} {D Dr : List Ch} (h : ReadsOf D Dr) : ReadsOf (RowC e k v xs :: D) (SlC k v xs :: Dr) := fun O w ⟨O1, h1, h2, h3⟩ r hr => by
  rcases List.mem_cons.1 hr with rfl | hr
  · obtain ⟨O', g1, g2⟩ := RowC.slC h1; exact ⟨O', g1, fun k hk => h2 k (g2 k hk)⟩
  · obtain ⟨O2, g1, g2⟩ := h _ w h3 r hr; exact ⟨O2, g1, fun k hk => (g2 k hk).1⟩
theorem Ct.lend {P : Program} {g : FuncId} {vs : List Value} {W0 : World} {X : Nat → Prop} {R E D Dr : List Ch} {ι : Type} {ret : ι → Value} {C' : ι → List Ch} (hD : ReadsOf D Dr)
    (h : ∀ W0 X, Ct P g vs W0 X (Dr ++ R) E ι ret (fun _ => Dr ++ R) C') : Ct P g vs W0 X R (D ++ E) ι ret (fun _ => R) (fun i => D ++ C' i) := by
  intro w hw
  obtain ⟨ht, OR, OC, h1, h2, h3, h4⟩ := hw
  obtain ⟨O1, g1, g2, g3⟩ := h2.split
  have st : St w (fun k => OC k ∧ ¬ O1 k) (Dr ++ R) E w := by
    refine ⟨Touch.refl _ _, fun k => OR k ∨ O1 k, fun k => OC k ∧ ¬ O1 k, ?_, g3, ?_, ?_⟩
    · intro r hr
      rcases List.mem_append.1 hr with hr | hr
      · obtain ⟨O', q1, q2⟩ := hD _ _ g2 r hr; exact ⟨O', q1, fun k hk => .inr (q2 k hk)⟩
      · obtain ⟨O', q1, q2⟩ := h1 r hr; exact ⟨O', q1, fun k hk => .inl (q2 k hk)⟩
    · rintro k (hk | hk)
      · exact h3 k hk
      · exact (h4 k (g1 k hk)).2.1
    · intro k hk
      exact ⟨fun hn => hn.elim (h4 k hk.1).1 hk.2, (h4 k hk.1).2.1, .inl hk⟩
  refine (h w (fun k => OC k ∧ ¬ O1 k) w st).mono ?_
  rintro e w' ⟨i, rfl, ht2, OR2, OC2, q1, q2, q3, q4⟩
  refine ⟨i, rfl, ht.transW ht2 (fun _ _ h => h) (fun k hk ho => (h4 k ho.1).2.2.elim id (fun h => by omega)), OR, fun k => O1 k ∨ OC2 k, ?_, ?_, fun k hk => Nat.lt_of_lt_of_le (h3 k hk) ht2.size, ?_⟩
  · exact h1.keep ht2.size (fun k hk => ht2.block k (h3 k hk) (fun ho => (h4 k ho.1).1 hk))
  · refine Sep.join (O1 := O1) (O2 := OC2) (g2.keep ht2.size (fun k hk => ht2.block k (h4 k (g1 k hk)).2.1 (fun ho => ho.2 hk))) q2 (fun k hk hk2 => ?_) (fun k hk => .inl hk) (fun k hk => .inr hk)
    rcases (q4 k hk2).2.2 with h5 | h5
    · exact h5.2 hk
    · have := (h4 k (g1 k hk)).2.1; omega
  · rintro k (hk | hk)
    · have h5 := h4 k (g1 k hk); exact ⟨h5.1, Nat.lt_of_lt_of_le h5.2.1 ht2.size, h5.2.2⟩
    · obtain ⟨h5, h6, h7⟩ := q4 k hk
      refine ⟨fun hr => ?_, h6, ?_⟩
      · rcases h7 with h7 | h7
        · exact (h4 k h7.1).1 hr
        · have := h3 k hr; omega
      · rcases h7 with h7 | h7
        · exact (h4 k h7.1).2.2
        · exact .inr (by have := ht.size; omega)
theorem perm1 {C E1 : List Ch} {a : Ch} (h1 : Pick C a E1) : C.Perm (a :: E1) := h1
theorem perm2 {C E1 E2 : List Ch} {a b : Ch} (h1 : Pick C a E1) (h2 : Pick E1 b E2) : C.Perm (a :: b :: E2) := h1.trans (List.Perm.cons a h2)
theorem perm3 {C E1 E2 E3 : List Ch} {a b c : Ch} (h1 : Pick C a E1) (h2 : Pick E1 b E2) (h3 : Pick E2 c E3) : C.Perm (a :: b :: c :: E3) := h1.trans (List.Perm.cons a (h2.trans (List.Perm.cons b h3)))
section lend
variable {P : Program} {g : FuncId} {vs : List Value} {W0 : World} {X : Nat → Prop} {R E : List Ch} {ι : Type} {ret : ι → Value} {C' : ι → List Ch}
theorem Ct.lend1 {a r : Ch} (hD : ReadsOf [a] [r]) (h : ∀ W0 X, Ct P g vs W0 X (r :: R) E ι ret (fun _ => r :: R) C') : Ct P g vs W0 X R (a :: E) ι ret (fun _ => R) (fun i => a :: C' i) := Ct.lend hD h
theorem Ct.lend2 {a b r s : Ch} (hD : ReadsOf [a, b] [r, s]) (h : ∀ W0 X, Ct P g vs W0 X (r :: s :: R) E ι ret (fun _ => r :: s :: R) C') : Ct P g vs W0 X R (a :: b :: E) ι ret (fun _ => R) (fun i => a :: b :: C' i) := Ct.lend hD h
theorem Ct.lend3 {a b c r s q : Ch} (hD : ReadsOf [a, b, c] [r, s, q]) (h : ∀ W0 X, Ct P g vs W0 X (r :: s :: q :: R) E ι ret (fun _ => r :: s :: q :: R) C') : Ct P g vs W0 X R (a :: b :: c :: E) ι ret (fun _ => R) (fun i => a :: b :: c :: C' i) := Ct.lend hD h
end lend

/-- A call of a function that tells a bool: both ways, whatever it leaves. -/
theorem on_callB {F : Fence} {m : Nat} {P : Program} {Q : Exit → Act → World → Prop} {K : Act → World → Prop} {n : Nat} {l : List (Nat × Value)} {d : List Deferred} {W0 : World} {X : Nat → Prop} {R C : List Ch} {o : Oper} {t : Nat} (hF : IsWide F) {g : FuncId} {xs : Array Operand} {ts : Array TypeId} {vs : List Value} {b : Bool} {R' C' : Unit → List Ch} (ho : o.op = Op.call { callee := Callee.value (.func g), args := xs, argTypes := ts }) (hd : o.dst = some t) (ht : Nat.blt t n = true)
    (hx : evs l xs.toList = some vs) (eg : Enters P g) (hc : Ct P g vs W0 X R C Unit (fun _ => .bool b) R' C') (h1 : b = true → Nx K n ((t, .bool true) :: l) d W0 X (R' ()) (C' ())) (h2 : b = false → Nx K n ((t, .bool false) :: l) d W0 X (R' ()) (C' ())) : Nx (OpN F m P o K Q) n l d W0 X R C :=
  on_call hF ho hd ht hx eg hc (fun _ => by
    cases hb : b with
    | true => exact h1 hb
    | false => exact h2 hb)
theorem on_callBG {F : Fence} {m : Nat} {P : Program} {Q : Exit → Act → World → Prop} {K : Act → World → Prop} {n : Nat} {l : List (Nat × Value)} {d : List Deferred} {W0 : World} {X : Nat → Prop} {R C : List Ch} {o : Oper} {t : Nat} (hF : IsWide F) {g : FuncId} {xs : Array Operand} {ts : Array TypeId} {vs : List Value} {b : Bool} {R' C' : Unit → List Ch} (eg : Enters P g) (ho : o.op = Op.call { callee := Callee.value (.func g), args := xs, argTypes := ts }) (hd : o.dst = some t) (ht : Nat.blt t n = true)
    (hx : evs l xs.toList = some vs) (hc : Ct P g vs W0 X R C Unit (fun _ => .bool b) R' C') (h1 : b = true → Nx K n ((t, .bool true) :: l) d W0 X (R' ()) (C' ())) (h2 : b = false → Nx K n ((t, .bool false) :: l) d W0 X (R' ()) (C' ())) : Nx (OpN F m P o K Q) n l d W0 X R C := on_callB hF ho hd ht hx eg hc h1 h2
/-- The value that a contract asks for, told anew. -/
theorem Nx.ret_eq {P : Program} {fn : Func} {n : Nat} {l : List (Nat × Value)} {d : List Deferred} {W0 : World} {X : Nat → Prop} {R R1 C : List Ch} {C1 : Unit → List Ch} {e : Exit} {u v : Value} (h : u = v)
    (hn : Nx (bodyPostM Fence.wide 0 P fn (fun e w' => ∃ i : Unit, e = .returned ((fun _ => v) i) ∧ St W0 X ((fun _ => R1) i) (C1 i) w') e) n l d W0 X R C) : Nx (bodyPostM Fence.wide 0 P fn (fun e w' => ∃ i : Unit, e = .returned ((fun _ => u) i) ∧ St W0 X ((fun _ => R1) i) (C1 i) w') e) n l d W0 X R C := by subst h; exact hn

/-- The length of an owned row. -/
theorem nx_len {K : Act → World → Prop} {n : Nat} {l : List (Nat × Value)} {d : List Deferred} {W0 : World} {X : Nat → Prop} {R C : List Ch} {e k i c : Nat} {a : Option Addr} {xs : List Value} (hm : RowC e k (.slice a i c) xs ∈ C) (h : i = xs.length → Nx K n l d W0 X R C) : Nx K n l d W0 X R C := nx_fact (fun w hw => by
  obtain ⟨_, hr⟩ := hw.hasC hm
  obtain ⟨A, c', e1, _⟩ := RowC.sl hr
  injection e1) h
/-- A lookup whose value is known. -/
theorem yl_lookupX {P : Program} {G : World → Prop} {n : Nat} {l : List (Nat × Value)} {d : List Deferred} {o : Oper} {v : Value} {T k e : TypeId} {mm x : Operand} {b q : Nat} {f : Int → Option Value} {z : Int} {zv : Value} (hr : (f z).getD zv = v) (ho : o.op = .lookup T mm x false) (hm : ev l mm = some (.map (some b))) (hx : ev l x = some (.int .i64 z)) (hT : mapT P T k e = true) (hz : ∀ w, (zeroValue e).run P w = .ok zv w) (hw : (Lit.int .i64 z).wf = true) (hM : Has G (MapC P k b q f)) : Yl P G n l d o v := by
  rw [← hr]; exact yl_lookup ho hm hx hT hz hw hM
/-! ### numbers -/
theorem wf_of_i64 {z : Int} (h : -9223372036854775808 ≤ z ∧ z ≤ 9223372036854775807) : (Lit.int .i64 z).wf = true := by
  simp [Lit.wf, IntKind.min, IntKind.max, IntKind.signed, IntKind.bits]; omega
end Go.Proofs.Ytinofjenoapeaaa
