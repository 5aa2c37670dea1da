/- A law of this claim's own, over any program: a region that draws its order of evaluation, some of whose operations compute or read what nobody turns, and whose others are bound one behind the other: one walk, in an order that is given, serves every order. No condition. -/
import Derived.Test.YtinofjenoapeaaaS1
namespace Go.Proofs.Ytinofjenoapeaaa
open Go.RowKit Go.Shelf
set_option linter.unusedSimpArgs false
set_option linter.unusedVariables false

section
variable {F : Fence} {m : Nat} {P : Program} {ops : Array Oper} {G : World → Prop} {kd : Nat → Nat} {Q : Exit → Act → World → Prop}

/-- Operation o yields v in every world of a class, and leaves the world alone. -/
def FY (P : Program) (ops : Array Oper) (G : World → Prop) (o : Oper) (v : Value) (a : Act) : Prop :=
  (Region.wanted o (yielded ops a.tmps) = true ∧ (∀ c, o.op ≠ .defer c) ∧ ∀ w, G w → (execOp a.eval o).run P w = .ok (.value v) w) ∨ (Region.wanted o (yielded ops a.tmps) = false ∧ v = undef)
/-- An operation that is bound to its place. -/
def CO (F : Fence) (m : Nat) (P : Program) (ops : Array Oper) (o : Oper) (a : Act) (w : World) (K : Act → World → Prop) : Prop :=
  if Region.wanted o (yielded ops a.tmps) then o.wpIn F m P a w K (fun _ _ _ => False) else K (a.put o.dst undef) w
def dRun (F : Fence) (m : Nat) (P : Program) (ops : Array Oper) (G : World → Prop) (kd : Nat → Nat) (Q : Exit → Act → World → Prop) : List Nat → Array Bool → Act → World → Prop
  | [], _, a, w => Q .normal a w
  | i :: rest, listed, a, w => if listed.getD i true = true then dRun F m P ops G kd Q rest listed a w else
      ∃ o, ops[i]? = some o ∧
        ((kd i = 0 ∧ ∃ v, FY P ops (fun _ => True) o v a ∧ dRun F m P ops G kd Q rest listed (a.put o.dst v) w) ∨
         (kd i = 1 ∧ ∃ v, FY P ops G o v a ∧ dRun F m P ops G kd Q rest listed (a.put o.dst v) w) ∨
         (kd i = 2 ∧ (∀ c, o.op ≠ .defer c) ∧ CO F m P ops o a w (fun a' w' => G w' ∧ dRun F m P ops G kd Q rest listed a' w')) ∨
         (kd i = 3 ∧ (∀ c, o.op ≠ .defer c) ∧ CO F m P ops o a w (fun a' w' => dRun F m P ops G kd Q rest listed a' w')))

def Un (listed : Array Bool) (j : Nat) : Prop := listed.getD j true = false
instance (listed : Array Bool) (j : Nat) : Decidable (Un listed j) := inferInstanceAs (Decidable (_ = _))
theorem un_set_ne {listed : Array Bool} {i j : Nat} (h : i ≠ j) : Un (listed.setIfInBounds i true) j ↔ Un listed j := by unfold Un; rw [getD_set_ne true h]
theorem not_un_set {listed : Array Bool} {i : Nat} : ¬ Un (listed.setIfInBounds i true) i := by
  unfold Un
  rcases Nat.lt_or_ge i listed.size with h | h
  · simp [h]
  · simp [Array.getElem?_eq_none h]
theorem not_un {listed : Array Bool} {i : Nat} : ¬ Un listed i ↔ listed.getD i true = true := by unfold Un; cases listed.getD i true <;> simp

theorem dRun_congr : ∀ (l : List Nat) {listed listed' : Array Bool}, (∀ i ∈ l, listed.getD i true = listed'.getD i true) → dRun F m P ops G kd Q l listed = dRun F m P ops G kd Q l listed'
  | [], _, _, _ => rfl
  | i :: rest, listed, listed', h => by
    have ih := dRun_congr rest (listed := listed) (listed' := listed') (fun j hj => h j (by simp [hj]))
    funext a w
    simp only [dRun, ih, h i (by simp)]

def waitsB (ops : Array Oper) : List Nat → List Nat → Bool
  | _, [] => true
  | seen, j :: post => (match ops[j]? with | none => false | some oj => oj.after.any fun e => Region.binds .any e && seen.contains e.on) && waitsB ops (j :: seen) post
def ordB (ops : Array Oper) (kd : Nat → Nat) (reads : List Nat) : List Nat → Bool
  | [] => true
  | i :: rest => !rest.contains i && (match ops[i]? with
      | none => false
      | some o => o.after.all (fun e => !Region.binds .any e || (!(i :: rest).contains e.on && decide (e.on < ops.size))) &&
          (if kd i < 2 then rest.all (fun j => match ops[j]? with | none => false | some oj => oj.after.any (fun e => Region.binds .any e && e.on == i) || o.apart ops oj) else waitsB ops [i] rest) &&
          (kd i != 3 || reads.all (fun k => o.after.any fun e => Region.binds .any e && e.on == k))) && ordB ops kd reads rest

/-- All that an operation waits for that is listed is listed too. -/
def DC (ops : Array Oper) (listed : Array Bool) : Prop := ∀ j oj, ops[j]? = some oj → ¬ Un listed j → ∀ e ∈ oj.after, Region.binds .any e = true → ¬ Un listed e.on
theorem DC.set {listed : Array Bool} (h : DC ops listed) {j : Nat} (hj : j ∈ Region.ready .any ops listed) : DC ops (listed.setIfInBounds j true) := by
  intro k ok hk hl e he hb
  by_cases hkj : k = j
  · subst hkj
    obtain ⟨_, o, ho, hall⟩ := mem_ready.1 hj
    rw [hk] at ho; cases ho
    have := hall e he hb
    rw [not_un]
    by_cases hek : k = e.on
    · rw [← hek]; exact not_un.1 not_un_set
    · rw [getD_set_ne true hek]
      rcases Nat.lt_or_ge e.on listed.size with h' | h'
      · simp [h'] at this ⊢; exact this
      · simp [Array.getElem?_eq_none h'] at this
  · rw [un_set_ne (Ne.symm hkj)] at hl
    by_cases hek : j = e.on
    · rw [← hek]; exact not_un_set
    · rw [un_set_ne hek]; exact h k ok hk hl e he hb

theorem waits_spec {listed : Array Bool} (hdc : DC ops listed) : ∀ (post seen : List Nat), waitsB ops seen post = true → (∀ k ∈ seen, Un listed k) → (∀ k ∈ post, Un listed k ∧ k ∉ Region.ready .any ops listed)
  | [], _, _, _ => fun k hk => by simp at hk
  | j :: post, seen, h, hs => by
    simp only [waitsB, Bool.and_eq_true] at h
    obtain ⟨h1, h2⟩ := h
    have hj : Un listed j ∧ j ∉ Region.ready .any ops listed := by
      cases ho : ops[j]? with
      | none => simp [ho] at h1
      | some oj =>
        simp only [ho] at h1
        obtain ⟨e, he, hb⟩ := Array.any_eq_true'.1 h1
        simp only [Bool.and_eq_true, List.contains_iff_mem] at hb
        have hu := hs e.on hb.2
        refine ⟨?_, fun hr => ?_⟩
        · by_cases hn : Un listed j
          · exact hn
          · exact absurd hu (hdc j oj ho hn e he hb.1)
        · obtain ⟨_, o, ho', hall⟩ := mem_ready.1 hr
          rw [ho] at ho'; cases ho'
          have := hall e he hb.1
          have h3 := getD_both hu
          rw [this] at h3; cases h3
    intro k hk
    rcases List.mem_cons.1 hk with rfl | hk
    · exact hj
    · exact waits_spec hdc post (j :: seen) h2 (fun k' hk' => by
        rcases List.mem_cons.1 hk' with rfl | hk'
        · exact hj.1
        · exact hs k' hk') k hk

theorem FY.put {G : World → Prop} {oi oj : Oper} {v : Value} {a a' : Act} (hsi : ∀ cs b, oi.op ≠ .select cs b) (hap : oi.apart ops oj = true) {u : Value} (ht : a'.tmps = (a.put oj.dst u).tmps) (hy : FY P ops G oi v a) : FY P ops G oi v a' := by
  obtain ⟨h1, h2, h3⟩ := Oper.apart_spec hap
  have ee : a'.eval = (a.put oj.dst u).eval := by funext x; cases x <;> simp [Act.eval, ht]
  unfold FY at *
  rw [ht, ee, execOp_put oi hsi a oj.dst u h3, wanted_put oi a oj.dst u h3]
  exact hy

theorem put_defers (a : Act) (d d' : Option Tmp) (v u : Value) (dd : Deferred) (h : ∀ x, d = some x → d' ≠ some x) : ({ a.put d v with defers := dd :: (a.put d v).defers } : Act).put d' u = (({ a with defers := dd :: a.defers } : Act).put d' u).put d v := by
  have : ({ a.put d v with defers := dd :: (a.put d v).defers } : Act) = ({ a with defers := dd :: a.defers } : Act).put d v := by cases d <;> rfl
  rw [this]; exact Act.put_comm _ _ _ h
/-- An operation, carried out ahead of another one's yield. -/
theorem CO.swap (hF : IsWide F) {oi oj : Oper} {v : Value} {a : Act} {w : World} (hap : oi.apart ops oj = true) (hsj : ∀ cs b, oj.op ≠ .select cs b) (hnd : ∀ c, oj.op ≠ .defer c) {K : Act → World → Prop} (h : CO F m P ops oj (a.put oi.dst v) w K) :
    CO F m P ops oj a w (fun a' w' => (∃ u, a'.tmps = (a.put oj.dst u).tmps) ∧ K (a'.put oi.dst v) w') := by
  obtain ⟨h1, h2, h3⟩ := Oper.apart_spec hap
  unfold CO at *
  rw [wanted_put oj a oi.dst v h1] at h
  split
  · rename_i hw
    rw [if_pos hw] at h
    refine ⟨fun f hf => hF.fn f, ?_⟩
    · have h4 := h.2
      rw [Oper.semAt_eq _ _ _ hnd, execOp_put oj hsj a oi.dst v h1] at h4
      rw [Oper.semAt_eq _ _ _ hnd]
      generalize (execOp a.eval oj).run P w = r at *
      have hp : ∀ u, (a.put oi.dst v).put oj.dst u = (a.put oj.dst u).put oi.dst v := fun u => Act.put_comm a v u h2
      have hv : ∀ u w', K ((a.put oi.dst v).put oj.dst u) w' → (∃ u', (a.put oj.dst u).tmps = (a.put oj.dst u').tmps) ∧ K ((a.put oj.dst u).put oi.dst v) w' := fun u w' hk => ⟨⟨u, rfl⟩, by rw [← hp]; exact hk⟩
      cases r with
      | ok x w' =>
        cases x <;> simp only [Oper.uponIn] at h4 ⊢
        case value u => exact hv u w' h4
        case skip => exact hv undef w' h4
        case defer dd => exact ⟨⟨undef, by cases oj.dst <;> rfl⟩, by rw [← put_defers a oi.dst oj.dst v undef dd h2]; exact h4⟩
        case enter f args =>
          refine ⟨h4.1, h4.2.1, fun cs hr => ?_⟩
          obtain ⟨e, w'', fr, h5, h6⟩ := h4.2.2 cs hr
          refine ⟨e, w'', fr, ?_, h6⟩
          cases e with
          | returned u => exact hv u w'' h5
          | panicked ch => exact h5.elim
          | outgrown => exact h5
        case row r args =>
          refine ⟨h4.1, fun c cs hr => ?_⟩
          obtain ⟨u, w'', h5, h6⟩ := h4.2 c cs hr
          exact ⟨u, w'', hv u w'' h5, h6⟩
        case round l f tm asg bo =>
          refine ⟨h4.1, h4.2.1, fun c cs hr => ?_⟩
          obtain ⟨e, w'', h5, h6⟩ := h4.2.2 c cs hr
          refine ⟨e, w'', ?_, h6⟩
          cases e with
          | returned u => exact hv u w'' h5
          | panicked ch => exact h5.elim
          | outgrown => exact h5
      | halt x w' =>
        cases x <;> simp only [Oper.uponIn] at h4
        all_goals exact h4.elim
  · rename_i hw
    rw [if_neg hw] at h
    exact ⟨⟨undef, rfl⟩, by rw [← Act.put_comm a v undef h2]; exact h⟩
theorem CO.mono {o : Oper} {a : Act} {w : World} {K K' : Act → World → Prop} (hk : ∀ a w, K a w → K' a w) (h : CO F m P ops o a w K) : CO F m P ops o a w K' := by
  unfold CO at *
  split
  · rename_i hw; rw [if_pos hw] at h; exact Oper.wpIn_mono hk h
  · rename_i hw; rw [if_neg hw] at h; exact hk _ _ h
theorem CO.op (hF : IsWide F) {i : Nat} {o : Oper} (hi : ops[i]? = some o) {a : Act} {w : World} {K : Act → World → Prop} (h : CO F m P ops o a w K) : wpOpIn F m P ops Q i K a w := by
  unfold wpOpIn CO at *
  simp only [hi]
  split
  · rename_i hw
    rw [if_pos hw] at h
    refine ⟨h.1, ?_⟩
    have h4 := h.2
    generalize (Oper.semAt F.round a.eval o).run P w = r at *
    cases r with
    | ok x w' =>
      cases x <;> simp only [Oper.uponIn] at h4 ⊢
      case value u => exact h4
      case skip => exact h4
      case defer dd => exact h4
      case enter f args =>
        refine ⟨h4.1, h4.2.1, fun cs hr => ?_⟩
        obtain ⟨e, w'', fr, h5, h6⟩ := h4.2.2 cs hr
        refine ⟨e, w'', fr, ?_, h6⟩
        cases e with
        | returned u => exact h5
        | panicked ch => exact h5.elim
        | outgrown => obtain ⟨_, _, h5⟩ := h5; exact h5.elim
      case row r args => exact h4
      case round l f tm asg bo =>
        refine ⟨h4.1, h4.2.1, fun c cs hr => ?_⟩
        obtain ⟨e, w'', h5, h6⟩ := h4.2.2 c cs hr
        refine ⟨e, w'', ?_, h6⟩
        cases e with
        | returned u => exact h5
        | panicked ch => exact h5.elim
        | outgrown => obtain ⟨_, _, h5⟩ := h5; exact h5.elim
    | halt x w' =>
      cases x <;> simp only [Oper.uponIn] at h4
      all_goals exact h4.elim
  · rename_i hw
    rw [if_neg hw] at h
    exact ⟨fun _ _ => hF.fn _, h⟩
theorem FY.op (hF : IsWide F) {G : World → Prop} {i : Nat} {o : Oper} {v : Value} (hi : ops[i]? = some o) {a : Act} {w : World} {K : Act → World → Prop} (hy : FY P ops G o v a) (hw : G w) (h : K (a.put o.dst v) w) : wpOpIn F m P ops Q i K a w := by
  unfold wpOpIn
  simp only [hi]
  rcases hy with ⟨h1, h2, h3⟩ | ⟨h1, rfl⟩
  · rw [if_pos h1]
    refine ⟨fun _ _ => hF.fn _, ?_⟩
    rw [Oper.semAt_eq _ _ _ h2, h3 w hw]
    exact h
  · rw [if_neg (by rw [h1]; simp)]
    exact ⟨fun _ _ => hF.fn _, h⟩
theorem FY.co (hF : IsWide F) {G : World → Prop} {o : Oper} {v : Value} {a : Act} {w : World} {K : Act → World → Prop} (hy : FY P ops G o v a) (hw : G w) (h : K (a.put o.dst v) w) : CO F m P ops o a w K := by
  unfold CO
  rcases hy with ⟨h1, h2, h3⟩ | ⟨h1, rfl⟩
  · rw [if_pos h1]
    refine ⟨fun _ _ => hF.fn _, ?_⟩
    rw [Oper.semAt_eq _ _ _ h2, h3 w hw]
    exact h
  · rw [if_neg (by rw [h1]; simp)]
    exact h

/-- What may come next, at an operation that is ready. -/
def SwapG (F : Fence) (m : Nat) (P : Program) (ops : Array Oper) (G : World → Prop) (kd : Nat → Nat) (Q : Exit → Act → World → Prop) (j : Nat) (l : List Nat) (listed : Array Bool) (a : Act) (w : World) : Prop :=
  ∃ oj, ops[j]? = some oj ∧ ((∃ GG, (kd j = 0 ∧ GG = (fun _ => True) ∨ kd j = 1 ∧ GG = G) ∧ ∃ v, FY P ops GG oj v a ∧ dRun F m P ops G kd Q l (listed.setIfInBounds j true) (a.put oj.dst v) w) ∨
    ((kd j = 2 ∨ kd j = 3) ∧ (∀ c, oj.op ≠ .defer c) ∧ CO F m P ops oj a w (fun a' w' => (kd j = 2 → G w') ∧ dRun F m P ops G kd Q l (listed.setIfInBounds j true) a' w')))
theorem head_ready {listed : Array Bool} {i : Nat} {rest : List Nat} {o : Oper} (hsz : listed.size = ops.size) (ho : ops[i]? = some o) (hl : Un listed i) (hun : ∀ k, Un listed k → k ∈ i :: rest)
    (hdeps : (o.after.all fun e => !Region.binds .any e || (!(i :: rest).contains e.on && decide (e.on < ops.size))) = true) : i ∈ Region.ready .any ops listed :=
  mem_ready.2 ⟨hl, o, ho, fun e he hb => by
    have := Array.all_eq_true_iff_forall_mem.1 hdeps e he
    simp only [hb, Bool.not_true, Bool.false_or, Bool.and_eq_true, decide_eq_true_eq, Bool.not_eq_true'] at this
    have h5 : ¬ Un listed e.on := fun hu => by
      have h7 := hun e.on hu
      have h8 := this.1
      rw [← Bool.not_eq_true, List.contains_iff_mem] at h8
      exact h8 h7
    rw [not_un] at h5
    have h6 : e.on < listed.size := by rw [hsz]; exact this.2
    simp [h6] at h5 ⊢
    exact h5⟩
theorem apart_symm {x y : Oper} (h : x.apart ops y = true) : y.apart ops x = true := by
  obtain ⟨q1, q2, q3⟩ := Oper.apart_spec h
  simp only [Oper.apart, Bool.and_eq_true]
  refine ⟨?_, ?_⟩
  · cases hdj : y.dst with
    | none => rfl
    | some z =>
      simp only [Bool.and_eq_true, Bool.not_eq_true', bne_iff_ne]
      refine ⟨by simpa using q3 z hdj, fun e => q2 z e hdj⟩
  · cases hdo : x.dst with
    | none => rfl
    | some z => simpa using q1 z hdo
theorem swap (hF : IsWide F) (hsel : ∀ (j : Nat) (o : Oper) cs b, ops[j]? = some o → o.op ≠ .select cs b) {reads : List Nat} {j : Nat} :
    ∀ (l : List Nat) (listed : Array Bool) (a : Act) (w : World), listed.size = ops.size → ordB ops kd reads l = true → (∀ k, Un listed k → k ∈ l) → DC ops listed → j ∈ Region.ready .any ops listed →
      dRun F m P ops G kd Q l listed a w → SwapG F m P ops G kd Q j l listed a w
  | [], listed, a, w, _, _, hun, _, hj, _ => by
    have := hun j (mem_ready.1 hj).1
    cases this
  | i :: rest, listed, a, w, hsz, hB, hun, hdc, hj, h => by
    simp only [ordB, Bool.and_eq_true] at hB
    obtain ⟨⟨hni, hmid⟩, hrest⟩ := hB
    have hni' : i ∉ rest := by simpa using hni
    by_cases hl : Un listed i
    · -- the head is not listed yet
      have hsz' : ∀ k, (listed.setIfInBounds k true).size = ops.size := fun k => by simpa using hsz
      simp only [dRun] at h
      rw [if_neg (by rw [← not_un]; exact fun hc => hc hl)] at h
      obtain ⟨o, ho, h⟩ := h
      simp only [ho, Bool.and_eq_true] at hmid
      obtain ⟨⟨hdeps, hfree⟩, hharsh⟩ := hmid
      by_cases hij : j = i
      · subst hij
        refine ⟨o, ho, ?_⟩
        have hc : dRun F m P ops G kd Q (j :: rest) (listed.setIfInBounds j true) = dRun F m P ops G kd Q rest listed := by
          funext a w
          simp only [dRun]
          rw [if_pos (not_un.1 not_un_set)]
          rw [dRun_congr rest (listed := listed.setIfInBounds j true) (listed' := listed) (fun k hk => getD_set_ne true (fun e => hni' (e ▸ hk)))]
        rw [hc]
        rcases h with ⟨hk, v, hy, h⟩ | ⟨hk, v, hy, h⟩ | ⟨hk, hnd, h⟩ | ⟨hk, hnd, h⟩
        · exact .inl ⟨_, .inl ⟨hk, rfl⟩, v, hy, h⟩
        · exact .inl ⟨_, .inr ⟨hk, rfl⟩, v, hy, h⟩
        · exact .inr ⟨.inl hk, hnd, h.mono fun a' w' hw => ⟨fun _ => hw.1, hw.2⟩⟩
        · exact .inr ⟨.inr hk, hnd, h.mono fun a' w' hw => ⟨fun h2 => by omega, hw⟩⟩
      · -- another one comes first
        have hjr : j ∈ rest := by
          have := hun j (mem_ready.1 hj).1
          rcases List.mem_cons.1 this with h' | h'
          · exact absurd h' hij
          · exact h'
        have hfr : ∀ v GG, kd i < 2 → FY P ops GG o v a → dRun F m P ops G kd Q rest listed (a.put o.dst v) w → (kd i = 0 ∧ GG = (fun _ => True) ∨ kd i = 1 ∧ GG = G) → SwapG F m P ops G kd Q j (i :: rest) listed a w := fun v GG hk hy h hkd => by
          obtain ⟨hjun, oj, hoj, hall⟩ := mem_ready.1 hj
          rw [if_pos hk, List.all_eq_true] at hfree
          have hap : o.apart ops oj = true := by
            have h5 := hfree j hjr
            simp only [hoj, Bool.or_eq_true] at h5
            rcases h5 with h5 | h5
            · obtain ⟨e, he, hb⟩ := Array.any_eq_true'.1 h5
              simp only [Bool.and_eq_true, beq_iff_eq] at hb
              have := hall e he hb.1
              rw [hb.2] at this
              have h6 := getD_both hl
              rw [this] at h6; cases h6
            · exact h5
          have hsi : ∀ cs b, o.op ≠ .select cs b := fun cs b => hsel i o cs b ho
          have hsj : ∀ cs b, oj.op ≠ .select cs b := fun cs b => hsel j oj cs b hoj
          obtain ⟨q1, q2, q3⟩ := Oper.apart_spec hap
          have hir := head_ready hsz ho hl hun hdeps
          have h1 : dRun F m P ops G kd Q rest (listed.setIfInBounds i true) (a.put o.dst v) w := by
            rw [dRun_congr rest (listed := listed.setIfInBounds i true) (listed' := listed) (fun k hk => getD_set_ne true (fun e => hni' (e ▸ hk)))]
            exact h
          obtain ⟨oj', hoj', h2⟩ := swap hF hsel rest (listed.setIfInBounds i true) (a.put o.dst v) w (hsz' i) hrest (fun k hk => by
            by_cases hik : i = k
            · subst hik; exact absurd hk not_un_set
            · rw [un_set_ne hik] at hk
              rcases List.mem_cons.1 (hun k hk) with h' | h'
              · exact absurd h'.symm hik
              · exact h') (hdc.set hir) (ready_mono hj hij) h1
          rw [hoj] at hoj'; cases hoj'
          -- the head, behind the other one
          have hhead : ∀ (a' : Act) (w' : World), (∃ u, a'.tmps = (a.put oj.dst u).tmps) → dRun F m P ops G kd Q rest ((listed.setIfInBounds i true).setIfInBounds j true) (a'.put o.dst v) w' → dRun F m P ops G kd Q (i :: rest) (listed.setIfInBounds j true) a' w' := fun a' w' ⟨u, hu⟩ hd => by
            simp only [dRun]
            have hlj : Un (listed.setIfInBounds j true) i := (un_set_ne hij).2 hl
            rw [if_neg (by rw [← not_un]; exact fun hc => hc hlj)]
            have hcg : dRun F m P ops G kd Q rest ((listed.setIfInBounds i true).setIfInBounds j true) = dRun F m P ops G kd Q rest (listed.setIfInBounds j true) := by
              refine dRun_congr rest fun k hk => ?_
              rw [Array.setIfInBounds_comm _ _ (Ne.symm hij)]
              exact getD_set_ne true (fun e : i = k => hni' (e ▸ hk))
            rw [hcg] at hd
            refine ⟨o, ho, ?_⟩
            rcases hkd with ⟨hk0, rfl⟩ | ⟨hk1, rfl⟩
            · exact .inl ⟨hk0, v, hy.put hsi hap hu, hd⟩
            · exact .inr (.inl ⟨hk1, v, hy.put hsi hap hu, hd⟩)
          refine ⟨oj, hoj, ?_⟩
          rcases h2 with ⟨GG', hk', v', hy', hd'⟩ | ⟨hk', hnd', hd'⟩
          · refine .inl ⟨GG', hk', v', ?_, ?_⟩
            · unfold FY at hy' ⊢
              rw [execOp_put oj hsj a o.dst v q1, wanted_put oj a o.dst v q1] at hy'
              exact hy'
            · refine hhead _ _ ⟨v', rfl⟩ ?_
              rw [← Act.put_comm a v v' q2]; exact hd'
          · refine .inr ⟨hk', hnd', (CO.swap hF hap hsj hnd' hd').mono ?_⟩
            rintro a' w' ⟨hu, hg', hd⟩
            exact ⟨hg', hhead a' w' hu hd⟩
        rcases h with ⟨hk, v, hy, h⟩ | ⟨hk, v, hy, h⟩ | ⟨hk, hnd, h⟩ | ⟨hk, hnd, h⟩
        · exact hfr v _ (by omega) hy h (.inl ⟨hk, rfl⟩)
        · exact hfr v _ (by omega) hy h (.inr ⟨hk, rfl⟩)
        · exfalso
          rw [if_neg (by omega)] at hfree
          exact (waits_spec hdc rest [i] hfree (fun k hk => by simp at hk; subst hk; exact hl) j hjr).2 hj
        · exfalso
          rw [if_neg (by omega)] at hfree
          exact (waits_spec hdc rest [i] hfree (fun k hk => by simp at hk; subst hk; exact hl) j hjr).2 hj
    · have hc : ∀ (listed' : Array Bool), listed'.getD i true = true → dRun F m P ops G kd Q (i :: rest) listed' = dRun F m P ops G kd Q rest listed' := fun listed' h' => by
        funext a w; simp only [dRun]; rw [if_pos h']
      rw [hc listed (not_un.1 hl)] at h
      have hij : j ≠ i := fun e => hl (e ▸ (mem_ready.1 hj).1)
      unfold SwapG
      rw [hc (listed.setIfInBounds j true) (by rw [getD_set_ne true hij]; exact not_un.1 hl)]
      exact swap hF hsel rest listed a w hsz hrest (fun k hk => by
        rcases List.mem_cons.1 (hun k hk) with h' | h'
        · exact absurd hk (h' ▸ hl)
        · exact h') hdc hj h

theorem harsh_spec {reads : List Nat} {j : Nat} {listed : Array Bool} (hj : j ∈ Region.ready .any ops listed) (hk : kd j = 3) : ∀ (l : List Nat), j ∈ l → ordB ops kd reads l = true → ∀ k ∈ reads, ¬ Un listed k
  | [], h, _ => by cases h
  | i :: rest, hm, hB => by
    simp only [ordB, Bool.and_eq_true] at hB
    obtain ⟨⟨hni, hmid⟩, hrest⟩ := hB
    rcases List.mem_cons.1 hm with rfl | hm
    · intro k hk1 hu
      obtain ⟨_, o, ho, hall⟩ := mem_ready.1 hj
      simp only [ho, Bool.and_eq_true] at hmid
      have hharsh := hmid.2
      simp only [hk, bne_self_eq_false, Bool.false_or, List.all_eq_true] at hharsh
      obtain ⟨e, he, hb⟩ := Array.any_eq_true'.1 (hharsh k hk1)
      simp only [Bool.and_eq_true, beq_iff_eq] at hb
      have h5 := hall e he hb.1
      rw [hb.2] at h5
      have := getD_both hu
      rw [h5] at this; cases this
    · exact harsh_spec hj hk rest hm hrest

theorem filter_set {listed : Array Bool} {j : Nat} : ∀ (l : List Nat), j ∈ l → l.Nodup → Un listed j → (l.filter fun k => decide (Un (listed.setIfInBounds j true) k)).length + 1 = (l.filter fun k => decide (Un listed k)).length
  | [], h, _, _ => by cases h
  | i :: rest, hm, hnd, hu => by
    obtain ⟨h1, h2⟩ := List.nodup_cons.1 hnd
    by_cases e : i = j
    · subst e
      rw [List.filter_cons, List.filter_cons, if_neg (by simp [not_un_set]), if_pos (by simpa using hu), List.length_cons]
      congr 1
      rw [List.filter_congr (q := fun k => decide (Un listed k)) (fun k hk => by
        have : i ≠ k := fun e => h1 (e ▸ hk)
        rw [decide_eq_decide]; exact un_set_ne this)]
    · have hm' : j ∈ rest := (List.mem_cons.1 hm).resolve_left (fun e' => e e'.symm)
      have ih := filter_set (listed := listed) rest hm' h2 hu
      rw [List.filter_cons, List.filter_cons]
      by_cases hi : Un listed i
      · rw [if_pos (by simpa using (un_set_ne (Ne.symm e)).2 hi), if_pos (by simpa using hi), List.length_cons, List.length_cons]; omega
      · rw [if_neg (by simpa using fun h => hi ((un_set_ne (Ne.symm e)).1 h)), if_neg (by simpa using hi)]; exact ih

theorem ord_nodup {reads : List Nat} : ∀ (l : List Nat), ordB ops kd reads l = true → l.Nodup
  | [], _ => List.nodup_nil
  | i :: rest, hB => by
    simp only [ordB, Bool.and_eq_true] at hB
    exact List.nodup_cons.2 ⟨by simpa using hB.1.1, ord_nodup rest hB.2⟩

theorem dRun_any (hF : IsWide F) (hsel : ∀ (j : Nat) (o : Oper) cs b, ops[j]? = some o → o.op ≠ .select cs b) {reads : List Nat} (hreads : ∀ k, k < ops.size → kd k = 1 → k ∈ reads) {l : List Nat} (hB : ordB ops kd reads l = true) (hlt : ∀ k ∈ l, k < ops.size) :
    ∀ (f : Nat) (listed : Array Bool) (a : Act) (w : World), (l.filter fun k => decide (Un listed k)).length = f → listed.size = ops.size → (∀ k, Un listed k → k ∈ l) → DC ops listed → (G w ∨ ∀ k ∈ reads, ¬ Un listed k) →
      dRun F m P ops G kd Q l listed a w → wpAnyIn F m P .any ops Q f listed a w
  | 0, listed, a, w, hf, hsz, hun, hdc, hg, h => by
    have hall : ∀ k ∈ l, ¬ Un listed k := fun k hk hu => by
      have : k ∈ l.filter fun k => decide (Un listed k) := List.mem_filter.2 ⟨hk, by simpa using hu⟩
      rw [List.eq_nil_of_length_eq_zero hf] at this
      cases this
    refine ⟨List.eq_nil_iff_forall_not_mem.2 fun j hj => hall j (hun j (mem_ready.1 hj).1) (mem_ready.1 hj).1, ?_⟩
    have : ∀ (l' : List Nat), (∀ k ∈ l', ¬ Un listed k) → dRun F m P ops G kd Q l' listed a w → Q .normal a w := fun l' => by
      induction l' with
      | nil => exact fun _ h => h
      | cons i rest ih =>
        intro h1 h2
        simp only [dRun] at h2
        rw [if_pos (not_un.1 (h1 i (by simp)))] at h2
        exact ih (fun k hk => h1 k (by simp [hk])) h2
    exact this l hall h
  | f + 1, listed, a, w, hf, hsz, hun, hdc, hg, h => by
    refine ⟨fun h0 => ?_, fun j hj => ?_⟩
    · -- somebody is ready
      exfalso
      have : ∀ (l' : List Nat), ordB ops kd reads l' = true → (∀ k, Un listed k → k ∈ l') → (l'.filter fun k => decide (Un listed k)) ≠ [] → ∃ j, j ∈ Region.ready .any ops listed := fun l' => by
        induction l' with
        | nil => exact fun _ _ h => absurd rfl h
        | cons i rest ih =>
          intro h1 h2 h3
          simp only [ordB, Bool.and_eq_true] at h1
          by_cases hi : Un listed i
          · cases ho : ops[i]? with
            | none => simp [ho] at h1
            | some o =>
              simp only [ho, Bool.and_eq_true] at h1
              exact ⟨i, head_ready hsz ho hi h2 h1.1.2.1.1⟩
          · refine ih h1.2 (fun k hk => ?_) (by rw [List.filter_cons, if_neg (by simpa using hi)] at h3; exact h3)
            rcases List.mem_cons.1 (h2 k hk) with rfl | h'
            · exact absurd hk hi
            · exact h'
      obtain ⟨j, hj⟩ := this l hB hun (fun e => by rw [e] at hf; simp at hf)
      rw [h0] at hj; cases hj
    · have hju := (mem_ready.1 hj).1
      have hjl := hun j hju
      have hcount : (l.filter fun k => decide (Un (listed.setIfInBounds j true) k)).length = f := by have := filter_set (listed := listed) l hjl (ord_nodup l hB) hju; omega
      have hsz' : (listed.setIfInBounds j true).size = ops.size := by simpa using hsz
      have hun' : ∀ k, Un (listed.setIfInBounds j true) k → k ∈ l := fun k hk => by
        by_cases e : j = k
        · subst e; exact hjl
        · exact hun k ((un_set_ne e).1 hk)
      have hkeep : (∀ k ∈ reads, ¬ Un listed k) → ∀ k ∈ reads, ¬ Un (listed.setIfInBounds j true) k := fun h5 k hk hu => by
        by_cases e : j = k
        · subst e; exact not_un_set hu
        · exact h5 k hk ((un_set_ne e).1 hu)
      have go := fun a' w' hg' h' => dRun_any hF hsel hreads hB hlt f (listed.setIfInBounds j true) a' w' hcount hsz' hun' (hdc.set hj) hg' h'
      obtain ⟨oj, hoj, h2⟩ := swap hF hsel l listed a w hsz hB hun hdc hj h
      rcases h2 with ⟨GG, hk, v, hy, hd⟩ | ⟨hk, hnd, hd⟩
      · rcases hk with ⟨hk, rfl⟩ | ⟨hk, rfl⟩
        · exact hy.op hF hoj trivial (go _ _ (hg.imp id hkeep) hd)
        · have hgw : GG w := hg.elim id (fun h5 => absurd hju (h5 j (hreads j (hlt j hjl) hk)))
          exact hy.op hF hoj hgw (go _ _ (.inl hgw) hd)
      · refine (hd.mono ?_).op hF hoj
        rintro a' w' ⟨hg', hd'⟩
        refine go a' w' ?_ hd'
        rcases hk with hk | hk
        · exact .inl (hg' hk)
        · exact .inr (hkeep (harsh_spec hj hk l hjl hB))

/-- The static test of an order. -/
def drawB (ops : Array Oper) (kd : Nat → Nat) (ord : List Nat) : Bool :=
  Region.noSelect ops && (ord.length == ops.size) && (List.range ops.size).all (fun k => ord.contains k) && ord.all (fun k => decide (k < ops.size)) && ordB ops kd ((List.range ops.size).filter fun k => kd k == 1) ord
/-- **A DRAWN REGION, in an order that is given.** -/
theorem wpIn_drawn (hF : IsWide F) {id : Nat} {a : Act} {w : World} {l : List Oper} (ord : List Nat) (hm : P.follows .mixedOrders = true) (hB : drawB l.toArray kd ord = true) (hG : G w.drew)
    (h : dRun F m P l.toArray G kd Q ord (Array.replicate l.length false) a w.drew) : (Code.region id l.toArray true).wpIn F m P Q a w := by
  simp only [drawB, Bool.and_eq_true, beq_iff_eq, List.all_eq_true, List.contains_iff_mem, List.mem_range, decide_eq_true_eq] at hB
  obtain ⟨⟨⟨⟨h1, h2⟩, h3⟩, h4⟩, h5⟩ := hB
  refine wpIn_region_any hm ?_
  have hu0 : ∀ k, k < l.length → Un (Array.replicate l.length false) k := fun k hk => by unfold Un; simp [hk]
  have hu1 : ∀ k, Un (Array.replicate l.length false) k → k < l.length := fun k hk => by
    rcases Nat.lt_or_ge k l.length with h' | h'
    · exact h'
    · unfold Un at hk; simp [Array.getElem?_eq_none (show (Array.replicate l.length false).size ≤ k by simpa using h')] at hk
  refine dRun_any hF (Region.noSelect_spec h1) (fun k hk hk1 => List.mem_filter.2 ⟨List.mem_range.2 hk, by simpa using hk1⟩) h5 (fun k hk => h4 k hk) _ _ a _ ?_ (by simp) (fun k hk => h3 k (by simpa using hu1 k hk)) ?_ (.inl hG) h
  · rw [List.filter_eq_self.2 (fun k hk => by simpa using hu0 k (by simpa using h4 k hk))]; exact h2
  · intro j oj hj hn
    exact absurd (hu0 j (by simpa using (Array.getElem?_eq_some_iff.1 hj).1)) hn
end
end Go.Proofs.Ytinofjenoapeaaa
