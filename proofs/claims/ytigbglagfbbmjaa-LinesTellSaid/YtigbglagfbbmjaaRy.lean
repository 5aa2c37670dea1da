/- Reaches held against each other. No condition. -/
import Derived.Test.YtigbglagfbbmjaaLi3
namespace Go.Proofs.Ytigbglagfbbmjaa
open Go.RowKit Go.Shelf
set_option linter.unusedSimpArgs false
set_option linter.unusedVariables false
namespace Li
theorem run_equal_rch (w : World) (x y : Rch) : (Op.equalIn 10000 101 x.v y.v).run Try.prog w = .ok (x.tl == y.tl && (x.fr == y.fr && x.to == y.to)) w := by
  have hu : Try.prog.underlying 101 = some (.struct (Try.prog.fieldsOf 101)) := by kernel_rfl
  rw [Rch.v, Rch.v, run_equalIn_struct w 9999 101 _ _ hu (by kernel_rfl)]
  unfold Program.fieldsOf
  rw [Try.underlying101]
  have h1 : ∀ (z : Int) (cs : Array Value) (k : Nat), cs[k]? = some (.int .i64 z) → (part 3 cs k).run Try.prog w = .ok (.int .i64 z) w := fun z cs k h => by
    simp [part, isAgg, run_underlying Try.underlying3, h]
  have h2 : ∀ a b c : Int, (part 3 #[.int .i64 a, .int .i64 b, .int .i64 c] 0).run Try.prog w = .ok (.int .i64 a) w := fun a b c => h1 a _ 0 rfl
  have h3 : ∀ a b c : Int, (part 3 #[.int .i64 a, .int .i64 b, .int .i64 c] 1).run Try.prog w = .ok (.int .i64 b) w := fun a b c => h1 b _ 1 rfl
  have h4 : ∀ a b c : Int, (part 3 #[.int .i64 a, .int .i64 b, .int .i64 c] 2).run Try.prog w = .ok (.int .i64 c) w := fun a b c => h1 c _ 2 rfl
  have h5 : ∀ a b : Int, (Op.equalIn 9999 3 (.int .i64 a) (.int .i64 b)).run Try.prog w = .ok (a == b) w := fun a b => run_equalIn_int w 9998 3 .i64 .i64 a b Try.underlying3
  simp only [Op.eqFields, Sem.run_bind, ne_eq, String.reduceEq, not_false_eq_true, if_true, h2, h3, h4, h5, Result.andThen_ok]
  cases hx : (x.tl == y.tl)
  · simp
  cases hy : (x.fr == y.fr)
  · simp [h3, h5, hy, Op.eqFields]
  cases hz : (x.to == y.to)
  · simp [h3, h4, h5, hy, hz, Op.eqFields]
  · simp [h3, h4, h5, hy, hz, Op.eqFields]
section
variable {G : World → Prop} {n : Nat} {l : List (Nat × Value)} {d : List Deferred} {o : Oper}
def rchEq (x y : Rch) : Bool := x.tl == y.tl && (x.fr == y.fr && x.to == y.to)
theorem yl_eql_rch {x y : Operand} {T2 : TypeId} {r s : Rch} {e : Bool} (he : rchEq r s = e) (ho : o.op = .binOp .eql 101 x y T2) (hx : ev l x = some r.v) (hy : ev l y = some s.v) : Yl Try.prog G n l d o (.bool e) := ⟨(fun c => by rw [ho]; exact (fun h => by cases h)), (fun a w ha hw => by
  subst he
  have hg := run_eqGuard_agg (P := Try.prog) w .eql 101 x y #[.int .i64 r.tl, .int .i64 r.fr, .int .i64 r.to] #[.int .i64 s.tl, .int .i64 s.fr, .int .i64 s.to] (by kernel_rfl)
  have hr : (binOp .eql 101 r.v s.v).run Try.prog w = .ok (.bool (rchEq r s)) w := by
    rw [Rch.v, Rch.v, run_eql_struct, show (Op.equalIn 10000 101 (.agg #[.int .i64 r.tl, .int .i64 r.fr, .int .i64 r.to]) (.agg #[.int .i64 s.tl, .int .i64 s.fr, .int .i64 s.to])).run Try.prog w = _ from run_equal_rch w r s]; rfl
  simp [execOp, ho, ha.eval hx, ha.eval hy, Sem.run_bind, hg, hr, Result.andThen])⟩
theorem yl_neq_rch {x y : Operand} {T2 : TypeId} {r s : Rch} {e : Bool} (he : (!rchEq r s) = e) (ho : o.op = .binOp .neq 101 x y T2) (hx : ev l x = some r.v) (hy : ev l y = some s.v) : Yl Try.prog G n l d o (.bool e) := ⟨(fun c => by rw [ho]; exact (fun h => by cases h)), (fun a w ha hw => by
  subst he
  have hg := run_eqGuard_agg (P := Try.prog) w .neq 101 x y #[.int .i64 r.tl, .int .i64 r.fr, .int .i64 r.to] #[.int .i64 s.tl, .int .i64 s.fr, .int .i64 s.to] (by kernel_rfl)
  have hr : (binOp .neq 101 r.v s.v).run Try.prog w = .ok (.bool (!rchEq r s)) w := by
    rw [Rch.v, Rch.v, run_neq_struct, show (Op.equalIn 10000 101 (.agg #[.int .i64 r.tl, .int .i64 r.fr, .int .i64 r.to]) (.agg #[.int .i64 s.tl, .int .i64 s.fr, .int .i64 s.to])).run Try.prog w = _ from run_equal_rch w r s]; rfl
  simp [execOp, ho, ha.eval hx, ha.eval hy, Sem.run_bind, hg, hr, Result.andThen])⟩
end
end Li
end Go.Proofs.Ytigbglagfbbmjaa
