/- api.Item as Lean data. No condition. -/
import Derived.Test.YtigbglagfbbmjaaKeepItem
namespace Go.Proofs.Ytigbglagfbbmjaa
open Go.RowKit Go.Shelf
set_option linter.unusedSimpArgs false
set_option linter.unusedVariables false

structure Itm where
  id : Int
  kind : Int
  tl : Int
  num : Int
  a : Int
  b : Int
  par : Int
  len : Int
  ext : Value

/-- An item as a value. -/
abbrev Itm.v (x : Itm) : Value := .agg #[.int .i64 x.id, .int .i64 x.kind, .int .i64 x.tl, .int .i64 x.num, .int .i64 x.a, .int .i64 x.b, .int .i64 x.par, .int .i64 x.len, x.ext]
def zItm : Itm := ⟨0, 0, 0, 0, 0, 0, 0, 0, .slice none 0 0⟩
def intAt (cs : Array Value) (i : Nat) : Int := match cs[i]? with | some (.int _ n) => n | _ => 0
def toItm (v : Value) : Itm := ⟨intAt (cv v) 0, intAt (cv v) 1, intAt (cv v) 2, intAt (cv v) 3, intAt (cv v) 4, intAt (cv v) 5, intAt (cv v) 6, intAt (cv v) 7, (cv v)[8]?.getD undef⟩
@[simp] theorem toItm_v (x : Itm) : toItm x.v = x := rfl
/-- Its extents are a slice value. -/
def Itm.ok (x : Itm) : Prop := ∃ A n c, x.ext = .slice A n c
theorem vof_item (x : Itm) (h : x.ok) : VOf Try.prog 35 x.v := by
  obtain ⟨A, n, c, e⟩ := h
  refine ⟨?_, by rw [show (cv x.v).size = 9 from rfl]; kernel_rfl, .inl ⟨_, Try.underlying35, rfl, rfl⟩⟩
  show (#[Value.int .i64 x.id, .int .i64 x.kind, .int .i64 x.tl, .int .i64 x.num, .int .i64 x.a, .int .i64 x.b, .int .i64 x.par, .int .i64 x.len, x.ext] : Array Value).all (·.oneCell') = true
  rw [e]; simp [Value.oneCell']
theorem zItm_ok : zItm.ok := ⟨_, _, _, rfl⟩

/-- The slice value sv holds the items L in w. -/
structure Items (w : World) (sv : Value) (L : List Itm) : Prop where
  at_ : SliceAt w 9 sv (L.map Itm.v)
  ok : ∀ x ∈ L, x.ok
  small : L.length * 88 ≤ 140737488355328
theorem Items.vof {w : World} {sv : Value} {L : List Itm} (h : Items w sv L) : ∀ v ∈ L.map Itm.v, VOf Try.prog 35 v := fun v hv => by
  obtain ⟨x, hx, rfl⟩ := List.mem_map.1 hv
  exact vof_item x (h.ok x hx)
theorem Items.later {w w' : World} {sv : Value} {L : List Itm} (h : Items w sv L) (hb : Below w.heap.size w w') : Items w' sv L :=
  ⟨by
    obtain ⟨A, c, rfl, hc, hA, hx⟩ := h.at_
    refine ⟨A, c, rfl, hc, hA, fun i x hi => ?_⟩
    obtain ⟨b, o, rfl, hr⟩ := hx i x hi
    exact ⟨b, o, rfl, fun j u hu => (hb.cell (World.block_lt_of_cell? w _ (hr j u hu))).trans (hr j u hu)⟩, h.ok, h.small⟩
theorem Items.size {w : World} {sv : Value} {L : List Itm} (h : Items w sv L) : (L.map Itm.v).length * 88 ≤ 140737488355328 := by simpa using h.small

theorem find_items (L : List Itm) (p : Itm → Bool) : (L.map Itm.v).find? (fun v => p (toItm v)) = (L.find? p).map Itm.v := by
  rw [List.find?_map]; congr 1
theorem filter_items (L : List Itm) (p : Itm → Bool) : (L.map Itm.v).filter (fun v => p (toItm v)) = (L.filter p).map Itm.v := by
  rw [List.filter_map]; congr 1
theorem getD_items (o : Option Itm) : (o.map Itm.v).getD (zItm.v) = (o.getD zItm).v := by cases o <;> rfl

end Go.Proofs.Ytigbglagfbbmjaa
