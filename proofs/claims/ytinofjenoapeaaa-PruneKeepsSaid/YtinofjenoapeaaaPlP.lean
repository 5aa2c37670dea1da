/- A plan as a plain function, and where there is one. No condition. -/
import Derived.Test.YtinofjenoapeaaaReP
import Derived.Test.YtinofjenoapeaaaChnP
import Derived.Test.YtinofjenoapeaaaPl1
namespace Go.Proofs.Ytinofjenoapeaaa
open Go.RowKit Go.Shelf
set_option linter.unusedSimpArgs false
set_option linter.unusedVariables false
namespace Pl
open Li
/-- One part more is covered, where those ahead were: segments, limits, is it there. -/
def covStep (L : List It2) (s : List Int × List Int × Bool) (u fr to : Int) : List Int × List Int × Bool :=
  if s.2.2 then (s.1 ++ (Re.cover L u fr to).getD [], s.2.1 ++ List.replicate ((Re.cover L u fr to).getD []).length to, (Re.cover L u fr to).isSome) else s
/-- What the i-th part of a way gives, with a backup from which it begins. -/
def planAt (L : List It2) (P : List Prt) (i : Nat) (x : Prt) (b : It2) : List Int × List Int × Bool :=
  (P.take i).reverse.foldl (fun s y => covStep L s y.u y.fr y.to) (covStep L ([], [], true) x.u b.a x.to)
/-- The backup, the segments, their limits: of the first part that has a backup. -/
def findI (L : List It2) (P : List Prt) (i : Nat) : Option (It2 × List Int × List Int) :=
  if h : i < P.length then
    if (Chn.bestOf L P[i].u P[i].fr P[i].to).2 then
      (if (planAt L P i P[i] (Chn.bestOf L P[i].u P[i].fr P[i].to).1).2.2 then some ((Chn.bestOf L P[i].u P[i].fr P[i].to).1, (planAt L P i P[i] (Chn.bestOf L P[i].u P[i].fr P[i].to).1).1, (planAt L P i P[i] (Chn.bestOf L P[i].u P[i].fr P[i].to).1).2.1) else none)
    else findI L P (i + 1)
  else none
termination_by P.length - i
def findP (L : List It2) (t n : Int) : Option (It2 × List Int × List Int) := if n < 0 ∨ knownL L t = false then none else findI L (wayU L t n) 0
theorem known_pos {L : List It2} {t : Int} (h : knownL L t = true) : 1 ≤ t := by
  by_cases h1 : 1 < t
  · omega
  · rw [knownL_le h1] at h; simp at h; omega
theorem best_found {L : List It2} {t least most : Int} {x : It2} (hx : x ∈ L) (hb : Chn.backupsB L t most x = true) (hl : least ≤ x.a) : (Chn.bestOf L t least most).2 = true ∧ (Chn.bestOf L t least most).1 ∈ L ∧ Chn.backupsB L t most (Chn.bestOf L t least most).1 = true ∧ x.a ≤ (Chn.bestOf L t least most).1.a := by
  have hm : x ∈ L.filter (Chn.backupsB L t most) := List.mem_filter.2 ⟨hx, hb⟩
  have hg := (Chn.best_ge least (L.filter (Chn.backupsB L t most)) (zIt2, false)).1 x hm hl
  rcases Chn.best_spec least (L.filter (Chn.backupsB L t most)) (zIt2, false) with ⟨_, h2⟩ | ⟨h1, h2, h3⟩
  · exact absurd hl (h2 rfl x hm)
  · obtain ⟨h4, h5⟩ := List.mem_filter.1 h2
    exact ⟨h1, h4, h5, hg⟩
/-- What covers from a backup's A makes all pairs from its stop on retained. -/
theorem find_holds {L : List It2} {x : It2} {n : Int} (hid : Chn.byId L x.id = some x) (hch : (Chn.chainOf L x.id).isSome = true) (hk : knownL L x.tl = true) (hn0 : 0 ≤ n) (hfr : (parentP L x.tl).2.1 ≤ x.a) (h1 : x.b ≤ n) (h2 : n ≤ Re.last L x.tl x.a) : (findP L x.tl n).isSome = true := by
  have ht := known_pos hk
  have hxL := (Chn.byId_spec hid).1
  have hbx : Chn.backB x = true := by
    unfold Chn.chainOf at hch
    split at hch
    · rename_i h
      unfold Chn.atOk Chn.atX at h
      rw [hid] at h
      simpa using h
    · simp at hch
  have hbb : Chn.backupsB L x.tl n x = true := by
    unfold Chn.backupsB; rw [hbx, hch]; simp [h1]
  obtain ⟨g1, g2, g3, g4⟩ := best_found (least := min (parentP L x.tl).2.1 n) hxL hbb (by omega)
  unfold findP
  rw [if_neg (by rw [hk]; simp; omega)]
  have hw : wayU L x.tl n = ⟨x.tl, min (parentP L x.tl).2.1 n, n⟩ :: wayU L (parentP L x.tl).1 (min (parentP L x.tl).2.1 n) := by rw [wayU, dif_pos ht]
  obtain ⟨P, hP⟩ : ∃ P, wayU L (parentP L x.tl).1 (min (parentP L x.tl).2.1 n) = P := ⟨_, rfl⟩
  rw [hw, hP, findI, dif_pos (by simp)]
  simp only [List.getElem_cons_zero]
  rw [if_pos g1]
  obtain ⟨y, hy⟩ : ∃ y, (Chn.bestOf L x.tl (min (parentP L x.tl).2.1 n) n).1 = y := ⟨_, rfl⟩
  rw [hy] at g2 g3 g4 ⊢
  have hya : y.a ≤ n := by
    simp [Chn.backupsB, Chn.backB] at g3
    omega
  have hl := Re.last_later L x.tl x.a y.a g4 (by omega)
  have hc := (Re.cover_iff L x.tl _ y.a n (Nat.le_refl _)).2 (by omega)
  have hp : (planAt L (⟨x.tl, min (parentP L x.tl).2.1 n, n⟩ :: P) 0 ⟨x.tl, min (parentP L x.tl).2.1 n, n⟩ y).2.2 = true := by
    unfold planAt covStep; simpa using hc
  rw [if_pos hp]; rfl
end Pl
end Go.Proofs.Ytinofjenoapeaaa
