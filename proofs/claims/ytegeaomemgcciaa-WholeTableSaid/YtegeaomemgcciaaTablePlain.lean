/- Which level implies which, plainly. -/
import Derived.Test.YtegeaomemgcciaaQx1
import Derived.Test.YtegeaomemgcciaaLevelHand
namespace Go.Proofs.Ytegeaomemgcciaa.Table
open Go Go.RowKit Go.Proofs.Ytegeaomemgcciaa Go.Proofs.Ytegeaomemgcciaa.Hand Go.Proofs.Ytegeaomemgcciaa.Q Go.Proofs.YtegeaomemgcciaaW.PrintWords

/-- Does one level imply another one? -/
def impl (x y : Nat) : Bool := table_Implies.f 3 (x : Int) (y : Int) == some true
theorem impl_f : ∀ x, x < 12 → ∀ y, y < 12 → table_Implies.f 3 ((x : Nat) : Int) ((y : Nat) : Int) = some (impl x y) := by decide +kernel
theorem impl_any (x y : Nat) (hx : x < 12) (hy : y < 12) (w : World) : Calls Try.prog 18 #[.int .i64 (x : Int), .int .i64 (y : Int)] w fun e w' => e = .returned (.bool (impl x y)) ∧ Below w.heap.size w w' :=
  table_Implies.calls 3 x y _ w (impl_f x hx y hy)
/-- What closed asks are. -/
def closedOf (x : Nat) : Int := (level_Closed.f 3 (Level.asksOf x)).getD 0
theorem closed_f : ∀ x, x < 12 → level_Closed.f 3 (Level.asksOf ((x : Nat) : Int)) = some (closedOf x) := by decide +kernel

/-- Which levels some of these imply. -/
def below (l : List Nat) (b : Nat) : Bool := l.any fun a => impl a b
def rowB (l : List Nat) : List Bool := (List.range 12).map (below l)
/-- .. in the midst of a round. -/
def rowIn (l : List Nat) (a : Nat) (b : Nat) : List Bool := (List.range 12).map fun j => below l j || (decide (j < b) && impl a j)
def boolsV (l : List Bool) : Array Value := (l.map Value.bool).toArray


theorem rowIn_zero (l : List Nat) (a : Nat) : rowIn l a 0 = rowB l := by
  unfold rowIn rowB
  simp
theorem rowIn_get (l : List Nat) (a b : Nat) (hb : b < 12) : (boolsV (rowIn l a b))[b]? = some (.bool (below l b)) := by
  unfold boolsV rowIn
  simp [hb]
theorem rowIn_set (l : List Nat) (a b : Nat) (_ : b < 12) : (boolsV (rowIn l a b)).setIfInBounds b (.bool (below l b || impl a b)) = boolsV (rowIn l a (b + 1)) := by
  unfold boolsV rowIn
  apply Array.ext'
  simp only [Array.toList_setIfInBounds, List.map_map]
  apply List.ext_getElem
  · simp
  · intro i h1 h2
    simp only [List.length_map, List.length_range] at h2
    rw [List.getElem_set]
    split
    · rename_i h; subst h; simp
    · rename_i h
      simp only [List.getElem_map, List.getElem_range, Function.comp]
      congr 2
      by_cases hi : i < b
      · rw [decide_eq_true hi, decide_eq_true (by omega)]
      · rw [decide_eq_false hi, decide_eq_false (by omega)]
theorem rowIn_all (l : List Nat) (a : Nat) : rowIn l a 12 = rowB (l ++ [a]) := by
  unfold rowIn rowB
  apply List.map_congr_left
  intro j hj
  rw [List.mem_range] at hj
  unfold below
  simp [hj]
theorem boolsV_size (l : List Bool) : (boolsV l).size = l.length := by simp [boolsV]

end Go.Proofs.Ytegeaomemgcciaa.Table
