/- Levels: what each asks, what each is called. -/
import Derived.Test.YtegeaomemgcciaaProg
import Derived.Below
import Derived.Deep.Draws
import Derived.OwnWalk
import Derived.WalkKit
import Derived.KernelRfl
import Derived.Deep.QuietTactic
import Derived.BigQuiet
import Derived.RowKit3
import Derived.RowKit
import Derived.Outline
import Derived.Test.YtegeaomemgcciaaWWords
import Derived.Test.YtegeaomemgcciaaWMore
import Derived.Lib.Hide
import Derived.Lib.Builder
import Derived.Deep.RegionHeld3
namespace Go.Proofs.Ytegeaomemgcciaa.Level
open Go Go.RowKit Go.Proofs.Ytegeaomemgcciaa Go.Proofs.YtegeaomemgcciaaW.PrintWords
theorem alloc_at (w : World) (o : Obj) : (w.alloc o).heap[w.heap.size]? = some o := by
  show (w.heap.push o)[w.heap.size]? = some o
  exact Array.getElem?_push_size
theorem alloc_cell (w : World) (cs : Array Value) (t : TypeId) (i : Nat) (v : Value) (h : cs[i]? = some v) : (w.alloc (.cells cs t)).cell? ⟨w.heap.size, i, none⟩ = some v := by
  rw [Lib.cell_of_heap (alloc_at w _)]; exact h

set_option maxHeartbeats 1000000 in
set_option maxRecDepth 100000 in
theorem asks_calls (w : World) : Calls Try.prog 48 #[] w fun e w' => e = .returned (.agg #[.int .i64 0, .int .i64 1, .int .i64 3, .int .i64 9, .int .i64 5, .int .i64 11, .int .i64 13, .int .i64 17, .int .i64 34, .int .i64 36, .int .i64 44, .int .i64 48]) ∧ Below w.heap.size w w' := by
  go_enter Try.func48, Try.ntmps48
  go_wp2_with fail
  refine bodyPost_ret (results_cell_row rfl _ _ w.heap.size 84 _ (0, 0) _ rfl (alloc_at w _) Try.underlying84 rfl (by kernel_rfl)) rfl ?_
  exact ⟨rfl, (Below.refl _ _).alloc (Nat.le_refl _) _⟩

theorem is_calls (l : Int) (w : World) : Calls Try.prog 17 #[.int .i64 l] w fun e w' => e = .returned (.bool (decide (0 ≤ l) && decide (l < 12))) ∧ Below w.heap.size w w' := by
  by_cases h0 : 0 ≤ l
  · have h0' : l ≥ 0 := h0
    go_enter Try.func17, Try.ntmps17
    go_wp2_with fail
    go_ret
    exact ⟨by simp [*], Below.refl _ _⟩
  · have h0' : ¬ l ≥ 0 := h0
    go_enter Try.func17, Try.ntmps17
    go_wp2_with fail
    go_ret
    exact ⟨by simp; omega, Below.refl _ _⟩

/-- What each level asks. -/
def asksL : List Int := [0, 1, 3, 9, 5, 11, 13, 17, 34, 36, 44, 48]
def asksOf (l : Int) : Int := if 0 ≤ l ∧ l < 12 then asksL.getD l.toNat 0 else 0

set_option maxHeartbeats 1000000 in
set_option maxRecDepth 100000 in
theorem asksOf_calls (l : Int) (w : World) : Calls Try.prog 21 #[.int .i64 l] w fun e w' => e = .returned (.int .i64 (asksOf l)) ∧ Below w.heap.size w w' := by
  by_cases h : 0 ≤ l ∧ l < 12
  · have hc := is_calls l w
    rw [show (decide (0 ≤ l) && decide (l < 12)) = true by simp [h]] at hc
    have hl : l = 0 ∨ l = 1 ∨ l = 2 ∨ l = 3 ∨ l = 4 ∨ l = 5 ∨ l = 6 ∨ l = 7 ∨ l = 8 ∨ l = 9 ∨ l = 10 ∨ l = 11 := by omega
    clear h
    rcases hl with rfl | rfl | rfl | rfl | rfl | rfl | rfl | rfl | rfl | rfl | rfl | rfl
    · have ix : ∀ w : World, (Instr.index 84 (.agg #[.int .i64 0, .int .i64 1, .int .i64 3, .int .i64 9, .int .i64 5, .int .i64 11, .int .i64 13, .int .i64 17, .int .i64 34, .int .i64 36, .int .i64 44, .int .i64 48]) (.int .i64 0)).run Try.prog w = .ok (.int .i64 0) w := fun _ => by kernel_rfl
      go_enter Try.func21, Try.ntmps21
      go_wp2_with fail
      refine hc.mono ?_
      rintro e w1 ⟨rfl, b1⟩
      go_wp2_with fail
      refine (asks_calls _).mono ?_
      rintro e w2 ⟨rfl, b2⟩
      go_wp2_with fail
      go_ret
      exact ⟨rfl, b1.trans (b2.mono b1.size)⟩
    · have ix : ∀ w : World, (Instr.index 84 (.agg #[.int .i64 0, .int .i64 1, .int .i64 3, .int .i64 9, .int .i64 5, .int .i64 11, .int .i64 13, .int .i64 17, .int .i64 34, .int .i64 36, .int .i64 44, .int .i64 48]) (.int .i64 1)).run Try.prog w = .ok (.int .i64 1) w := fun _ => by kernel_rfl
      go_enter Try.func21, Try.ntmps21
      go_wp2_with fail
      refine hc.mono ?_
      rintro e w1 ⟨rfl, b1⟩
      go_wp2_with fail
      refine (asks_calls _).mono ?_
      rintro e w2 ⟨rfl, b2⟩
      go_wp2_with fail
      go_ret
      exact ⟨rfl, b1.trans (b2.mono b1.size)⟩
    · have ix : ∀ w : World, (Instr.index 84 (.agg #[.int .i64 0, .int .i64 1, .int .i64 3, .int .i64 9, .int .i64 5, .int .i64 11, .int .i64 13, .int .i64 17, .int .i64 34, .int .i64 36, .int .i64 44, .int .i64 48]) (.int .i64 2)).run Try.prog w = .ok (.int .i64 3) w := fun _ => by kernel_rfl
      go_enter Try.func21, Try.ntmps21
      go_wp2_with fail
      refine hc.mono ?_
      rintro e w1 ⟨rfl, b1⟩
      go_wp2_with fail
      refine (asks_calls _).mono ?_
      rintro e w2 ⟨rfl, b2⟩
      go_wp2_with fail
      go_ret
      exact ⟨rfl, b1.trans (b2.mono b1.size)⟩
    · have ix : ∀ w : World, (Instr.index 84 (.agg #[.int .i64 0, .int .i64 1, .int .i64 3, .int .i64 9, .int .i64 5, .int .i64 11, .int .i64 13, .int .i64 17, .int .i64 34, .int .i64 36, .int .i64 44, .int .i64 48]) (.int .i64 3)).run Try.prog w = .ok (.int .i64 9) w := fun _ => by kernel_rfl
      go_enter Try.func21, Try.ntmps21
      go_wp2_with fail
      refine hc.mono ?_
      rintro e w1 ⟨rfl, b1⟩
      go_wp2_with fail
      refine (asks_calls _).mono ?_
      rintro e w2 ⟨rfl, b2⟩
      go_wp2_with fail
      go_ret
      exact ⟨rfl, b1.trans (b2.mono b1.size)⟩
    · have ix : ∀ w : World, (Instr.index 84 (.agg #[.int .i64 0, .int .i64 1, .int .i64 3, .int .i64 9, .int .i64 5, .int .i64 11, .int .i64 13, .int .i64 17, .int .i64 34, .int .i64 36, .int .i64 44, .int .i64 48]) (.int .i64 4)).run Try.prog w = .ok (.int .i64 5) w := fun _ => by kernel_rfl
      go_enter Try.func21, Try.ntmps21
      go_wp2_with fail
      refine hc.mono ?_
      rintro e w1 ⟨rfl, b1⟩
      go_wp2_with fail
      refine (asks_calls _).mono ?_
      rintro e w2 ⟨rfl, b2⟩
      go_wp2_with fail
      go_ret
      exact ⟨rfl, b1.trans (b2.mono b1.size)⟩
    · have ix : ∀ w : World, (Instr.index 84 (.agg #[.int .i64 0, .int .i64 1, .int .i64 3, .int .i64 9, .int .i64 5, .int .i64 11, .int .i64 13, .int .i64 17, .int .i64 34, .int .i64 36, .int .i64 44, .int .i64 48]) (.int .i64 5)).run Try.prog w = .ok (.int .i64 11) w := fun _ => by kernel_rfl
      go_enter Try.func21, Try.ntmps21
      go_wp2_with fail
      refine hc.mono ?_
      rintro e w1 ⟨rfl, b1⟩
      go_wp2_with fail
      refine (asks_calls _).mono ?_
      rintro e w2 ⟨rfl, b2⟩
      go_wp2_with fail
      go_ret
      exact ⟨rfl, b1.trans (b2.mono b1.size)⟩
    · have ix : ∀ w : World, (Instr.index 84 (.agg #[.int .i64 0, .int .i64 1, .int .i64 3, .int .i64 9, .int .i64 5, .int .i64 11, .int .i64 13, .int .i64 17, .int .i64 34, .int .i64 36, .int .i64 44, .int .i64 48]) (.int .i64 6)).run Try.prog w = .ok (.int .i64 13) w := fun _ => by kernel_rfl
      go_enter Try.func21, Try.ntmps21
      go_wp2_with fail
      refine hc.mono ?_
      rintro e w1 ⟨rfl, b1⟩
      go_wp2_with fail
      refine (asks_calls _).mono ?_
      rintro e w2 ⟨rfl, b2⟩
      go_wp2_with fail
      go_ret
      exact ⟨rfl, b1.trans (b2.mono b1.size)⟩
    · have ix : ∀ w : World, (Instr.index 84 (.agg #[.int .i64 0, .int .i64 1, .int .i64 3, .int .i64 9, .int .i64 5, .int .i64 11, .int .i64 13, .int .i64 17, .int .i64 34, .int .i64 36, .int .i64 44, .int .i64 48]) (.int .i64 7)).run Try.prog w = .ok (.int .i64 17) w := fun _ => by kernel_rfl
      go_enter Try.func21, Try.ntmps21
      go_wp2_with fail
      refine hc.mono ?_
      rintro e w1 ⟨rfl, b1⟩
      go_wp2_with fail
      refine (asks_calls _).mono ?_
      rintro e w2 ⟨rfl, b2⟩
      go_wp2_with fail
      go_ret
      exact ⟨rfl, b1.trans (b2.mono b1.size)⟩
    · have ix : ∀ w : World, (Instr.index 84 (.agg #[.int .i64 0, .int .i64 1, .int .i64 3, .int .i64 9, .int .i64 5, .int .i64 11, .int .i64 13, .int .i64 17, .int .i64 34, .int .i64 36, .int .i64 44, .int .i64 48]) (.int .i64 8)).run Try.prog w = .ok (.int .i64 34) w := fun _ => by kernel_rfl
      go_enter Try.func21, Try.ntmps21
      go_wp2_with fail
      refine hc.mono ?_
      rintro e w1 ⟨rfl, b1⟩
      go_wp2_with fail
      refine (asks_calls _).mono ?_
      rintro e w2 ⟨rfl, b2⟩
      go_wp2_with fail
      go_ret
      exact ⟨rfl, b1.trans (b2.mono b1.size)⟩
    · have ix : ∀ w : World, (Instr.index 84 (.agg #[.int .i64 0, .int .i64 1, .int .i64 3, .int .i64 9, .int .i64 5, .int .i64 11, .int .i64 13, .int .i64 17, .int .i64 34, .int .i64 36, .int .i64 44, .int .i64 48]) (.int .i64 9)).run Try.prog w = .ok (.int .i64 36) w := fun _ => by kernel_rfl
      go_enter Try.func21, Try.ntmps21
      go_wp2_with fail
      refine hc.mono ?_
      rintro e w1 ⟨rfl, b1⟩
      go_wp2_with fail
      refine (asks_calls _).mono ?_
      rintro e w2 ⟨rfl, b2⟩
      go_wp2_with fail
      go_ret
      exact ⟨rfl, b1.trans (b2.mono b1.size)⟩
    · have ix : ∀ w : World, (Instr.index 84 (.agg #[.int .i64 0, .int .i64 1, .int .i64 3, .int .i64 9, .int .i64 5, .int .i64 11, .int .i64 13, .int .i64 17, .int .i64 34, .int .i64 36, .int .i64 44, .int .i64 48]) (.int .i64 10)).run Try.prog w = .ok (.int .i64 44) w := fun _ => by kernel_rfl
      go_enter Try.func21, Try.ntmps21
      go_wp2_with fail
      refine hc.mono ?_
      rintro e w1 ⟨rfl, b1⟩
      go_wp2_with fail
      refine (asks_calls _).mono ?_
      rintro e w2 ⟨rfl, b2⟩
      go_wp2_with fail
      go_ret
      exact ⟨rfl, b1.trans (b2.mono b1.size)⟩
    · have ix : ∀ w : World, (Instr.index 84 (.agg #[.int .i64 0, .int .i64 1, .int .i64 3, .int .i64 9, .int .i64 5, .int .i64 11, .int .i64 13, .int .i64 17, .int .i64 34, .int .i64 36, .int .i64 44, .int .i64 48]) (.int .i64 11)).run Try.prog w = .ok (.int .i64 48) w := fun _ => by kernel_rfl
      go_enter Try.func21, Try.ntmps21
      go_wp2_with fail
      refine hc.mono ?_
      rintro e w1 ⟨rfl, b1⟩
      go_wp2_with fail
      refine (asks_calls _).mono ?_
      rintro e w2 ⟨rfl, b2⟩
      go_wp2_with fail
      go_ret
      exact ⟨rfl, b1.trans (b2.mono b1.size)⟩
  · have hc := is_calls l w
    rw [show (decide (0 ≤ l) && decide (l < 12)) = false by simp; omega] at hc
    have hv : asksOf l = 0 := if_neg h
    rw [hv]
    go_enter Try.func21, Try.ntmps21
    go_wp2_with fail
    refine hc.mono ?_
    rintro e w1 ⟨rfl, b1⟩
    go_wp2_with fail
    go_ret
    exact ⟨rfl, b1⟩
end Go.Proofs.Ytegeaomemgcciaa.Level
