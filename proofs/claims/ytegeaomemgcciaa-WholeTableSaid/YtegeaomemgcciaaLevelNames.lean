/- Levels: what each is called. -/
import Derived.Test.YtegeaomemgcciaaLevel
namespace Go.Proofs.Ytegeaomemgcciaa.Level
open Go Go.RowKit Go.Proofs.Ytegeaomemgcciaa Go.Proofs.YtegeaomemgcciaaW.PrintWords

def namesL : List ByteArray := [⟨#[114, 101, 97, 100, 45, 97, 116, 111, 109, 105, 99]⟩, ⟨#[115, 101, 115, 115, 105, 111, 110, 45, 97, 116, 111, 109, 105, 99]⟩, ⟨#[99, 97, 117, 115, 97, 108]⟩, ⟨#[117, 112, 100, 97, 116, 101]⟩, ⟨#[112, 114, 101, 102, 105, 120]⟩, ⟨#[112, 97, 114, 97, 108, 108, 101, 108]⟩, ⟨#[115, 110, 97, 112, 115, 104, 111, 116]⟩, ⟨#[115, 101, 114, 105, 97, 108]⟩, ⟨#[116, 105, 109, 101, 45, 99, 97, 117, 115, 97, 108]⟩, ⟨#[116, 105, 109, 101, 45, 112, 114, 101, 102, 105, 120]⟩, ⟨#[116, 105, 109, 101, 45, 115, 110, 97, 112, 115, 104, 111, 116]⟩, ⟨#[115, 116, 114, 105, 99, 116]⟩]
def nameOf (l : Int) : ByteArray := if 0 ≤ l ∧ l < 12 then namesL.getD l.toNat ⟨#[]⟩ else ⟨#[]⟩

set_option maxHeartbeats 1000000 in
set_option maxRecDepth 100000 in
theorem names_calls (w : World) : Calls Try.prog 50 #[] w fun e w' => e = .returned (.agg #[.string ⟨#[114, 101, 97, 100, 45, 97, 116, 111, 109, 105, 99]⟩, .string ⟨#[115, 101, 115, 115, 105, 111, 110, 45, 97, 116, 111, 109, 105, 99]⟩, .string ⟨#[99, 97, 117, 115, 97, 108]⟩, .string ⟨#[117, 112, 100, 97, 116, 101]⟩, .string ⟨#[112, 114, 101, 102, 105, 120]⟩, .string ⟨#[112, 97, 114, 97, 108, 108, 101, 108]⟩, .string ⟨#[115, 110, 97, 112, 115, 104, 111, 116]⟩, .string ⟨#[115, 101, 114, 105, 97, 108]⟩, .string ⟨#[116, 105, 109, 101, 45, 99, 97, 117, 115, 97, 108]⟩, .string ⟨#[116, 105, 109, 101, 45, 112, 114, 101, 102, 105, 120]⟩, .string ⟨#[116, 105, 109, 101, 45, 115, 110, 97, 112, 115, 104, 111, 116]⟩, .string ⟨#[115, 116, 114, 105, 99, 116]⟩]) ∧ Below w.heap.size w w' := by
  go_enter Try.func50, Try.ntmps50
  go_wp2_with fail
  refine bodyPost_ret (results_cell_row rfl _ _ w.heap.size 88 _ (0, 0) _ rfl (alloc_at w _) Try.underlying88 rfl (by kernel_rfl)) rfl ?_
  exact ⟨rfl, (Below.refl _ _).alloc (Nat.le_refl _) _⟩

set_option maxHeartbeats 1000000 in
set_option maxRecDepth 100000 in
theorem nameOf_calls (l : Int) (h : 0 ≤ l ∧ l < 12) (w : World) : Calls Try.prog 24 #[.int .i64 l] w fun e w' => e = .returned (.string (nameOf l)) ∧ Below w.heap.size w w' := by
  have hc := is_calls l w
  rw [show (decide (0 ≤ l) && decide (l < 12)) = true by simp [h]] at hc
  have hl : l = 0 ∨ l = 1 ∨ l = 2 ∨ l = 3 ∨ l = 4 ∨ l = 5 ∨ l = 6 ∨ l = 7 ∨ l = 8 ∨ l = 9 ∨ l = 10 ∨ l = 11 := by omega
  clear h
  rcases hl with rfl | rfl | rfl | rfl | rfl | rfl | rfl | rfl | rfl | rfl | rfl | rfl
  · have ix : ∀ w : World, (Instr.index 88 (.agg #[.string ⟨#[114, 101, 97, 100, 45, 97, 116, 111, 109, 105, 99]⟩, .string ⟨#[115, 101, 115, 115, 105, 111, 110, 45, 97, 116, 111, 109, 105, 99]⟩, .string ⟨#[99, 97, 117, 115, 97, 108]⟩, .string ⟨#[117, 112, 100, 97, 116, 101]⟩, .string ⟨#[112, 114, 101, 102, 105, 120]⟩, .string ⟨#[112, 97, 114, 97, 108, 108, 101, 108]⟩, .string ⟨#[115, 110, 97, 112, 115, 104, 111, 116]⟩, .string ⟨#[115, 101, 114, 105, 97, 108]⟩, .string ⟨#[116, 105, 109, 101, 45, 99, 97, 117, 115, 97, 108]⟩, .string ⟨#[116, 105, 109, 101, 45, 112, 114, 101, 102, 105, 120]⟩, .string ⟨#[116, 105, 109, 101, 45, 115, 110, 97, 112, 115, 104, 111, 116]⟩, .string ⟨#[115, 116, 114, 105, 99, 116]⟩]) (.int .i64 0)).run Try.prog w = .ok (.string ⟨#[114, 101, 97, 100, 45, 97, 116, 111, 109, 105, 99]⟩) w := fun _ => by kernel_rfl
    go_enter Try.func24, Try.ntmps24
    go_wp2_with fail
    refine hc.mono ?_
    rintro e w1 ⟨rfl, b1⟩
    go_wp2_with fail
    refine (names_calls _).mono ?_
    rintro e w2 ⟨rfl, b2⟩
    go_wp2_with fail
    go_ret
    exact ⟨rfl, b1.trans (b2.mono b1.size)⟩
  · have ix : ∀ w : World, (Instr.index 88 (.agg #[.string ⟨#[114, 101, 97, 100, 45, 97, 116, 111, 109, 105, 99]⟩, .string ⟨#[115, 101, 115, 115, 105, 111, 110, 45, 97, 116, 111, 109, 105, 99]⟩, .string ⟨#[99, 97, 117, 115, 97, 108]⟩, .string ⟨#[117, 112, 100, 97, 116, 101]⟩, .string ⟨#[112, 114, 101, 102, 105, 120]⟩, .string ⟨#[112, 97, 114, 97, 108, 108, 101, 108]⟩, .string ⟨#[115, 110, 97, 112, 115, 104, 111, 116]⟩, .string ⟨#[115, 101, 114, 105, 97, 108]⟩, .string ⟨#[116, 105, 109, 101, 45, 99, 97, 117, 115, 97, 108]⟩, .string ⟨#[116, 105, 109, 101, 45, 112, 114, 101, 102, 105, 120]⟩, .string ⟨#[116, 105, 109, 101, 45, 115, 110, 97, 112, 115, 104, 111, 116]⟩, .string ⟨#[115, 116, 114, 105, 99, 116]⟩]) (.int .i64 1)).run Try.prog w = .ok (.string ⟨#[115, 101, 115, 115, 105, 111, 110, 45, 97, 116, 111, 109, 105, 99]⟩) w := fun _ => by kernel_rfl
    go_enter Try.func24, Try.ntmps24
    go_wp2_with fail
    refine hc.mono ?_
    rintro e w1 ⟨rfl, b1⟩
    go_wp2_with fail
    refine (names_calls _).mono ?_
    rintro e w2 ⟨rfl, b2⟩
    go_wp2_with fail
    go_ret
    exact ⟨rfl, b1.trans (b2.mono b1.size)⟩
  · have ix : ∀ w : World, (Instr.index 88 (.agg #[.string ⟨#[114, 101, 97, 100, 45, 97, 116, 111, 109, 105, 99]⟩, .string ⟨#[115, 101, 115, 115, 105, 111, 110, 45, 97, 116, 111, 109, 105, 99]⟩, .string ⟨#[99, 97, 117, 115, 97, 108]⟩, .string ⟨#[117, 112, 100, 97, 116, 101]⟩, .string ⟨#[112, 114, 101, 102, 105, 120]⟩, .string ⟨#[112, 97, 114, 97, 108, 108, 101, 108]⟩, .string ⟨#[115, 110, 97, 112, 115, 104, 111, 116]⟩, .string ⟨#[115, 101, 114, 105, 97, 108]⟩, .string ⟨#[116, 105, 109, 101, 45, 99, 97, 117, 115, 97, 108]⟩, .string ⟨#[116, 105, 109, 101, 45, 112, 114, 101, 102, 105, 120]⟩, .string ⟨#[116, 105, 109, 101, 45, 115, 110, 97, 112, 115, 104, 111, 116]⟩, .string ⟨#[115, 116, 114, 105, 99, 116]⟩]) (.int .i64 2)).run Try.prog w = .ok (.string ⟨#[99, 97, 117, 115, 97, 108]⟩) w := fun _ => by kernel_rfl
    go_enter Try.func24, Try.ntmps24
    go_wp2_with fail
    refine hc.mono ?_
    rintro e w1 ⟨rfl, b1⟩
    go_wp2_with fail
    refine (names_calls _).mono ?_
    rintro e w2 ⟨rfl, b2⟩
    go_wp2_with fail
    go_ret
    exact ⟨rfl, b1.trans (b2.mono b1.size)⟩
  · have ix : ∀ w : World, (Instr.index 88 (.agg #[.string ⟨#[114, 101, 97, 100, 45, 97, 116, 111, 109, 105, 99]⟩, .string ⟨#[115, 101, 115, 115, 105, 111, 110, 45, 97, 116, 111, 109, 105, 99]⟩, .string ⟨#[99, 97, 117, 115, 97, 108]⟩, .string ⟨#[117, 112, 100, 97, 116, 101]⟩, .string ⟨#[112, 114, 101, 102, 105, 120]⟩, .string ⟨#[112, 97, 114, 97, 108, 108, 101, 108]⟩, .string ⟨#[115, 110, 97, 112, 115, 104, 111, 116]⟩, .string ⟨#[115, 101, 114, 105, 97, 108]⟩, .string ⟨#[116, 105, 109, 101, 45, 99, 97, 117, 115, 97, 108]⟩, .string ⟨#[116, 105, 109, 101, 45, 112, 114, 101, 102, 105, 120]⟩, .string ⟨#[116, 105, 109, 101, 45, 115, 110, 97, 112, 115, 104, 111, 116]⟩, .string ⟨#[115, 116, 114, 105, 99, 116]⟩]) (.int .i64 3)).run Try.prog w = .ok (.string ⟨#[117, 112, 100, 97, 116, 101]⟩) w := fun _ => by kernel_rfl
    go_enter Try.func24, Try.ntmps24
    go_wp2_with fail
    refine hc.mono ?_
    rintro e w1 ⟨rfl, b1⟩
    go_wp2_with fail
    refine (names_calls _).mono ?_
    rintro e w2 ⟨rfl, b2⟩
    go_wp2_with fail
    go_ret
    exact ⟨rfl, b1.trans (b2.mono b1.size)⟩
  · have ix : ∀ w : World, (Instr.index 88 (.agg #[.string ⟨#[114, 101, 97, 100, 45, 97, 116, 111, 109, 105, 99]⟩, .string ⟨#[115, 101, 115, 115, 105, 111, 110, 45, 97, 116, 111, 109, 105, 99]⟩, .string ⟨#[99, 97, 117, 115, 97, 108]⟩, .string ⟨#[117, 112, 100, 97, 116, 101]⟩, .string ⟨#[112, 114, 101, 102, 105, 120]⟩, .string ⟨#[112, 97, 114, 97, 108, 108, 101, 108]⟩, .string ⟨#[115, 110, 97, 112, 115, 104, 111, 116]⟩, .string ⟨#[115, 101, 114, 105, 97, 108]⟩, .string ⟨#[116, 105, 109, 101, 45, 99, 97, 117, 115, 97, 108]⟩, .string ⟨#[116, 105, 109, 101, 45, 112, 114, 101, 102, 105, 120]⟩, .string ⟨#[116, 105, 109, 101, 45, 115, 110, 97, 112, 115, 104, 111, 116]⟩, .string ⟨#[115, 116, 114, 105, 99, 116]⟩]) (.int .i64 4)).run Try.prog w = .ok (.string ⟨#[112, 114, 101, 102, 105, 120]⟩) w := fun _ => by kernel_rfl
    go_enter Try.func24, Try.ntmps24
    go_wp2_with fail
    refine hc.mono ?_
    rintro e w1 ⟨rfl, b1⟩
    go_wp2_with fail
    refine (names_calls _).mono ?_
    rintro e w2 ⟨rfl, b2⟩
    go_wp2_with fail
    go_ret
    exact ⟨rfl, b1.trans (b2.mono b1.size)⟩
  · have ix : ∀ w : World, (Instr.index 88 (.agg #[.string ⟨#[114, 101, 97, 100, 45, 97, 116, 111, 109, 105, 99]⟩, .string ⟨#[115, 101, 115, 115, 105, 111, 110, 45, 97, 116, 111, 109, 105, 99]⟩, .string ⟨#[99, 97, 117, 115, 97, 108]⟩, .string ⟨#[117, 112, 100, 97, 116, 101]⟩, .string ⟨#[112, 114, 101, 102, 105, 120]⟩, .string ⟨#[112, 97, 114, 97, 108, 108, 101, 108]⟩, .string ⟨#[115, 110, 97, 112, 115, 104, 111, 116]⟩, .string ⟨#[115, 101, 114, 105, 97, 108]⟩, .string ⟨#[116, 105, 109, 101, 45, 99, 97, 117, 115, 97, 108]⟩, .string ⟨#[116, 105, 109, 101, 45, 112, 114, 101, 102, 105, 120]⟩, .string ⟨#[116, 105, 109, 101, 45, 115, 110, 97, 112, 115, 104, 111, 116]⟩, .string ⟨#[115, 116, 114, 105, 99, 116]⟩]) (.int .i64 5)).run Try.prog w = .ok (.string ⟨#[112, 97, 114, 97, 108, 108, 101, 108]⟩) w := fun _ => by kernel_rfl
    go_enter Try.func24, Try.ntmps24
    go_wp2_with fail
    refine hc.mono ?_
    rintro e w1 ⟨rfl, b1⟩
    go_wp2_with fail
    refine (names_calls _).mono ?_
    rintro e w2 ⟨rfl, b2⟩
    go_wp2_with fail
    go_ret
    exact ⟨rfl, b1.trans (b2.mono b1.size)⟩
  · have ix : ∀ w : World, (Instr.index 88 (.agg #[.string ⟨#[114, 101, 97, 100, 45, 97, 116, 111, 109, 105, 99]⟩, .string ⟨#[115, 101, 115, 115, 105, 111, 110, 45, 97, 116, 111, 109, 105, 99]⟩, .string ⟨#[99, 97, 117, 115, 97, 108]⟩, .string ⟨#[117, 112, 100, 97, 116, 101]⟩, .string ⟨#[112, 114, 101, 102, 105, 120]⟩, .string ⟨#[112, 97, 114, 97, 108, 108, 101, 108]⟩, .string ⟨#[115, 110, 97, 112, 115, 104, 111, 116]⟩, .string ⟨#[115, 101, 114, 105, 97, 108]⟩, .string ⟨#[116, 105, 109, 101, 45, 99, 97, 117, 115, 97, 108]⟩, .string ⟨#[116, 105, 109, 101, 45, 112, 114, 101, 102, 105, 120]⟩, .string ⟨#[116, 105, 109, 101, 45, 115, 110, 97, 112, 115, 104, 111, 116]⟩, .string ⟨#[115, 116, 114, 105, 99, 116]⟩]) (.int .i64 6)).run Try.prog w = .ok (.string ⟨#[115, 110, 97, 112, 115, 104, 111, 116]⟩) w := fun _ => by kernel_rfl
    go_enter Try.func24, Try.ntmps24
    go_wp2_with fail
    refine hc.mono ?_
    rintro e w1 ⟨rfl, b1⟩
    go_wp2_with fail
    refine (names_calls _).mono ?_
    rintro e w2 ⟨rfl, b2⟩
    go_wp2_with fail
    go_ret
    exact ⟨rfl, b1.trans (b2.mono b1.size)⟩
  · have ix : ∀ w : World, (Instr.index 88 (.agg #[.string ⟨#[114, 101, 97, 100, 45, 97, 116, 111, 109, 105, 99]⟩, .string ⟨#[115, 101, 115, 115, 105, 111, 110, 45, 97, 116, 111, 109, 105, 99]⟩, .string ⟨#[99, 97, 117, 115, 97, 108]⟩, .string ⟨#[117, 112, 100, 97, 116, 101]⟩, .string ⟨#[112, 114, 101, 102, 105, 120]⟩, .string ⟨#[112, 97, 114, 97, 108, 108, 101, 108]⟩, .string ⟨#[115, 110, 97, 112, 115, 104, 111, 116]⟩, .string ⟨#[115, 101, 114, 105, 97, 108]⟩, .string ⟨#[116, 105, 109, 101, 45, 99, 97, 117, 115, 97, 108]⟩, .string ⟨#[116, 105, 109, 101, 45, 112, 114, 101, 102, 105, 120]⟩, .string ⟨#[116, 105, 109, 101, 45, 115, 110, 97, 112, 115, 104, 111, 116]⟩, .string ⟨#[115, 116, 114, 105, 99, 116]⟩]) (.int .i64 7)).run Try.prog w = .ok (.string ⟨#[115, 101, 114, 105, 97, 108]⟩) w := fun _ => by kernel_rfl
    go_enter Try.func24, Try.ntmps24
    go_wp2_with fail
    refine hc.mono ?_
    rintro e w1 ⟨rfl, b1⟩
    go_wp2_with fail
    refine (names_calls _).mono ?_
    rintro e w2 ⟨rfl, b2⟩
    go_wp2_with fail
    go_ret
    exact ⟨rfl, b1.trans (b2.mono b1.size)⟩
  · have ix : ∀ w : World, (Instr.index 88 (.agg #[.string ⟨#[114, 101, 97, 100, 45, 97, 116, 111, 109, 105, 99]⟩, .string ⟨#[115, 101, 115, 115, 105, 111, 110, 45, 97, 116, 111, 109, 105, 99]⟩, .string ⟨#[99, 97, 117, 115, 97, 108]⟩, .string ⟨#[117, 112, 100, 97, 116, 101]⟩, .string ⟨#[112, 114, 101, 102, 105, 120]⟩, .string ⟨#[112, 97, 114, 97, 108, 108, 101, 108]⟩, .string ⟨#[115, 110, 97, 112, 115, 104, 111, 116]⟩, .string ⟨#[115, 101, 114, 105, 97, 108]⟩, .string ⟨#[116, 105, 109, 101, 45, 99, 97, 117, 115, 97, 108]⟩, .string ⟨#[116, 105, 109, 101, 45, 112, 114, 101, 102, 105, 120]⟩, .string ⟨#[116, 105, 109, 101, 45, 115, 110, 97, 112, 115, 104, 111, 116]⟩, .string ⟨#[115, 116, 114, 105, 99, 116]⟩]) (.int .i64 8)).run Try.prog w = .ok (.string ⟨#[116, 105, 109, 101, 45, 99, 97, 117, 115, 97, 108]⟩) w := fun _ => by kernel_rfl
    go_enter Try.func24, Try.ntmps24
    go_wp2_with fail
    refine hc.mono ?_
    rintro e w1 ⟨rfl, b1⟩
    go_wp2_with fail
    refine (names_calls _).mono ?_
    rintro e w2 ⟨rfl, b2⟩
    go_wp2_with fail
    go_ret
    exact ⟨rfl, b1.trans (b2.mono b1.size)⟩
  · have ix : ∀ w : World, (Instr.index 88 (.agg #[.string ⟨#[114, 101, 97, 100, 45, 97, 116, 111, 109, 105, 99]⟩, .string ⟨#[115, 101, 115, 115, 105, 111, 110, 45, 97, 116, 111, 109, 105, 99]⟩, .string ⟨#[99, 97, 117, 115, 97, 108]⟩, .string ⟨#[117, 112, 100, 97, 116, 101]⟩, .string ⟨#[112, 114, 101, 102, 105, 120]⟩, .string ⟨#[112, 97, 114, 97, 108, 108, 101, 108]⟩, .string ⟨#[115, 110, 97, 112, 115, 104, 111, 116]⟩, .string ⟨#[115, 101, 114, 105, 97, 108]⟩, .string ⟨#[116, 105, 109, 101, 45, 99, 97, 117, 115, 97, 108]⟩, .string ⟨#[116, 105, 109, 101, 45, 112, 114, 101, 102, 105, 120]⟩, .string ⟨#[116, 105, 109, 101, 45, 115, 110, 97, 112, 115, 104, 111, 116]⟩, .string ⟨#[115, 116, 114, 105, 99, 116]⟩]) (.int .i64 9)).run Try.prog w = .ok (.string ⟨#[116, 105, 109, 101, 45, 112, 114, 101, 102, 105, 120]⟩) w := fun _ => by kernel_rfl
    go_enter Try.func24, Try.ntmps24
    go_wp2_with fail
    refine hc.mono ?_
    rintro e w1 ⟨rfl, b1⟩
    go_wp2_with fail
    refine (names_calls _).mono ?_
    rintro e w2 ⟨rfl, b2⟩
    go_wp2_with fail
    go_ret
    exact ⟨rfl, b1.trans (b2.mono b1.size)⟩
  · have ix : ∀ w : World, (Instr.index 88 (.agg #[.string ⟨#[114, 101, 97, 100, 45, 97, 116, 111, 109, 105, 99]⟩, .string ⟨#[115, 101, 115, 115, 105, 111, 110, 45, 97, 116, 111, 109, 105, 99]⟩, .string ⟨#[99, 97, 117, 115, 97, 108]⟩, .string ⟨#[117, 112, 100, 97, 116, 101]⟩, .string ⟨#[112, 114, 101, 102, 105, 120]⟩, .string ⟨#[112, 97, 114, 97, 108, 108, 101, 108]⟩, .string ⟨#[115, 110, 97, 112, 115, 104, 111, 116]⟩, .string ⟨#[115, 101, 114, 105, 97, 108]⟩, .string ⟨#[116, 105, 109, 101, 45, 99, 97, 117, 115, 97, 108]⟩, .string ⟨#[116, 105, 109, 101, 45, 112, 114, 101, 102, 105, 120]⟩, .string ⟨#[116, 105, 109, 101, 45, 115, 110, 97, 112, 115, 104, 111, 116]⟩, .string ⟨#[115, 116, 114, 105, 99, 116]⟩]) (.int .i64 10)).run Try.prog w = .ok (.string ⟨#[116, 105, 109, 101, 45, 115, 110, 97, 112, 115, 104, 111, 116]⟩) w := fun _ => by kernel_rfl
    go_enter Try.func24, Try.ntmps24
    go_wp2_with fail
    refine hc.mono ?_
    rintro e w1 ⟨rfl, b1⟩
    go_wp2_with fail
    refine (names_calls _).mono ?_
    rintro e w2 ⟨rfl, b2⟩
    go_wp2_with fail
    go_ret
    exact ⟨rfl, b1.trans (b2.mono b1.size)⟩
  · have ix : ∀ w : World, (Instr.index 88 (.agg #[.string ⟨#[114, 101, 97, 100, 45, 97, 116, 111, 109, 105, 99]⟩, .string ⟨#[115, 101, 115, 115, 105, 111, 110, 45, 97, 116, 111, 109, 105, 99]⟩, .string ⟨#[99, 97, 117, 115, 97, 108]⟩, .string ⟨#[117, 112, 100, 97, 116, 101]⟩, .string ⟨#[112, 114, 101, 102, 105, 120]⟩, .string ⟨#[112, 97, 114, 97, 108, 108, 101, 108]⟩, .string ⟨#[115, 110, 97, 112, 115, 104, 111, 116]⟩, .string ⟨#[115, 101, 114, 105, 97, 108]⟩, .string ⟨#[116, 105, 109, 101, 45, 99, 97, 117, 115, 97, 108]⟩, .string ⟨#[116, 105, 109, 101, 45, 112, 114, 101, 102, 105, 120]⟩, .string ⟨#[116, 105, 109, 101, 45, 115, 110, 97, 112, 115, 104, 111, 116]⟩, .string ⟨#[115, 116, 114, 105, 99, 116]⟩]) (.int .i64 11)).run Try.prog w = .ok (.string ⟨#[115, 116, 114, 105, 99, 116]⟩) w := fun _ => by kernel_rfl
    go_enter Try.func24, Try.ntmps24
    go_wp2_with fail
    refine hc.mono ?_
    rintro e w1 ⟨rfl, b1⟩
    go_wp2_with fail
    refine (names_calls _).mono ?_
    rintro e w2 ⟨rfl, b2⟩
    go_wp2_with fail
    go_ret
    exact ⟨rfl, b1.trans (b2.mono b1.size)⟩

theorem names_ix0 (w : World) : (Instr.index 88 (.agg #[.string ⟨#[114, 101, 97, 100, 45, 97, 116, 111, 109, 105, 99]⟩, .string ⟨#[115, 101, 115, 115, 105, 111, 110, 45, 97, 116, 111, 109, 105, 99]⟩, .string ⟨#[99, 97, 117, 115, 97, 108]⟩, .string ⟨#[117, 112, 100, 97, 116, 101]⟩, .string ⟨#[112, 114, 101, 102, 105, 120]⟩, .string ⟨#[112, 97, 114, 97, 108, 108, 101, 108]⟩, .string ⟨#[115, 110, 97, 112, 115, 104, 111, 116]⟩, .string ⟨#[115, 101, 114, 105, 97, 108]⟩, .string ⟨#[116, 105, 109, 101, 45, 99, 97, 117, 115, 97, 108]⟩, .string ⟨#[116, 105, 109, 101, 45, 112, 114, 101, 102, 105, 120]⟩, .string ⟨#[116, 105, 109, 101, 45, 115, 110, 97, 112, 115, 104, 111, 116]⟩, .string ⟨#[115, 116, 114, 105, 99, 116]⟩]) (.int .i64 0)).run Try.prog w = .ok (.string ⟨#[114, 101, 97, 100, 45, 97, 116, 111, 109, 105, 99]⟩) w := by kernel_rfl
theorem names_ix1 (w : World) : (Instr.index 88 (.agg #[.string ⟨#[114, 101, 97, 100, 45, 97, 116, 111, 109, 105, 99]⟩, .string ⟨#[115, 101, 115, 115, 105, 111, 110, 45, 97, 116, 111, 109, 105, 99]⟩, .string ⟨#[99, 97, 117, 115, 97, 108]⟩, .string ⟨#[117, 112, 100, 97, 116, 101]⟩, .string ⟨#[112, 114, 101, 102, 105, 120]⟩, .string ⟨#[112, 97, 114, 97, 108, 108, 101, 108]⟩, .string ⟨#[115, 110, 97, 112, 115, 104, 111, 116]⟩, .string ⟨#[115, 101, 114, 105, 97, 108]⟩, .string ⟨#[116, 105, 109, 101, 45, 99, 97, 117, 115, 97, 108]⟩, .string ⟨#[116, 105, 109, 101, 45, 112, 114, 101, 102, 105, 120]⟩, .string ⟨#[116, 105, 109, 101, 45, 115, 110, 97, 112, 115, 104, 111, 116]⟩, .string ⟨#[115, 116, 114, 105, 99, 116]⟩]) (.int .i64 1)).run Try.prog w = .ok (.string ⟨#[115, 101, 115, 115, 105, 111, 110, 45, 97, 116, 111, 109, 105, 99]⟩) w := by kernel_rfl
theorem names_ix2 (w : World) : (Instr.index 88 (.agg #[.string ⟨#[114, 101, 97, 100, 45, 97, 116, 111, 109, 105, 99]⟩, .string ⟨#[115, 101, 115, 115, 105, 111, 110, 45, 97, 116, 111, 109, 105, 99]⟩, .string ⟨#[99, 97, 117, 115, 97, 108]⟩, .string ⟨#[117, 112, 100, 97, 116, 101]⟩, .string ⟨#[112, 114, 101, 102, 105, 120]⟩, .string ⟨#[112, 97, 114, 97, 108, 108, 101, 108]⟩, .string ⟨#[115, 110, 97, 112, 115, 104, 111, 116]⟩, .string ⟨#[115, 101, 114, 105, 97, 108]⟩, .string ⟨#[116, 105, 109, 101, 45, 99, 97, 117, 115, 97, 108]⟩, .string ⟨#[116, 105, 109, 101, 45, 112, 114, 101, 102, 105, 120]⟩, .string ⟨#[116, 105, 109, 101, 45, 115, 110, 97, 112, 115, 104, 111, 116]⟩, .string ⟨#[115, 116, 114, 105, 99, 116]⟩]) (.int .i64 2)).run Try.prog w = .ok (.string ⟨#[99, 97, 117, 115, 97, 108]⟩) w := by kernel_rfl
theorem names_ix3 (w : World) : (Instr.index 88 (.agg #[.string ⟨#[114, 101, 97, 100, 45, 97, 116, 111, 109, 105, 99]⟩, .string ⟨#[115, 101, 115, 115, 105, 111, 110, 45, 97, 116, 111, 109, 105, 99]⟩, .string ⟨#[99, 97, 117, 115, 97, 108]⟩, .string ⟨#[117, 112, 100, 97, 116, 101]⟩, .string ⟨#[112, 114, 101, 102, 105, 120]⟩, .string ⟨#[112, 97, 114, 97, 108, 108, 101, 108]⟩, .string ⟨#[115, 110, 97, 112, 115, 104, 111, 116]⟩, .string ⟨#[115, 101, 114, 105, 97, 108]⟩, .string ⟨#[116, 105, 109, 101, 45, 99, 97, 117, 115, 97, 108]⟩, .string ⟨#[116, 105, 109, 101, 45, 112, 114, 101, 102, 105, 120]⟩, .string ⟨#[116, 105, 109, 101, 45, 115, 110, 97, 112, 115, 104, 111, 116]⟩, .string ⟨#[115, 116, 114, 105, 99, 116]⟩]) (.int .i64 3)).run Try.prog w = .ok (.string ⟨#[117, 112, 100, 97, 116, 101]⟩) w := by kernel_rfl
theorem names_ix4 (w : World) : (Instr.index 88 (.agg #[.string ⟨#[114, 101, 97, 100, 45, 97, 116, 111, 109, 105, 99]⟩, .string ⟨#[115, 101, 115, 115, 105, 111, 110, 45, 97, 116, 111, 109, 105, 99]⟩, .string ⟨#[99, 97, 117, 115, 97, 108]⟩, .string ⟨#[117, 112, 100, 97, 116, 101]⟩, .string ⟨#[112, 114, 101, 102, 105, 120]⟩, .string ⟨#[112, 97, 114, 97, 108, 108, 101, 108]⟩, .string ⟨#[115, 110, 97, 112, 115, 104, 111, 116]⟩, .string ⟨#[115, 101, 114, 105, 97, 108]⟩, .string ⟨#[116, 105, 109, 101, 45, 99, 97, 117, 115, 97, 108]⟩, .string ⟨#[116, 105, 109, 101, 45, 112, 114, 101, 102, 105, 120]⟩, .string ⟨#[116, 105, 109, 101, 45, 115, 110, 97, 112, 115, 104, 111, 116]⟩, .string ⟨#[115, 116, 114, 105, 99, 116]⟩]) (.int .i64 4)).run Try.prog w = .ok (.string ⟨#[112, 114, 101, 102, 105, 120]⟩) w := by kernel_rfl
theorem names_ix5 (w : World) : (Instr.index 88 (.agg #[.string ⟨#[114, 101, 97, 100, 45, 97, 116, 111, 109, 105, 99]⟩, .string ⟨#[115, 101, 115, 115, 105, 111, 110, 45, 97, 116, 111, 109, 105, 99]⟩, .string ⟨#[99, 97, 117, 115, 97, 108]⟩, .string ⟨#[117, 112, 100, 97, 116, 101]⟩, .string ⟨#[112, 114, 101, 102, 105, 120]⟩, .string ⟨#[112, 97, 114, 97, 108, 108, 101, 108]⟩, .string ⟨#[115, 110, 97, 112, 115, 104, 111, 116]⟩, .string ⟨#[115, 101, 114, 105, 97, 108]⟩, .string ⟨#[116, 105, 109, 101, 45, 99, 97, 117, 115, 97, 108]⟩, .string ⟨#[116, 105, 109, 101, 45, 112, 114, 101, 102, 105, 120]⟩, .string ⟨#[116, 105, 109, 101, 45, 115, 110, 97, 112, 115, 104, 111, 116]⟩, .string ⟨#[115, 116, 114, 105, 99, 116]⟩]) (.int .i64 5)).run Try.prog w = .ok (.string ⟨#[112, 97, 114, 97, 108, 108, 101, 108]⟩) w := by kernel_rfl
theorem names_ix6 (w : World) : (Instr.index 88 (.agg #[.string ⟨#[114, 101, 97, 100, 45, 97, 116, 111, 109, 105, 99]⟩, .string ⟨#[115, 101, 115, 115, 105, 111, 110, 45, 97, 116, 111, 109, 105, 99]⟩, .string ⟨#[99, 97, 117, 115, 97, 108]⟩, .string ⟨#[117, 112, 100, 97, 116, 101]⟩, .string ⟨#[112, 114, 101, 102, 105, 120]⟩, .string ⟨#[112, 97, 114, 97, 108, 108, 101, 108]⟩, .string ⟨#[115, 110, 97, 112, 115, 104, 111, 116]⟩, .string ⟨#[115, 101, 114, 105, 97, 108]⟩, .string ⟨#[116, 105, 109, 101, 45, 99, 97, 117, 115, 97, 108]⟩, .string ⟨#[116, 105, 109, 101, 45, 112, 114, 101, 102, 105, 120]⟩, .string ⟨#[116, 105, 109, 101, 45, 115, 110, 97, 112, 115, 104, 111, 116]⟩, .string ⟨#[115, 116, 114, 105, 99, 116]⟩]) (.int .i64 6)).run Try.prog w = .ok (.string ⟨#[115, 110, 97, 112, 115, 104, 111, 116]⟩) w := by kernel_rfl
theorem names_ix7 (w : World) : (Instr.index 88 (.agg #[.string ⟨#[114, 101, 97, 100, 45, 97, 116, 111, 109, 105, 99]⟩, .string ⟨#[115, 101, 115, 115, 105, 111, 110, 45, 97, 116, 111, 109, 105, 99]⟩, .string ⟨#[99, 97, 117, 115, 97, 108]⟩, .string ⟨#[117, 112, 100, 97, 116, 101]⟩, .string ⟨#[112, 114, 101, 102, 105, 120]⟩, .string ⟨#[112, 97, 114, 97, 108, 108, 101, 108]⟩, .string ⟨#[115, 110, 97, 112, 115, 104, 111, 116]⟩, .string ⟨#[115, 101, 114, 105, 97, 108]⟩, .string ⟨#[116, 105, 109, 101, 45, 99, 97, 117, 115, 97, 108]⟩, .string ⟨#[116, 105, 109, 101, 45, 112, 114, 101, 102, 105, 120]⟩, .string ⟨#[116, 105, 109, 101, 45, 115, 110, 97, 112, 115, 104, 111, 116]⟩, .string ⟨#[115, 116, 114, 105, 99, 116]⟩]) (.int .i64 7)).run Try.prog w = .ok (.string ⟨#[115, 101, 114, 105, 97, 108]⟩) w := by kernel_rfl
theorem names_ix8 (w : World) : (Instr.index 88 (.agg #[.string ⟨#[114, 101, 97, 100, 45, 97, 116, 111, 109, 105, 99]⟩, .string ⟨#[115, 101, 115, 115, 105, 111, 110, 45, 97, 116, 111, 109, 105, 99]⟩, .string ⟨#[99, 97, 117, 115, 97, 108]⟩, .string ⟨#[117, 112, 100, 97, 116, 101]⟩, .string ⟨#[112, 114, 101, 102, 105, 120]⟩, .string ⟨#[112, 97, 114, 97, 108, 108, 101, 108]⟩, .string ⟨#[115, 110, 97, 112, 115, 104, 111, 116]⟩, .string ⟨#[115, 101, 114, 105, 97, 108]⟩, .string ⟨#[116, 105, 109, 101, 45, 99, 97, 117, 115, 97, 108]⟩, .string ⟨#[116, 105, 109, 101, 45, 112, 114, 101, 102, 105, 120]⟩, .string ⟨#[116, 105, 109, 101, 45, 115, 110, 97, 112, 115, 104, 111, 116]⟩, .string ⟨#[115, 116, 114, 105, 99, 116]⟩]) (.int .i64 8)).run Try.prog w = .ok (.string ⟨#[116, 105, 109, 101, 45, 99, 97, 117, 115, 97, 108]⟩) w := by kernel_rfl
theorem names_ix9 (w : World) : (Instr.index 88 (.agg #[.string ⟨#[114, 101, 97, 100, 45, 97, 116, 111, 109, 105, 99]⟩, .string ⟨#[115, 101, 115, 115, 105, 111, 110, 45, 97, 116, 111, 109, 105, 99]⟩, .string ⟨#[99, 97, 117, 115, 97, 108]⟩, .string ⟨#[117, 112, 100, 97, 116, 101]⟩, .string ⟨#[112, 114, 101, 102, 105, 120]⟩, .string ⟨#[112, 97, 114, 97, 108, 108, 101, 108]⟩, .string ⟨#[115, 110, 97, 112, 115, 104, 111, 116]⟩, .string ⟨#[115, 101, 114, 105, 97, 108]⟩, .string ⟨#[116, 105, 109, 101, 45, 99, 97, 117, 115, 97, 108]⟩, .string ⟨#[116, 105, 109, 101, 45, 112, 114, 101, 102, 105, 120]⟩, .string ⟨#[116, 105, 109, 101, 45, 115, 110, 97, 112, 115, 104, 111, 116]⟩, .string ⟨#[115, 116, 114, 105, 99, 116]⟩]) (.int .i64 9)).run Try.prog w = .ok (.string ⟨#[116, 105, 109, 101, 45, 112, 114, 101, 102, 105, 120]⟩) w := by kernel_rfl
theorem names_ix10 (w : World) : (Instr.index 88 (.agg #[.string ⟨#[114, 101, 97, 100, 45, 97, 116, 111, 109, 105, 99]⟩, .string ⟨#[115, 101, 115, 115, 105, 111, 110, 45, 97, 116, 111, 109, 105, 99]⟩, .string ⟨#[99, 97, 117, 115, 97, 108]⟩, .string ⟨#[117, 112, 100, 97, 116, 101]⟩, .string ⟨#[112, 114, 101, 102, 105, 120]⟩, .string ⟨#[112, 97, 114, 97, 108, 108, 101, 108]⟩, .string ⟨#[115, 110, 97, 112, 115, 104, 111, 116]⟩, .string ⟨#[115, 101, 114, 105, 97, 108]⟩, .string ⟨#[116, 105, 109, 101, 45, 99, 97, 117, 115, 97, 108]⟩, .string ⟨#[116, 105, 109, 101, 45, 112, 114, 101, 102, 105, 120]⟩, .string ⟨#[116, 105, 109, 101, 45, 115, 110, 97, 112, 115, 104, 111, 116]⟩, .string ⟨#[115, 116, 114, 105, 99, 116]⟩]) (.int .i64 10)).run Try.prog w = .ok (.string ⟨#[116, 105, 109, 101, 45, 115, 110, 97, 112, 115, 104, 111, 116]⟩) w := by kernel_rfl
theorem names_ix11 (w : World) : (Instr.index 88 (.agg #[.string ⟨#[114, 101, 97, 100, 45, 97, 116, 111, 109, 105, 99]⟩, .string ⟨#[115, 101, 115, 115, 105, 111, 110, 45, 97, 116, 111, 109, 105, 99]⟩, .string ⟨#[99, 97, 117, 115, 97, 108]⟩, .string ⟨#[117, 112, 100, 97, 116, 101]⟩, .string ⟨#[112, 114, 101, 102, 105, 120]⟩, .string ⟨#[112, 97, 114, 97, 108, 108, 101, 108]⟩, .string ⟨#[115, 110, 97, 112, 115, 104, 111, 116]⟩, .string ⟨#[115, 101, 114, 105, 97, 108]⟩, .string ⟨#[116, 105, 109, 101, 45, 99, 97, 117, 115, 97, 108]⟩, .string ⟨#[116, 105, 109, 101, 45, 112, 114, 101, 102, 105, 120]⟩, .string ⟨#[116, 105, 109, 101, 45, 115, 110, 97, 112, 115, 104, 111, 116]⟩, .string ⟨#[115, 116, 114, 105, 99, 116]⟩]) (.int .i64 11)).run Try.prog w = .ok (.string ⟨#[115, 116, 114, 105, 99, 116]⟩) w := by kernel_rfl
theorem names_ix (k : Nat) (h : k < 12) (w : World) : (Instr.index 88 (.agg #[.string ⟨#[114, 101, 97, 100, 45, 97, 116, 111, 109, 105, 99]⟩, .string ⟨#[115, 101, 115, 115, 105, 111, 110, 45, 97, 116, 111, 109, 105, 99]⟩, .string ⟨#[99, 97, 117, 115, 97, 108]⟩, .string ⟨#[117, 112, 100, 97, 116, 101]⟩, .string ⟨#[112, 114, 101, 102, 105, 120]⟩, .string ⟨#[112, 97, 114, 97, 108, 108, 101, 108]⟩, .string ⟨#[115, 110, 97, 112, 115, 104, 111, 116]⟩, .string ⟨#[115, 101, 114, 105, 97, 108]⟩, .string ⟨#[116, 105, 109, 101, 45, 99, 97, 117, 115, 97, 108]⟩, .string ⟨#[116, 105, 109, 101, 45, 112, 114, 101, 102, 105, 120]⟩, .string ⟨#[116, 105, 109, 101, 45, 115, 110, 97, 112, 115, 104, 111, 116]⟩, .string ⟨#[115, 116, 114, 105, 99, 116]⟩]) (.int .i64 (k : Int))).run Try.prog w = .ok (.string (namesL.getD k ⟨#[]⟩)) w :=
  match k, h with
  | 0, _ => names_ix0 w
  | 1, _ => names_ix1 w
  | 2, _ => names_ix2 w
  | 3, _ => names_ix3 w
  | 4, _ => names_ix4 w
  | 5, _ => names_ix5 w
  | 6, _ => names_ix6 w
  | 7, _ => names_ix7 w
  | 8, _ => names_ix8 w
  | 9, _ => names_ix9 w
  | 10, _ => names_ix10 w
  | 11, _ => names_ix11 w
  | k + 12, h => absurd h (by omega)

def RelOf (x : Nat) (w : World) (i : Value) (wr : World) : Prop := ∃ k, k ≤ x ∧ i = .int .i64 ((k : Nat) : Int) ∧ Below w.heap.size w wr

theorem names_ne : ∀ x, x < 12 → ∀ k, k < 12 → ((namesL.getD k ⟨#[]⟩).toList == (namesL.getD x ⟨#[]⟩).toList) = decide (k = x) := by decide +kernel

set_option maxHeartbeats 1000000 in
set_option maxRecDepth 100000 in
/-- The level of a level's name is that level. -/
theorem of_calls (x : Nat) (h : x < 12) (w : World) : Calls Try.prog 23 #[.string (nameOf x)] w fun e w' => e = .returned (.tuple #[.int .i64 x, .bool true]) ∧ Below w.heap.size w w' := by
  have hn := names_calls
  have hi := names_ix
  generalize (.agg #[.string ⟨#[114, 101, 97, 100, 45, 97, 116, 111, 109, 105, 99]⟩, .string ⟨#[115, 101, 115, 115, 105, 111, 110, 45, 97, 116, 111, 109, 105, 99]⟩, .string ⟨#[99, 97, 117, 115, 97, 108]⟩, .string ⟨#[117, 112, 100, 97, 116, 101]⟩, .string ⟨#[112, 114, 101, 102, 105, 120]⟩, .string ⟨#[112, 97, 114, 97, 108, 108, 101, 108]⟩, .string ⟨#[115, 110, 97, 112, 115, 104, 111, 116]⟩, .string ⟨#[115, 101, 114, 105, 97, 108]⟩, .string ⟨#[116, 105, 109, 101, 45, 99, 97, 117, 115, 97, 108]⟩, .string ⟨#[116, 105, 109, 101, 45, 112, 114, 101, 102, 105, 120]⟩, .string ⟨#[116, 105, 109, 101, 45, 115, 110, 97, 112, 115, 104, 111, 116]⟩, .string ⟨#[115, 116, 114, 105, 99, 116]⟩] : Value) = NV at hn hi
  have hne := names_ne x h
  have hs : nameOf (x : Int) = namesL.getD x ⟨#[]⟩ := by unfold nameOf; rw [if_pos (by omega)]; rfl
  rw [hs]
  obtain ⟨s, hs2⟩ : ∃ s, namesL.getD x ⟨#[]⟩ = s := ⟨_, rfl⟩
  rw [hs2] at hne ⊢
  clear hs hs2
  have HI := Lib.hid hi
  have HNE := Lib.hid hne
  clear hi hne
  go_enter Try.func23, Try.ntmps23
  go_wp2_with fail
  refine (hn _).mono ?_
  rintro e w2 ⟨rfl, b2⟩
  clear hn
  go_wp2_with fail
  go_loopw [7] (fun i wr => RelOf x w i wr) (fun i _ => x + 1 - (RowKit.intOf i).toNat)
  case atStart => exact ⟨0, Nat.zero_le _, rfl, b2⟩
  case round =>
    obtain ⟨k, hk, rfl, bk⟩ := hrel
    have h12 : (k : Int) < 12 := by omega
    have ix := HI.out k (by omega)
    have en := HNE.out k (by omega)
    obtain ⟨t, ht⟩ : ∃ t, namesL.getD k ⟨#[]⟩ = t := ⟨_, rfl⟩
    rw [ht] at ix en
    clear ht
    by_cases he : k = x
    · rw [decide_eq_true he] at en
      subst he
      go_wp2_with fail
      go_ret2
      exact ⟨rfl, bk⟩
    · rw [decide_eq_false he] at en
      go_wp2_with fail
      go_roundw
      case rel => exact ⟨k + 1, by omega, by go_num, bk⟩
      case measure => simp [RowKit.intOf]; omega

end Go.Proofs.Ytegeaomemgcciaa.Level
