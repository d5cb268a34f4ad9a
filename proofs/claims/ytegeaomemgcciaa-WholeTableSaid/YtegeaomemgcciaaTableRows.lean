/- Rows of levels, read by index. -/
import Derived.Test.YtegeaomemgcciaaTableAll

namespace Go.Proofs.Ytegeaomemgcciaa.Table
open Go Go.RowKit Go.Proofs.Ytegeaomemgcciaa Go.Proofs.Ytegeaomemgcciaa.Hand Go.Proofs.Ytegeaomemgcciaa.Q Go.Proofs.YtegeaomemgcciaaW.PrintWords

def rowF (f : Nat → Bool) : List Bool := (List.range 12).map f
theorem rowF_get (f : Nat → Bool) (b : Nat) (hb : b < 12) : (boolsV (rowF f))[b]? = some (.bool (f b)) := by
  unfold boolsV rowF
  simp [hb]
theorem row_ix0 (f : Nat → Bool) (w : World) : (Instr.index 32 (.agg (boolsV (rowF f))) (.int .i64 0)).run Try.prog w = .ok (.bool (f 0)) w := by kernel_rfl
theorem all_ix0 (w : World) : (Instr.index 86 (.agg (boolsV (allIn 144))) (.int .i64 0)).run Try.prog w = .ok (.agg (boolsV (rowF (impl 0)))) w := by kernel_rfl
theorem row_ix1 (f : Nat → Bool) (w : World) : (Instr.index 32 (.agg (boolsV (rowF f))) (.int .i64 1)).run Try.prog w = .ok (.bool (f 1)) w := by kernel_rfl
theorem all_ix1 (w : World) : (Instr.index 86 (.agg (boolsV (allIn 144))) (.int .i64 1)).run Try.prog w = .ok (.agg (boolsV (rowF (impl 1)))) w := by kernel_rfl
theorem row_ix2 (f : Nat → Bool) (w : World) : (Instr.index 32 (.agg (boolsV (rowF f))) (.int .i64 2)).run Try.prog w = .ok (.bool (f 2)) w := by kernel_rfl
theorem all_ix2 (w : World) : (Instr.index 86 (.agg (boolsV (allIn 144))) (.int .i64 2)).run Try.prog w = .ok (.agg (boolsV (rowF (impl 2)))) w := by kernel_rfl
theorem row_ix3 (f : Nat → Bool) (w : World) : (Instr.index 32 (.agg (boolsV (rowF f))) (.int .i64 3)).run Try.prog w = .ok (.bool (f 3)) w := by kernel_rfl
theorem all_ix3 (w : World) : (Instr.index 86 (.agg (boolsV (allIn 144))) (.int .i64 3)).run Try.prog w = .ok (.agg (boolsV (rowF (impl 3)))) w := by kernel_rfl
theorem row_ix4 (f : Nat → Bool) (w : World) : (Instr.index 32 (.agg (boolsV (rowF f))) (.int .i64 4)).run Try.prog w = .ok (.bool (f 4)) w := by kernel_rfl
theorem all_ix4 (w : World) : (Instr.index 86 (.agg (boolsV (allIn 144))) (.int .i64 4)).run Try.prog w = .ok (.agg (boolsV (rowF (impl 4)))) w := by kernel_rfl
theorem row_ix5 (f : Nat → Bool) (w : World) : (Instr.index 32 (.agg (boolsV (rowF f))) (.int .i64 5)).run Try.prog w = .ok (.bool (f 5)) w := by kernel_rfl
theorem all_ix5 (w : World) : (Instr.index 86 (.agg (boolsV (allIn 144))) (.int .i64 5)).run Try.prog w = .ok (.agg (boolsV (rowF (impl 5)))) w := by kernel_rfl
theorem row_ix6 (f : Nat → Bool) (w : World) : (Instr.index 32 (.agg (boolsV (rowF f))) (.int .i64 6)).run Try.prog w = .ok (.bool (f 6)) w := by kernel_rfl
theorem all_ix6 (w : World) : (Instr.index 86 (.agg (boolsV (allIn 144))) (.int .i64 6)).run Try.prog w = .ok (.agg (boolsV (rowF (impl 6)))) w := by kernel_rfl
theorem row_ix7 (f : Nat → Bool) (w : World) : (Instr.index 32 (.agg (boolsV (rowF f))) (.int .i64 7)).run Try.prog w = .ok (.bool (f 7)) w := by kernel_rfl
theorem all_ix7 (w : World) : (Instr.index 86 (.agg (boolsV (allIn 144))) (.int .i64 7)).run Try.prog w = .ok (.agg (boolsV (rowF (impl 7)))) w := by kernel_rfl
theorem row_ix8 (f : Nat → Bool) (w : World) : (Instr.index 32 (.agg (boolsV (rowF f))) (.int .i64 8)).run Try.prog w = .ok (.bool (f 8)) w := by kernel_rfl
theorem all_ix8 (w : World) : (Instr.index 86 (.agg (boolsV (allIn 144))) (.int .i64 8)).run Try.prog w = .ok (.agg (boolsV (rowF (impl 8)))) w := by kernel_rfl
theorem row_ix9 (f : Nat → Bool) (w : World) : (Instr.index 32 (.agg (boolsV (rowF f))) (.int .i64 9)).run Try.prog w = .ok (.bool (f 9)) w := by kernel_rfl
theorem all_ix9 (w : World) : (Instr.index 86 (.agg (boolsV (allIn 144))) (.int .i64 9)).run Try.prog w = .ok (.agg (boolsV (rowF (impl 9)))) w := by kernel_rfl
theorem row_ix10 (f : Nat → Bool) (w : World) : (Instr.index 32 (.agg (boolsV (rowF f))) (.int .i64 10)).run Try.prog w = .ok (.bool (f 10)) w := by kernel_rfl
theorem all_ix10 (w : World) : (Instr.index 86 (.agg (boolsV (allIn 144))) (.int .i64 10)).run Try.prog w = .ok (.agg (boolsV (rowF (impl 10)))) w := by kernel_rfl
theorem row_ix11 (f : Nat → Bool) (w : World) : (Instr.index 32 (.agg (boolsV (rowF f))) (.int .i64 11)).run Try.prog w = .ok (.bool (f 11)) w := by kernel_rfl
theorem all_ix11 (w : World) : (Instr.index 86 (.agg (boolsV (allIn 144))) (.int .i64 11)).run Try.prog w = .ok (.agg (boolsV (rowF (impl 11)))) w := by kernel_rfl
theorem row_ix (f : Nat → Bool) (b : Nat) (h : b < 12) (w : World) : (Instr.index 32 (.agg (boolsV (rowF f))) (.int .i64 (b : Int))).run Try.prog w = .ok (.bool (f b)) w :=
  match b, h with
  | 0, _ => row_ix0 f w
  | 1, _ => row_ix1 f w
  | 2, _ => row_ix2 f w
  | 3, _ => row_ix3 f w
  | 4, _ => row_ix4 f w
  | 5, _ => row_ix5 f w
  | 6, _ => row_ix6 f w
  | 7, _ => row_ix7 f w
  | 8, _ => row_ix8 f w
  | 9, _ => row_ix9 f w
  | 10, _ => row_ix10 f w
  | 11, _ => row_ix11 f w
  | b + 12, h => absurd h (by omega)
theorem all_ix (b : Nat) (h : b < 12) (w : World) : (Instr.index 86 (.agg (boolsV (allIn 144))) (.int .i64 (b : Int))).run Try.prog w = .ok (.agg (boolsV (rowF (impl b)))) w :=
  match b, h with
  | 0, _ => all_ix0 w
  | 1, _ => all_ix1 w
  | 2, _ => all_ix2 w
  | 3, _ => all_ix3 w
  | 4, _ => all_ix4 w
  | 5, _ => all_ix5 w
  | 6, _ => all_ix6 w
  | 7, _ => all_ix7 w
  | 8, _ => all_ix8 w
  | 9, _ => all_ix9 w
  | 10, _ => all_ix10 w
  | 11, _ => all_ix11 w
  | b + 12, h => absurd h (by omega)
end Go.Proofs.Ytegeaomemgcciaa.Table
