/- Arrays of bools, of numbers: '==' on them. -/
import Derived.Laws.StructEq
import Derived.Laws.Rows
import Derived.Lib.QuietBelow
namespace Go.Proofs.Ytegeaomemgcciaa.ArrEq
open Go

theorem all_range {α : Type} [BEq α] [LawfulBEq α] (z : α) : ∀ (xs ys : List α), xs.length = ys.length → ((List.range xs.length).all fun i => xs.getD i z == ys.getD i z) = (xs == ys)
  | [], [], _ => rfl
  | x :: xs, y :: ys, h => by
    have ih := all_range z xs ys (by simpa using h)
    rw [List.length_cons, List.range_succ_eq_map, List.all_cons, List.all_map]
    simp only [List.getD_cons_zero, Function.comp_def, List.getD_cons_succ, ih]
    simp [List.cons_beq_cons]
  | [], _ :: _, h => by simp at h
  | _ :: _, [], h => by simp at h

theorem run_equalIn_cells {P : Program} {α : Type} [BEq α] [LawfulBEq α] (z : α) (enc : α → Value) (w : World) (d : Nat) (t e : TypeId) (n : Nat) (ht : P.underlying t = some (.array n e)) (hsz : ∀ w, (sizeOf e).run P w = .ok 1 w)
    (ha : ∀ w, (isAgg e).run P w = .ok false w) (he : ∀ w x y, (Op.equalIn (d + 1) e (enc x) (enc y)).run P w = .ok (x == y) w)
    (xs ys : List α) (hx : xs.length = n) (hy : ys.length = n) :
    (Op.equalIn (d + 2) t (.agg (xs.map enc).toArray) (.agg (ys.map enc).toArray)).run P w = .ok (xs == ys) w := by
  rw [← all_range z xs ys (hx.trans hy.symm), hx, List.range_eq_range', Op.equalIn]
  simp only [Sem.run_bind, run_underlying ht, Result.andThen_ok, hsz, Std.Legacy.Range.forIn_eq_forIn_range', Std.Legacy.Range.size, Nat.sub_zero, Nat.add_sub_cancel, Nat.div_one]
  have hl : ∀ i ∈ List.range' 0 n 1, i < n := fun i hi => by simpa using (List.mem_range'_1.1 hi).2
  generalize List.range' 0 n 1 = l at hl ⊢
  induction l with
  | nil => simp
  | cons i l ih =>
    have hi : i < n := hl i (by simp)
    have px : (part e (xs.map enc).toArray (i * 1)).run P w = .ok (enc (xs.getD i z)) w := by
      simp [part, Sem.run_bind, ha, List.getD, List.getElem?_eq_getElem (show i < xs.length by omega)]
    have py : (part e (ys.map enc).toArray (i * 1)).run P w = .ok (enc (ys.getD i z)) w := by
      simp [part, Sem.run_bind, ha, List.getD, List.getElem?_eq_getElem (show i < ys.length by omega)]
    simp only [List.forIn_cons, Sem.run_bind, px, py, he, Result.andThen_ok, List.all_cons]
    cases hxy : (xs.getD i z == ys.getD i z)
    · simp
    · simp only [Bool.not_true, Bool.false_eq_true, if_false, Sem.run_pure, Result.andThen_ok, Bool.true_and]
      exact ih (fun j hj => hl j (by simp [hj]))
theorem run_eql_cells {P : Program} {α : Type} [BEq α] [LawfulBEq α] (z : α) (enc : α → Value) (w : World) (t e : TypeId) (n : Nat) (ht : P.underlying t = some (.array n e)) (hsz : ∀ w, (sizeOf e).run P w = .ok 1 w)
    (ha : ∀ w, (isAgg e).run P w = .ok false w) (he : ∀ w x y, (Op.equalIn (9998 + 1) e (enc x) (enc y)).run P w = .ok (x == y) w)
    (xs ys : List α) (hx : xs.length = n) (hy : ys.length = n) :
    (binOp .eql t (.agg (xs.map enc).toArray) (.agg (ys.map enc).toArray)).run P w = .ok (.bool (xs == ys)) w := by
  rw [run_eql_struct, run_equalIn_cells z enc w 9998 t e n ht hsz ha he xs ys hx hy]
  rfl
/-- In a region that draws its order, walked in the order of its text: a whole array (or struct) is read. -/
theorem quiet_load {P : Program} {ops : Array Oper} {C : World → Prop} {Q : Act → Prop} {a : Act} {o : Oper} {rest : List Oper} (hw : Region.wanted o (yielded ops a.tmps) = true)
    (ty : TypeId) (x : Operand) (ho : o.op = .load ty x) (p : Addr) (hx : a.eval x = .pointer (some p)) (v : Value) (hl : ∀ w, C w → (loadVar ty p).run P w = .ok v w)
    (h : wpQuiet P ops C Q rest (a.put o.dst v)) : wpQuiet P ops C Q (o :: rest) a := by
  refine wpQuiet_step (fun K hK => ?_)
  rw [if_pos hw]
  refine ⟨v, fun w hC => ?_, hK _ h⟩
  unfold Oper.quietAt
  simp only [execOp, ho, hx, Instr.loadAt, Instr.sureAddr, Sem.run_bind, Sem.run_pure, Result.andThen_ok, hl w hC]
  exact ⟨rfl, rfl⟩
end Go.Proofs.Ytegeaomemgcciaa.ArrEq
