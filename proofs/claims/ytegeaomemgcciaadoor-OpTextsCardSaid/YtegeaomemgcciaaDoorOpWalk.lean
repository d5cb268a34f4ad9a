/- Layer 4's functions at this program, by their plain meanings. -/
import Derived.Test.YtegeaomemgcciaaDoorOpPlain
import Derived.Test.YtegeaomemgcciaaDoorQx6
namespace Go.Proofs.YtegeaomemgcciaaDoor.Plain
open Go Go.Lib Go.RowKit Go.Proofs.YtegeaomemgcciaaDoor Go.Proofs.YtegeaomemgcciaaDoor.Hand Go.Proofs.YtegeaomemgcciaaDoor.Q Go.Proofs.YtegeaomemgcciaaDoorW.PrintWords

theorem words_w317 : wordsP ⟨#[119, 32, 51, 32, 49, 55]⟩ 2 = (⟨#[119]⟩, [3, 17], true) := by
  have hp : pieces ⟨#[119, 32, 51, 32, 49, 55]⟩ = [mkB [119], mkB (decDigits 3), mkB (decDigits 17)] := by
    rw [← pieces_cut, dec3, dec17]; rfl
  unfold wordsP
  rw [hp]
  have ha : allNum [mkB (decDigits 3), mkB (decDigits 17)] = true := by
    unfold allNum
    simp only [List.all_cons, List.all_nil, numI_dec 3 (by omega), numI_dec 17 (by omega)]
    rfl
  rw [if_pos ⟨rfl, ha⟩]
  unfold numsOf
  simp only [List.tail_cons, List.map_cons, List.map_nil, numI_dec 3 (by omega), numI_dec 17 (by omega)]
  rfl
theorem dec0 : decDigits 0 = [48] := by rw [decDigits_small (by omega)]; rfl
theorem words_w30 : wordsP ⟨#[119, 32, 51, 32, 48]⟩ 2 = (⟨#[119]⟩, [3, 0], true) := by
  have hp : pieces ⟨#[119, 32, 51, 32, 48]⟩ = [mkB [119], mkB (decDigits 3), mkB (decDigits 0)] := by
    rw [← pieces_cut, dec3, dec0]; rfl
  unfold wordsP
  rw [hp]
  have ha : allNum [mkB (decDigits 3), mkB (decDigits 0)] = true := by
    unfold allNum
    simp only [List.all_cons, List.all_nil, numI_dec 3 (by omega), numI_dec 0 (by omega)]
    rfl
  rw [if_pos ⟨rfl, ha⟩]
  unfold numsOf
  simp only [List.tail_cons, List.map_cons, List.map_nil, numI_dec 3 (by omega), numI_dec 0 (by omega)]
  rfl

theorem parse_w317 : opParse ⟨#[119, 32, 51, 32, 49, 55]⟩ = (true, 3, 17, true) := by
  unfold opParse; rw [words_w317]; rfl
theorem parse_w30 : opParse ⟨#[119, 32, 51, 32, 48]⟩ = (false, 0, 0, false) := by
  unfold opParse; rw [words_w30]; rfl

theorem speaks04 : burgagelaw04_speaks.f 5 = some true := by
  unfold burgagelaw04_speaks.f
  rw [parse_f _ (by decide) 5 (by omega), parse_f _ (by decide) 5 (by omega), parse_w317, parse_w30]
  simp only [Option.bind_some]
  have hw : op_Write.f 3 17 = some (true, 3, 17) := rfl
  have hr1 : op_Read.f 63 0 = some (false, 63, 0) := rfl
  have hr2 : op_Read.f 64 0 = some (false, 64, 0) := rfl
  have ht : tailL [3, 17] = [32, 51, 32, 49, 55] := by
    have e1 : itoa 3 = [51] := by rw [show (3 : Int) = ((3 : Nat) : Int) from rfl, itoa_nat, dec3]
    have e2 : itoa 17 = [49, 55] := by rw [show (17 : Int) = ((17 : Nat) : Int) from rfl, itoa_nat, dec17]
    unfold tailL
    simp only [List.flatMap_cons, List.flatMap_nil, e1, e2]
    rfl
  rw [hw, hr1, hr2, text_f true 3 17 (by omega) (by omega) (by omega) (by omega)]
  simp only [Option.bind_some, right_f]
  have e : (mkB (opText true 3 17)).toList = [119, 32, 51, 32, 49, 55] := by
    rw [toList_data]
    unfold opText mkB
    simp only [if_true]
    rw [ht]
  rw [if_pos trivial, if_neg (by decide), if_pos (by decide), if_pos e, if_pos (by decide)]
  rfl

theorem speaks_any (w : World) (HY : Laid w) : Calls Tryd.prog 17 #[] w fun e w' => e = .returned (.bool true) ∧ Below w.heap.size w w' :=
  burgagelaw04_speaks.walk ⟨5, speaks04⟩ w HY
theorem right_any (b : Bool) (key val : Int) (w : World) (HY : Laid w) : Calls Tryd.prog 20 #[.agg #[.bool b, .int .i64 key, .int .i64 val]] w fun e w' => e = .returned (.bool (rightB b key val)) ∧ Below w.heap.size w w' :=
  op_Right.calls b key val _ w (right_f b key val) HY
theorem may_any (b : Bool) (key val : Int) (w : World) (HY : Laid w) : Calls Tryd.prog 21 #[.agg #[.bool b, .int .i64 key, .int .i64 val]] w fun e w' => e = .returned (.bool (rightB b key val)) ∧ Below w.heap.size w w' :=
  burgagelaw04_may.calls b key val _ w (may_f b key val) HY
theorem read_any (key val : Int) (w : World) (HY : Laid w) : Calls Tryd.prog 22 #[.int .i64 key, .int .i64 val] w fun e w' => e = .returned (.agg #[.bool false, .int .i64 key, .int .i64 val]) ∧ Below w.heap.size w w' :=
  op_Read.calls key val _ _ _ w rfl HY
theorem write_any (key val : Int) (w : World) (HY : Laid w) : Calls Tryd.prog 23 #[.int .i64 key, .int .i64 val] w fun e w' => e = .returned (.agg #[.bool true, .int .i64 key, .int .i64 val]) ∧ Below w.heap.size w w' :=
  op_Write.calls key val _ _ _ w rfl HY
theorem text_any (b : Bool) (key val : Int) (hk0 : -9223372036854775808 ≤ key) (hk1 : key ≤ 9223372036854775807) (hv0 : -9223372036854775808 ≤ val) (hv1 : val ≤ 9223372036854775807) (w : World) (HY : Laid w) :
    Calls Tryd.prog 19 #[.agg #[.bool b, .int .i64 key, .int .i64 val]] w fun e w' => e = .returned (.string (mkB (opText b key val))) ∧ Below w.heap.size w w' :=
  op_Text.calls b key val _ w (text_f b key val hk0 hk1 hv0 hv1) HY
theorem parse_any (s : ByteArray) (hs : s.size ≤ 140737488) (w : World) (HY : Laid w) :
    Calls Tryd.prog 18 #[.string s] w fun e w' => e = .returned (.tuple #[.agg #[.bool (opParse s).1, .int .i64 (opParse s).2.1, .int .i64 (opParse s).2.2.1], .bool (opParse s).2.2.2]) ∧ Below w.heap.size w w' :=
  op_Parse.calls 2 s _ _ _ _ w (parse_f s hs 2 (by omega)) HY

/-- What a block holds, behind memory that was made since. -/
theorem blk_below {w w' : World} {g : Nat} {o : Obj} (h : w.heap[g]? = some o) (hb : Below w.heap.size w w') : w'.heap[g]? = some o :=
  (hb.block g (Array.getElem?_eq_some_iff.1 h).1).trans h

end Go.Proofs.YtegeaomemgcciaaDoor.Plain
