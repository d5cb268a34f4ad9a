/- Layer 4's functions at this program, by their plain meanings. -/
import Derived.Test.YtegeaomemgcciabDoorOpPlain
import Derived.Test.YtegeaomemgcciabDoorQx2
namespace Go.Proofs.YtegeaomemgcciabDoor.Plain
open Go Go.Lib Go.RowKit Go.Proofs.YtegeaomemgcciabDoor Go.Proofs.YtegeaomemgcciabDoor.Hand Go.Proofs.YtegeaomemgcciabDoor.Q Go.Proofs.YtegeaomemgcciabDoorW.PrintWords

theorem words_w317 : wordsP ⟨#[119, 32, 51, 32, 49, 55]⟩ 2 = (⟨#[119]⟩, [3, 17], true) := by
  have hp : pieces ⟨#[119, 32, 51, 32, 49, 55]⟩ = [mkB [119], mkB (decDigits 3), mkB (decDigits 17)] := by
    rw [← pieces_cut, dec3, dec17]; rfl
  unfold wordsP
  rw [hp]
  have ha : allNum [mkB (decDigits 3), mkB (decDigits 17)] = true := by
    unfold allNum
    simp only [List.all_cons, List.all_nil, numI_dec 3 (by omega), numI_dec 17 (by omega)]
    rfl
  rw [if_pos ⟨rfl, ha⟩]
  unfold numsOf
  simp only [List.tail_cons, List.map_cons, List.map_nil, numI_dec 3 (by omega), numI_dec 17 (by omega)]
  rfl
theorem dec0 : decDigits 0 = [48] := by rw [decDigits_small (by omega)]; rfl
theorem parse_w317 : opParse ⟨#[119, 32, 51, 32, 49, 55]⟩ = (true, 3, 17, true) := by
  unfold opParse; rw [words_w317]; rfl
theorem right_any (b : Bool) (key val : Int) (w : World) (HY : Laid w) : Calls Tryd.prog 20 #[.agg #[.bool b, .int .i64 key, .int .i64 val]] w fun e w' => e = .returned (.bool (rightB b key val)) ∧ Below w.heap.size w w' :=
  op_Right.calls b key val _ w (right_f b key val) HY
theorem write_any (key val : Int) (w : World) (HY : Laid w) : Calls Tryd.prog 15 #[.int .i64 key, .int .i64 val] w fun e w' => e = .returned (.agg #[.bool true, .int .i64 key, .int .i64 val]) ∧ Below w.heap.size w w' :=
  op_Write.calls key val _ _ _ w rfl HY
theorem text_any (b : Bool) (key val : Int) (hk0 : -9223372036854775808 ≤ key) (hk1 : key ≤ 9223372036854775807) (hv0 : -9223372036854775808 ≤ val) (hv1 : val ≤ 9223372036854775807) (w : World) (HY : Laid w) :
    Calls Tryd.prog 17 #[.agg #[.bool b, .int .i64 key, .int .i64 val]] w fun e w' => e = .returned (.string (mkB (opText b key val))) ∧ Below w.heap.size w w' :=
  op_Text.calls b key val _ w (text_f b key val hk0 hk1 hv0 hv1) HY
theorem parse_any (s : ByteArray) (hs : s.size ≤ 140737488) (w : World) (HY : Laid w) :
    Calls Tryd.prog 14 #[.string s] w fun e w' => e = .returned (.tuple #[.agg #[.bool (opParse s).1, .int .i64 (opParse s).2.1, .int .i64 (opParse s).2.2.1], .bool (opParse s).2.2.2]) ∧ Below w.heap.size w w' :=
  op_Parse.calls 2 s _ _ _ _ w (parse_f s hs 2 (by omega)) HY

/-- What a block holds, behind memory that was made since. -/
theorem blk_below {w w' : World} {g : Nat} {o : Obj} (h : w.heap[g]? = some o) (hb : Below w.heap.size w w') : w'.heap[g]? = some o :=
  (hb.block g (Array.getElem?_eq_some_iff.1 h).1).trans h

end Go.Proofs.YtegeaomemgcciabDoor.Plain
