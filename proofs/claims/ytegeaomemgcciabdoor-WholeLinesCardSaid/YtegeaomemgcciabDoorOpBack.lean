/- The text of an operation is read as it, if it may be. -/
import Derived.Test.YtegeaomemgcciabDoorOpWalk
import Derived.Test.YtegeaomemgcciabDoorBackPlain
namespace Go.Proofs.YtegeaomemgcciabDoor.OpTexts
open Go Go.Lib Go.RowKit Go.Proofs.YtegeaomemgcciabDoor Go.Proofs.YtegeaomemgcciabDoor.Hand Go.Proofs.YtegeaomemgcciabDoor.Plain Go.Proofs.YtegeaomemgcciabDoor.Q Go.Proofs.YtegeaomemgcciabDoorW.PrintWords

/-- The text of an operation is read as it, if it may be. -/
theorem parse_text (b : Bool) (key val : Int) (h : -9223372036854775808 ≤ key ∧ key ≤ 9223372036854775807 ∧ -9223372036854775808 ≤ val ∧ val ≤ 9223372036854775807) :
    opParse (mkB (opText b key val)) = if rightB b key val = true then (b, key, val, true) else (false, 0, 0, false) := by
  have hp : ∀ c : UInt8, c ≠ 32 → pieces (mkB (c :: tailL [key, val])) = [mkB [c], mkB (itoa key), mkB (itoa val)] := by
    intro c hc
    rw [← pieces_cut]
    show (cutL 32 ([c] ++ tailL [key, val])).map mkB = _
    rw [Pure.join_pieces [c] (by simp; exact fun e => hc e.symm) [key, val]]
    rfl
  have hw : ∀ c : UInt8, c ≠ 32 → wordsP (mkB (c :: tailL [key, val])) 2 = if (Pure.inM key && Pure.inM val) = true then (mkB [c], [key, val], true) else (⟨#[]⟩, [], false) := by
    intro c hc
    unfold wordsP
    rw [hp c hc]
    have hall : allNum [mkB (itoa key), mkB (itoa val)] = (Pure.inM key && Pure.inM val) := by
      unfold allNum
      simp only [List.all_cons, List.all_nil, Bool.and_true, Pure.numI_itoa key h.2.1, Pure.numI_itoa val h.2.2.2]
      by_cases h1 : Pure.inM key = true <;> by_cases h2 : Pure.inM val = true <;> simp [h1, h2]
    by_cases hm : (Pure.inM key && Pure.inM val) = true
    · rw [if_pos ⟨rfl, hall.trans hm⟩, if_pos hm]
      rw [Bool.and_eq_true] at hm
      unfold numsOf
      simp only [List.tail_cons, List.map_cons, List.map_nil, Pure.numI_itoa key h.2.1, Pure.numI_itoa val h.2.2.2, if_pos hm.1, if_pos hm.2]
      rfl
    · rw [if_neg (fun z => hm (hall.symm.trans z.2)), if_neg hm]
  have hr : rightB b key val = true → (Pure.inM key && Pure.inM val) = true := by
    intro hr
    unfold rightB at hr
    rw [decide_eq_true_iff] at hr
    unfold Pure.inM
    simp
    omega
  by_cases hm : (Pure.inM key && Pure.inM val) = true
  · have e0 : rd [key, val] 0 = key := rfl
    have e1 : rd [key, val] 1 = val := rfl
    have key2 : ∀ (c : UInt8) (b : Bool), decide ((mkB [c]).data.toList = [119]) = b → ((mkB [c]).data.toList = [114] ∨ (mkB [c]).data.toList = [119]) → c ≠ 32 →
        opParse (mkB (c :: tailL [key, val])) = if rightB b key val = true then (b, key, val, true) else (false, 0, 0, false) := by
      intro c b hb hc h32
      unfold opParse
      rw [hw c h32, if_pos hm]
      dsimp only
      rw [hb, e0, e1]
      by_cases hr2 : rightB b key val = true
      · rw [if_pos ⟨rfl, hc, hr2⟩, if_pos hr2]
      · rw [if_neg (fun z => hr2 z.2.2), if_neg hr2]
    cases b with
    | true => exact key2 119 true (by decide) (.inr rfl) (by decide)
    | false => exact key2 114 false (by decide) (.inl rfl) (by decide)
  · rw [if_neg (fun z => hm (hr z))]
    have key2 : ∀ c : UInt8, c ≠ 32 → opParse (mkB (c :: tailL [key, val])) = (false, 0, 0, false) := by
      intro c h32
      unfold opParse
      rw [hw c h32, if_neg hm]
      rfl
    cases b with
    | true => exact key2 119 (by decide)
    | false => exact key2 114 (by decide)


end Go.Proofs.YtegeaomemgcciabDoor.OpTexts
namespace Go.Proofs.YtegeaomemgcciabDoor.OpKinds
theorem op_cells {X : World} {g : Nat} {b : Bool} {k v : Int} {t : TypeId} (h : X.heap[g]? = some (.cells #[.bool b, .int .i64 k, .int .i64 v] t (0, 0))) :
    X.cell? ⟨g, 0, none⟩ = some (.bool b) ∧ X.cell? ⟨g, 1, none⟩ = some (.int .i64 k) ∧ X.cell? ⟨g, 2, none⟩ = some (.int .i64 v) := by
  refine ⟨?_, ?_, ?_⟩ <;> (rw [Lib.cell_of_heap h]; rfl)

end Go.Proofs.YtegeaomemgcciabDoor.OpKinds
