/- TokenWords: the program's words of any line of at most 500 bytes are the reference's: both are the pieces between blanks, read as numbers. -/
import Derived.Test.YtegeaomemgcciaaDoorTokenPlain
namespace Go.Proofs.YtegeaomemgcciaaDoor.Pure
open Go Go.RowKit Go.Proofs.YtegeaomemgcciaaDoor Go.Proofs.YtegeaomemgcciaaDoor.Hand Go.Proofs.YtegeaomemgcciaaDoor.Q Go.Proofs.YtegeaomemgcciaaDoor.Plain

theorem TokenWords : burgagelaw03_TokenWords.Pure := by
  intro a0 a1 h0 h1
  have hb := i64_of_wf h1
  refine ⟨2000000, ?_⟩
  unfold burgagelaw03_TokenWords.f
  rw [speaks03 _ (by omega)]
  simp only [Option.bind_some, if_true]
  by_cases hs : (a0.size : Int) > 500
  · rw [if_pos hs]
  · rw [if_neg hs, token_Words_any a0 a1 hb.1 hb.2 (by omega), words_ref a0 a1 hb.1 hb.2 (by omega) 2000000 (by omega)]
    simp only [Option.bind_some]
    have hl : (wordsP a0 a1).2.1.length ≤ 1000000 := by
      have := pieces_le a0
      unfold wordsP
      split
      · simp only [Hand.numsOf, List.length_map, List.length_tail]; omega
      · simp
    rw [same_ref _ _ (by omega) 2000000 (by omega)]
    simp

end Go.Proofs.YtegeaomemgcciaaDoor.Pure
