/- What layer 3's law asks first: its three examples, plainly. -/
import Derived.Test.YtegeaomemgcciabDoorBase03
namespace Go.Proofs.YtegeaomemgcciabDoor.Plain
open Go Go.Lib Go.RowKit Go.Proofs.YtegeaomemgcciabDoor Go.Proofs.YtegeaomemgcciabDoor.Hand Go.Proofs.YtegeaomemgcciabDoor.Q Go.Proofs.YtegeaomemgcciabDoorW.PrintWords

theorem numI_dec (u : Nat) (h : u ≤ 2147483647) : numI (mkB (decDigits u)) = ((u : Int), true) := by
  unfold numI mkB
  simp only
  rw [numP_dec u h]

theorem dec3 : decDigits 3 = [51] := by rw [decDigits_small (by omega)]; rfl
theorem dec1 : decDigits 1 = [49] := by rw [decDigits_small (by omega)]; rfl
theorem dec2 : decDigits 2 = [50] := by rw [decDigits_small (by omega)]; rfl
theorem dec17 : decDigits 17 = [49, 55] := by rw [decDigits_big (by omega), decDigits_small (by omega)]; rfl
theorem decMost : decDigits 2147483647 = [50, 49, 52, 55, 52, 56, 51, 54, 52, 55] := by
  repeat (rw [decDigits_big (by omega)])
  rw [decDigits_small (by omega)]
  rfl

theorem words_r317 : wordsP ⟨#[114, 32, 51, 32, 49, 55]⟩ 2 = (⟨#[114]⟩, [3, 17], true) := by
  have hp : pieces ⟨#[114, 32, 51, 32, 49, 55]⟩ = [mkB [114], mkB (decDigits 3), mkB (decDigits 17)] := by
    rw [← pieces_cut, dec3, dec17]; rfl
  unfold wordsP
  rw [hp]
  have ha : allNum [mkB (decDigits 3), mkB (decDigits 17)] = true := by
    unfold allNum
    simp only [List.all_cons, List.all_nil, numI_dec 3 (by omega), numI_dec 17 (by omega)]
    rfl
  rw [if_pos ⟨rfl, ha⟩]
  unfold numsOf
  simp only [List.tail_cons, List.map_cons, List.map_nil, numI_dec 3 (by omega), numI_dec 17 (by omega)]
  rfl
theorem words_r317_1 : wordsP ⟨#[114, 32, 51, 32, 49, 55]⟩ 1 = (⟨#[]⟩, [], false) := by
  have hp : (pieces ⟨#[114, 32, 51, 32, 49, 55]⟩).length = 3 := by rw [← pieces_cut]; rfl
  unfold wordsP
  rw [if_neg (by rw [hp]; simp)]

/-- Words of any line, of few bytes. -/
theorem token_Words_any (s : ByteArray) (a1 : Int) (h0 : -9223372036854775808 ≤ a1) (h1 : a1 ≤ 9223372036854775807) (hs : s.size ≤ 140737488) : token_Words.f s a1 = some (wordsP s a1) := by
  unfold token_Words.f
  rw [if_pos ⟨hs, h0, h1⟩]
theorem token_Number_any (s : ByteArray) (hs : s.size ≤ 140737488) : token_Number.f s = some (numI s) := by
  unfold token_Number.f
  rw [if_pos (by omega)]

theorem i64_of_wf {x : Int} (h : (Lit.int .i64 x).wf = true) : -9223372036854775808 ≤ x ∧ x ≤ 9223372036854775807 := by
  have h2 : (decide (IntKind.i64.min ≤ x) && decide (x ≤ IntKind.i64.max)) = true := h
  rw [Bool.and_eq_true, decide_eq_true_iff, decide_eq_true_iff] at h2
  exact ⟨h2.1, h2.2⟩

end Go.Proofs.YtegeaomemgcciabDoor.Plain
