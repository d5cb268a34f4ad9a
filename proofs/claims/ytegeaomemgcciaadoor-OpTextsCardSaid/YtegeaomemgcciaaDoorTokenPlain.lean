/- What layer 3's law asks first: its three examples, plainly. -/
import Derived.Test.YtegeaomemgcciaaDoorRef03
namespace Go.Proofs.YtegeaomemgcciaaDoor.Plain
open Go Go.Lib Go.RowKit Go.Proofs.YtegeaomemgcciaaDoor Go.Proofs.YtegeaomemgcciaaDoor.Hand Go.Proofs.YtegeaomemgcciaaDoor.Q Go.Proofs.YtegeaomemgcciaaDoorW.PrintWords

theorem numI_dec (u : Nat) (h : u ≤ 2147483647) : numI (mkB (decDigits u)) = ((u : Int), true) := by
  unfold numI mkB
  simp only
  rw [numP_dec u h]

theorem dec3 : decDigits 3 = [51] := by rw [decDigits_small (by omega)]; rfl
theorem dec1 : decDigits 1 = [49] := by rw [decDigits_small (by omega)]; rfl
theorem dec2 : decDigits 2 = [50] := by rw [decDigits_small (by omega)]; rfl
theorem dec17 : decDigits 17 = [49, 55] := by rw [decDigits_big (by omega), decDigits_small (by omega)]; rfl
theorem decMost : decDigits 2147483647 = [50, 49, 52, 55, 52, 56, 51, 54, 52, 55] := by
  repeat (rw [decDigits_big (by omega)])
  rw [decDigits_small (by omega)]
  rfl

theorem words_r317 : wordsP ⟨#[114, 32, 51, 32, 49, 55]⟩ 2 = (⟨#[114]⟩, [3, 17], true) := by
  have hp : pieces ⟨#[114, 32, 51, 32, 49, 55]⟩ = [mkB [114], mkB (decDigits 3), mkB (decDigits 17)] := by
    rw [← pieces_cut, dec3, dec17]; rfl
  unfold wordsP
  rw [hp]
  have ha : allNum [mkB (decDigits 3), mkB (decDigits 17)] = true := by
    unfold allNum
    simp only [List.all_cons, List.all_nil, numI_dec 3 (by omega), numI_dec 17 (by omega)]
    rfl
  rw [if_pos ⟨rfl, ha⟩]
  unfold numsOf
  simp only [List.tail_cons, List.map_cons, List.map_nil, numI_dec 3 (by omega), numI_dec 17 (by omega)]
  rfl
theorem words_r317_1 : wordsP ⟨#[114, 32, 51, 32, 49, 55]⟩ 1 = (⟨#[]⟩, [], false) := by
  have hp : (pieces ⟨#[114, 32, 51, 32, 49, 55]⟩).length = 3 := by rw [← pieces_cut]; rfl
  unfold wordsP
  rw [if_neg (by rw [hp]; simp)]

theorem join_w : token_Join.f ⟨#[119]⟩ [1, -2] = some ⟨#[119, 32, 49, 32, 45, 50]⟩ := by
  unfold token_Join.f
  rw [if_pos ⟨by decide, by decide⟩]
  have : tailL [1, -2] = [32, 49, 32, 45, 50] := by
    have e1 : itoa 1 = [49] := by rw [show (1 : Int) = ((1 : Nat) : Int) from rfl, itoa_nat, dec1]
    have e2 : itoa (-2) = [45, 50] := by unfold itoa; rw [if_pos (by omega)]; show 45 :: decDigits 2 = _; rw [dec2]
    unfold tailL
    simp only [List.flatMap_cons, List.flatMap_nil, e1, e2]
    rfl
  rw [this]
  rfl

theorem speaks03 (k : Nat) (hk : 10 ≤ k) : burgagelaw03_speaks.f k = some true := by
  unfold burgagelaw03_speaks.f
  have h1 : token_Words.f ⟨#[114, 32, 51, 32, 49, 55]⟩ 2 = some (⟨#[114]⟩, [3, 17], true) := by
    unfold token_Words.f
    rw [if_pos ⟨by decide, by decide, by decide⟩, words_r317]
  have h2 : token_Words.f ⟨#[114, 32, 51, 32, 49, 55]⟩ 1 = some (⟨#[]⟩, [], false) := by
    unfold token_Words.f
    rw [if_pos ⟨by decide, by decide, by decide⟩, words_r317_1]
  have h3 : token_Number.f ⟨#[50, 49, 52, 55, 52, 56, 51, 54, 52, 55]⟩ = some (2147483647, true) := by
    unfold token_Number.f
    rw [if_pos (by decide)]
    have := numI_dec 2147483647 (Nat.le_refl _)
    rw [decMost] at this
    exact congrArg some this
  rw [h1, h2, h3]
  simp only [Option.bind_some]
  rw [if_pos (by rw [toList_data]), if_pos trivial, if_neg (by decide), same_ref _ _ (by decide) k (by simp; omega)]
  simp only [Option.bind_some]
  rw [if_pos (by decide), if_pos trivial, if_pos trivial, join_w]
  simp only [Option.bind_some]
  rw [toList_data]
  rfl

/-- Words of any line, of few bytes. -/
theorem token_Words_any (s : ByteArray) (a1 : Int) (h0 : -9223372036854775808 ≤ a1) (h1 : a1 ≤ 9223372036854775807) (hs : s.size ≤ 140737488) : token_Words.f s a1 = some (wordsP s a1) := by
  unfold token_Words.f
  rw [if_pos ⟨hs, h0, h1⟩]
theorem token_Number_any (s : ByteArray) (hs : s.size ≤ 140737488) : token_Number.f s = some (numI s) := by
  unfold token_Number.f
  rw [if_pos (by omega)]

theorem i64_of_wf {x : Int} (h : (Lit.int .i64 x).wf = true) : -9223372036854775808 ≤ x ∧ x ≤ 9223372036854775807 := by
  have h2 : (decide (IntKind.i64.min ≤ x) && decide (x ≤ IntKind.i64.max)) = true := h
  rw [Bool.and_eq_true, decide_eq_true_iff, decide_eq_true_iff] at h2
  exact ⟨h2.1, h2.2⟩

end Go.Proofs.YtegeaomemgcciaaDoor.Plain
