/- Layer 4, plainly: which operations may be, their texts, and which one any line is. -/
import Derived.Test.YtegeaomemgcciabDoorTokenPlain
import Derived.Test.YtegeaomemgcciabDoorQx2
namespace Go.Proofs.YtegeaomemgcciabDoor.Plain
open Go Go.Lib Go.RowKit Go.Proofs.YtegeaomemgcciabDoor Go.Proofs.YtegeaomemgcciabDoor.Hand Go.Proofs.YtegeaomemgcciabDoor.Q Go.Proofs.YtegeaomemgcciabDoorW.PrintWords

/-- May there be such an operation? -/
def rightB (b : Bool) (key val : Int) : Bool := decide (0 ≤ key ∧ key < 64 ∧ 0 ≤ val ∧ val ≤ 2147483647 ∧ (b = true → val ≠ 0))

theorem right_f (b : Bool) (key val : Int) : op_Right.f b key val = some (rightB b key val) := by
  unfold op_Right.f rightB
  by_cases h1 : key < 0
  · rw [if_pos h1, decide_eq_false (by omega)]
  · rw [if_neg h1]
    by_cases h2 : key ≥ 64
    · rw [if_pos h2, decide_eq_false (by omega)]
    · rw [if_neg h2]
      by_cases h3 : val < 0
      · rw [if_pos h3, decide_eq_false (by omega)]
      · rw [if_neg h3]
        by_cases h4 : val > 2147483647
        · rw [if_pos h4, decide_eq_false (by omega)]
        · rw [if_neg h4]
          cases b with
          | true => rw [if_pos rfl]; congr 1; rw [Bool.eq_iff_iff]; simp; omega
          | false => rw [if_neg (by simp)]; congr 1; symm; simp; omega

/-- An operation's text. -/
def opText (b : Bool) (key val : Int) : List UInt8 := (if b = true then 119 else 114) :: tailL [key, val]

theorem text_f (b : Bool) (key val : Int) (hk0 : -9223372036854775808 ≤ key) (hk1 : key ≤ 9223372036854775807) (hv0 : -9223372036854775808 ≤ val) (hv1 : val ≤ 9223372036854775807) :
    op_Text.f b key val = some (mkB (opText b key val)) := by
  have hin : inI64 [key, val] = true := by unfold inI64; simp; omega
  have hj : ∀ c : UInt8, token_Join.f ⟨#[c]⟩ [key, val] = some (mkB (c :: tailL [key, val])) := by
    intro c
    unfold token_Join.f
    rw [if_pos ⟨by simp [ByteArray.size], hin⟩]
    rfl
  unfold op_Text.f opText
  cases b with
  | true => rw [if_pos rfl, hj]; rfl
  | false => rw [if_neg (by simp), hj]; rfl

/-- Which operation a line is. -/
def opParse (s : ByteArray) : Bool × Int × Int × Bool :=
  let r := wordsP s 2
  if r.2.2 = true ∧ (r.1.data.toList = [114] ∨ r.1.data.toList = [119]) ∧ rightB (decide (r.1.data.toList = [119])) (rd r.2.1 0) (rd r.2.1 1) = true then (decide (r.1.data.toList = [119]), rd r.2.1 0, rd r.2.1 1, true) else (false, 0, 0, false)

theorem words_two (s : ByteArray) (h : (wordsP s 2).2.2 = true) : (wordsP s 2).2.1.length = 2 := by
  unfold wordsP at h ⊢
  split at h
  · rename_i hc
    rw [if_pos hc]
    unfold numsOf
    simp only [List.length_map, List.length_tail]
    omega
  · simp at h

theorem parse_f (s : ByteArray) (hs : s.size ≤ 140737488) (k : Nat) (hk : 2 ≤ k) : op_Parse.f k s = some (opParse s) := by
  obtain ⟨k, rfl⟩ : ∃ j, k = j + 1 := ⟨k - 1, by omega⟩
  unfold op_Parse.f
  rw [token_Words_any s 2 (by omega) (by omega) hs]
  simp only [Option.bind_some]
  have hl := words_two s
  unfold opParse
  generalize wordsP s 2 = r at *
  obtain ⟨w, l, b⟩ := r
  simp only at *
  rw [toList_data]
  cases b with
  | false =>
    rw [if_neg (by simp)]
    simp only [op_Parse.j0]
    rw [if_pos trivial, if_neg (by simp)]
  | true =>
    rw [if_pos rfl]
    have hl2 := hl rfl
    by_cases h1 : w.data.toList = [114]
    · rw [if_pos h1]
      simp only [op_Parse.j0]
      rw [if_neg (by simp), if_pos (by omega), if_pos (by omega), toList_data, h1, right_f]
      simp only [Option.bind_some]
      have e1 : (([114] : List UInt8) == [119]) = false := by decide
      have e2 : decide (([114] : List UInt8) = [119]) = false := by decide
      rw [e1, e2]
      by_cases h2 : rightB false (rd l 0) (rd l 1) = true
      · rw [if_pos h2, if_pos ⟨trivial, .inl trivial, h2⟩]
      · rw [if_neg h2, if_neg (fun h => h2 h.2.2)]
    · rw [if_neg h1]
      by_cases h3 : w.data.toList = [119]
      · have e0 : (w.data.toList != [119]) = false := by rw [h3]; rfl
        rw [e0]
        simp only [op_Parse.j0]
        rw [if_neg (by simp), if_pos (by omega), if_pos (by omega), toList_data, h3, right_f]
        simp only [Option.bind_some]
        have e1 : (([119] : List UInt8) == [119]) = true := by decide
        rw [e1, show decide True = true from rfl]
        by_cases h2 : rightB true (rd l 0) (rd l 1) = true
        · rw [if_pos h2, if_pos ⟨trivial, .inr trivial, h2⟩]
        · rw [if_neg h2, if_neg (fun h => h2 h.2.2)]
      · have e0 : (w.data.toList != [119]) = true := by simpa using h3
        rw [e0]
        simp only [op_Parse.j0]
        rw [if_pos trivial, if_neg (by intro h; rcases h.2.1 with h | h; exact h1 h; exact h3 h)]

end Go.Proofs.YtegeaomemgcciabDoor.Plain
