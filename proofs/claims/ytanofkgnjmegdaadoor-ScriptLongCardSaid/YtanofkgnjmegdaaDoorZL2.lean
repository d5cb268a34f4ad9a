/- Texts of this claim, joined by a program of this session: the declarations that its theorem uses. -/
import Derived.Lib.SplitLaws
section
namespace Go.Proofs.YtanofkgnjmegdaaDoor.Plain
open Go Go.Lib
def cutL (c : UInt8) : List UInt8 → List (List UInt8)
  | [] => [[]]
  | x :: r => if x = c then [] :: cutL c r else
    match cutL c r with
    | [] => [[x]]
    | p :: q => (x :: p) :: q
theorem cutL_ne (c : UInt8) (l : List UInt8) : cutL c l ≠ [] := by
  cases l with
  | nil => simp [cutL]
  | cons x r =>
    unfold cutL
    split
    · simp
    · split <;> simp
theorem splitK_cutL (c : UInt8) : ∀ l : List UInt8, splitK [c] 0 (l.count c) l = cutL c l
  | [] => rfl
  | x :: r => by
    have ih := splitK_cutL c r
    by_cases h : x = c
    · subst h
      rw [List.count_cons_self]
      have h0 : index (x :: r) [x] = 0 := by rw [index_one]; simp [indexByte]
      unfold splitK cutL
      rw [h0, if_neg (by decide), if_pos rfl]
      simpa using ih
    · rw [List.count_cons_of_ne h]
      have hb : (x == c) = false := by simpa using h
      unfold cutL
      rw [if_neg h]
      cases hc : r.count c with
      | zero =>
        rw [hc] at ih
        have e : cutL c r = [r] := ih.symm
        rw [e]
        rfl
      | succ k =>
        rw [hc] at ih
        have hpos : c ∈ r := by rw [← List.count_pos_iff]; omega
        have hi : ∃ i : Nat, indexByte r c = i := by
          have : ∀ s : List UInt8, c ∈ s → ∃ i : Nat, indexByte s c = i := by
            intro s
            induction s with
            | nil => intro h; simp at h
            | cons y s ih2 =>
              intro h
              unfold indexByte
              by_cases hy : (y == c) = true
              · exact ⟨0, by rw [if_pos hy]; rfl⟩
              · have hy2 : ¬ y = c := by simpa using hy
                obtain ⟨i, hi⟩ := ih2 (by rcases List.mem_cons.1 h with h | h; exact absurd h.symm hy2; exact h)
                refine ⟨i + 1, ?_⟩
                rw [if_neg hy, hi, if_neg (by simp)]
                omega
          exact this r hpos
        obtain ⟨i, hi⟩ := hi
        have h1 : index r [c] = i := by rw [index_one]; exact hi
        have h2 : index (x :: r) [c] = (i : Int) + 1 := by
          rw [index_one]
          unfold indexByte
          rw [if_neg (by rw [hb]; simp), hi, if_neg (by simp)]
        have e : cutL c r = r.take i :: splitK [c] 0 k (r.drop (i + 1)) := by
          rw [← ih]
          conv => lhs; unfold splitK
          rw [h1, if_neg (by simp)]
          simp
        rw [e]
        conv => lhs; unfold splitK
        rw [h2, if_neg (by simp; omega)]
        have e2 : ((i : Int) + 1).toNat = i + 1 := by omega
        rw [e2]
        simp
theorem splitB_cutL (c : UInt8) (s : ByteArray) : (splitB ⟨#[c]⟩ 0 (countB s ⟨#[c]⟩) s).map (·.data.toList) = cutL c s.data.toList := by
  rw [splitB_data]
  have : countB s ⟨#[c]⟩ = s.data.toList.count c := by
    unfold countB
    exact count_one c _
  rw [this]
  exact splitK_cutL c _
theorem cutL_append (c : UInt8) : ∀ (p r : List UInt8), c ∉ p → cutL c (p ++ c :: r) = p :: cutL c r
  | [], r, _ => by simp [cutL]
  | x :: p, r, h => by
    simp only [List.mem_cons, not_or] at h
    have ih := cutL_append c p r h.2
    rw [List.cons_append]
    conv => lhs; unfold cutL
    rw [if_neg (fun e => h.1 e.symm), ih]
theorem cutL_last (c : UInt8) : ∀ p : List UInt8, c ∉ p → cutL c p = [p]
  | [], _ => rfl
  | x :: p, h => by
    simp only [List.mem_cons, not_or] at h
    have ih := cutL_last c p h.2
    unfold cutL
    rw [if_neg (fun e => h.1 e.symm), ih]
end Go.Proofs.YtanofkgnjmegdaaDoor.Plain
end
