/- Texts of this claim, joined by a program of this session: the declarations that its theorem uses. -/
import Derived.Lib.AtoiAll
import Derived.Lib.ItoaNum
section
namespace Go.Proofs.YtanofkgnjmegdaaDoor.Plain
open Go Go.Lib
def numP (l : List UInt8) : Option Nat :=
  match atoiAll l with
  | .ok v => if v < 0 ∨ 2147483647 < v ∨ itoa v ≠ l then none else some v.toNat
  | _ => none
theorem toNat_digit (d : Nat) (h : d < 10) : (UInt8.ofNat (48 + d)).toNat = 48 + d := by
  rw [UInt8.toNat_ofNat']; omega
theorem parse_snoc : ∀ (l : List UInt8) (acc u d : Nat), parseUint10 acc l = .ok u → u < 1844674407370955161 → d < 10 →
    parseUint10 acc (l ++ [UInt8.ofNat (48 + d)]) = .ok (u * 10 + d)
  | [], acc, u, d, h, hu, hd => by
    simp only [parseUint10] at h
    injection h with h
    subst h
    simp only [List.nil_append, parseUint10, toNat_digit d hd]
    rw [if_pos (by omega), if_neg (by omega), if_neg (by omega)]
    congr 1
    omega
  | c :: r, acc, u, d, h, hu, hd => by
    simp only [parseUint10] at h
    simp only [List.cons_append, parseUint10]
    split at h
    · rename_i h1
      rw [if_pos h1]
      split at h
      · cases h
      · rename_i h2
        rw [if_neg h2]
        split at h
        · cases h
        · rename_i h3
          rw [if_neg h3]
          exact parse_snoc r _ u d h hu hd
    · cases h
theorem decDigits_small {u : Nat} (h : u < 10) : decDigits u = [UInt8.ofNat (48 + u)] := by rw [decDigits, dif_pos h]
theorem decDigits_big {u : Nat} (h : ¬ u < 10) : decDigits u = decDigits (u / 10) ++ [UInt8.ofNat (48 + u % 10)] := by rw [decDigits, dif_neg h]
theorem parse_dec (u : Nat) (h : u < 18446744073709551600) : parseUint10 0 (decDigits u) = .ok u := by
  induction u using Nat.strongRecOn with
  | _ u ih =>
    by_cases hu : u < 10
    · rw [decDigits_small hu]
      simp only [parseUint10, toNat_digit u hu]
      rw [if_pos (by omega), if_neg (by omega), if_neg (by omega)]
      congr 1
      omega
    · rw [decDigits_big hu]
      have := parse_snoc (decDigits (u / 10)) 0 (u / 10) (u % 10) (ih (u / 10) (by omega) (by omega)) (by omega) (by omega)
      rw [this]
      congr 1
      omega
theorem decDigits_ne (u : Nat) : decDigits u ≠ [] := by
  by_cases hu : u < 10
  · rw [decDigits_small hu]; simp
  · rw [decDigits_big hu]; simp
theorem decDigits_digit (u : Nat) : ∀ c ∈ decDigits u, 48 ≤ c.toNat ∧ c.toNat ≤ 57 := by
  induction u using Nat.strongRecOn with
  | _ u ih =>
    by_cases hu : u < 10
    · rw [decDigits_small hu]
      intro c hc
      rw [List.mem_singleton] at hc
      subst hc
      rw [toNat_digit u hu]; omega
    · rw [decDigits_big hu]
      intro c hc
      rw [List.mem_append] at hc
      rcases hc with hc | hc
      · exact ih (u / 10) (by omega) c hc
      · rw [List.mem_singleton] at hc
        subst hc
        rw [toNat_digit _ (by omega)]; omega
theorem atoiAll_dec (u : Nat) (h : u < 9223372036854775808) : atoiAll (decDigits u) = .ok (u : Int) := by
  have hne := decDigits_ne u
  have hd := decDigits_digit u
  have hp := parse_dec u (by omega)
  cases hl : decDigits u with
  | nil => exact absurd hl hne
  | cons c r =>
    have hc := hd c (by rw [hl]; simp)
    rw [hl] at hp
    unfold atoiAll
    simp only
    rw [if_neg (by omega)]
    unfold parseMag
    rw [if_neg (by simp), hp]
    simp only
    rw [if_neg (by omega), if_neg (by omega), if_neg (by omega)]
theorem itoa_nat (u : Nat) : itoa (u : Int) = decDigits u := by unfold itoa; rw [if_neg (by omega)]; simp
theorem numP_dec (u : Nat) (h : u ≤ 2147483647) : numP (decDigits u) = some u := by
  unfold numP
  rw [atoiAll_dec u (by omega)]
  simp only
  rw [if_neg (by rw [itoa_nat]; simp; omega)]
  simp
theorem numP_some {l : List UInt8} {u : Nat} (h : numP l = some u) : u ≤ 2147483647 ∧ l = decDigits u := by
  unfold numP at h
  split at h
  · split at h
    · cases h
    · rename_i v hv hc
      simp only [not_or, Decidable.not_not] at hc
      injection h with h
      obtain ⟨h1, h2, h3⟩ := hc
      have e : v = (u : Int) := by omega
      refine ⟨by omega, ?_⟩
      rw [e, itoa_nat] at h3
      exact h3.symm
  · cases h
theorem decDigits_inj {u v : Nat} (hu : u < 9223372036854775808) (hv : v < 9223372036854775808) (h : decDigits u = decDigits v) : u = v := by
  have a := atoiAll_dec u hu
  rw [h, atoiAll_dec v hv] at a
  injection a with a
  omega
theorem decDigits_le (n : Nat) : ∀ u, u < 10 ^ n → 1 ≤ n → (decDigits u).length ≤ n := by
  induction n with
  | zero => intro u _ h; omega
  | succ n ih =>
    intro u hu _
    by_cases h : u < 10
    · rw [decDigits_small h]; simp
    · rw [decDigits_big h]
      by_cases hn : n = 0
      · subst hn; omega
      · have := ih (u / 10) (by rw [Nat.pow_succ] at hu; omega) (by omega)
        simp; omega
theorem itoa_length (n : Int) (h0 : -9223372036854775808 ≤ n) (h1 : n ≤ 9223372036854775807) : (itoa n).length ≤ 20 := by
  unfold itoa
  split
  · have := decDigits_le 19 n.natAbs (by omega) (by omega); simp; omega
  · have := decDigits_le 19 n.toNat (by omega) (by omega); omega
end Go.Proofs.YtanofkgnjmegdaaDoor.Plain
end
