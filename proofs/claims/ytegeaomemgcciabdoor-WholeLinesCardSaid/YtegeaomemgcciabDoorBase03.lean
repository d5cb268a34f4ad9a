/- The references of layer 3 as the print tells them, in plain words: numerals, numbers, pieces, words. -/
import Derived.Test.YtegeaomemgcciabDoorQx2
import Derived.Test.YtegeaomemgcciabDoorCutL
namespace Go.Proofs.YtegeaomemgcciabDoor.Plain
open Go Go.Lib Go.RowKit Go.Proofs.YtegeaomemgcciabDoor Go.Proofs.YtegeaomemgcciabDoor.Hand Go.Proofs.YtegeaomemgcciabDoor.Q Go.Proofs.YtegeaomemgcciabDoorW.PrintWords

theorem ba_ext {a b : ByteArray} (h : a.data.toList = b.data.toList) : a = b := by
  cases a; cases b; simp at h; rw [h]
theorem ba_mk (s : ByteArray) : (⟨s.data.toList.toArray⟩ : ByteArray) = s := ba_ext (by simp)
theorem ba_append (a b : List UInt8) : (⟨a.toArray⟩ : ByteArray) ++ ⟨b.toArray⟩ = ⟨(a ++ b).toArray⟩ := ba_ext (by simp)
theorem ba_size (l : List UInt8) : (⟨l.toArray⟩ : ByteArray).size = l.length := by simp [ByteArray.size]
theorem wrap_id {x : Int} (h0 : -9223372036854775808 ≤ x) (h1 : x ≤ 9223372036854775807) : wrap64 x = x := by unfold wrap64; omega

theorem digit_nums (d : Nat) (_h : d < 10) (e : Int) (he : e = 48 + (d : Int)) : strOfNums [e] = ⟨#[UInt8.ofNat (48 + d)]⟩ := by
  subst he
  unfold strOfNums
  simp only [List.map_cons, List.map_nil]
  congr 4

/-- Number's loop, on what is left of the word. -/
def numEnd (w : List UInt8) : Nat → List UInt8 → Int × Bool
  | acc, [] => if decDigits acc = w then (if 2147483647 < acc then (0, false) else ((acc : Int), true)) else (0, false)
  | acc, c :: r => if c.toNat < 48 ∨ 57 < c.toNat then (0, false) else numEnd w (acc * 10 + (c.toNat - 48)) r

theorem bt_drop (s : ByteArray) (i : Nat) (h : i < s.size) : bt s (i : Int) = ((s[i]'h).toNat : Int) ∧ s.data.toList.drop i = s[i] :: s.data.toList.drop (i + 1) := by
  refine ⟨by unfold bt; simp [h], ?_⟩
  rw [List.drop_eq_getElem_cons (by simpa using h)]
  rfl

theorem numEnd_dec (w : List UInt8) (u : Nat) : ∀ (r : List UInt8) (acc : Nat), parseUint10 acc r = .ok u → (∀ c ∈ r, 48 ≤ c.toNat ∧ c.toNat ≤ 57) → numEnd w acc r = numEnd w u []
  | [], acc, h, _ => by
    simp only [parseUint10] at h
    injection h with h
    rw [h]
  | c :: r, acc, h, hd => by
    simp only [parseUint10] at h
    have hc := hd c (by simp)
    rw [if_pos hc] at h
    split at h
    · cases h
    · split at h
      · cases h
      · conv => lhs; unfold numEnd
        rw [if_neg (by omega)]
        exact numEnd_dec w u r _ h (fun c hc => hd c (List.mem_cons_of_mem _ hc))

theorem numEnd_cases (w : List UInt8) : ∀ (r : List UInt8) (acc : Nat), numEnd w acc r = (0, false) ∨ ∃ u : Nat, u ≤ 2147483647 ∧ w = decDigits u ∧ numEnd w acc r = ((u : Int), true)
  | [], acc => by
    unfold numEnd
    split
    · rename_i h
      split
      · exact .inl rfl
      · exact .inr ⟨acc, by omega, h.symm, rfl⟩
    · exact .inl rfl
  | c :: r, acc => by
    unfold numEnd
    split
    · exact .inl rfl
    · exact numEnd_cases w r _

theorem numEnd_numI (s : ByteArray) : numEnd s.data.toList 0 s.data.toList = numI s := by
  unfold numI
  cases h : numP s.data.toList with
  | some u =>
    obtain ⟨hu, he⟩ := numP_some h
    simp only
    rw [he, numEnd_dec (decDigits u) u (decDigits u) 0 (parse_dec u (by omega)) (decDigits_digit u)]
    unfold numEnd
    rw [if_pos rfl, if_neg (by omega)]
  | none =>
    rcases numEnd_cases s.data.toList s.data.toList 0 with h2 | ⟨u, hu, he, _⟩
    · exact h2
    · rw [he, numP_dec u hu] at h; cases h

def mkB (l : List UInt8) : ByteArray := ⟨l.toArray⟩

theorem extract_mkB (s : ByteArray) (a b : Nat) : s.extract a b = mkB ((s.data.toList.drop a).take (b - a)) := by
  apply ba_ext
  rw [Lib.extract_data]
  simp [mkB]

theorem map_mkB (l : List ByteArray) : (l.map (·.data.toList)).map mkB = l := by
  rw [List.map_map]
  conv => rhs; rw [← List.map_id l]
  apply List.map_congr_left
  intro a _
  exact ba_mk a

theorem pieces_cut (s : ByteArray) : (cutL 32 s.data.toList).map mkB = pieces s := by
  rw [← splitB_cutL 32 s]
  exact map_mkB _
theorem pieces_data (s : ByteArray) : (pieces s).map (·.data.toList) = cutL 32 s.data.toList := splitB_cutL 32 s

end Go.Proofs.YtegeaomemgcciabDoor.Plain
