/- The references of layer 3 as the print tells them, in plain words: numerals, numbers, pieces, words. -/
import Derived.Test.YtegeaomemgcciaaDoorQx3
import Derived.Test.YtegeaomemgcciaaDoorCutL
namespace Go.Proofs.YtegeaomemgcciaaDoor.Plain
open Go Go.Lib Go.RowKit Go.Proofs.YtegeaomemgcciaaDoor Go.Proofs.YtegeaomemgcciaaDoor.Hand Go.Proofs.YtegeaomemgcciaaDoor.Q Go.Proofs.YtegeaomemgcciaaDoorW.PrintWords

theorem ba_ext {a b : ByteArray} (h : a.data.toList = b.data.toList) : a = b := by
  cases a; cases b; simp at h; rw [h]
theorem ba_mk (s : ByteArray) : (⟨s.data.toList.toArray⟩ : ByteArray) = s := ba_ext (by simp)
theorem ba_append (a b : List UInt8) : (⟨a.toArray⟩ : ByteArray) ++ ⟨b.toArray⟩ = ⟨(a ++ b).toArray⟩ := ba_ext (by simp)
theorem ba_size (l : List UInt8) : (⟨l.toArray⟩ : ByteArray).size = l.length := by simp [ByteArray.size]
theorem wrap_id {x : Int} (h0 : -9223372036854775808 ≤ x) (h1 : x ≤ 9223372036854775807) : wrap64 x = x := by unfold wrap64; omega

theorem digit_nums (d : Nat) (_h : d < 10) (e : Int) (he : e = 48 + (d : Int)) : strOfNums [e] = ⟨#[UInt8.ofNat (48 + d)]⟩ := by
  subst he
  unfold strOfNums
  simp only [List.map_cons, List.map_nil]
  congr 4

/-- Num of a number from 0 on. -/
theorem num_nat : ∀ (m : Nat) (u : Nat), u < 10 ^ m → u < 9223372036854775808 → ∀ k, m + 1 ≤ k → burgageref03_Num.f k (u : Int) = some ⟨(decDigits u).toArray⟩
  | m, u, hu, hb, k, hk => by
    obtain ⟨k, rfl⟩ : ∃ j, k = j + 1 := ⟨k - 1, by omega⟩
    have ht : Int.tmod (u : Int) 10 = ((u % 10 : Nat) : Int) := by rw [Int.tmod_eq_emod_of_nonneg (by omega)]; omega
    have hd : Int.tdiv (u : Int) 10 = ((u / 10 : Nat) : Int) := by rw [Int.tdiv_eq_ediv_of_nonneg (by omega)]; omega
    have hdig : strOfNums [(wrap64 (48 + (Int.tmod (u : Int) 10))) % 256] = ⟨#[UInt8.ofNat (48 + u % 10)]⟩ := by
      refine digit_nums (u % 10) (by omega) _ ?_
      rw [ht, wrap_id (by omega) (by omega)]
      omega
    simp only [burgageref03_Num.f]
    rw [if_neg (by omega)]
    simp only [Option.bind_some]
    by_cases h10 : u < 10
    · rw [if_pos (by omega), hdig, decDigits_small h10]
      have : u % 10 = u := by omega
      rw [this]
    · rw [if_neg (by omega), hd, wrap_id (by omega) (by omega)]
      cases m with
      | zero => simp at hu; omega
      | succ m =>
        rw [num_nat m (u / 10) (by rw [Nat.pow_succ] at hu; omega) (by omega) k (by omega)]
        simp only [Option.bind_some]
        rw [hdig]
        have hlen := decDigits_le 19 (u / 10) (by omega) (by omega)
        rw [if_pos (by rw [ba_size]; show _ + 1 ≤ _; omega)]
        rw [decDigits_big h10]
        congr 1

/-- Num of any number. -/
theorem num_any (n : Int) (h0 : -9223372036854775808 ≤ n) (h1 : n ≤ 9223372036854775807) (k : Nat) (hk : 25 ≤ k) : burgageref03_Num.f k n = some ⟨(itoa n).toArray⟩ := by
  by_cases hn : 0 ≤ n
  · obtain ⟨u, rfl⟩ := Int.eq_ofNat_of_zero_le hn
    rw [itoa_nat]
    exact num_nat 19 u (by omega) (by omega) k (by omega)
  · have key : ∀ (m u : Nat), 1 ≤ u → u < 10 ^ m → u ≤ 9223372036854775808 → ∀ k, m + 1 ≤ k → burgageref03_Num.f k (-(u : Int)) = some ⟨(45 :: decDigits u).toArray⟩ := by
      intro m
      induction m with
      | zero => intro u h1 h2; simp at h2; omega
      | succ m ih =>
        intro u h1 hu hb k hk
        obtain ⟨k, rfl⟩ : ∃ j, k = j + 1 := ⟨k - 1, by omega⟩
        have ht : Int.tmod (-(u : Int)) 10 = -((u % 10 : Nat) : Int) := by rw [Int.neg_tmod, Int.tmod_eq_emod_of_nonneg (by omega)]; omega
        have hd : Int.tdiv (-(u : Int)) 10 = -((u / 10 : Nat) : Int) := by rw [Int.neg_tdiv, Int.tdiv_eq_ediv_of_nonneg (by omega)]; omega
        have hdig : strOfNums [(wrap64 (48 - (Int.tmod (-(u : Int)) 10))) % 256] = ⟨#[UInt8.ofNat (48 + u % 10)]⟩ := by
          refine digit_nums (u % 10) (by omega) _ ?_
          rw [ht, wrap_id (by omega) (by omega)]
          omega
        simp only [burgageref03_Num.f]
        rw [if_pos (by omega)]
        simp only [Option.bind_some]
        by_cases h10 : u < 10
        · rw [if_pos (by omega), hdig, decDigits_small h10]
          have e : u % 10 = u := by omega
          rw [e, if_pos (by show 1 + 1 ≤ _; omega)]
          rfl
        · rw [if_neg (by omega), hd, wrap_id (by omega) (by omega)]
          rw [ih (u / 10) (by omega) (by rw [Nat.pow_succ] at hu; omega) (by omega) k (by omega)]
          simp only [Option.bind_some]
          rw [hdig]
          have hlen := decDigits_le 19 (u / 10) (by omega) (by omega)
          rw [if_pos (by rw [ba_size]; simp only [List.length_cons]; show _ + 1 ≤ _; omega)]
          rw [decDigits_big h10]
          congr 1
    have e : n = -((n.natAbs : Nat) : Int) := by omega
    have := key 19 n.natAbs (by omega) (by omega) (by omega) k (by omega)
    rw [← e] at this
    rw [this]
    unfold itoa
    rw [if_pos (by omega)]

/-- Number's loop, on what is left of the word. -/
def numEnd (w : List UInt8) : Nat → List UInt8 → Int × Bool
  | acc, [] => if decDigits acc = w then (if 2147483647 < acc then (0, false) else ((acc : Int), true)) else (0, false)
  | acc, c :: r => if c.toNat < 48 ∨ 57 < c.toNat then (0, false) else numEnd w (acc * 10 + (c.toNat - 48)) r

theorem bt_drop (s : ByteArray) (i : Nat) (h : i < s.size) : bt s (i : Int) = ((s[i]'h).toNat : Int) ∧ s.data.toList.drop i = s[i] :: s.data.toList.drop (i + 1) := by
  refine ⟨by unfold bt; simp [h], ?_⟩
  rw [List.drop_eq_getElem_cons (by simpa using h)]
  rfl

theorem number_l0 (s : ByteArray) (hs : s.size ≤ 10) : ∀ (d i acc k : Nat), s.size = i + d → acc < 10 ^ i → d + 30 ≤ k →
    burgageref03_Number.l0 k s (acc : Int) (i : Int) = some (numEnd s.data.toList acc (s.data.toList.drop i)) := by
  intro d
  induction d with
  | zero =>
    intro i acc k hi ha hk
    obtain ⟨k, rfl⟩ : ∃ j, k = j + 1 := ⟨k - 1, by omega⟩
    have hacc : acc < 10 ^ 10 := Nat.lt_of_lt_of_le ha (Nat.pow_le_pow_right (by omega) (by omega))
    simp only [burgageref03_Number.l0]
    rw [if_neg (by omega), num_any acc (by omega) (by omega) k (by omega)]
    simp only [Option.bind_some]
    have hd : s.data.toList.drop i = [] := List.drop_of_length_le (by simp; omega)
    rw [hd]
    unfold numEnd
    have e1 : (⟨(itoa (acc : Int)).toArray⟩ : ByteArray).toList = decDigits acc := by rw [toList_data, itoa_nat]
    rw [e1, toList_data]
    by_cases h1 : decDigits acc = s.data.toList
    · rw [if_pos h1, if_pos h1]
      by_cases h2 : 2147483647 < acc
      · rw [if_pos (by omega), if_pos h2]
      · rw [if_neg (by omega), if_neg h2]
    · rw [if_neg h1, if_neg h1]
  | succ d ih =>
    intro i acc k hi ha hk
    obtain ⟨k, rfl⟩ : ∃ j, k = j + 1 := ⟨k - 1, by omega⟩
    have hlt : i < s.size := by omega
    obtain ⟨hb, hd⟩ := bt_drop s i hlt
    have hr := UInt8.toNat_lt s[i]
    simp only [burgageref03_Number.l0]
    rw [if_pos (by omega), if_pos (by omega), hb, hd]
    unfold numEnd
    by_cases h1 : s[i].toNat < 48
    · rw [if_pos (by omega), if_pos (.inl h1)]
    · rw [if_neg (by omega)]
      by_cases h2 : 57 < s[i].toNat
      · rw [if_pos (by omega), if_pos (.inr h2)]
      · rw [if_neg (by omega), if_neg (by omega)]
        have hacc : acc < 10 ^ 10 := Nat.lt_of_lt_of_le ha (Nat.pow_le_pow_right (by omega) (by omega))
        have e1 : wrap64 ((wrap64 ((acc : Int) * 10)) + (((s[i].toNat : Int) - 48) % 256)) = ((acc * 10 + (s[i].toNat - 48) : Nat) : Int) := by
          rw [wrap_id (x := (acc : Int) * 10) (by omega) (by omega), wrap_id (by omega) (by omega)]
          omega
        have e2 : wrap64 ((i : Int) + 1) = ((i + 1 : Nat) : Int) := by rw [wrap_id (by omega) (by omega)]; omega
        rw [e1, e2]
        exact ih (i + 1) _ k (by omega) (by rw [Nat.pow_succ]; omega) (by omega)

theorem numEnd_dec (w : List UInt8) (u : Nat) : ∀ (r : List UInt8) (acc : Nat), parseUint10 acc r = .ok u → (∀ c ∈ r, 48 ≤ c.toNat ∧ c.toNat ≤ 57) → numEnd w acc r = numEnd w u []
  | [], acc, h, _ => by
    simp only [parseUint10] at h
    injection h with h
    rw [h]
  | c :: r, acc, h, hd => by
    simp only [parseUint10] at h
    have hc := hd c (by simp)
    rw [if_pos hc] at h
    split at h
    · cases h
    · split at h
      · cases h
      · conv => lhs; unfold numEnd
        rw [if_neg (by omega)]
        exact numEnd_dec w u r _ h (fun c hc => hd c (List.mem_cons_of_mem _ hc))

theorem numEnd_cases (w : List UInt8) : ∀ (r : List UInt8) (acc : Nat), numEnd w acc r = (0, false) ∨ ∃ u : Nat, u ≤ 2147483647 ∧ w = decDigits u ∧ numEnd w acc r = ((u : Int), true)
  | [], acc => by
    unfold numEnd
    split
    · rename_i h
      split
      · exact .inl rfl
      · exact .inr ⟨acc, by omega, h.symm, rfl⟩
    · exact .inl rfl
  | c :: r, acc => by
    unfold numEnd
    split
    · exact .inl rfl
    · exact numEnd_cases w r _

theorem numEnd_numI (s : ByteArray) : numEnd s.data.toList 0 s.data.toList = numI s := by
  unfold numI
  cases h : numP s.data.toList with
  | some u =>
    obtain ⟨hu, he⟩ := numP_some h
    simp only
    rw [he, numEnd_dec (decDigits u) u (decDigits u) 0 (parse_dec u (by omega)) (decDigits_digit u)]
    unfold numEnd
    rw [if_pos rfl, if_neg (by omega)]
  | none =>
    rcases numEnd_cases s.data.toList s.data.toList 0 with h2 | ⟨u, hu, he, _⟩
    · exact h2
    · rw [he, numP_dec u hu] at h; cases h

/-- Number of any word. -/
theorem number_ref (s : ByteArray) (k : Nat) (hk : 50 ≤ k) : burgageref03_Number.f k s = some (numI s) := by
  have hno : (s.size < 1 ∨ 10 < s.size) → numI s = (0, false) := by
    intro h
    unfold numI
    cases hp : numP s.data.toList with
    | none => rfl
    | some u =>
      obtain ⟨hu, he⟩ := numP_some hp
      have hl : s.data.toList.length = s.size := by simp
      have := decDigits_le 10 u (by omega) (by omega)
      have hne := decDigits_ne u
      rw [he] at hl
      have : (decDigits u).length ≠ 0 := by simpa using hne
      omega
  obtain ⟨k, rfl⟩ : ∃ j, k = j + 1 := ⟨k - 1, by omega⟩
  unfold burgageref03_Number.f
  simp only [burgageref03_Number.j0]
  by_cases h1 : s.size < 1
  · rw [if_pos (by omega), hno (.inl h1)]; rfl
  · rw [if_neg (by omega)]
    by_cases h2 : 10 < s.size
    · rw [if_pos (by simp; omega), hno (.inr h2)]
    · rw [if_neg (by simp; omega)]
      have := number_l0 s (by omega) s.size 0 0 k (by omega) (by simp) (by omega)
      simp only [Int.natCast_zero, List.drop_zero] at this
      rw [← numEnd_numI]
      exact this

def mkB (l : List UInt8) : ByteArray := ⟨l.toArray⟩

theorem extract_mkB (s : ByteArray) (a b : Nat) : s.extract a b = mkB ((s.data.toList.drop a).take (b - a)) := by
  apply ba_ext
  rw [Lib.extract_data]
  simp [mkB]

theorem cut_l0 (s : ByteArray) (c : UInt8) (hs : s.size ≤ 8796093000000) : ∀ (d i from_ : Nat) (out : List ByteArray) (k : Nat), s.size = i + d → from_ ≤ i → c ∉ (s.data.toList.drop from_).take (i - from_) → out.length ≤ i → d + 2 ≤ k →
    burgageref03_Cut.l0 k s (c.toNat : Int) out (from_ : Int) (i : Int) = some (out ++ (cutL c (s.data.toList.drop from_)).map mkB) := by
  intro d
  induction d with
  | zero =>
    intro i from_ out k hi hf hc ho hk
    obtain ⟨k, rfl⟩ : ∃ j, k = j + 2 := ⟨k - 2, by omega⟩
    have e2 : wrap64 ((i : Int) + 1) = ((i + 1 : Nat) : Int) := by rw [wrap_id (by omega) (by omega)]; omega
    simp only [burgageref03_Cut.l0]
    rw [if_pos (by omega), if_pos (by omega), if_pos (by omega), if_pos (by omega), if_pos (by omega), e2, if_neg (by omega)]
    simp only [Int.toNat_natCast]
    rw [extract_mkB]
    have e : (s.data.toList.drop from_).take (i - from_) = s.data.toList.drop from_ := List.take_of_length_le (by simp; omega)
    rw [e] at hc ⊢
    rw [cutL_last c _ hc]
    rfl
  | succ d ih =>
    intro i from_ out k hi hf hc ho hk
    obtain ⟨k, rfl⟩ : ∃ j, k = j + 1 := ⟨k - 1, by omega⟩
    have hlt : i < s.size := by omega
    have e2 : wrap64 ((i : Int) + 1) = ((i + 1 : Nat) : Int) := by rw [wrap_id (by omega) (by omega)]; omega
    obtain ⟨hb, hd⟩ := bt_drop s i hlt
    have hsplit : s.data.toList.drop from_ = (s.data.toList.drop from_).take (i - from_) ++ s.data.toList.drop i := by
      conv => lhs; rw [← List.take_append_drop (i - from_) (s.data.toList.drop from_)]
      rw [List.drop_drop]
      congr 2
      omega
    simp only [burgageref03_Cut.l0]
    rw [if_pos (by omega), if_neg (by omega), if_pos (by omega), if_pos (by omega), hb]
    by_cases h : s[i] = c
    · rw [if_pos (by rw [h]), if_pos (by omega), if_pos (by omega), if_pos (by omega), e2]
      simp only [Int.toNat_natCast]
      rw [ih (i + 1) (i + 1) _ k (by omega) (Nat.le_refl _) (by simp) (by simp; omega) (by omega)]
      rw [hsplit, hd, h, cutL_append c _ _ hc, extract_mkB]
      simp
    · have hne : ¬ ((s[i].toNat : Int) = (c.toNat : Int)) := fun e => h (UInt8.toNat_inj.1 (by omega))
      rw [if_neg hne, e2]
      refine ih (i + 1) from_ out k (by omega) (by omega) ?_ (by omega) (by omega)
      have e3 : i + 1 - from_ = (i - from_) + 1 := by omega
      have hlen : i - from_ < (s.data.toList.drop from_).length := by simp; omega
      rw [e3, List.take_succ_eq_append_getElem hlen]
      simp only [List.mem_append, List.mem_singleton, not_or]
      refine ⟨hc, ?_⟩
      intro e
      apply h
      rw [e, List.getElem_drop]
      have : from_ + (i - from_) = i := by omega
      simp only [this]
      rfl

/-- Cut at a byte. -/
theorem cut_any (s : ByteArray) (c : UInt8) (hs : s.size ≤ 8796093000000) (k : Nat) (hk : s.size + 2 ≤ k) (e : Int) (he : e = (c.toNat : Int)) :
    burgageref03_Cut.f k s e = some ((cutL c s.data.toList).map mkB) := by
  subst he
  unfold burgageref03_Cut.f
  have := cut_l0 s c hs s.size 0 0 [] k (by omega) (Nat.le_refl _) (by simp) (by simp) hk
  simp only [Int.natCast_zero, List.drop_zero, List.nil_append] at this
  exact this

theorem map_mkB (l : List ByteArray) : (l.map (·.data.toList)).map mkB = l := by
  rw [List.map_map]
  conv => rhs; rw [← List.map_id l]
  apply List.map_congr_left
  intro a _
  exact ba_mk a

theorem pieces_cut (s : ByteArray) : (cutL 32 s.data.toList).map mkB = pieces s := by
  rw [← splitB_cutL 32 s]
  exact map_mkB _
theorem pieces_data (s : ByteArray) : (pieces s).map (·.data.toList) = cutL 32 s.data.toList := splitB_cutL 32 s

theorem words_l0 (ps : List ByteArray) (hp : ps.length ≤ 17592186044000) : ∀ (d j : Nat) (out : List Int) (k : Nat), 1 ≤ j → ps.length = j + d → out.length ≤ j → d + 60 ≤ k →
    burgageref03_Words.l0 k ps out (j : Int) = some (if allNum (ps.drop j) = true then (ps.headD ByteArray.empty, out ++ numsOf (ps.drop j), true) else (⟨#[]⟩, [], false)) := by
  intro d
  induction d with
  | zero =>
    intro j out k hj hl ho hk
    obtain ⟨k, rfl⟩ : ∃ i, k = i + 1 := ⟨k - 1, by omega⟩
    have hd : ps.drop j = [] := List.drop_of_length_le (by omega)
    simp only [burgageref03_Words.l0]
    rw [if_neg (by omega), if_pos (by omega), hd]
    have : rdOf ByteArray.empty ps 0 = ps.headD ByteArray.empty := by cases ps <;> rfl
    rw [this]
    simp [allNum, numsOf]
  | succ d ih =>
    intro j out k hj hl ho hk
    obtain ⟨k, rfl⟩ : ∃ i, k = i + 1 := ⟨k - 1, by omega⟩
    have hlt : j < ps.length := by omega
    have e2 : wrap64 ((j : Int) + 1) = ((j + 1 : Nat) : Int) := by rw [wrap_id (by omega) (by omega)]; omega
    have hr : rdOf ByteArray.empty ps (j : Int) = ps[j] := by simp [rdOf, hlt]
    have hd : ps.drop j = ps[j] :: ps.drop (j + 1) := List.drop_eq_getElem_cons hlt
    simp only [burgageref03_Words.l0]
    rw [if_pos (by omega), if_pos (by omega), hr, number_ref _ k (by omega)]
    simp only [Option.bind_some]
    by_cases h : (numI ps[j]).2 = true
    · rw [if_pos h, if_pos (by omega), e2, ih (j + 1) _ k (by omega) (by omega) (by simp; omega) (by omega), hd]
      have e3 : allNum (ps[j] :: ps.drop (j + 1)) = allNum (ps.drop (j + 1)) := by unfold allNum; rw [List.all_cons, h, Bool.true_and]
      have e4 : numsOf (ps[j] :: ps.drop (j + 1)) = (numI ps[j]).1 :: numsOf (ps.drop (j + 1)) := rfl
      rw [e3, e4]
      simp only [List.append_assoc, List.singleton_append]
    · rw [if_neg h, hd]
      have e3 : allNum (ps[j] :: ps.drop (j + 1)) = false := by unfold allNum; rw [List.all_cons]; simp at h; rw [h, Bool.false_and]
      rw [e3, if_neg (by simp)]

/-- Words of any line. -/
theorem words_ref (s : ByteArray) (a1 : Int) (h0 : -9223372036854775808 ≤ a1) (h1 : a1 ≤ 9223372036854775807) (hs : s.size ≤ 140737488) (k : Nat) (hk : s.size + 70 ≤ k) :
    burgageref03_Words.f k s a1 = some (wordsP s a1) := by
  have hp := pieces_le s
  have hl := pieces_length s
  unfold burgageref03_Words.f wordsP
  rw [cut_any s 32 (by omega) k (by omega) 32 rfl]
  simp only [Option.bind_some]
  rw [pieces_cut]
  by_cases hn : ((pieces s).length : Int) = a1 + 1
  · rw [if_pos (by rw [hn, wrap_id (by omega) (by omega)])]
    have := words_l0 (pieces s) (by omega) ((pieces s).length - 1) 1 [] k (Nat.le_refl _) (by omega) (by simp) (by omega)
    simp only [Int.natCast_one, List.nil_append, List.drop_one] at this
    rw [this]
    by_cases ha : allNum (pieces s).tail = true
    · rw [if_pos ha, if_pos ⟨hn, ha⟩]
    · rw [if_neg ha, if_neg (fun h => ha h.2)]
  · rw [if_neg (by unfold wrap64; omega), if_neg (fun h => hn h.1)]

theorem same_l0 (a b : List Int) (hl : a.length = b.length) (hm : a.length ≤ 9223372036854775806) : ∀ (d j k : Nat), a.length = j + d → d + 1 ≤ k → burgageref01_Same.l0 k a b (j : Int) = some (decide (a.drop j = b.drop j)) := by
  intro d
  induction d with
  | zero =>
    intro j k hj hk
    obtain ⟨k, rfl⟩ : ∃ i, k = i + 1 := ⟨k - 1, by omega⟩
    simp only [burgageref01_Same.l0]
    rw [if_neg (by omega), List.drop_of_length_le (by omega), List.drop_of_length_le (by omega)]
    simp
  | succ d ih =>
    intro j k hj hk
    obtain ⟨k, rfl⟩ : ∃ i, k = i + 1 := ⟨k - 1, by omega⟩
    have ha : j < a.length := by omega
    have hb : j < b.length := by omega
    have e2 : wrap64 ((j : Int) + 1) = ((j + 1 : Nat) : Int) := by rw [wrap_id (by omega) (by omega)]; omega
    have ra : rd a (j : Int) = a[j] := by simp [rd, ha]
    have rb : rd b (j : Int) = b[j] := by simp [rd, hb]
    simp only [burgageref01_Same.l0]
    rw [if_pos (by omega), if_pos (by omega), if_pos (by omega), ra, rb, e2, List.drop_eq_getElem_cons ha, List.drop_eq_getElem_cons hb]
    by_cases h : a[j] = b[j]
    · rw [if_pos h, ih (j + 1) k (by omega) (by omega)]
      congr 1
      rw [Bool.eq_iff_iff]
      simp only [decide_eq_true_iff, List.cons.injEq]
      exact ⟨fun h2 => ⟨h, h2⟩, fun h2 => h2.2⟩
    · rw [if_neg h]
      congr 1
      symm
      rw [decide_eq_false_iff_not]
      simp only [List.cons.injEq]
      exact fun h2 => h h2.1

/-- Same of two lists. -/
theorem same_ref (a b : List Int) (hm : a.length ≤ 9223372036854775806) (k : Nat) (hk : a.length + 1 ≤ k) : burgageref01_Same.f k a b = some (decide (a = b)) := by
  unfold burgageref01_Same.f
  by_cases h : a.length = b.length
  · rw [if_pos (by omega)]
    have := same_l0 a b h hm a.length 0 k (by omega) hk
    simpa using this
  · rw [if_neg (by omega)]
    have : a ≠ b := fun e => h (by rw [e])
    simp [this]

end Go.Proofs.YtegeaomemgcciaaDoor.Plain
