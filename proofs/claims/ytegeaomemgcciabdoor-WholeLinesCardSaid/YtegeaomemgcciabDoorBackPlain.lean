/- TokenBack: at most 50 numbers, joined behind the word x: read again they are these numbers, if all are from 0 to 2^31 - 1; else nothing is read. -/
import Derived.Test.YtegeaomemgcciabDoorTokenPlain
import Derived.Test.YtegeaomemgcciabDoorQx2
namespace Go.Proofs.YtegeaomemgcciabDoor.Pure
open Go Go.RowKit Go.Lib Go.Proofs.YtegeaomemgcciabDoor Go.Proofs.YtegeaomemgcciabDoor.Hand Go.Proofs.YtegeaomemgcciabDoor.Q Go.Proofs.YtegeaomemgcciabDoor.Plain Go.Proofs.YtegeaomemgcciabDoorW.PrintWords

theorem itoa_blank (n : Int) : (32 : UInt8) ∉ itoa n := by
  unfold itoa
  split
  · simp only [List.mem_cons, not_or]
    refine ⟨by decide, fun h => ?_⟩
    have := decDigits_digit _ _ h
    simp at this
  · intro h
    have := decDigits_digit _ _ h
    simp at this

/-- May a number be read again? -/
def inM (n : Int) : Bool := decide (0 ≤ n ∧ n ≤ 2147483647)

theorem numI_itoa (n : Int) (h1 : n ≤ 9223372036854775807) : numI (mkB (itoa n)) = if inM n = true then (n, true) else (0, false) := by
  by_cases h : inM n = true
  · rw [if_pos h]
    unfold inM at h
    rw [decide_eq_true_iff] at h
    obtain ⟨u, rfl⟩ := Int.eq_ofNat_of_zero_le h.1
    rw [itoa_nat]
    exact numI_dec u (by omega)
  · rw [if_neg h]
    unfold numI mkB
    simp only
    cases hp : numP (itoa n) with
    | none => rfl
    | some u =>
      exfalso
      apply h
      obtain ⟨hu, he⟩ := numP_some hp
      unfold inM
      rw [decide_eq_true_iff]
      by_cases hn : n < 0
      · unfold itoa at he
        rw [if_pos hn] at he
        have := decDigits_digit u 45 (by rw [← he]; simp)
        simp at this
      · obtain ⟨v, rfl⟩ := Int.eq_ofNat_of_zero_le (show 0 ≤ n by omega)
        rw [itoa_nat] at he
        have := decDigits_inj (by omega) (by omega) he
        omega

/-- The pieces of what was joined. -/
theorem join_pieces (x : List UInt8) (hx : (32 : UInt8) ∉ x) : ∀ l : List Int, cutL 32 (x ++ tailL l) = x :: l.map itoa
  | [] => by
    have : tailL [] = [] := rfl
    rw [this, List.append_nil, cutL_last 32 x hx]; rfl
  | n :: l => by
    have e : tailL (n :: l) = 32 :: (itoa n ++ tailL l) := by unfold tailL; simp
    rw [e, cutL_append 32 x _ hx, join_pieces (itoa n) (itoa_blank n) l]
    rfl

theorem inI64_wf {l : List Int} (h : ∀ x ∈ l, (Lit.int .i64 x).wf = true) : inI64 l = true := by
  unfold inI64
  rw [List.all_eq_true]
  intro x hx
  rw [decide_eq_true_iff]
  exact i64_of_wf (h x hx)

theorem tail_all (l : List Int) (h : ∀ x ∈ l, (Lit.int .i64 x).wf = true) : allNum (l.map fun n => mkB (itoa n)) = l.all inM ∧ (l.all inM = true → numsOf (l.map fun n => mkB (itoa n)) = l) := by
  induction l with
  | nil => exact ⟨rfl, fun _ => rfl⟩
  | cons n l ih =>
    have hn := i64_of_wf (h n (by simp))
    obtain ⟨a, b⟩ := ih (fun x hx => h x (List.mem_cons_of_mem _ hx))
    have e := numI_itoa n hn.2
    constructor
    · unfold allNum at a ⊢
      rw [List.map_cons, List.all_cons, List.all_cons, a, e]
      by_cases hm : inM n = true
      · rw [if_pos hm, hm]
      · rw [if_neg hm]; simp at hm; rw [hm]
    · intro hall
      rw [List.all_cons, Bool.and_eq_true] at hall
      unfold numsOf at b ⊢
      rw [List.map_cons, List.map_cons, b hall.2, e, if_pos hall.1]

theorem join_any (x : List UInt8) (l : List Int) (hx : x.length ≤ 1000) (hl : l.length ≤ 1000) (h : ∀ x ∈ l, (Lit.int .i64 x).wf = true) : token_Join.f ⟨x.toArray⟩ l = some (mkB (x ++ tailL l)) := by
  unfold token_Join.f
  rw [if_pos ⟨by rw [ba_size]; omega, inI64_wf h⟩]
  rfl

theorem joined_words (l : List Int) (hl : l.length ≤ 50) (h : ∀ x ∈ l, (Lit.int .i64 x).wf = true) :
    token_Words.f (mkB ([120] ++ tailL l)) (l.length : Int) = some (if l.all inM = true then (mkB [120], l, true) else (⟨#[]⟩, [], false)) := by
  have hlen := tailL_length (inI64_wf h) l.length (Nat.le_refl _)
  rw [List.take_length] at hlen
  rw [token_Words_any _ _ (by omega) (by omega) (by unfold mkB; rw [ba_size]; simp; omega)]
  congr 1
  have hp : pieces (mkB ([120] ++ tailL l)) = mkB [120] :: l.map fun n => mkB (itoa n) := by
    rw [← pieces_cut]
    show (cutL 32 ([120] ++ tailL l)).map mkB = _
    rw [join_pieces [120] (by decide) l]
    simp [Function.comp_def]
  obtain ⟨a, b⟩ := tail_all l h
  unfold wordsP
  rw [hp]
  by_cases hm : l.all inM = true
  · rw [if_pos ⟨by simp, a.trans hm⟩, if_pos hm]
    show (mkB [120], numsOf (l.map fun n => mkB (itoa n)), true) = _
    rw [b hm]
  · rw [if_neg (fun z => hm (a.symm.trans z.2)), if_neg hm]

end Go.Proofs.YtegeaomemgcciabDoor.Pure
