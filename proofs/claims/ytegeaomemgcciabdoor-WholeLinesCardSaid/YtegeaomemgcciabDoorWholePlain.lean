/- Lines of operations, plainly. -/
import Derived.Test.YtegeaomemgcciabDoorOpBack
import Derived.Test.YtegeaomemgcciabDoorOpsArg
import Derived.Test.YtegeaomemgcciabDoorLines
namespace Go.Proofs.YtegeaomemgcciabDoor.WholeLines
open Go Go.Lib Go.RowKit Go.Proofs.YtegeaomemgcciabDoor Go.Proofs.YtegeaomemgcciabDoor.Hand Go.Proofs.YtegeaomemgcciabDoor.Plain Go.Proofs.YtegeaomemgcciabDoor.OpsArg Go.Proofs.YtegeaomemgcciabDoor.Q Go.Proofs.YtegeaomemgcciabDoorW.PrintWords

theorem itoa_line (n : Int) : (10 : UInt8) ∉ itoa n := by
  unfold itoa
  split
  · simp only [List.mem_cons, not_or]
    refine ⟨by decide, fun h => ?_⟩
    have := decDigits_digit _ _ h
    revert this; decide
  · intro h
    have := decDigits_digit _ _ h
    revert this; decide

/-- An operation's line. -/
def lineOf (o : S36) : List UInt8 := opText o.f0 o.f1 o.f2
def mayOne (o : S36) : Bool := rightB o.f0 o.f1 o.f2
/-- What has been joined behind so many operations. -/
def textOf (l : List S36) : List UInt8 := l.flatMap fun o => lineOf o ++ [10]

theorem line_free (o : S36) : (10 : UInt8) ∉ lineOf o := by
  unfold lineOf opText tailL
  simp only [List.flatMap_cons, List.flatMap_nil, List.append_nil, List.mem_cons, List.mem_append, not_or, List.cons_append]
  refine ⟨by split <;> decide, by decide, itoa_line _, by decide, itoa_line _⟩

theorem cut_text : ∀ l : List S36, cutL 10 (textOf l) = l.map lineOf ++ [[]]
  | [] => rfl
  | o :: l => by
    have e : textOf (o :: l) = lineOf o ++ 10 :: textOf l := by simp [textOf]
    rw [e, cutL_append 10 _ _ (line_free o), cut_text l]
    rfl

theorem nlines_text (l : List S36) : nlines (mkB (textOf l)) = l.map (fun o => mkB (lineOf o)) ++ [mkB []] := by
  have h := splitB_cutL 10 (mkB (textOf l))
  have h2 := map_mkB (nlines (mkB (textOf l)))
  rw [← h2]
  have e : (nlines (mkB (textOf l))).map (·.data.toList) = cutL 10 (textOf l) := by
    rw [show (textOf l) = (mkB (textOf l)).data.toList by simp [mkB]]
    exact h
  rw [e, cut_text]
  simp

theorem lines_text (l : List S36) (hs : (textOf l).length < 4294967281) : token_Lines.f (mkB (textOf l)) = some (l.map (fun o => mkB (lineOf o)), true) := by
  unfold token_Lines.f
  rw [if_pos (by unfold mkB; rw [ba_size]; exact hs)]
  unfold endedB
  rw [nlines_text]
  simp only [List.dropLast_concat, Option.some.injEq, Prod.mk.injEq, true_and]
  rw [List.getLastD_concat, toList_data]
  rfl

theorem line_length (o : S36) (h : WfOp o) : (lineOf o).length ≤ 50 := by
  obtain ⟨h1, h2⟩ := h
  obtain ⟨a, b⟩ := i64_of_wf h1
  obtain ⟨c, d⟩ := i64_of_wf h2
  have lk := itoa_length o.f1 a b
  have lv := itoa_length o.f2 c d
  unfold lineOf opText tailL
  simp
  omega

theorem text_length : ∀ l : List S36, (∀ o ∈ l, WfOp o) → (textOf l).length ≤ 51 * l.length
  | [], _ => by simp [textOf]
  | o :: l, h => by
    have e : textOf (o :: l) = lineOf o ++ 10 :: textOf l := by simp [textOf]
    have h1 := text_length l (fun o ho => h o (List.mem_cons_of_mem _ ho))
    have h2 := line_length o (h o List.mem_cons_self)
    rw [e]; simp; omega

/-- The law's own test of operations. -/
theorem may_l0 (l : List S36) (hm : l.length ≤ 9223372036854775806) : ∀ (d j k : Nat), l.length = j + d → d + 1 ≤ k →
    burgagelaw05_May.l0 k l (l.length : Int) (j : Int) = some (if (l.drop j).all mayOne = true then 1 else 0)
  | 0, j, k + 1, hj, hk => by
    simp only [burgagelaw05_May.l0]
    rw [if_neg (by omega), List.drop_eq_nil_of_le (by omega)]
    rfl
  | d + 1, j, k + 1, hj, hk => by
    have hlt : j < l.length := by omega
    have ih := may_l0 l hm d (j + 1) k (by omega) (by omega)
    have hd : l.drop j = l[j] :: l.drop (j + 1) := List.drop_eq_getElem_cons hlt
    have hr : rd_T36 l (j : Int) = l[j] := by
      unfold rd_T36
      simp [List.getD_eq_getElem?_getD, List.getElem?_eq_getElem hlt]
    simp only [burgagelaw05_May.l0]
    rw [if_pos (by omega), if_pos (by omega), if_pos (by omega), hr, hd, List.all_cons]
    have hw : wrap64 ((j : Int) + 1) = ((j + 1 : Nat) : Int) := by rw [wrap_id (by omega) (by omega)]; omega
    rw [hw, ih]
    unfold mayOne rightB
    generalize l[j] = o
    obtain ⟨b, k1, v⟩ := o
    simp only
    by_cases h1 : k1 < 0
    · rw [if_pos h1, decide_eq_false (by omega)]; rfl
    rw [if_neg h1]
    by_cases h2 : k1 > 63
    · rw [if_pos h2, decide_eq_false (by omega)]; rfl
    rw [if_neg h2]
    by_cases h3 : v < 0
    · rw [if_pos h3, decide_eq_false (by omega)]; rfl
    rw [if_neg h3]
    by_cases h4 : v > 2147483647
    · rw [if_pos h4, decide_eq_false (by omega)]; rfl
    rw [if_neg h4]
    cases b with
    | false =>
      rw [if_neg (by simp), decide_eq_true (by refine ⟨by omega, by omega, by omega, by omega, by simp⟩), Bool.true_and]
    | true =>
      rw [if_pos rfl]
      by_cases h5 : v = 0
      · rw [if_pos h5, decide_eq_false (by simp [h5])]; rfl
      · rw [if_neg h5, decide_eq_true (by refine ⟨by omega, by omega, by omega, by omega, by simp [h5]⟩), Bool.true_and]

theorem may_f (l : List S36) (hm : l.length ≤ 9223372036854775806) (k : Nat) (hk : l.length + 1 ≤ k) : burgagelaw05_May.f k l = some (if l.all mayOne = true then 1 else 0) := by
  unfold burgagelaw05_May.f
  have := may_l0 l hm l.length 0 k (by omega) hk
  simpa using this

/-- The words of an operation's line. -/
theorem words_text (b : Bool) (key val : Int) (h : rightB b key val = true) : wordsP (mkB (opText b key val)) 2 = (mkB [if b = true then 119 else 114], [key, val], true) := by
  unfold rightB at h
  rw [decide_eq_true_iff] at h
  have hp : ∀ c : UInt8, c ≠ 32 → pieces (mkB (c :: tailL [key, val])) = [mkB [c], mkB (itoa key), mkB (itoa val)] := by
    intro c hc
    rw [← pieces_cut]
    show (cutL 32 ([c] ++ tailL [key, val])).map mkB = _
    rw [Pure.join_pieces [c] (by simp; exact fun e => hc e.symm) [key, val]]
    rfl
  have i1 : Pure.inM key = true := by unfold Pure.inM; simp; omega
  have i2 : Pure.inM val = true := by unfold Pure.inM; simp; omega
  have hw : ∀ c : UInt8, c ≠ 32 → wordsP (mkB (c :: tailL [key, val])) 2 = (mkB [c], [key, val], true) := by
    intro c hc
    unfold wordsP
    rw [hp c hc]
    have hall : allNum [mkB (itoa key), mkB (itoa val)] = true := by
      unfold allNum
      simp only [List.all_cons, List.all_nil, Bool.and_true, Pure.numI_itoa key (by omega), Pure.numI_itoa val (by omega), i1, i2, if_true]
    rw [if_pos ⟨rfl, hall⟩]
    unfold numsOf
    simp only [List.tail_cons, List.map_cons, List.map_nil, Pure.numI_itoa key (by omega), Pure.numI_itoa val (by omega), i1, i2, if_true]
    rfl
  unfold opText
  cases b with
  | true => exact hw 119 (by decide)
  | false => exact hw 114 (by decide)

end Go.Proofs.YtegeaomemgcciabDoor.WholeLines
