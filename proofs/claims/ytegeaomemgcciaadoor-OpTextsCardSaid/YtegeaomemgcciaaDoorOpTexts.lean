/- OpTexts, walked: any operation in words, which are read as it, if it may be. -/
import Derived.Test.YtegeaomemgcciaaDoorOpParses
import Derived.Test.YtegeaomemgcciaaDoorPureTokenBack
import Derived.Deep.RegionHeld3
import Derived.Deep.RegionWith
namespace Go.Proofs.YtegeaomemgcciaaDoor.OpTexts
open Go Go.Lib Go.RowKit Go.Proofs.YtegeaomemgcciaaDoor Go.Proofs.YtegeaomemgcciaaDoor.Hand Go.Proofs.YtegeaomemgcciaaDoor.Plain Go.Proofs.YtegeaomemgcciaaDoor.Q Go.Proofs.YtegeaomemgcciaaDoorW.PrintWords OpParses

theorem numR_any (n : Int) (h : -9223372036854775808 ≤ n ∧ n ≤ 9223372036854775807) (w : World) (HY : Laid w) : Calls Tryd.prog 12 #[.int .i64 n] w fun e w' => e = .returned (.string ⟨(itoa n).toArray⟩) ∧ Below w.heap.size w w' :=
  burgageref03_Num.calls 25 n _ w (num_any n h.1 h.2 25 (by omega)) HY

theorem rightR_any (b : Bool) (key val : Int) (r : Bool) (h : rightB b key val = r) (w : World) (HY : Laid w) : Calls Tryd.prog 20 #[.agg #[.bool b, .int .i64 key, .int .i64 val]] w fun e w' => e = .returned (.bool r) ∧ Below w.heap.size w w' := by
  have := right_any b key val w HY
  rw [h] at this
  exact this

/-- The text of an operation is read as it, if it may be. -/
theorem parse_text (b : Bool) (key val : Int) (h : -9223372036854775808 ≤ key ∧ key ≤ 9223372036854775807 ∧ -9223372036854775808 ≤ val ∧ val ≤ 9223372036854775807) :
    opParse (mkB (opText b key val)) = if rightB b key val = true then (b, key, val, true) else (false, 0, 0, false) := by
  have hp : ∀ c : UInt8, c ≠ 32 → pieces (mkB (c :: tailL [key, val])) = [mkB [c], mkB (itoa key), mkB (itoa val)] := by
    intro c hc
    rw [← pieces_cut]
    show (cutL 32 ([c] ++ tailL [key, val])).map mkB = _
    rw [Pure.join_pieces [c] (by simp; exact fun e => hc e.symm) [key, val]]
    rfl
  have hw : ∀ c : UInt8, c ≠ 32 → wordsP (mkB (c :: tailL [key, val])) 2 = if (Pure.inM key && Pure.inM val) = true then (mkB [c], [key, val], true) else (⟨#[]⟩, [], false) := by
    intro c hc
    unfold wordsP
    rw [hp c hc]
    have hall : allNum [mkB (itoa key), mkB (itoa val)] = (Pure.inM key && Pure.inM val) := by
      unfold allNum
      simp only [List.all_cons, List.all_nil, Bool.and_true, Pure.numI_itoa key h.2.1, Pure.numI_itoa val h.2.2.2]
      by_cases h1 : Pure.inM key = true <;> by_cases h2 : Pure.inM val = true <;> simp [h1, h2]
    by_cases hm : (Pure.inM key && Pure.inM val) = true
    · rw [if_pos ⟨rfl, hall.trans hm⟩, if_pos hm]
      rw [Bool.and_eq_true] at hm
      unfold numsOf
      simp only [List.tail_cons, List.map_cons, List.map_nil, Pure.numI_itoa key h.2.1, Pure.numI_itoa val h.2.2.2, if_pos hm.1, if_pos hm.2]
      rfl
    · rw [if_neg (fun z => hm (hall.symm.trans z.2)), if_neg hm]
  have hr : rightB b key val = true → (Pure.inM key && Pure.inM val) = true := by
    intro hr
    unfold rightB at hr
    rw [decide_eq_true_iff] at hr
    unfold Pure.inM
    simp
    omega
  by_cases hm : (Pure.inM key && Pure.inM val) = true
  · have e0 : rd [key, val] 0 = key := rfl
    have e1 : rd [key, val] 1 = val := rfl
    have key2 : ∀ (c : UInt8) (b : Bool), decide ((mkB [c]).data.toList = [119]) = b → ((mkB [c]).data.toList = [114] ∨ (mkB [c]).data.toList = [119]) → c ≠ 32 →
        opParse (mkB (c :: tailL [key, val])) = if rightB b key val = true then (b, key, val, true) else (false, 0, 0, false) := by
      intro c b hb hc h32
      unfold opParse
      rw [hw c h32, if_pos hm]
      dsimp only
      rw [hb, e0, e1]
      by_cases hr2 : rightB b key val = true
      · rw [if_pos ⟨rfl, hc, hr2⟩, if_pos hr2]
      · rw [if_neg (fun z => hr2 z.2.2), if_neg hr2]
    cases b with
    | true => exact key2 119 true (by decide) (.inr rfl) (by decide)
    | false => exact key2 114 false (by decide) (.inl rfl) (by decide)
  · rw [if_neg (fun z => hm (hr z))]
    have key2 : ∀ c : UInt8, c ≠ 32 → opParse (mkB (c :: tailL [key, val])) = (false, 0, 0, false) := by
      intro c h32
      unfold opParse
      rw [hw c h32, if_neg hm]
      rfl
    cases b with
    | true => exact key2 119 (by decide)
    | false => exact key2 114 (by decide)

theorem want_eq (c : UInt8) (key val : Int) : (⟨#[c, 32]⟩ : ByteArray) ++ (⟨(itoa key).toArray⟩ ++ ⟨#[32]⟩ ++ ⟨(itoa val).toArray⟩) = mkB (c :: tailL [key, val]) := by
  apply ba_ext
  unfold mkB tailL
  simp

set_option maxHeartbeats 1000000 in
set_option maxRecDepth 100000 in
theorem walk_ty (key val : Int) (hkv : -9223372036854775808 ≤ key ∧ key ≤ 9223372036854775807 ∧ -9223372036854775808 ≤ val ∧ val ≤ 9223372036854775807) (hm : rightB true key val = true) (w : World) (HY : Laid w) :
    Calls Tryd.prog 6 #[.agg #[.bool true, .int .i64 key, .int .i64 val]] w fun e w' => e = .returned (.bool true) ∧ Below w.heap.size w w' := by
  have hp := parse_text true key val hkv
  rw [if_pos hm] at hp
  have HM := Lib.hid hm
  have HKV := Lib.hid hkv
  have lk := itoa_length key hkv.1 hkv.2.1
  have lv := itoa_length val hkv.2.2.1 hkv.2.2.2
  have n1 : ¬ 9223372036854775807 < (itoa key).length + 1 := by omega
  have n2 : ¬ 9223372036854775807 < (itoa key).length + 1 + (itoa val).length := by omega
  have n3 : ¬ 9223372036854775807 < 2 + ((itoa key).length + 1 + (itoa val).length) := by omega
  have HK := Lib.hid (And.intro hkv.1 hkv.2.1)
  have HV := Lib.hid hkv.2.2
  obtain ⟨T, hT⟩ : ∃ T, mkB (opText true key val) = T := ⟨_, rfl⟩
  have HW := Lib.hid ((want_eq 119 key val).trans hT)
  have hTs : T.size ≤ 140737488 := by
    rw [← hT]; unfold mkB; rw [ba_size]; unfold opText tailL; simp; omega
  rw [hT] at hp
  have HP := Lib.hid hp
  have HT := Lib.hid hT
  clear hm hkv hp hT
  go_enter Tryd.func6, Tryd.ntmps6
  go_wp2_with fail
  obtain ⟨W, hW⟩ : ∃ W, w.alloc (.cells #[.bool true, .int .i64 key, .int .i64 val] 35) = W := ⟨_, rfl⟩
  have gW : Below w.heap.size w W := hW ▸ ((Below.refl _ _).alloc (Nat.le_refl _) _)
  have B0 : W.heap[w.heap.size]? = some (.cells #[.bool true, .int .i64 key, .int .i64 val] 35) := by
    rw [← hW]; exact alloc_at w _
  rw [hW]
  clear hW
  refine (speaks_any _ (HY.below gW)).mono ?_
  rintro e w1 ⟨rfl, h1⟩
  have g1 : Below w.heap.size w w1 := gW.trans (h1.mono gW.size)
  have B1 := Plain.blk_below B0 h1
  obtain ⟨a0, a1, a2⟩ := OpKinds.op_cells B1
  go_wp2_with fail
  have HY1 := HY.below g1
  have hl1 : w.heap.size < w1.heap.size := (Array.getElem?_eq_some_iff.1 B1).1
  go_region_held3 (fun w' => w'.cell? ⟨w.heap.size, 1, none⟩ = some (.int .i64 key) ∧ w'.cell? ⟨w.heap.size, 2, none⟩ = some (.int .i64 val) ∧ Below w1.heap.size w1 w') (repeat' (first | assumption | exact Below.refl _ _ | (apply Below.drew) | apply And.intro | (simp [*]; done)))
    (first | (go_at_call 12; refine (numR_any _ (by first | exact HK.out | exact HV.out) _ (HY1.below (by first | exact (Below.refl _ w1).drew | assumption | (apply Below.drew; assumption)))).mono ?_; rintro e w5 ⟨rfl, k5⟩; have kk5 : Below w1.heap.size w1 w5 := Below.trans (b := _) (by first | exact (Below.refl _ w1).drew | assumption | (apply Below.drew; assumption)) (k5.mono (by first | exact Nat.le_refl _ | exact kk.size)); have kk := kk5; have q0 := (kk5.cell (p := ⟨w.heap.size, 0, none⟩) hl1).trans a0; have q1 := (kk5.cell (p := ⟨w.heap.size, 1, none⟩) hl1).trans a1; have q2 := (kk5.cell (p := ⟨w.heap.size, 2, none⟩) hl1).trans a2))
  rw [HW.out]
  go_wp2_with fail
  have g5 : Below w.heap.size w w5 := g1.trans (kk.mono g1.size)
  refine (textR_any true key val T HT.out HKV.out _ (HY.below g5)).mono ?_
  rintro e w6 ⟨rfl, h6⟩
  have g6 : Below w.heap.size w w6 := g5.trans (h6.mono g5.size)
  go_wp2_with fail
  refine (parseR_any T hTs true key val true HP.out _ (HY.below g6)).mono ?_
  rintro e w7 ⟨rfl, h7⟩
  have g7 : Below w.heap.size w w7 := g6.trans (h7.mono g6.size)
  have k7 : Below w1.heap.size w1 w7 := (kk.trans (h6.mono kk.size)).trans (h7.mono (Nat.le_trans kk.size h6.size))
  clear q0 q1 q2 a0 a1 a2
  have B7 := Plain.blk_below B1 k7
  go_wp2_with fail
  obtain ⟨V, hV⟩ : ∃ V, w7.alloc (.cells #[.bool true, .int .i64 key, .int .i64 val] 35) = V := ⟨_, rfl⟩
  have gV : Below w.heap.size w V := hV ▸ (g7.alloc g7.size _)
  have kV : Below w7.heap.size w7 V := hV ▸ ((Below.refl _ _).alloc (Nat.le_refl _) _)
  have BX : V.heap[w7.heap.size]? = some (.cells #[.bool true, .int .i64 key, .int .i64 val] 35) := by
    rw [← hV]; exact alloc_at w7 _
  have BO := Plain.blk_below B7 kV
  rw [hV]
  clear hV
  obtain ⟨v0, v1, v2⟩ := OpKinds.op_cells BO
  have hV0 : w.heap.size < V.heap.size := (Array.getElem?_eq_some_iff.1 BO).1
  have HYV := HY.below gV
  go_region_held3 (fun w' => w'.cell? ⟨w.heap.size, 0, none⟩ = some (.bool true) ∧ w'.cell? ⟨w.heap.size, 1, none⟩ = some (.int .i64 key) ∧ w'.cell? ⟨w.heap.size, 2, none⟩ = some (.int .i64 val) ∧ Below V.heap.size V w') (repeat' (first | assumption | exact Below.refl _ _ | (apply Below.drew) | apply And.intro | (simp [*]; done)))
    (first
      | (go_at_call 19; refine (textR_any true key val T HT.out HKV.out _ (HYV.below (by first | assumption | exact (Below.refl _ V).drew | (apply Below.drew; assumption)))).mono ?_; rintro e w9 ⟨rfl, k9⟩; have kk9 : Below V.heap.size V w9 := Below.trans (b := _) (by first | assumption | exact (Below.refl _ V).drew | (apply Below.drew; assumption)) (k9.mono (by first | exact Nat.le_refl _ | exact kk8.size)); have kk8 := kk9; have q0 := (kk9.cell (p := ⟨w.heap.size, 0, none⟩) hV0).trans v0; have q1 := (kk9.cell (p := ⟨w.heap.size, 1, none⟩) hV0).trans v1; have q2 := (kk9.cell (p := ⟨w.heap.size, 2, none⟩) hV0).trans v2)
      | (go_at_call 20; refine (rightR_any true key val true HM.out _ (HYV.below (by first | assumption | exact (Below.refl _ V).drew | (apply Below.drew; assumption)))).mono ?_; rintro e w9 ⟨rfl, k9⟩; have kk9 : Below V.heap.size V w9 := Below.trans (b := _) (by first | assumption | exact (Below.refl _ V).drew | (apply Below.drew; assumption)) (k9.mono (by first | exact Nat.le_refl _ | exact kk8.size)); have kk8 := kk9; have q0 := (kk9.cell (p := ⟨w.heap.size, 0, none⟩) hV0).trans v0; have q1 := (kk9.cell (p := ⟨w.heap.size, 1, none⟩) hV0).trans v1; have q2 := (kk9.cell (p := ⟨w.heap.size, 2, none⟩) hV0).trans v2)
      | (go_at_call 21; refine (mayR_any true key val true HM.out _ (HYV.below (by first | assumption | exact (Below.refl _ V).drew | (apply Below.drew; assumption)))).mono ?_; rintro e w9 ⟨rfl, k9⟩; have kk9 : Below V.heap.size V w9 := Below.trans (b := _) (by first | assumption | exact (Below.refl _ V).drew | (apply Below.drew; assumption)) (k9.mono (by first | exact Nat.le_refl _ | exact kk8.size)); have kk8 := kk9; have q0 := (kk9.cell (p := ⟨w.heap.size, 0, none⟩) hV0).trans v0; have q1 := (kk9.cell (p := ⟨w.heap.size, 1, none⟩) hV0).trans v1; have q2 := (kk9.cell (p := ⟨w.heap.size, 2, none⟩) hV0).trans v2))
  have X9 := Plain.blk_below BX kk9
  obtain ⟨x0, x1, x2⟩ := OpKinds.op_cells X9
  go_wp2_with fail
  go_ret
  exact ⟨rfl, gV.trans (kk9.mono gV.size)⟩


set_option maxHeartbeats 1000000 in
set_option maxRecDepth 100000 in
theorem walk_fy (key val : Int) (hkv : -9223372036854775808 ≤ key ∧ key ≤ 9223372036854775807 ∧ -9223372036854775808 ≤ val ∧ val ≤ 9223372036854775807) (hm : rightB false key val = true) (w : World) (HY : Laid w) :
    Calls Tryd.prog 6 #[.agg #[.bool false, .int .i64 key, .int .i64 val]] w fun e w' => e = .returned (.bool true) ∧ Below w.heap.size w w' := by
  have hp := parse_text false key val hkv
  rw [if_pos hm] at hp
  have HM := Lib.hid hm
  have HKV := Lib.hid hkv
  have lk := itoa_length key hkv.1 hkv.2.1
  have lv := itoa_length val hkv.2.2.1 hkv.2.2.2
  have n1 : ¬ 9223372036854775807 < (itoa key).length + 1 := by omega
  have n2 : ¬ 9223372036854775807 < (itoa key).length + 1 + (itoa val).length := by omega
  have n3 : ¬ 9223372036854775807 < 2 + ((itoa key).length + 1 + (itoa val).length) := by omega
  have HK := Lib.hid (And.intro hkv.1 hkv.2.1)
  have HV := Lib.hid hkv.2.2
  obtain ⟨T, hT⟩ : ∃ T, mkB (opText false key val) = T := ⟨_, rfl⟩
  have HW := Lib.hid ((want_eq 114 key val).trans hT)
  have hTs : T.size ≤ 140737488 := by
    rw [← hT]; unfold mkB; rw [ba_size]; unfold opText tailL; simp; omega
  rw [hT] at hp
  have HP := Lib.hid hp
  have HT := Lib.hid hT
  clear hm hkv hp hT
  go_enter Tryd.func6, Tryd.ntmps6
  go_wp2_with fail
  obtain ⟨W, hW⟩ : ∃ W, w.alloc (.cells #[.bool false, .int .i64 key, .int .i64 val] 35) = W := ⟨_, rfl⟩
  have gW : Below w.heap.size w W := hW ▸ ((Below.refl _ _).alloc (Nat.le_refl _) _)
  have B0 : W.heap[w.heap.size]? = some (.cells #[.bool false, .int .i64 key, .int .i64 val] 35) := by
    rw [← hW]; exact alloc_at w _
  rw [hW]
  clear hW
  refine (speaks_any _ (HY.below gW)).mono ?_
  rintro e w1 ⟨rfl, h1⟩
  have g1 : Below w.heap.size w w1 := gW.trans (h1.mono gW.size)
  have B1 := Plain.blk_below B0 h1
  obtain ⟨a0, a1, a2⟩ := OpKinds.op_cells B1
  go_wp2_with fail
  have HY1 := HY.below g1
  have hl1 : w.heap.size < w1.heap.size := (Array.getElem?_eq_some_iff.1 B1).1
  go_region_held3 (fun w' => w'.cell? ⟨w.heap.size, 1, none⟩ = some (.int .i64 key) ∧ w'.cell? ⟨w.heap.size, 2, none⟩ = some (.int .i64 val) ∧ Below w1.heap.size w1 w') (repeat' (first | assumption | exact Below.refl _ _ | (apply Below.drew) | apply And.intro | (simp [*]; done)))
    (first | (go_at_call 12; refine (numR_any _ (by first | exact HK.out | exact HV.out) _ (HY1.below (by first | exact (Below.refl _ w1).drew | assumption | (apply Below.drew; assumption)))).mono ?_; rintro e w5 ⟨rfl, k5⟩; have kk5 : Below w1.heap.size w1 w5 := Below.trans (b := _) (by first | exact (Below.refl _ w1).drew | assumption | (apply Below.drew; assumption)) (k5.mono (by first | exact Nat.le_refl _ | exact kk.size)); have kk := kk5; have q0 := (kk5.cell (p := ⟨w.heap.size, 0, none⟩) hl1).trans a0; have q1 := (kk5.cell (p := ⟨w.heap.size, 1, none⟩) hl1).trans a1; have q2 := (kk5.cell (p := ⟨w.heap.size, 2, none⟩) hl1).trans a2))
  rw [HW.out]
  go_wp2_with fail
  have g5 : Below w.heap.size w w5 := g1.trans (kk.mono g1.size)
  refine (textR_any false key val T HT.out HKV.out _ (HY.below g5)).mono ?_
  rintro e w6 ⟨rfl, h6⟩
  have g6 : Below w.heap.size w w6 := g5.trans (h6.mono g5.size)
  go_wp2_with fail
  refine (parseR_any T hTs false key val true HP.out _ (HY.below g6)).mono ?_
  rintro e w7 ⟨rfl, h7⟩
  have g7 : Below w.heap.size w w7 := g6.trans (h7.mono g6.size)
  have k7 : Below w1.heap.size w1 w7 := (kk.trans (h6.mono kk.size)).trans (h7.mono (Nat.le_trans kk.size h6.size))
  clear q0 q1 q2 a0 a1 a2
  have B7 := Plain.blk_below B1 k7
  go_wp2_with fail
  obtain ⟨V, hV⟩ : ∃ V, w7.alloc (.cells #[.bool false, .int .i64 key, .int .i64 val] 35) = V := ⟨_, rfl⟩
  have gV : Below w.heap.size w V := hV ▸ (g7.alloc g7.size _)
  have kV : Below w7.heap.size w7 V := hV ▸ ((Below.refl _ _).alloc (Nat.le_refl _) _)
  have BX : V.heap[w7.heap.size]? = some (.cells #[.bool false, .int .i64 key, .int .i64 val] 35) := by
    rw [← hV]; exact alloc_at w7 _
  have BO := Plain.blk_below B7 kV
  rw [hV]
  clear hV
  obtain ⟨v0, v1, v2⟩ := OpKinds.op_cells BO
  have hV0 : w.heap.size < V.heap.size := (Array.getElem?_eq_some_iff.1 BO).1
  have HYV := HY.below gV
  go_region_held3 (fun w' => w'.cell? ⟨w.heap.size, 0, none⟩ = some (.bool false) ∧ w'.cell? ⟨w.heap.size, 1, none⟩ = some (.int .i64 key) ∧ w'.cell? ⟨w.heap.size, 2, none⟩ = some (.int .i64 val) ∧ Below V.heap.size V w') (repeat' (first | assumption | exact Below.refl _ _ | (apply Below.drew) | apply And.intro | (simp [*]; done)))
    (first
      | (go_at_call 19; refine (textR_any false key val T HT.out HKV.out _ (HYV.below (by first | assumption | exact (Below.refl _ V).drew | (apply Below.drew; assumption)))).mono ?_; rintro e w9 ⟨rfl, k9⟩; have kk9 : Below V.heap.size V w9 := Below.trans (b := _) (by first | assumption | exact (Below.refl _ V).drew | (apply Below.drew; assumption)) (k9.mono (by first | exact Nat.le_refl _ | exact kk8.size)); have kk8 := kk9; have q0 := (kk9.cell (p := ⟨w.heap.size, 0, none⟩) hV0).trans v0; have q1 := (kk9.cell (p := ⟨w.heap.size, 1, none⟩) hV0).trans v1; have q2 := (kk9.cell (p := ⟨w.heap.size, 2, none⟩) hV0).trans v2)
      | (go_at_call 20; refine (rightR_any false key val true HM.out _ (HYV.below (by first | assumption | exact (Below.refl _ V).drew | (apply Below.drew; assumption)))).mono ?_; rintro e w9 ⟨rfl, k9⟩; have kk9 : Below V.heap.size V w9 := Below.trans (b := _) (by first | assumption | exact (Below.refl _ V).drew | (apply Below.drew; assumption)) (k9.mono (by first | exact Nat.le_refl _ | exact kk8.size)); have kk8 := kk9; have q0 := (kk9.cell (p := ⟨w.heap.size, 0, none⟩) hV0).trans v0; have q1 := (kk9.cell (p := ⟨w.heap.size, 1, none⟩) hV0).trans v1; have q2 := (kk9.cell (p := ⟨w.heap.size, 2, none⟩) hV0).trans v2)
      | (go_at_call 21; refine (mayR_any false key val true HM.out _ (HYV.below (by first | assumption | exact (Below.refl _ V).drew | (apply Below.drew; assumption)))).mono ?_; rintro e w9 ⟨rfl, k9⟩; have kk9 : Below V.heap.size V w9 := Below.trans (b := _) (by first | assumption | exact (Below.refl _ V).drew | (apply Below.drew; assumption)) (k9.mono (by first | exact Nat.le_refl _ | exact kk8.size)); have kk8 := kk9; have q0 := (kk9.cell (p := ⟨w.heap.size, 0, none⟩) hV0).trans v0; have q1 := (kk9.cell (p := ⟨w.heap.size, 1, none⟩) hV0).trans v1; have q2 := (kk9.cell (p := ⟨w.heap.size, 2, none⟩) hV0).trans v2))
  have X9 := Plain.blk_below BX kk9
  obtain ⟨x0, x1, x2⟩ := OpKinds.op_cells X9
  go_wp2_with fail
  go_ret
  exact ⟨rfl, gV.trans (kk9.mono gV.size)⟩


set_option maxHeartbeats 1000000 in
set_option maxRecDepth 100000 in
theorem walk_tn (key val : Int) (hkv : -9223372036854775808 ≤ key ∧ key ≤ 9223372036854775807 ∧ -9223372036854775808 ≤ val ∧ val ≤ 9223372036854775807) (hm : rightB true key val = false) (w : World) (HY : Laid w) :
    Calls Tryd.prog 6 #[.agg #[.bool true, .int .i64 key, .int .i64 val]] w fun e w' => e = .returned (.bool true) ∧ Below w.heap.size w w' := by
  have hp := parse_text true key val hkv
  rw [if_neg (by rw [hm]; simp)] at hp
  have HM := Lib.hid hm
  have HKV := Lib.hid hkv
  have lk := itoa_length key hkv.1 hkv.2.1
  have lv := itoa_length val hkv.2.2.1 hkv.2.2.2
  have n1 : ¬ 9223372036854775807 < (itoa key).length + 1 := by omega
  have n2 : ¬ 9223372036854775807 < (itoa key).length + 1 + (itoa val).length := by omega
  have n3 : ¬ 9223372036854775807 < 2 + ((itoa key).length + 1 + (itoa val).length) := by omega
  have HK := Lib.hid (And.intro hkv.1 hkv.2.1)
  have HV := Lib.hid hkv.2.2
  obtain ⟨T, hT⟩ : ∃ T, mkB (opText true key val) = T := ⟨_, rfl⟩
  have HW := Lib.hid ((want_eq 119 key val).trans hT)
  have hTs : T.size ≤ 140737488 := by
    rw [← hT]; unfold mkB; rw [ba_size]; unfold opText tailL; simp; omega
  rw [hT] at hp
  have HP := Lib.hid hp
  have HT := Lib.hid hT
  clear hm hkv hp hT
  go_enter Tryd.func6, Tryd.ntmps6
  go_wp2_with fail
  obtain ⟨W, hW⟩ : ∃ W, w.alloc (.cells #[.bool true, .int .i64 key, .int .i64 val] 35) = W := ⟨_, rfl⟩
  have gW : Below w.heap.size w W := hW ▸ ((Below.refl _ _).alloc (Nat.le_refl _) _)
  have B0 : W.heap[w.heap.size]? = some (.cells #[.bool true, .int .i64 key, .int .i64 val] 35) := by
    rw [← hW]; exact alloc_at w _
  rw [hW]
  clear hW
  refine (speaks_any _ (HY.below gW)).mono ?_
  rintro e w1 ⟨rfl, h1⟩
  have g1 : Below w.heap.size w w1 := gW.trans (h1.mono gW.size)
  have B1 := Plain.blk_below B0 h1
  obtain ⟨a0, a1, a2⟩ := OpKinds.op_cells B1
  go_wp2_with fail
  have HY1 := HY.below g1
  have hl1 : w.heap.size < w1.heap.size := (Array.getElem?_eq_some_iff.1 B1).1
  go_region_held3 (fun w' => w'.cell? ⟨w.heap.size, 1, none⟩ = some (.int .i64 key) ∧ w'.cell? ⟨w.heap.size, 2, none⟩ = some (.int .i64 val) ∧ Below w1.heap.size w1 w') (repeat' (first | assumption | exact Below.refl _ _ | (apply Below.drew) | apply And.intro | (simp [*]; done)))
    (first | (go_at_call 12; refine (numR_any _ (by first | exact HK.out | exact HV.out) _ (HY1.below (by first | exact (Below.refl _ w1).drew | assumption | (apply Below.drew; assumption)))).mono ?_; rintro e w5 ⟨rfl, k5⟩; have kk5 : Below w1.heap.size w1 w5 := Below.trans (b := _) (by first | exact (Below.refl _ w1).drew | assumption | (apply Below.drew; assumption)) (k5.mono (by first | exact Nat.le_refl _ | exact kk.size)); have kk := kk5; have q0 := (kk5.cell (p := ⟨w.heap.size, 0, none⟩) hl1).trans a0; have q1 := (kk5.cell (p := ⟨w.heap.size, 1, none⟩) hl1).trans a1; have q2 := (kk5.cell (p := ⟨w.heap.size, 2, none⟩) hl1).trans a2))
  rw [HW.out]
  go_wp2_with fail
  have g5 : Below w.heap.size w w5 := g1.trans (kk.mono g1.size)
  refine (textR_any true key val T HT.out HKV.out _ (HY.below g5)).mono ?_
  rintro e w6 ⟨rfl, h6⟩
  have g6 : Below w.heap.size w w6 := g5.trans (h6.mono g5.size)
  go_wp2_with fail
  refine (parseR_any T hTs false 0 0 false HP.out _ (HY.below g6)).mono ?_
  rintro e w7 ⟨rfl, h7⟩
  have g7 : Below w.heap.size w w7 := g6.trans (h7.mono g6.size)
  have k7 : Below w1.heap.size w1 w7 := (kk.trans (h6.mono kk.size)).trans (h7.mono (Nat.le_trans kk.size h6.size))
  clear q0 q1 q2 a0 a1 a2
  have B7 := Plain.blk_below B1 k7
  go_wp2_with fail
  obtain ⟨V, hV⟩ : ∃ V, w7.alloc (.cells #[.bool false, .int .i64 0, .int .i64 0] 35) = V := ⟨_, rfl⟩
  have gV : Below w.heap.size w V := hV ▸ (g7.alloc g7.size _)
  have kV : Below w7.heap.size w7 V := hV ▸ ((Below.refl _ _).alloc (Nat.le_refl _) _)
  have BX : V.heap[w7.heap.size]? = some (.cells #[.bool false, .int .i64 0, .int .i64 0] 35) := by
    rw [← hV]; exact alloc_at w7 _
  have BO := Plain.blk_below B7 kV
  rw [hV]
  clear hV
  obtain ⟨v0, v1, v2⟩ := OpKinds.op_cells BO
  have hV0 : w.heap.size < V.heap.size := (Array.getElem?_eq_some_iff.1 BO).1
  have HYV := HY.below gV
  go_region_held3 (fun w' => w'.cell? ⟨w.heap.size, 0, none⟩ = some (.bool true) ∧ w'.cell? ⟨w.heap.size, 1, none⟩ = some (.int .i64 key) ∧ w'.cell? ⟨w.heap.size, 2, none⟩ = some (.int .i64 val) ∧ Below V.heap.size V w') (repeat' (first | assumption | exact Below.refl _ _ | (apply Below.drew) | apply And.intro | (simp [*]; done)))
    (first
      | (go_at_call 19; refine (textR_any true key val T HT.out HKV.out _ (HYV.below (by first | assumption | exact (Below.refl _ V).drew | (apply Below.drew; assumption)))).mono ?_; rintro e w9 ⟨rfl, k9⟩; have kk9 : Below V.heap.size V w9 := Below.trans (b := _) (by first | assumption | exact (Below.refl _ V).drew | (apply Below.drew; assumption)) (k9.mono (by first | exact Nat.le_refl _ | exact kk8.size)); have kk8 := kk9; have q0 := (kk9.cell (p := ⟨w.heap.size, 0, none⟩) hV0).trans v0; have q1 := (kk9.cell (p := ⟨w.heap.size, 1, none⟩) hV0).trans v1; have q2 := (kk9.cell (p := ⟨w.heap.size, 2, none⟩) hV0).trans v2)
      | (go_at_call 20; refine (rightR_any true key val false HM.out _ (HYV.below (by first | assumption | exact (Below.refl _ V).drew | (apply Below.drew; assumption)))).mono ?_; rintro e w9 ⟨rfl, k9⟩; have kk9 : Below V.heap.size V w9 := Below.trans (b := _) (by first | assumption | exact (Below.refl _ V).drew | (apply Below.drew; assumption)) (k9.mono (by first | exact Nat.le_refl _ | exact kk8.size)); have kk8 := kk9; have q0 := (kk9.cell (p := ⟨w.heap.size, 0, none⟩) hV0).trans v0; have q1 := (kk9.cell (p := ⟨w.heap.size, 1, none⟩) hV0).trans v1; have q2 := (kk9.cell (p := ⟨w.heap.size, 2, none⟩) hV0).trans v2)
      | (go_at_call 21; refine (mayR_any true key val false HM.out _ (HYV.below (by first | assumption | exact (Below.refl _ V).drew | (apply Below.drew; assumption)))).mono ?_; rintro e w9 ⟨rfl, k9⟩; have kk9 : Below V.heap.size V w9 := Below.trans (b := _) (by first | assumption | exact (Below.refl _ V).drew | (apply Below.drew; assumption)) (k9.mono (by first | exact Nat.le_refl _ | exact kk8.size)); have kk8 := kk9; have q0 := (kk9.cell (p := ⟨w.heap.size, 0, none⟩) hV0).trans v0; have q1 := (kk9.cell (p := ⟨w.heap.size, 1, none⟩) hV0).trans v1; have q2 := (kk9.cell (p := ⟨w.heap.size, 2, none⟩) hV0).trans v2))
  have X9 := Plain.blk_below BX kk9
  obtain ⟨x0, x1, x2⟩ := OpKinds.op_cells X9
  go_wp2_with fail
  go_ret
  exact ⟨rfl, gV.trans (kk9.mono gV.size)⟩


set_option maxHeartbeats 1000000 in
set_option maxRecDepth 100000 in
theorem walk_fn (key val : Int) (hkv : -9223372036854775808 ≤ key ∧ key ≤ 9223372036854775807 ∧ -9223372036854775808 ≤ val ∧ val ≤ 9223372036854775807) (hm : rightB false key val = false) (w : World) (HY : Laid w) :
    Calls Tryd.prog 6 #[.agg #[.bool false, .int .i64 key, .int .i64 val]] w fun e w' => e = .returned (.bool true) ∧ Below w.heap.size w w' := by
  have hp := parse_text false key val hkv
  rw [if_neg (by rw [hm]; simp)] at hp
  have HM := Lib.hid hm
  have HKV := Lib.hid hkv
  have lk := itoa_length key hkv.1 hkv.2.1
  have lv := itoa_length val hkv.2.2.1 hkv.2.2.2
  have n1 : ¬ 9223372036854775807 < (itoa key).length + 1 := by omega
  have n2 : ¬ 9223372036854775807 < (itoa key).length + 1 + (itoa val).length := by omega
  have n3 : ¬ 9223372036854775807 < 2 + ((itoa key).length + 1 + (itoa val).length) := by omega
  have HK := Lib.hid (And.intro hkv.1 hkv.2.1)
  have HV := Lib.hid hkv.2.2
  obtain ⟨T, hT⟩ : ∃ T, mkB (opText false key val) = T := ⟨_, rfl⟩
  have HW := Lib.hid ((want_eq 114 key val).trans hT)
  have hTs : T.size ≤ 140737488 := by
    rw [← hT]; unfold mkB; rw [ba_size]; unfold opText tailL; simp; omega
  rw [hT] at hp
  have HP := Lib.hid hp
  have HT := Lib.hid hT
  clear hm hkv hp hT
  go_enter Tryd.func6, Tryd.ntmps6
  go_wp2_with fail
  obtain ⟨W, hW⟩ : ∃ W, w.alloc (.cells #[.bool false, .int .i64 key, .int .i64 val] 35) = W := ⟨_, rfl⟩
  have gW : Below w.heap.size w W := hW ▸ ((Below.refl _ _).alloc (Nat.le_refl _) _)
  have B0 : W.heap[w.heap.size]? = some (.cells #[.bool false, .int .i64 key, .int .i64 val] 35) := by
    rw [← hW]; exact alloc_at w _
  rw [hW]
  clear hW
  refine (speaks_any _ (HY.below gW)).mono ?_
  rintro e w1 ⟨rfl, h1⟩
  have g1 : Below w.heap.size w w1 := gW.trans (h1.mono gW.size)
  have B1 := Plain.blk_below B0 h1
  obtain ⟨a0, a1, a2⟩ := OpKinds.op_cells B1
  go_wp2_with fail
  have HY1 := HY.below g1
  have hl1 : w.heap.size < w1.heap.size := (Array.getElem?_eq_some_iff.1 B1).1
  go_region_held3 (fun w' => w'.cell? ⟨w.heap.size, 1, none⟩ = some (.int .i64 key) ∧ w'.cell? ⟨w.heap.size, 2, none⟩ = some (.int .i64 val) ∧ Below w1.heap.size w1 w') (repeat' (first | assumption | exact Below.refl _ _ | (apply Below.drew) | apply And.intro | (simp [*]; done)))
    (first | (go_at_call 12; refine (numR_any _ (by first | exact HK.out | exact HV.out) _ (HY1.below (by first | exact (Below.refl _ w1).drew | assumption | (apply Below.drew; assumption)))).mono ?_; rintro e w5 ⟨rfl, k5⟩; have kk5 : Below w1.heap.size w1 w5 := Below.trans (b := _) (by first | exact (Below.refl _ w1).drew | assumption | (apply Below.drew; assumption)) (k5.mono (by first | exact Nat.le_refl _ | exact kk.size)); have kk := kk5; have q0 := (kk5.cell (p := ⟨w.heap.size, 0, none⟩) hl1).trans a0; have q1 := (kk5.cell (p := ⟨w.heap.size, 1, none⟩) hl1).trans a1; have q2 := (kk5.cell (p := ⟨w.heap.size, 2, none⟩) hl1).trans a2))
  rw [HW.out]
  go_wp2_with fail
  have g5 : Below w.heap.size w w5 := g1.trans (kk.mono g1.size)
  refine (textR_any false key val T HT.out HKV.out _ (HY.below g5)).mono ?_
  rintro e w6 ⟨rfl, h6⟩
  have g6 : Below w.heap.size w w6 := g5.trans (h6.mono g5.size)
  go_wp2_with fail
  refine (parseR_any T hTs false 0 0 false HP.out _ (HY.below g6)).mono ?_
  rintro e w7 ⟨rfl, h7⟩
  have g7 : Below w.heap.size w w7 := g6.trans (h7.mono g6.size)
  have k7 : Below w1.heap.size w1 w7 := (kk.trans (h6.mono kk.size)).trans (h7.mono (Nat.le_trans kk.size h6.size))
  clear q0 q1 q2 a0 a1 a2
  have B7 := Plain.blk_below B1 k7
  go_wp2_with fail
  obtain ⟨V, hV⟩ : ∃ V, w7.alloc (.cells #[.bool false, .int .i64 0, .int .i64 0] 35) = V := ⟨_, rfl⟩
  have gV : Below w.heap.size w V := hV ▸ (g7.alloc g7.size _)
  have kV : Below w7.heap.size w7 V := hV ▸ ((Below.refl _ _).alloc (Nat.le_refl _) _)
  have BX : V.heap[w7.heap.size]? = some (.cells #[.bool false, .int .i64 0, .int .i64 0] 35) := by
    rw [← hV]; exact alloc_at w7 _
  have BO := Plain.blk_below B7 kV
  rw [hV]
  clear hV
  obtain ⟨v0, v1, v2⟩ := OpKinds.op_cells BO
  have hV0 : w.heap.size < V.heap.size := (Array.getElem?_eq_some_iff.1 BO).1
  have HYV := HY.below gV
  go_region_held3 (fun w' => w'.cell? ⟨w.heap.size, 0, none⟩ = some (.bool false) ∧ w'.cell? ⟨w.heap.size, 1, none⟩ = some (.int .i64 key) ∧ w'.cell? ⟨w.heap.size, 2, none⟩ = some (.int .i64 val) ∧ Below V.heap.size V w') (repeat' (first | assumption | exact Below.refl _ _ | (apply Below.drew) | apply And.intro | (simp [*]; done)))
    (first
      | (go_at_call 19; refine (textR_any false key val T HT.out HKV.out _ (HYV.below (by first | assumption | exact (Below.refl _ V).drew | (apply Below.drew; assumption)))).mono ?_; rintro e w9 ⟨rfl, k9⟩; have kk9 : Below V.heap.size V w9 := Below.trans (b := _) (by first | assumption | exact (Below.refl _ V).drew | (apply Below.drew; assumption)) (k9.mono (by first | exact Nat.le_refl _ | exact kk8.size)); have kk8 := kk9; have q0 := (kk9.cell (p := ⟨w.heap.size, 0, none⟩) hV0).trans v0; have q1 := (kk9.cell (p := ⟨w.heap.size, 1, none⟩) hV0).trans v1; have q2 := (kk9.cell (p := ⟨w.heap.size, 2, none⟩) hV0).trans v2)
      | (go_at_call 20; refine (rightR_any false key val false HM.out _ (HYV.below (by first | assumption | exact (Below.refl _ V).drew | (apply Below.drew; assumption)))).mono ?_; rintro e w9 ⟨rfl, k9⟩; have kk9 : Below V.heap.size V w9 := Below.trans (b := _) (by first | assumption | exact (Below.refl _ V).drew | (apply Below.drew; assumption)) (k9.mono (by first | exact Nat.le_refl _ | exact kk8.size)); have kk8 := kk9; have q0 := (kk9.cell (p := ⟨w.heap.size, 0, none⟩) hV0).trans v0; have q1 := (kk9.cell (p := ⟨w.heap.size, 1, none⟩) hV0).trans v1; have q2 := (kk9.cell (p := ⟨w.heap.size, 2, none⟩) hV0).trans v2)
      | (go_at_call 21; refine (mayR_any false key val false HM.out _ (HYV.below (by first | assumption | exact (Below.refl _ V).drew | (apply Below.drew; assumption)))).mono ?_; rintro e w9 ⟨rfl, k9⟩; have kk9 : Below V.heap.size V w9 := Below.trans (b := _) (by first | assumption | exact (Below.refl _ V).drew | (apply Below.drew; assumption)) (k9.mono (by first | exact Nat.le_refl _ | exact kk8.size)); have kk8 := kk9; have q0 := (kk9.cell (p := ⟨w.heap.size, 0, none⟩) hV0).trans v0; have q1 := (kk9.cell (p := ⟨w.heap.size, 1, none⟩) hV0).trans v1; have q2 := (kk9.cell (p := ⟨w.heap.size, 2, none⟩) hV0).trans v2))
  have X9 := Plain.blk_below BX kk9
  obtain ⟨x0, x1, x2⟩ := OpKinds.op_cells X9
  go_wp2_with fail
  go_ret
  exact ⟨rfl, gV.trans (kk9.mono gV.size)⟩


theorem walk_row (b : Bool) (key val : Int) (h0 : (Lit.int .i64 key).wf = true) (h1 : (Lit.int .i64 val).wf = true) (w : World) (HY : Laid w) :
    Calls Tryd.prog 6 #[.agg #[.bool b, .int .i64 key, .int .i64 val]] w fun e w' => e = .returned (.bool true) ∧ Below w.heap.size w w' := by
  have k := i64_of_wf h0
  have v := i64_of_wf h1
  cases b with
  | true =>
    cases hm : rightB true key val with
    | true => exact walk_ty key val ⟨k.1, k.2, v.1, v.2⟩ hm w HY
    | false => exact walk_tn key val ⟨k.1, k.2, v.1, v.2⟩ hm w HY
  | false =>
    cases hm : rightB false key val with
    | true => exact walk_fy key val ⟨k.1, k.2, v.1, v.2⟩ hm w HY
    | false => exact walk_fn key val ⟨k.1, k.2, v.1, v.2⟩ hm w HY

end Go.Proofs.YtegeaomemgcciaaDoor.OpTexts
