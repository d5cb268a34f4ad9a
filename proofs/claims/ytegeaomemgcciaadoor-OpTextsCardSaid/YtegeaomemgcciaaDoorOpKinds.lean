/- OpKinds, walked: reads and writes of any numbers. -/
import Derived.Test.YtegeaomemgcciaaDoorOpWalk
namespace Go.Proofs.YtegeaomemgcciaaDoor.OpKinds
open Go Go.Lib Go.RowKit Go.Proofs.YtegeaomemgcciaaDoor Go.Proofs.YtegeaomemgcciaaDoor.Hand Go.Proofs.YtegeaomemgcciaaDoor.Plain

theorem op_cells {X : World} {g : Nat} {b : Bool} {k v : Int} {t : TypeId} (h : X.heap[g]? = some (.cells #[.bool b, .int .i64 k, .int .i64 v] t (0, 0))) :
    X.cell? ⟨g, 0, none⟩ = some (.bool b) ∧ X.cell? ⟨g, 1, none⟩ = some (.int .i64 k) ∧ X.cell? ⟨g, 2, none⟩ = some (.int .i64 v) := by
  refine ⟨?_, ?_, ?_⟩ <;> (rw [Lib.cell_of_heap h]; rfl)

set_option maxHeartbeats 1000000 in
set_option maxRecDepth 100000 in
theorem walk_yy (a0 a1 : Int) (w : World) (HY : Laid w) (ha : rightB false a0 a1 = true) (hb : rightB true a0 a1 = true) :
    Calls Tryd.prog 8 #[.int .i64 a0, .int .i64 a1] w fun e w' => e = .returned (.bool true) ∧ Below w.heap.size w w' := by
  have HA := Lib.hid ha
  have HBB := Lib.hid hb
  clear ha hb
  go_enter Tryd.func8, Tryd.ntmps8
  go_wp2_with fail
  refine (speaks_any _ HY).mono ?_
  rintro e w1 ⟨rfl, h1⟩
  go_wp2_with fail
  refine (read_any a0 a1 _ (HY.below h1)).mono ?_
  rintro e w2 ⟨rfl, h2⟩
  have g2 : Below w.heap.size w w2 := h1.trans (h2.mono h1.size)
  go_wp2_with fail
  refine (write_any a0 a1 _ (HY.below g2)).mono ?_
  rintro e w3 ⟨rfl, h3⟩
  have g3 : Below w.heap.size w w3 := g2.trans (h3.mono g2.size)
  go_wp2_with fail
  obtain ⟨W, hW⟩ : ∃ W, (w3.alloc (.cells #[.bool false, .int .i64 a0, .int .i64 a1] 35)).alloc (.cells #[.bool true, .int .i64 a0, .int .i64 a1] 35) = W := ⟨_, rfl⟩
  have gW : Below w.heap.size w W := hW ▸ ((g3.alloc g3.size _).alloc (by have := g3.size; simp; omega) _)
  have B1 : W.heap[w3.heap.size]? = some (.cells #[.bool false, .int .i64 a0, .int .i64 a1] 35) := by
    rw [← hW]; exact blk_below (alloc_at w3 _) ((Below.refl _ _).alloc (Nat.le_refl _) _)
  have B2 : W.heap[w3.heap.size + 1]? = some (.cells #[.bool true, .int .i64 a0, .int .i64 a1] 35) := by
    rw [← hW]
    have := alloc_at (w3.alloc (.cells #[.bool false, .int .i64 a0, .int .i64 a1] 35)) (.cells #[.bool true, .int .i64 a0, .int .i64 a1] 35)
    simpa using this
  rw [hW]
  clear hW
  refine (right_any true a0 a1 _ (HY.below gW)).mono ?_
  rw [HBB.out]
  rintro e w4 ⟨rfl, kw4⟩
  have gw4 : Below w.heap.size w w4 := gW.trans (kw4.mono gW.size)
  have Cw41 := blk_below B1 kw4
  have Cw42 := blk_below B2 kw4
  obtain ⟨cw40, cw41, cw42⟩ := op_cells Cw41
  obtain ⟨dw40, dw41, dw42⟩ := op_cells Cw42
  go_wp2_with fail
  refine (right_any false a0 a1 _ (HY.below gw4)).mono ?_
  rw [HA.out]
  rintro e w5 ⟨rfl, kw5⟩
  have gw5 : Below w.heap.size w w5 := gw4.trans (kw5.mono gw4.size)
  have Cw51 := blk_below Cw41 kw5
  have Cw52 := blk_below Cw42 kw5
  obtain ⟨cw50, cw51, cw52⟩ := op_cells Cw51
  obtain ⟨dw50, dw51, dw52⟩ := op_cells Cw52
  go_wp2_with fail
  refine (right_any true a0 a1 _ (HY.below gw5)).mono ?_
  rw [HBB.out]
  rintro e w6 ⟨rfl, kw6⟩
  have gw6 : Below w.heap.size w w6 := gw5.trans (kw6.mono gw5.size)
  have Cw61 := blk_below Cw51 kw6
  have Cw62 := blk_below Cw52 kw6
  obtain ⟨cw60, cw61, cw62⟩ := op_cells Cw61
  obtain ⟨dw60, dw61, dw62⟩ := op_cells Cw62
  go_wp2_with fail
  go_ret
  exact ⟨rfl, gw6⟩

set_option maxHeartbeats 1000000 in
set_option maxRecDepth 100000 in
theorem walk_y0 (a0 : Int) (w : World) (HY : Laid w) (hb : rightB true a0 0 = false) :
    Calls Tryd.prog 8 #[.int .i64 a0, .int .i64 0] w fun e w' => e = .returned (.bool true) ∧ Below w.heap.size w w' := by
  have HBB := Lib.hid hb
  clear hb
  go_enter Tryd.func8, Tryd.ntmps8
  go_wp2_with fail
  refine (speaks_any _ HY).mono ?_
  rintro e w1 ⟨rfl, h1⟩
  go_wp2_with fail
  refine (read_any a0 0 _ (HY.below h1)).mono ?_
  rintro e w2 ⟨rfl, h2⟩
  have g2 : Below w.heap.size w w2 := h1.trans (h2.mono h1.size)
  go_wp2_with fail
  refine (write_any a0 0 _ (HY.below g2)).mono ?_
  rintro e w3 ⟨rfl, h3⟩
  have g3 : Below w.heap.size w w3 := g2.trans (h3.mono g2.size)
  go_wp2_with fail
  obtain ⟨W, hW⟩ : ∃ W, (w3.alloc (.cells #[.bool false, .int .i64 a0, .int .i64 0] 35)).alloc (.cells #[.bool true, .int .i64 a0, .int .i64 0] 35) = W := ⟨_, rfl⟩
  have gW : Below w.heap.size w W := hW ▸ ((g3.alloc g3.size _).alloc (by have := g3.size; simp; omega) _)
  have B1 : W.heap[w3.heap.size]? = some (.cells #[.bool false, .int .i64 a0, .int .i64 0] 35) := by
    rw [← hW]; exact blk_below (alloc_at w3 _) ((Below.refl _ _).alloc (Nat.le_refl _) _)
  have B2 : W.heap[w3.heap.size + 1]? = some (.cells #[.bool true, .int .i64 a0, .int .i64 0] 35) := by
    rw [← hW]
    have := alloc_at (w3.alloc (.cells #[.bool false, .int .i64 a0, .int .i64 0] 35)) (.cells #[.bool true, .int .i64 a0, .int .i64 0] 35)
    simpa using this
  rw [hW]
  clear hW
  refine (right_any true a0 0 _ (HY.below gW)).mono ?_
  rw [HBB.out]
  rintro e w4 ⟨rfl, kw4⟩
  have gw4 : Below w.heap.size w w4 := gW.trans (kw4.mono gW.size)
  have Cw41 := blk_below B1 kw4
  have Cw42 := blk_below B2 kw4
  obtain ⟨cw40, cw41, cw42⟩ := op_cells Cw41
  obtain ⟨dw40, dw41, dw42⟩ := op_cells Cw42
  go_wp2_with fail
  refine (right_any true a0 0 _ (HY.below gw4)).mono ?_
  rw [HBB.out]
  rintro e w5 ⟨rfl, kw5⟩
  have gw5 : Below w.heap.size w w5 := gw4.trans (kw5.mono gw4.size)
  have Cw51 := blk_below Cw41 kw5
  have Cw52 := blk_below Cw42 kw5
  obtain ⟨cw50, cw51, cw52⟩ := op_cells Cw51
  obtain ⟨dw50, dw51, dw52⟩ := op_cells Cw52
  go_wp2_with fail
  go_ret
  exact ⟨rfl, gw5⟩

set_option maxHeartbeats 1000000 in
set_option maxRecDepth 100000 in
theorem walk_nn (a0 a1 : Int) (w : World) (HY : Laid w) (ha : rightB false a0 a1 = false) (hb : rightB true a0 a1 = false) (hz : (a1 == 0) = false) :
    Calls Tryd.prog 8 #[.int .i64 a0, .int .i64 a1] w fun e w' => e = .returned (.bool true) ∧ Below w.heap.size w w' := by
  have HA := Lib.hid ha
  have HBB := Lib.hid hb
  clear ha hb
  go_enter Tryd.func8, Tryd.ntmps8
  go_wp2_with fail
  refine (speaks_any _ HY).mono ?_
  rintro e w1 ⟨rfl, h1⟩
  go_wp2_with fail
  refine (read_any a0 a1 _ (HY.below h1)).mono ?_
  rintro e w2 ⟨rfl, h2⟩
  have g2 : Below w.heap.size w w2 := h1.trans (h2.mono h1.size)
  go_wp2_with fail
  refine (write_any a0 a1 _ (HY.below g2)).mono ?_
  rintro e w3 ⟨rfl, h3⟩
  have g3 : Below w.heap.size w w3 := g2.trans (h3.mono g2.size)
  go_wp2_with fail
  obtain ⟨W, hW⟩ : ∃ W, (w3.alloc (.cells #[.bool false, .int .i64 a0, .int .i64 a1] 35)).alloc (.cells #[.bool true, .int .i64 a0, .int .i64 a1] 35) = W := ⟨_, rfl⟩
  have gW : Below w.heap.size w W := hW ▸ ((g3.alloc g3.size _).alloc (by have := g3.size; simp; omega) _)
  have B1 : W.heap[w3.heap.size]? = some (.cells #[.bool false, .int .i64 a0, .int .i64 a1] 35) := by
    rw [← hW]; exact blk_below (alloc_at w3 _) ((Below.refl _ _).alloc (Nat.le_refl _) _)
  have B2 : W.heap[w3.heap.size + 1]? = some (.cells #[.bool true, .int .i64 a0, .int .i64 a1] 35) := by
    rw [← hW]
    have := alloc_at (w3.alloc (.cells #[.bool false, .int .i64 a0, .int .i64 a1] 35)) (.cells #[.bool true, .int .i64 a0, .int .i64 a1] 35)
    simpa using this
  rw [hW]
  clear hW
  refine (right_any true a0 a1 _ (HY.below gW)).mono ?_
  rw [HBB.out]
  rintro e w4 ⟨rfl, kw4⟩
  have gw4 : Below w.heap.size w w4 := gW.trans (kw4.mono gW.size)
  have Cw41 := blk_below B1 kw4
  have Cw42 := blk_below B2 kw4
  obtain ⟨cw40, cw41, cw42⟩ := op_cells Cw41
  obtain ⟨dw40, dw41, dw42⟩ := op_cells Cw42
  go_wp2_with fail
  refine (right_any true a0 a1 _ (HY.below gw4)).mono ?_
  rw [HBB.out]
  rintro e w5 ⟨rfl, kw5⟩
  have gw5 : Below w.heap.size w w5 := gw4.trans (kw5.mono gw4.size)
  have Cw51 := blk_below Cw41 kw5
  have Cw52 := blk_below Cw42 kw5
  obtain ⟨cw50, cw51, cw52⟩ := op_cells Cw51
  obtain ⟨dw50, dw51, dw52⟩ := op_cells Cw52
  go_wp2_with fail
  refine (right_any false a0 a1 _ (HY.below gw5)).mono ?_
  rw [HA.out]
  rintro e w6 ⟨rfl, kw6⟩
  have gw6 : Below w.heap.size w w6 := gw5.trans (kw6.mono gw5.size)
  have Cw61 := blk_below Cw51 kw6
  have Cw62 := blk_below Cw52 kw6
  obtain ⟨cw60, cw61, cw62⟩ := op_cells Cw61
  obtain ⟨dw60, dw61, dw62⟩ := op_cells Cw62
  go_wp2_with fail
  go_ret
  exact ⟨rfl, gw6⟩

theorem walk_any (a0 a1 : Int) (w : World) (HY : Laid w) :
    Calls Tryd.prog 8 #[.int .i64 a0, .int .i64 a1] w fun e w' => e = .returned (.bool true) ∧ Below w.heap.size w w' := by
  by_cases hb : rightB true a0 a1 = true
  · have ha : rightB false a0 a1 = true := by unfold rightB at hb ⊢; simp at hb ⊢; omega
    exact walk_yy a0 a1 w HY ha hb
  · rw [Bool.not_eq_true] at hb
    by_cases hz : a1 = 0
    · subst hz
      exact walk_y0 a0 w HY hb
    · have ha : rightB false a0 a1 = false := by
        rw [← hb]
        unfold rightB
        simp [hz]
      exact walk_nn a0 a1 w HY ha hb (by simpa using hz)

theorem walk_row (a0 a1 : Int) (w : World) (_ : (Lit.int .i64 a0).wf = true) (_ : (Lit.int .i64 a1).wf = true) (HY : Laid w) :
    Calls Tryd.prog 8 #[.int .i64 a0, .int .i64 a1] w fun e w' => e = .returned (.bool true) ∧ Below w.heap.size w w' := walk_any a0 a1 w HY

end Go.Proofs.YtegeaomemgcciaaDoor.OpKinds
