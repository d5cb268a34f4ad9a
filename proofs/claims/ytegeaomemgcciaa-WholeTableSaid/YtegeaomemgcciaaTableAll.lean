/- table.All, walked. -/
import Derived.Test.YtegeaomemgcciaaTableBelow
namespace Go.Proofs.Ytegeaomemgcciaa.Table
open Go Go.RowKit Go.Proofs.Ytegeaomemgcciaa Go.Proofs.Ytegeaomemgcciaa.Hand Go.Proofs.Ytegeaomemgcciaa.Q Go.Proofs.YtegeaomemgcciaaW.PrintWords

/-- The whole table, so many cells of it laid. -/
def allIn (m : Nat) : List Bool := (List.range 144).map fun i => decide (i < m) && impl (i / 12) (i % 12)
theorem allIn_length (m : Nat) : (allIn m).length = 144 := by simp [allIn]
theorem allIn_get (m i : Nat) (hi : i < 144) (hm : m ≤ i) : (boolsV (allIn m))[i]? = some (.bool false) := by
  unfold boolsV allIn
  have : ¬ i < m := by omega
  simp [hi, this]
theorem allIn_set (a b : Nat) (_ : a < 12) (hb : b < 12) : (boolsV (allIn (a * 12 + b))).setIfInBounds (a * 12 + b) (.bool (impl a b)) = boolsV (allIn (a * 12 + (b + 1))) := by
  unfold boolsV allIn
  apply Array.ext'
  simp only [Array.toList_setIfInBounds, List.map_map]
  apply List.ext_getElem
  · simp
  · intro i h1 h2
    simp only [List.length_map, List.length_range] at h2
    rw [List.getElem_set]
    split
    · rename_i h; subst h
      have e1 : (a * 12 + b) / 12 = a := by omega
      have e2 : (a * 12 + b) % 12 = b := by omega
      simp only [List.getElem_map, List.getElem_range, Function.comp, e1, e2]
      rw [decide_eq_true (by omega), Bool.true_and]
    · rename_i h
      simp only [List.getElem_map, List.getElem_range, Function.comp]
      by_cases hi : i < a * 12 + b
      · rw [decide_eq_true hi, decide_eq_true (by omega)]
      · rw [decide_eq_false hi, decide_eq_false (by omega)]
theorem all_info (m : Nat) : (Try.prog.info? 86).map (·.size) = some (boolsV (allIn m)).size := by
  rw [boolsV_size, allIn_length]
  kernel_rfl

theorem all_zero : Try.zeroCells86 = boolsV (allIn 0) := by kernel_rfl
def Two2 (w wr : World) (row : Array Value) : Prop :=
  wr.heap[w.heap.size]? = some (.cells (boolsV (allIn 0)) 86 (0, 0)) ∧ wr.heap[w.heap.size + 1]? = some (.cells row 86 (0, 0)) ∧ Below w.heap.size w wr
def RelA (w : World) (i : Value) (wr : World) : Prop := ∃ a, a ≤ 12 ∧ i = .int .i64 ((a : Nat) : Int) ∧ Two2 w wr (boolsV (allIn (a * 12)))
def RelB (a : Nat) (w : World) (i : Value) (wr : World) : Prop := ∃ b, b ≤ 12 ∧ i = .int .i64 ((b : Nat) : Int) ∧ Two2 w wr (boolsV (allIn (a * 12 + b)))
theorem two2_start (w : World) : Two2 w ((w.alloc (.cells (boolsV (allIn 0)) 86)).alloc (.cells (boolsV (allIn 0)) 86)) (boolsV (allIn 0)) := by
  have h1 := Level.alloc_at w (.cells (boolsV (allIn 0)) 86)
  have h2 := Level.alloc_at (w.alloc (.cells (boolsV (allIn 0)) 86)) (.cells (boolsV (allIn 0)) 86)
  have hb : Below w.heap.size w (w.alloc (.cells (boolsV (allIn 0)) 86)) := (Below.refl _ _).alloc (Nat.le_refl _) _
  have hs : (w.alloc (.cells (boolsV (allIn 0)) 86)).heap.size = w.heap.size + 1 := by simp
  refine ⟨?_, by rw [hs] at h2; exact h2, hb.alloc (by rw [hs]; omega) _⟩
  rw [← h1]
  have := (Below.refl (w.heap.size + 1) (w.alloc (.cells (boolsV (allIn 0)) 86))).alloc (by rw [hs]; exact Nat.le_refl _) (.cells (boolsV (allIn 0)) 86)
  exact this.block _ (by omega)
theorem two2_below {w wr w' : World} {row : Array Value} (h : Two2 w wr row) (hb : Below wr.heap.size wr w') : Two2 w w' row := by
  obtain ⟨h1, h2, h3⟩ := h
  exact ⟨(hb.block _ (Array.getElem?_eq_some_iff.1 h1).1).trans h1, (hb.block _ (Array.getElem?_eq_some_iff.1 h2).1).trans h2, h3.trans (hb.mono h3.size)⟩
theorem two2_cell {w wr : World} {row : Array Value} (h : Two2 w wr row) (b : Nat) (v : Value) (e : row[b]? = some v) : wr.cell? ⟨w.heap.size + 1, b, none⟩ = some v := by
  rw [Lib.cell_of_heap h.2.1]; exact e
theorem two2_set {w wr : World} {row row' : Array Value} (h : Two2 w wr row) (b : Nat) (v : Value) (e : row.setIfInBounds b v = row') : Two2 w (wr.setCell ⟨w.heap.size + 1, b, none⟩ v) row' := by
  obtain ⟨h1, h2, h3⟩ := h
  refine ⟨?_, blk_put h2 b v e, below_set h3 (by omega)⟩
  rw [← h1]
  exact Below.heap_setCell wr ⟨w.heap.size + 1, b, none⟩ v w.heap.size (by simp)

set_option maxHeartbeats 2000000 in
set_option maxRecDepth 100000 in
theorem all_calls (w : World) :
    Calls Try.prog 49 #[] w fun e w' => e = .returned (.agg (boolsV (allIn 144))) ∧ Below w.heap.size w w' := by
  go_enter Try.func49, Try.ntmps49
  go_wp2_with fail
  rw [all_zero]
  go_loopw [4] (fun i wr => RelA w i wr) (fun i _ => 12 - (intOf i).toNat)
  case atStart => exact ⟨0, Nat.zero_le _, rfl, two2_start w⟩
  case round =>
    obtain ⟨a, ha, rfl, ta⟩ := hrel
    by_cases ha12 : a < 12
    · have hai : (a : Int) < 12 := by omega
      go_wp2_with fail
      go_loopw [7] (fun i wr => RelB a w i wr) (fun i _ => 12 - (intOf i).toNat)
      case atStart => exact ⟨0, Nat.zero_le _, rfl, ta⟩
      case round =>
        obtain ⟨b, hb, rfl, tb⟩ := hrel
        by_cases hb12 : b < 12
        · have hbi : (b : Int) < 12 := by omega
          have hset := allIn_set a b ha12 hb12
          have hget := allIn_get (a * 12 + b) (a * 12 + b) (by omega) (Nat.le_refl _)
          have himp := impl_any a b ha12 hb12
          have HS := Lib.hid hset
          clear hset
          go_wp2_with fail
          go_region_held3 (fun w' => Two2 w w' (boolsV (allIn (a * 12 + b))) ∨ Two2 w w' (boolsV (allIn (a * 12 + (b + 1))))) (first | exact .inl t9 | exact .inr (two2_set t9 _ _ HS.out) | exact .inl tb | exact .inl (two2_below tb ((Below.refl _ _).drew)))
            (first | (go_at_call 18; refine (himp _).mono ?_; rintro e w9 ⟨rfl, k9⟩; have kk9 : Below wr.heap.size wr w9 := ((Below.refl _ wr).drew).trans k9; have t9 := two2_below tb kk9; have hc9 := two2_cell t9 _ _ hget; have hfz9 := Lib.frozen_of_heap t9.2.1 (a * 12 + b)))
          go_wp2_with fail
          go_roundw
          case rel => exact ⟨b + 1, by omega, by go_num, two2_set t9 _ _ HS.out⟩
          case measure => simp [intOf]; omega
        · have hb2 : b = 12 := by omega
          subst hb2
          rw [show a * 12 + 12 = (a + 1) * 12 by omega] at tb
          go_wp2_with fail
          go_roundw
          case rel => exact ⟨a + 1, by omega, by go_num, tb⟩
          case measure => simp [intOf]; omega
    · have ha2 : a = 12 := by omega
      subst ha2
      obtain ⟨t1, t2, t3⟩ := ta
      go_wp2_with (first
        | (refine wpList_load_row rfl 86 (.tmp 1) rfl (w.heap.size + 1) rfl 86 (boolsV (allIn 144)) (0, 0) _ t2 Try.underlying86 rfl (all_info _) ?_)
        | (refine wpList_store_row rfl 86 (.tmp 0) (.tmp 19) rfl w.heap.size (boolsV (allIn 144)) rfl rfl 86 (boolsV (allIn 0)) t1 (all_info _) (by rw [boolsV_size, boolsV_size, allIn_length, allIn_length]) (boolsV_one _) ?_))
      refine bodyPost_ret (results_cell_row rfl _ _ w.heap.size 86 (boolsV (allIn 144)) (0, 0) _ rfl (setRow_heap wr w.heap.size _ _ _ _ t1) Try.underlying86 rfl (all_info _)) rfl ?_
      exact ⟨rfl, below_setRow t3 (Nat.le_refl _) _⟩
end Go.Proofs.Ytegeaomemgcciaa.Table
