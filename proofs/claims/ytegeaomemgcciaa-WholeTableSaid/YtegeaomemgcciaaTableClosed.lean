/- table.Row.Closed, walked. -/
import Derived.Test.YtegeaomemgcciaaTableRows

namespace Go.Proofs.Ytegeaomemgcciaa.Table
open Go Go.RowKit Go.Proofs.Ytegeaomemgcciaa Go.Proofs.Ytegeaomemgcciaa.Hand Go.Proofs.Ytegeaomemgcciaa.Q Go.Proofs.YtegeaomemgcciaaW.PrintWords

def RelC (w : World) (row : Nat → Bool) (i : Value) (wr : World) : Prop := ∃ a, a ≤ 12 ∧ i = .int .i64 ((a : Nat) : Int) ∧ wr.heap[w.heap.size]? = some (.cells (boolsV (rowF row)) 32 (0, 0)) ∧ Below w.heap.size w wr

theorem fresh_block (wr : World) (o : Obj) (cs : Array Value) (k : Nat) (h : k < wr.heap.size) : ((wr.alloc o).setRow wr.heap.size cs).heap[k]? = wr.heap[k]? :=
  (below_setRow (g := wr.heap.size) ((Below.refl wr.heap.size wr).alloc (Nat.le_refl _) o) (Nat.le_refl _) cs).block k h
theorem rowF_length (f : Nat → Bool) : (rowF f).length = 12 := by simp [rowF]
theorem rowF_info (f : Nat → Bool) : (Try.prog.info? 32).map (·.size) = some (boolsV (rowF f)).size := by
  rw [boolsV_size, rowF_length]
  kernel_rfl

set_option maxHeartbeats 2000000 in
set_option maxRecDepth 100000 in
theorem closed_calls (row : Nat → Bool) (hrow : ∀ a, a < 12 → ∀ b, b < 12 → row a = true → impl a b = true → row b = true) (w : World) :
    Calls Try.prog 25 #[.agg (boolsV (rowF row))] w fun e w' => e = .returned (.bool true) ∧ Below w.heap.size w w' := by
  have HROW := Lib.hid hrow
  clear hrow
  go_enter Try.func25, Try.ntmps25
  go_wp2_with fail
  obtain ⟨W, hW⟩ : ∃ W, w.alloc (.cells (boolsV (rowF row)) 32) = W := ⟨_, rfl⟩
  have gW : Below w.heap.size w W := hW ▸ ((Below.refl _ _).alloc (Nat.le_refl _) _)
  have B0 : W.heap[w.heap.size]? = some (.cells (boolsV (rowF row)) 32 (0, 0)) := by
    rw [← hW]; exact Level.alloc_at w _
  rw [hW]
  clear hW
  refine (all_calls _).mono ?_
  rintro e w1 ⟨rfl, h1⟩
  have g1 : Below w.heap.size w w1 := gW.trans (h1.mono gW.size)
  have B1 := (h1.block _ (Array.getElem?_eq_some_iff.1 B0).1).trans B0
  clear B0 h1 gW
  have hax := all_ix
  generalize (.agg (boolsV (allIn 144)) : Value) = AV at hax ⊢
  have HAX := Lib.hid hax
  clear hax
  go_wp2_with fail
  go_loopw [8] (fun i wr => RelC w row i wr) (fun i _ => 12 - (intOf i).toNat)
  case atStart => exact ⟨0, Nat.zero_le _, rfl, B1, g1⟩
  case round =>
    obtain ⟨a, ha, rfl, Ba, ga⟩ := hrel
    by_cases ha12 : a < 12
    · have hai : (a : Int) < 12 := by omega
      have ix := HAX.out a ha12
      go_wp2_with (first
        | (refine wpList_store_row rfl 32 (.tmp 4) (.tmp 11) rfl wr.heap.size (boolsV (rowF (impl a))) rfl rfl 32 _ (Level.alloc_at wr _) (rowF_info _) (by rw [boolsV_size, rowF_length]; rfl) (boolsV_one _) ?_)
        | (refine wpList_load_row rfl 32 (.tmp 4) rfl wr.heap.size rfl 32 (boolsV (rowF (impl a))) (0, 0) _ (setRow_heap _ _ _ _ _ _ (Level.alloc_at wr _)) Try.underlying32 rfl (rowF_info _) ?_))
      have hw0 : w.heap.size < wr.heap.size := (Array.getElem?_eq_some_iff.1 Ba).1
      go_loopw [13] (fun i wq => RelC w row i wq) (fun i _ => 12 - (intOf i).toNat)
      case atStart =>
        refine ⟨0, Nat.zero_le _, rfl, ?_, below_setRow (ga.alloc ga.size _) ga.size _⟩
        exact (fresh_block wr _ _ w.heap.size hw0).trans Ba
      case round =>
        obtain ⟨b, hb, rfl, Bb, gb⟩ := hrel
        by_cases hb12 : b < 12
        · have hbi : (b : Int) < 12 := by omega
          have hx := HROW.out a ha12 b hb12
          have jx := row_ix (impl a) b hb12
          have ca : _ := (Lib.cell_of_heap Bb a).trans (rowF_get row a ha12)
          have cb : _ := (Lib.cell_of_heap Bb b).trans (rowF_get row b hb12)
          obtain ⟨ra, era⟩ : ∃ v, row a = v := ⟨_, rfl⟩
          obtain ⟨rb, erb⟩ : ∃ v, row b = v := ⟨_, rfl⟩
          obtain ⟨im, eim⟩ : ∃ v, impl a b = v := ⟨_, rfl⟩
          rw [era] at ca hx
          rw [erb] at cb hx
          rw [eim] at jx hx
          clear era erb eim
          cases ra <;> cases im <;> cases rb <;> first
            | exact (Bool.false_ne_true (hx rfl rfl)).elim
            | (clear hx
               go_wp2_with fail
               go_roundw
               case rel => exact ⟨b + 1, by omega, by go_num, Bb, gb⟩
               case measure => simp [intOf]; omega)
        · have hb2 : b = 12 := by omega
          subst hb2
          go_wp2_with fail
          go_roundw
          case rel => exact ⟨a + 1, by omega, by go_num, Bb, gb⟩
          case measure => simp [intOf]; omega
    · have ha2 : a = 12 := by omega
      subst ha2
      go_wp2_with fail
      go_ret
      exact ⟨rfl, ga⟩
end Go.Proofs.Ytegeaomemgcciaa.Table
