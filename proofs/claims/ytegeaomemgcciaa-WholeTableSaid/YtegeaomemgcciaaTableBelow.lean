/- table.Below, walked. -/
import Derived.Test.YtegeaomemgcciaaTablePlain

import Derived.Laws.CopyOwn
namespace Go.Proofs.Ytegeaomemgcciaa.Table
open Go Go.RowKit Go.Proofs.Ytegeaomemgcciaa Go.Proofs.Ytegeaomemgcciaa.Hand Go.Proofs.Ytegeaomemgcciaa.Q Go.Proofs.YtegeaomemgcciaaW.PrintWords

def Two (w wr : World) (row : Array Value) : Prop :=
  wr.heap[w.heap.size]? = some (.cells (boolsV (rowB [])) 32 (0, 0)) ∧ wr.heap[w.heap.size + 1]? = some (.cells row 32 (0, 0)) ∧ Below w.heap.size w wr
def RelOut (l : List Nat) (w : World) (i : Value) (wr : World) : Prop := ∃ k, k ≤ l.length ∧ i = .int .i64 ((k : Nat) : Int) ∧ Two w wr (boolsV (rowB (l.take k)))
def RelIn (l : List Nat) (a : Nat) (w : World) (i : Value) (wr : World) : Prop := ∃ b, b ≤ 12 ∧ i = .int .i64 ((b : Nat) : Int) ∧ Two w wr (boolsV (rowIn l a b))

theorem two_start (w : World) : Two w ((w.alloc (.cells (boolsV (rowB [])) 32)).alloc (.cells (boolsV (rowB [])) 32)) (boolsV (rowB [])) := by
  have h1 := Level.alloc_at w (.cells (boolsV (rowB [])) 32)
  have h2 := Level.alloc_at (w.alloc (.cells (boolsV (rowB [])) 32)) (.cells (boolsV (rowB [])) 32)
  have hb : Below w.heap.size w (w.alloc (.cells (boolsV (rowB [])) 32)) := (Below.refl _ _).alloc (Nat.le_refl _) _
  have hs : (w.alloc (.cells (boolsV (rowB [])) 32)).heap.size = w.heap.size + 1 := by simp
  refine ⟨?_, by rw [hs] at h2; exact h2, hb.alloc (by rw [hs]; omega) _⟩
  rw [← h1]
  have := (Below.refl (w.heap.size + 1) (w.alloc (.cells (boolsV (rowB [])) 32))).alloc (by rw [hs]; exact Nat.le_refl _) (.cells (boolsV (rowB [])) 32)
  exact this.block _ (by omega)

theorem two_below {w wr w' : World} {row : Array Value} (h : Two w wr row) (hb : Below wr.heap.size wr w') : Two w w' row := by
  obtain ⟨h1, h2, h3⟩ := h
  exact ⟨(hb.block _ (Array.getElem?_eq_some_iff.1 h1).1).trans h1, (hb.block _ (Array.getElem?_eq_some_iff.1 h2).1).trans h2, h3.trans (hb.mono h3.size)⟩
theorem two_cell {w wr : World} {row : Array Value} (h : Two w wr row) (b : Nat) (v : Value) (e : row[b]? = some v) : wr.cell? ⟨w.heap.size + 1, b, none⟩ = some v := by
  rw [Lib.cell_of_heap h.2.1]; exact e
theorem two_set {w wr : World} {row row' : Array Value} (h : Two w wr row) (b : Nat) (v : Value) (e : row.setIfInBounds b v = row') : Two w (wr.setCell ⟨w.heap.size + 1, b, none⟩ v) row' := by
  obtain ⟨h1, h2, h3⟩ := h
  refine ⟨?_, blk_put h2 b v e, below_set h3 (by omega)⟩
  rw [← h1]
  exact Below.heap_setCell wr ⟨w.heap.size + 1, b, none⟩ v w.heap.size (by simp)

theorem rowB_length (l : List Nat) : (rowB l).length = 12 := by simp [rowB]
theorem row_info (l : List Nat) : (Try.prog.info? 32).map (·.size) = some (boolsV (rowB l)).size := by
  rw [boolsV_size, rowB_length]
  kernel_rfl
theorem boolsV_one (l : List Bool) : (boolsV l).all (·.oneCell') = true := by
  unfold boolsV
  simp [Value.oneCell']

set_option maxHeartbeats 1000000 in
set_option maxRecDepth 100000 in
theorem below_calls (A : Option Addr) (c : Nat) (l : List Nat) (hl : ∀ a ∈ l, a < 12) (h5 : l.length ≤ 100) (w : World) (hr : Kd.C (Kd.int .i64) w A l.length (l.map fun (n : Nat) => (n : Int))) :
    Calls Try.prog 19 #[.slice A l.length c] w fun e w' => e = .returned (.agg (boolsV (rowB l))) ∧ Below w.heap.size w w' := by
  obtain ⟨n, hn⟩ : ∃ n, l.length = n := ⟨_, rfl⟩
  have HN := Lib.hid hn
  have HR := Lib.hid hr
  have HL := Lib.hid hl
  rw [hn] at h5 ⊢
  clear hr hn hl
  go_enter Try.func19, Try.ntmps19
  go_wp2_with fail
  go_loopw [9] (fun i wr => RelOut l w i wr) (fun i _ => n - (intOf i).toNat)
  case atStart => exact ⟨0, Nat.zero_le _, rfl, two_start w⟩
  case round =>
    obtain ⟨k, hk, rfl, tk⟩ := hrel
    by_cases hlt : k < n
    · have hkl : k < l.length := by rw [HN.out]; exact hlt
      obtain ⟨ad, e0, x0⟩ := Kd.at_int HR.out (k : Int) (by omega) (by omega)
      cases e0
      have ha := HL.out l[k] (List.getElem_mem hkl)
      have htk : l.take (k + 1) = l.take k ++ [l[k]] := List.take_succ_eq_append_getElem hkl
      have hrd : rd (l.map fun (n : Nat) => (n : Int)) (k : Int) = (l[k] : Int) := by
        simp [rd, List.getD_eq_getElem?_getD, List.getElem?_eq_getElem hkl]
      rw [hrd] at x0
      clear hrd
      generalize l[k] = a at x0 ha htk
      simp only [Int.toNat_natCast] at x0
      replace x0 := (tk.2.2.cell (World.block_lt_of_cell? w _ x0)).trans x0
      have HTK := Lib.hid htk
      clear htk hkl
      go_wp2_with fail
      go_loopw [13] (fun i wr => RelIn (l.take k) a w i wr) (fun i _ => 12 - (intOf i).toNat)
      case atStart => exact ⟨0, Nat.zero_le _, rfl, by rw [rowIn_zero]; exact tk⟩
      case round =>
        obtain ⟨b, hb, rfl, tb⟩ := hrel
        by_cases hb12 : b < 12
        · have hbi : (b : Int) < 12 := by omega
          have hset := rowIn_set (l.take k) a b hb12
          have hget := rowIn_get (l.take k) a b hb12
          have himp := impl_any a b ha hb12 wr
          obtain ⟨v, hv⟩ : ∃ v, below (l.take k) b = v := ⟨_, rfl⟩
          rw [hv] at hset hget
          have hc := two_cell tb b _ hget
          have HS := Lib.hid hset
          clear hset hv x0
          cases v with
          | true =>
            have hfz := Lib.frozen_of_heap tb.2.1 b
            go_wp2_with fail
            go_roundw
            case rel => exact ⟨b + 1, by omega, by go_num, two_set tb b _ HS.out⟩
            case measure => simp [intOf]; omega
          | false =>
            go_wp2_with fail
            refine himp.mono ?_
            rintro e w2 ⟨rfl, h2⟩
            have t2 := two_below tb h2
            have hc2 := two_cell t2 b _ hget
            have hfz := Lib.frozen_of_heap t2.2.1 b
            clear hc
            go_wp2_with fail
            go_roundw
            case rel => exact ⟨b + 1, by omega, by go_num, two_set t2 b _ HS.out⟩
            case measure => simp [intOf]; omega
        · have hb2 : b = 12 := by omega
          subst hb2
          rw [rowIn_all, ← HTK.out] at tb
          go_wp2_with fail
          go_roundw
          case rel => exact ⟨k + 1, by rw [HN.out]; omega, by go_num, tb⟩
          case measure => simp [intOf]; omega
    · have hkn : k = n := by have := HN.out; omega
      subst hkn
      rw [show l.take k = l by rw [← HN.out, List.take_length]] at tk
      obtain ⟨t1, t2, t3⟩ := tk
      go_wp2_with (first
        | (refine wpList_load_row rfl 32 (.tmp 3) rfl (w.heap.size + 1) rfl 32 (boolsV (rowB l)) (0, 0) _ t2 Try.underlying32 rfl (row_info l) ?_)
        | (refine wpList_store_row rfl 32 (.tmp 2) (.tmp 28) rfl w.heap.size (boolsV (rowB l)) rfl rfl 32 (boolsV (rowB [])) t1 (row_info l) (by rw [boolsV_size, boolsV_size, rowB_length, rowB_length]) (boolsV_one _) ?_))
      refine bodyPost_ret (results_cell_row rfl _ _ w.heap.size 32 (boolsV (rowB l)) (0, 0) _ rfl (setRow_heap wr w.heap.size _ _ _ _ t1) Try.underlying32 rfl (row_info l)) rfl ?_
      exact ⟨rfl, below_setRow t3 (Nat.le_refl _) _⟩
end Go.Proofs.Ytegeaomemgcciaa.Table
