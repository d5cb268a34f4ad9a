/- table.Row.Strongest, walked. -/
import Derived.Test.YtegeaomemgcciaaTableClosed
namespace Go.Proofs.Ytegeaomemgcciaa.Table
open Go Go.RowKit Go.Proofs.Ytegeaomemgcciaa Go.Proofs.Ytegeaomemgcciaa.Hand Go.Proofs.Ytegeaomemgcciaa.Q Go.Proofs.YtegeaomemgcciaaW.PrintWords

/-- Is a level one of the strongest, as far as so many others say? -/
def strongIn (row : Nat → Bool) (b m : Nat) : Bool := row b && (List.range m).all fun a => a == b || !row a || !impl a b
def strongL (row : Nat → Bool) (m : Nat) : List Nat := (List.range m).filter fun b => strongIn row b 12

theorem strongIn_succ (row : Nat → Bool) (b a : Nat) : strongIn row b (a + 1) = (strongIn row b a && (a == b || !row a || !impl a b)) := by
  unfold strongIn
  rw [List.range_succ, List.all_append]
  simp [Bool.and_assoc]
theorem strongL_succ (row : Nat → Bool) (b : Nat) : strongL row (b + 1) = strongL row b ++ (if strongIn row b 12 = true then [b] else []) := by
  unfold strongL
  rw [List.range_succ, List.filter_append]
  by_cases h : strongIn row b 12 = true <;> simp [h]
theorem allIn_at (a b : Nat) (ha : a < 12) (hb : b < 12) : (boolsV (allIn 144))[a * 12 + b]? = some (.bool (impl a b)) := by
  unfold boolsV allIn
  have e1 : (a * 12 + b) / 12 = a := by omega
  have e2 : (a * 12 + b) % 12 = b := by omega
  have h : a * 12 + b < 144 := by omega
  simp [h, e1, e2]
theorem linfo : (Try.prog.info? 29).map (fun i => (i.zero, i.size, i.bytes)) = some (some (.int .i64 0), 1, 8) := by kernel_rfl
theorem strongL_le (row : Nat → Bool) (b : Nat) : (strongL row b).length ≤ b := by
  unfold strongL
  have := List.length_filter_le (fun b => strongIn row b 12) (List.range b)
  simpa using this
def intsV (l : List Nat) : List Value := l.map fun n => .int .i64 ((n : Nat) : Int)

/-- Ahead of a round of the outer loop. -/
def RelS (row : Nat → Bool) (W2 : World) (v3 i : Value) (wr : World) : Prop :=
  ∃ b, b ≤ 12 ∧ i = .int .i64 ((b : Nat) : Int) ∧ wr.ownsRow W2.heap.size 29 1 v3 (strongL row b).length (intsV (strongL row b)) ∧ Below W2.heap.size W2 wr
def RelT (row : Nat → Bool) (b : Nat) (wr : World) (v6 i : Value) (wq : World) : Prop :=
  ∃ a, a ≤ 12 ∧ i = .int .i64 ((a : Nat) : Int) ∧ v6 = .bool (strongIn row b a) ∧ wq = wr

set_option maxHeartbeats 2000000 in
set_option maxRecDepth 100000 in
theorem strong_calls (row : Nat → Bool) (w : World) :
    Calls Try.prog 22 #[.agg (boolsV (rowF row))] w fun e w' => ∃ v, e = .returned v ∧ Kd.R (Kd.int .i64) 29 w' w.heap.size (fun _ => True) v ((strongL row 12).map fun (n : Nat) => (n : Int)) ∧ Below w.heap.size w w' := by
  go_enter Try.func22, Try.ntmps22
  go_wp2_with fail
  obtain ⟨W, hW⟩ : ∃ W, w.alloc (.cells (boolsV (rowF row)) 32) = W := ⟨_, rfl⟩
  have gW : Below w.heap.size w W := hW ▸ ((Below.refl _ _).alloc (Nat.le_refl _) _)
  have B0 : W.heap[w.heap.size]? = some (.cells (boolsV (rowF row)) 32 (0, 0)) := by
    rw [← hW]; exact Level.alloc_at w _
  rw [hW]
  clear hW
  refine (all_calls _).mono ?_
  rintro e w1 ⟨rfl, h1⟩
  have g1 : Below w.heap.size w w1 := gW.trans (h1.mono gW.size)
  have B1 := (h1.block _ (Array.getElem?_eq_some_iff.1 B0).1).trans B0
  clear B0 h1 gW
  have hw0 : w.heap.size < w1.heap.size := (Array.getElem?_eq_some_iff.1 B1).1
  go_wp2_with (first
    | (refine wpList_store_row rfl 86 (.tmp 4) (.tmp 8) rfl w1.heap.size (boolsV (allIn 144)) rfl rfl 86 _ (Level.alloc_at w1 _) (all_info 144) (by rw [boolsV_size, allIn_length]; kernel_rfl) (boolsV_one _) ?_)
    | (refine wpList_load_row rfl 32 (.tmp 1) rfl w.heap.size rfl 32 (boolsV (rowF row)) (0, 0) _ ((fresh_block w1 _ _ w.heap.size hw0).trans B1) Try.underlying32 rfl (rowF_info _) ?_))
  obtain ⟨W2, hW2⟩ : ∃ W2, (w1.alloc (.cells Try.zeroCells86 86)).setRow w1.heap.size (boolsV (allIn 144)) = W2 := ⟨_, rfl⟩
  have g2 : Below w.heap.size w W2 := hW2 ▸ below_setRow (g1.alloc g1.size _) g1.size _
  have R2 : W2.heap[w.heap.size]? = some (.cells (boolsV (rowF row)) 32 (0, 0)) := hW2 ▸ (fresh_block w1 _ _ w.heap.size hw0).trans B1
  have A2 : W2.heap[w1.heap.size]? = some (.cells (boolsV (allIn 144)) 86 (0, 0)) := hW2 ▸ setRow_heap _ _ _ _ _ _ (Level.alloc_at w1 _)
  rw [hW2]
  clear hW2 B1 g1 hw0
  obtain ⟨i0, hi, hz0, hz1, hz2⟩ := info_parts linfo
  go_loopw [3, 10] (fun v3 i wr => RelS row W2 v3 i wr) (fun _ i _ => 12 - (intOf i).toNat)
  case atStart => exact ⟨0, Nat.zero_le _, rfl, ⟨rfl, .inl ⟨rfl, rfl⟩⟩, Below.refl _ _⟩
  case round =>
    obtain ⟨b, hb, rfl, hown, kb⟩ := hrel
    by_cases hb12 : b < 12
    · have hbi : (b : Int) < 12 := by omega
      have jx := row_ix row b hb12
      go_wp2_with fail
      go_loopw [6, 14] (fun v6 i wq => RelT row b wr v6 i wq) (fun _ i _ => 12 - (intOf i).toNat)
      case atStart => exact ⟨0, Nat.zero_le _, rfl, by simp [strongIn], rfl⟩
      case round =>
        obtain ⟨a, ha, rfl, rfl, rfl⟩ := hrel
        by_cases ha12 : a < 12
        · have hai : (a : Int) < 12 := by omega
          have ca := (kb.cell (p := ⟨w.heap.size, a, none⟩) (Array.getElem?_eq_some_iff.1 R2).1).trans ((Lib.cell_of_heap R2 a).trans (rowF_get row a ha12))
          have cb := (kb.cell (p := ⟨w1.heap.size, a * 12 + b, none⟩) (Array.getElem?_eq_some_iff.1 A2).1).trans ((Lib.cell_of_heap A2 (a * 12 + b)).trans (allIn_at a b ha12 hb12))
          have hsu := strongIn_succ row b a
          obtain ⟨ok, hok⟩ : ∃ v, strongIn row b a = v := ⟨_, rfl⟩
          obtain ⟨ra, hra⟩ : ∃ v, row a = v := ⟨_, rfl⟩
          obtain ⟨im, him⟩ : ∃ v, impl a b = v := ⟨_, rfl⟩
          rw [hok, hra, him] at hsu
          rw [hra] at ca
          rw [him] at cb
          rw [hok]
          clear hok hra him jx
          by_cases hab : a = b
          · have hab1 : (((a : Nat) : Int) == ((b : Nat) : Int)) = true := by simp [hab]
            have hab2 : (a == b) = true := by simp [hab]
            rw [hab2] at hsu
            clear hab2 hab
            cases ok <;> cases ra <;> cases im <;>
              (have HSU := Lib.hid hsu
               clear hsu
               go_wp2_with fail
               go_roundw
               case rel => exact ⟨a + 1, by omega, by go_num, by rw [HSU.out]; rfl, rfl⟩
               case measure => simp [intOf]; omega)
          · have hab1 : (((a : Nat) : Int) == ((b : Nat) : Int)) = false := by simp; omega
            have hab2 : (a == b) = false := by simp [hab]
            rw [hab2] at hsu
            clear hab2 hab
            cases ok <;> cases ra <;> cases im <;>
              (have HSU := Lib.hid hsu
               clear hsu
               go_wp2_with fail
               go_roundw
               case rel => exact ⟨a + 1, by omega, by go_num, by rw [HSU.out]; rfl, rfl⟩
               case measure => simp [intOf]; omega)
        · have ha2 : a = 12 := by omega
          subst ha2
          have hsl := strongL_succ row b
          by_cases hok : strongIn row b 12 = true
          · rw [if_pos hok] at hsl
            rw [hok]
            have HSL := Lib.hid hsl
            clear hsl hok jx
            go_wp2_with (at_builtin; refine wpList_append_own _ rfl _ _ 36 rfl W2.heap.size 29 i0 (.int .i64 0) 1 8 Try.underlying36 hi hz0 hz1 hz2 rfl (by decide) _ _ _ rfl (hown.alloc _) ⟨wr.heap.size, 0, none⟩ 1 1 [.int .i64 b] rfl rfl ?c1 ?c2 ?c3 ?c4 ?c5 ?_)
            case c1 =>
              intro j u hj
              match j, hj with
              | 0, hj => simp at hj; subst hj; simp [Addr.add]
            case c2 => intro u hu; simp at hu; subst hu; rfl
            case c3 => unfold maxLen; have := strongL_le row b; omega
            case c4 => have := strongL_le row b; omega
            case c5 => have := kb.size; simp; omega
            intro v' w4 hown4 hgrow4 _
            have kb6 : Below W2.heap.size W2 w4 := (kb.alloc kb.size _).grown hgrow4 (by have := kb.size; simp; omega) (fun j hj => (hown.lt j hj).1)
            go_wp2_with fail
            go_roundw
            case rel =>
              refine ⟨b + 1, by omega, by go_num, ?_, kb6⟩
              rw [HSL.out]
              simpa [intsV] using hown4
            case measure => simp [intOf]; omega
          · rw [if_neg hok, List.append_nil] at hsl
            rw [Bool.not_eq_true] at hok
            rw [hok]
            go_wp2_with fail
            go_roundw
            case rel => exact ⟨b + 1, by omega, by go_num, by rw [hsl]; exact hown, kb⟩
            case measure => simp [intOf]; omega
    · have hb2 : b = 12 := by omega
      subst hb2
      go_wp2_with fail
      go_ret
      refine ⟨_, rfl, Kd.R_lower (Kd.R_of_own (ok := fun _ => True) (h1 := fun _ => rfl) (enc := fun x : Int => Value.int .i64 x) ?_ (fun _ _ => trivial)) g2.size, g2.trans (kb.mono g2.size)⟩
      have e : encs (fun x : Int => Value.int .i64 x) ((strongL row 12).map fun (n : Nat) => (n : Int)) = intsV (strongL row 12) := by simp [encs, intsV]
      rw [e, List.length_map]
      exact hown
end Go.Proofs.Ytegeaomemgcciaa.Table
