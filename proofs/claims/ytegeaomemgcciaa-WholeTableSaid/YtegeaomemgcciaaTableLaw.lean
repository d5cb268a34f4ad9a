/- WholeTable, walked: what two levels both imply, and the lattice of levels. -/
import Derived.Test.YtegeaomemgcciaaTableStrong
import Derived.Test.YtegeaomemgcciaaArrEq
import Derived.Deep.MidRow
import Derived.Lib.QuietBelow
namespace Go.Proofs.Ytegeaomemgcciaa.Table
open Go Go.RowKit Go.Proofs.Ytegeaomemgcciaa Go.Proofs.Ytegeaomemgcciaa.Hand Go.Proofs.Ytegeaomemgcciaa.Q Go.Proofs.YtegeaomemgcciaaW.PrintWords

theorem impl_first : ∀ x, x < 12 → impl x 0 = true := by decide +kernel
theorem impl_last : ∀ x, x < 12 → impl 11 x = true := by decide +kernel
theorem impl_asks : ∀ x, x < 12 → ∀ z, z < 12 → (Go.bits .or .i64 (closedOf x) (Level.asksOf ((z : Nat) : Int)) == closedOf x) = impl x z := by decide +kernel
theorem both_closed0 : ∀ x, x < 12 → ∀ y, y < 12 → ∀ a, a < 12 → ∀ b, b < 12 → (!below [x, y] a || !impl a b || below [x, y] b) = true := by decide +kernel
theorem both_closed (x : Nat) (hx : x < 12) (y : Nat) (hy : y < 12) (a : Nat) (ha : a < 12) (b : Nat) (hb : b < 12) (h1 : below [x, y] a = true) (h2 : impl a b = true) : below [x, y] b = true := by
  have := both_closed0 x hx y hy a ha b hb
  rw [h1, h2] at this
  simpa using this
theorem both_strong : ∀ x, x < 12 → ∀ y, y < 12 → 1 ≤ (strongL (below [x, y]) 12).length ∧ (strongL (below [x, y]) 12).length ≤ 2 ∧ rowB (strongL (below [x, y]) 12) = rowB [x, y] := by decide +kernel
theorem impl_zero (x : Nat) (hx : x < 12) (w : World) : Calls Try.prog 18 #[.int .i64 (x : Int), .int .i64 0] w fun e w' => e = .returned (.bool true) ∧ Below w.heap.size w w' := by
  have h := impl_any x 0 hx (by omega) w
  rw [impl_first x hx] at h
  exact h
theorem impl_eleven (x : Nat) (hx : x < 12) (w : World) : Calls Try.prog 18 #[.int .i64 11, .int .i64 (x : Int)] w fun e w' => e = .returned (.bool true) ∧ Below w.heap.size w w' := by
  have h := impl_any 11 x (by omega) hx w
  rw [impl_last x hx] at h
  exact h
theorem closed_any (x : Nat) (hx : x < 12) (w : World) : Calls Try.prog 20 #[.int .i64 (Level.asksOf (x : Int))] w fun e w' => e = .returned (.int .i64 (closedOf x)) ∧ Below w.heap.size w w' :=
  (level_Closed.calls 3 _ _ w (closed_f x hx)).mono fun _ _ ⟨h, h'⟩ => ⟨h, h'.below⟩

/-- A row lies in its block; nothing else has turned. -/
def SB (B : Nat) (row : Array Value) (V w : World) : Prop := w.heap[B]? = some (.cells row 32 (0, 0)) ∧ Below V.heap.size V w
theorem SB.call {B : Nat} {row : Array Value} {V w w' : World} (h : SB B row V w) (k : Below w.heap.size w w') : SB B row V w' :=
  ⟨(k.block _ (Array.getElem?_eq_some_iff.1 h.1).1).trans h.1, h.2.trans (k.mono h.2.size)⟩
theorem SB.drew {B : Nat} {row : Array Value} {V w : World} (h : SB B row V w) : SB B row V w.drew := h.call (Below.refl _ _).drew
theorem SB.cell {B : Nat} {row : Array Value} {V w : World} (h : SB B row V w) (b : Nat) (v : Value) (e : row[b]? = some v) : w.cell? ⟨B, b, none⟩ = some v := by
  rw [Lib.cell_of_heap h.1]; exact e

theorem is_l (l : Int) (v : Bool) (h : (decide (0 ≤ l) && decide (l < 12)) = v) (w : World) : Calls Try.prog 17 #[.int .i64 l] w fun e w' => e = .returned (.bool v) ∧ Below w.heap.size w w' := by
  rw [← h]
  exact Level.is_calls l w
theorem bth {w w1 w2 : World} (h : Below w.heap.size w w1) (k : Below w1.heap.size w1 w2) : Below w.heap.size w w2 := h.trans (k.mono h.size)
theorem two_reads (w : World) (x y : Nat) : Kd.C (Kd.int .i64) (w.alloc (.cells #[.int .i64 (x : Int), .int .i64 (y : Int)] 29)) (some ⟨w.heap.size, 0, none⟩) [x, y].length ([x, y].map fun (n : Nat) => (n : Int)) := by
  refine Kd.C_of_reads (d := (0 : Int)) (h1 := fun _ => rfl) (enc := fun x : Int => Value.int .i64 x) ?_
  refine ⟨rfl, by simp, fun _ => ⟨_, rfl, fun j hj => ?_⟩⟩
  rw [add_plain]
  match j, hj with
  | 0, _ => exact Level.alloc_cell w _ _ 0 _ rfl
  | 1, _ => exact Level.alloc_cell w _ _ 1 _ rfl
theorem rowB_get2 (x y l : Nat) (h : l < 12) : (boolsV (rowB [x, y]))[l]? = some (.bool (impl x l || impl y l)) := by
  unfold boolsV rowB below
  simp [h]
def RelW (x y B : Nat) (w : World) (i : Value) (wr : World) : Prop := ∃ l, l ≤ 12 ∧ i = .int .i64 ((l : Nat) : Int) ∧ SB B (boolsV (rowB [x, y])) w wr

set_option maxHeartbeats 2000000 in
set_option maxRecDepth 100000 in
theorem law_calls (a b : Int) (ha : 0 ≤ a ∧ a ≤ 255) (hb : 0 ≤ b ∧ b ≤ 255) (w : World) :
    Calls Try.prog 5 #[.int .u8 a, .int .u8 b] w fun e w' => e = .returned (.bool true) ∧ Below w.heap.size w w' := by
  obtain ⟨ha0, ha1⟩ := ha
  obtain ⟨hb0, hb1⟩ := hb
  obtain ⟨x, hx, hx12⟩ : ∃ x : Nat, a % 12 = (x : Int) ∧ x < 12 := ⟨(a % 12).toNat, by omega, by omega⟩
  obtain ⟨y, hy, hy12⟩ : ∃ y : Nat, b % 12 = (y : Int) ∧ y < 12 := ⟨(b % 12).toNat, by omega, by omega⟩
  go_enter Try.func5, Try.ntmps5
  go_wp2_with (first
    | (go_at_call 17; (with_reducible refine (is_l 11 true rfl _).mono ?_); rintro e w1 ⟨rfl, k1⟩)
    | (go_at_call 17; (with_reducible refine (is_l 12 false rfl _).mono ?_); rintro e w2 ⟨rfl, k2⟩)
    | (go_at_call 18; (with_reducible refine (impl_zero x hx12 _).mono ?_); rintro e w3 ⟨rfl, k3⟩)
    | (go_at_call 18; (with_reducible refine (impl_eleven x hx12 _).mono ?_); rintro e w4 ⟨rfl, k4⟩)
    | (go_at_call 19; fail))
  have kw4 : Below w.heap.size w w4 := bth (bth (bth k1 k2) k3) k4
  have C2 := two_reads w4 x y
  obtain ⟨W5, hW5⟩ : ∃ W5, w4.alloc (.cells #[.int .i64 (x : Int), .int .i64 (y : Int)] 29) = W5 := ⟨_, rfl⟩
  have g5 : Below w.heap.size w W5 := hW5 ▸ kw4.alloc kw4.size _
  rw [hW5] at C2 ⊢
  clear hW5 k1 k2 k3 k4 kw4
  refine (below_calls _ _ [x, y] (by intro a h; simp at h; rcases h with rfl | rfl <;> assumption) (by simp) W5 C2).mono ?_
  rintro e w6 ⟨rfl, h6⟩
  have g6 := bth g5 h6
  clear h6 g5 C2
  go_wp2_with (first
    | (refine wpList_store_row rfl 32 (.tmp 7) (.tmp 35) rfl w6.heap.size (boolsV (rowB [x, y])) rfl rfl 32 _ (Level.alloc_at w6 _) (row_info _) (by rw [boolsV_size, rowB_length]; rfl) (boolsV_one _) ?_))
  obtain ⟨V, hV⟩ : ∃ V, (w6.alloc (.cells #[.bool false, .bool false, .bool false, .bool false, .bool false, .bool false, .bool false, .bool false, .bool false, .bool false, .bool false, .bool false] 32)).setRow w6.heap.size (boolsV (rowB [x, y])) = V := ⟨_, rfl⟩
  have gV : Below w.heap.size w V := hV ▸ below_setRow (g6.alloc g6.size _) g6.size _
  have bV : V.heap[w6.heap.size]? = some (.cells (boolsV (rowB [x, y])) 32 (0, 0)) := hV ▸ setRow_heap _ _ _ _ _ _ (Level.alloc_at w6 _)
  rw [hV]
  obtain ⟨B, hB⟩ : ∃ B, w6.heap.size = B := ⟨_, rfl⟩
  rw [hB] at bV ⊢
  clear hV hB g6
  go_loopw [36] (fun i wr => RelW x y B V i wr) (fun i _ => 12 - (intOf i).toNat)
  case atStart => exact ⟨0, Nat.zero_le _, rfl, bV, Below.refl _ _⟩
  case round =>
    obtain ⟨l, hl, rfl, sb⟩ := hrel
    by_cases hl12 : l < 12
    · have hli : (l : Int) < 12 := by omega
      have hc := cell_regrown (sb.cell l _ (rowB_get2 x y l hl12))
      have hor := impl_asks x hx12 l hl12
      have IX := impl_any x l hx12 hl12
      have IY := impl_any y l hy12 hl12
      obtain ⟨p, hp⟩ : ∃ p, impl x l = p := ⟨_, rfl⟩
      obtain ⟨q, hq⟩ : ∃ q, impl y l = q := ⟨_, rfl⟩
      rw [hp] at hor IX
      rw [hq] at IY
      rw [hp, hq] at hc
      clear hp hq
      have HIX := Lib.hid IX
      have HIY := Lib.hid IY
      clear IX IY
      cases p <;> cases q
      all_goals
        go_wp2_with fail
        refine wp_region_quiet_below (by kernel_rfl) (by kernel_rfl) ?_
        repeat (go_big_quiet_step (first
          | (go_at_call 18; with_reducible exact Calls.regrown_of (HIX.out _))
          | (go_at_call 18; with_reducible exact Calls.regrown_of (HIY.out _))
          | (go_at_call 21; with_reducible exact Calls.regrown_of (Level.asksOf_calls _ _))
          | (go_at_call 20; with_reducible exact Calls.regrown_of (closed_any x hx12 _))))
        refine wpQuiet_nil ?_
        intro w9 hw'
        obtain ⟨⟨dq, osq⟩, hw''⟩ := hw'
        have s8 : SB B (boolsV (rowB [x, y])) V w9 := hw'' ▸ sb.call (below_regrown wr dq osq)
        clear hw'' sb hc hor HIX HIY
        go_wp2_with fail
        go_roundw
        case rel => exact ⟨l + 1, by omega, by go_num, s8⟩
        case measure => simp [intOf]; omega
    · have hl2 : l = 12 := by omega
      subst hl2
      obtain ⟨bl, gl⟩ := sb
      go_wp2_with (first
        | (refine wpList_load_row rfl 32 (.tmp 7) rfl B rfl 32 (boolsV (rowB [x, y])) (0, 0) _ bl Try.underlying32 rfl (row_info _) ?_))
      refine (strong_calls (below [x, y]) _).mono ?_
      rintro e V2 ⟨v, rfl, R2, h2⟩
      obtain ⟨A, c, rfl, hlc, C2⟩ := Kd.R_reads R2
      obtain ⟨hs1, hs2, hs3⟩ := both_strong x hx12 y hy12
      have hsl : ∀ a ∈ strongL (below [x, y]) 12, a < 12 := fun a h => by
        unfold strongL at h
        rw [List.mem_filter, List.mem_range] at h
        exact h.1
      rw [List.length_map] at C2 hlc ⊢
      have HC := both_closed x hx12 y hy12
      have sb2 : SB B (boolsV (rowB [x, y])) V V2 := SB.call ⟨bl, gl⟩ h2
      generalize strongL (below [x, y]) 12 = st at *
      obtain ⟨n, hn⟩ : ∃ n, st.length = n := ⟨_, rfl⟩
      have HN := Lib.hid hn
      rw [hn] at hs1 hs2 hlc C2 ⊢
      clear hn R2 h2 bl gl hlc
      have HS3 := Lib.hid hs3
      have HSL := Lib.hid hsl
      have HC2 := Lib.hid C2
      have HHC := Lib.hid HC
      clear hs3 hsl C2 HC
      go_wp2_with (first
        | (go_at_call 24; (with_reducible refine (Level.nameOf_calls _ (by omega) _).mono ?_); rintro e V3 ⟨rfl, k3⟩)
        | (go_at_call 23; (with_reducible refine (Level.of_calls x hx12 _).mono ?_); rintro e V4 ⟨rfl, k4⟩))
      have sb4 : SB B (boolsV (rowB [x, y])) V V4 := (sb2.call k3).call k4
      have k24 := bth k3 k4
      have hC4 : ∀ (d : Nat) (os : Array Obj), Kd.C (Kd.int .i64) (Sort.grow (redrawn V4 d) os) A n (st.map fun (n : Nat) => (n : Int)) := fun d os => Kd.C_below HC2.out (bth k24 (below_regrown V4 d os))
      have HBL : ∀ (d : Nat) (os : Array Obj), Calls Try.prog 19 #[.slice A n c] (Sort.grow (redrawn V4 d) os) fun e w' => e = .returned (.agg (boolsV (rowB [x, y]))) ∧ Below (Sort.grow (redrawn V4 d) os).heap.size (Sort.grow (redrawn V4 d) os) w' := fun d os => by
        have h := below_calls A c st HSL.out (by rw [HN.out]; omega) _ (by rw [HN.out]; exact hC4 d os)
        rw [HN.out, HS3.out] at h
        exact h
      have HCL : ∀ w, Calls Try.prog 25 #[.agg (boolsV (rowB [x, y]))] w fun e w' => e = .returned (.bool true) ∧ Below w.heap.size w w' := fun w => closed_calls (below [x, y]) HHC.out w
      have hld : ∀ (d : Nat) (os : Array Obj), (loadVar 32 ⟨B, 0, none⟩).run Try.prog (Sort.grow (redrawn V4 d) os) = .ok (.agg (boolsV (rowB [x, y]))) (Sort.grow (redrawn V4 d) os) := fun d os =>
        run_loadVar_row _ B 32 32 _ (0, 0) _ (((below_regrown V4 d os).block _ (Array.getElem?_eq_some_iff.1 sb4.1).1).trans sb4.1) Try.underlying32 rfl (row_info _)
      have heq : ∀ w, (Op.equalIn 10000 32 (.agg (boolsV (rowB [x, y]))) (.agg (boolsV (rowB [x, y])))).run Try.prog w = .ok true w := fun w => by
        have h := ArrEq.run_equalIn_cells (P := Try.prog) false Value.bool w 9998 32 4 12 Try.underlying32 (fun _ => by kernel_rfl) (fun _ => by kernel_rfl) (fun w x y => run_equalIn_bool' w _ _ x y Try.underlying4) (rowB [x, y]) (rowB [x, y]) (rowB_length _) (rowB_length _)
        rw [beq_self_eq_true] at h
        exact h
      have g4 : Below w.heap.size w V4 := bth gV sb4.2
      generalize boolsV (rowB [x, y]) = AV at *
      have HHBL := Lib.hid HBL
      have HHCL := Lib.hid HCL
      have HLD := Lib.hid hld
      have h1n : (1 : Int) ≤ (n : Int) := by omega
      have h2n : (n : Int) ≤ 2 := by omega
      clear HBL HCL hld hC4 hs1 hs2 sb2 k3 k4 k24 sb4 bV gV
      refine wp_region_quiet_below (by kernel_rfl) (by kernel_rfl) ?_
      repeat (first
        | (refine ArrEq.quiet_load rfl 32 (.tmp 7) rfl ⟨B, 0, none⟩ rfl (.agg AV) (by rintro _ ⟨p, rfl⟩; exact HLD.out p.d p.os) ?_; simp only [Act.put, List.setIfInBounds_toArray, List.set_cons_zero, List.set_cons_succ])
        | go_big_quiet_step (first
          | (go_at_call 25; with_reducible exact Calls.regrown_of (HHCL.out _))
          | (go_at_call 19; with_reducible exact Calls.regrown_of (HHBL.out _ _))))
      refine wpQuiet_nil ?_
      intro w9 hw'
      obtain ⟨⟨dq, osq⟩, hw''⟩ := hw'
      have g9 : Below w.heap.size w w9 := hw'' ▸ bth g4 (below_regrown V4 dq osq)
      clear hw'' HHC HSL HS3 HN HC2 HHBL HHCL HLD heq
      go_wp2_with fail
      go_ret
      exact ⟨rfl, g9⟩
theorem law_any (a b : Int) (w : World) (ha : (Lit.int .u8 a).wf = true) (hb : (Lit.int .u8 b).wf = true) :
    Calls Try.prog 5 #[.int .u8 a, .int .u8 b] w fun e w' => e = .returned (.bool true) ∧ Below w.heap.size w w' := by
  have e : ∀ n : Int, (Lit.int .u8 n).wf = true → 0 ≤ n ∧ n ≤ 255 := fun n h => by
    have h : (decide (IntKind.u8.min ≤ n) && decide (n ≤ IntKind.u8.max)) = true := h
    rw [show IntKind.u8.min = 0 by decide, show IntKind.u8.max = 255 by decide] at h
    simpa using h
  have h1 := e a ha
  have h2 := e b hb
  exact law_calls a b h1 h2 w
end Go.Proofs.Ytegeaomemgcciaa.Table
