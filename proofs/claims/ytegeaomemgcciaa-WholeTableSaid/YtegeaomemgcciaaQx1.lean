-- Written by a program of this session (inj.py): functions and contracts by the kit's printer, with contracts that are given by hand put in. Not trusted: Lean checks it.
import Derived.Test.YtegeaomemgcciaaQx0
namespace Go.Proofs.Ytegeaomemgcciaa.Q
open Go.Proofs.Ytegeaomemgcciaa Go.Proofs.Ytegeaomemgcciaa.Hand
open Go.RowKit Go.Proofs.YtegeaomemgcciaaW.PrintWords Go.Proofs.YtegeaomemgcciaaW.PrintLast Go.Proofs.YtegeaomemgcciaaW.PrintMore
attribute [local go_sem] max2_int min2_int max_two min_two max_three min_three max_four min_four   -- for this text's walks alone
set_option linter.unusedVariables false
set_option linter.unusedSimpArgs false

/-! ### level_Is: function 17 -/
def level_Is.f (a0 : Int) : Option (Bool) := if a0 ≥ 0 then (some (decide (a0 < 12))) else (some false)
set_option maxHeartbeats 8000000 in
set_option maxRecDepth 100000 in
theorem level_Is.calls (a0 : Int) (r : Bool) (w : World) (h : level_Is.f a0 = some r) :
    Calls Try.prog 17 #[.int .i64 a0] w fun e w' => e = .returned (.bool r) ∧ Drawn0 w w' := by
  have H : (if a0 ≥ 0 then (some (decide (a0 < 12))) else (some false)) = some r := h
  clear h
  by_cases c2 : a0 ≥ 0
  · rw [if_pos c2] at H
    have c2b0 : decide (0 ≤ a0) = true := decide_eq_true c2
    clear c2
    obtain rfl := Option.some.inj H
    go_enter Try.func17, Try.ntmps17
    go_wp2
    go_ret
    exact ⟨by first | rfl | (simp; done) | (simp [*]; done), by repeat (first | exact Drawn0.refl _ | apply Drawn0.step)⟩
  · rw [if_neg c2] at H
    have c2b0 : decide (0 ≤ a0) = false := decide_eq_false c2
    clear c2
    obtain rfl := Option.some.inj H
    go_enter Try.func17, Try.ntmps17
    go_wp2
    go_ret
    exact ⟨by first | rfl | (simp; done) | (simp [*]; done), by repeat (first | exact Drawn0.refl _ | apply Drawn0.step)⟩

/-! ### level_Closed: function 20 -/
def level_Closed.j0 : Nat → Int → Option (Int)
  | 0, _ => none
  | k + 1, x0 => if (Go.bits .and .i64 x0 4) = 0 then (if (Go.bits .and .i64 x0 32) = 0 then (some (Go.bits .and .i64 x0 63)) else (some (Go.bits .and .i64 (Go.bits .or .i64 x0 1) 63))) else (if (Go.bits .and .i64 (Go.bits .or .i64 x0 2) 32) = 0 then (some (Go.bits .and .i64 (Go.bits .or .i64 x0 2) 63)) else (some (Go.bits .and .i64 (Go.bits .or .i64 (Go.bits .or .i64 x0 2) 1) 63)))
def level_Closed.f (k : Nat) (a0 : Int) : Option (Int) := if (Go.bits .and .i64 a0 16) = 0 then (level_Closed.j0 k a0) else (level_Closed.j0 k (Go.bits .or .i64 a0 12))
theorem level_Closed.mono_l : ∀ k, (∀ y0, LeO (level_Closed.j0 k y0) (level_Closed.j0 (k + 1) y0))
  | 0 => fun _ r h => by simp [level_Closed.j0] at h
  | k + 1 => by
    have ih0 := level_Closed.mono_l k
    · intro y0
      unfold level_Closed.j0
      repeat' first
      | (with_reducible exact ih0 _)
      | (with_reducible exact LeO.refl _)
      | (with_reducible exact LeO.none _)
      | (with_reducible refine LeO.ite ?_ ?_)
      | (with_reducible refine LeO.bind ?_ (fun _ => ?_))
      | exact ih0 _
      | exact LeO.none _
      | refine LeO.ite ?_ ?_
      | refine LeO.bind ?_ (fun _ => ?_)
theorem level_Closed.mono : ∀ a0 k, LeO (level_Closed.f k a0) (level_Closed.f (k + 1) a0) := by
  intro a0 k
  have ih0 := level_Closed.mono_l k
  unfold level_Closed.f
  repeat' first
      | (with_reducible exact ih0 _)
      | (with_reducible exact LeO.refl _)
      | (with_reducible exact LeO.none _)
      | (with_reducible refine LeO.ite ?_ ?_)
      | (with_reducible refine LeO.bind ?_ (fun _ => ?_))
      | exact ih0 _
      | exact LeO.none _
      | refine LeO.ite ?_ ?_
      | refine LeO.bind ?_ (fun _ => ?_)
set_option maxHeartbeats 8000000 in
set_option maxRecDepth 100000 in
theorem level_Closed.calls (k : Nat) (a0 : Int) (r : Int) (w : World) (h : level_Closed.f k a0 = some r) :
    Calls Try.prog 20 #[.int .i64 a0] w fun e w' => e = .returned (.int .i64 r) ∧ Drawn0 w w' := by
  have H : (if (Go.bits .and .i64 a0 16) = 0 then (level_Closed.j0 k a0) else (level_Closed.j0 k (Go.bits .or .i64 a0 12))) = some r := h
  clear h
  have HC2 := Aside0.mk H
  clear H
  go_enter Try.func20, Try.ntmps20
  go_upto_if 5 with (fail)
  go_cut [0] (fun v0 wc => ∃ (kq : Nat) (x0_1 : Int), v0 = .int .i64 x0_1 ∧ Aside0 (level_Closed.j0 kq x0_1 = some r) ∧ Aside0 (kq ≤ k) ∧ Drawn0 w wc)
  case first =>
    have H := HC2.out
    clear HC2
    by_cases c3 : (Go.bits .and .i64 a0 16) = 0
    · rw [if_pos c3] at H
      have c3b0 : ((Go.bits .and .i64 a0 16) == 0) = true := beq_iff_eq.mpr c3
      have c3b1 : ((Go.bits .and .i64 a0 16) != 0) = false := bne_eq_false_iff_eq.mpr c3
      clear c3
      (first | rw [c3b0] | (simp only [i64_w, i32_w]; rw [c3b0]) | skip)
      have H' := Aside0.mk H
      clear H
      go_wp2
      go_meet
      case rel => exact ⟨_, (a0), (by first | rfl | (simp; done) | (simp [*]; done)), H', ⟨by first | omega | exact Nat.le_refl _⟩, by repeat (first | exact Drawn0.refl _ | apply Drawn0.step)⟩
    · rw [if_neg c3] at H
      have c3b0 : ((Go.bits .and .i64 a0 16) == 0) = false := beq_eq_false_iff_ne.mpr c3
      have c3b1 : ((Go.bits .and .i64 a0 16) != 0) = true := bne_iff_ne.mpr c3
      (first | rw [c3b0] | (simp only [i64_w, i32_w]; rw [c3b0]) | skip)
      have H' := Aside0.mk H
      clear H
      go_wp2
      go_meet
      case rel => exact ⟨_, (Go.bits .or .i64 a0 12), (by first | rfl | (simp; done) | (simp [*]; done)), H', ⟨by first | omega | exact Nat.le_refl _⟩, by repeat (first | exact Drawn0.refl _ | apply Drawn0.step)⟩
  case rest =>
    clear HC2
    try clear c2
    try clear p2
    try clear c3
    try clear c3b0
    try clear c3b1
    obtain ⟨kq, x0_1, rfl, HA, HJ1, ⟨mc1, rfl⟩⟩ := hcut
    cases kq with
    | zero => exact absurd HA.out (by simp [level_Closed.j0])
    | succ kj1 =>
      have H := HA.out
      clear HA
      simp only [level_Closed.j0] at H
      by_cases c4 : (Go.bits .and .i64 x0_1 4) = 0
      · rw [if_pos c4] at H
        have c4b0 : ((Go.bits .and .i64 x0_1 4) == 0) = true := beq_iff_eq.mpr c4
        have c4b1 : ((Go.bits .and .i64 x0_1 4) != 0) = false := bne_eq_false_iff_eq.mpr c4
        clear c4
        by_cases c5 : (Go.bits .and .i64 x0_1 32) = 0
        · rw [if_pos c5] at H
          have c5b0 : ((Go.bits .and .i64 x0_1 32) == 0) = true := beq_iff_eq.mpr c5
          have c5b1 : ((Go.bits .and .i64 x0_1 32) != 0) = false := bne_eq_false_iff_eq.mpr c5
          clear c5
          obtain rfl := Option.some.inj H
          go_wp2
          go_ret
          exact ⟨by first | rfl | (simp; done) | (simp [*]; done), by repeat (first | exact Drawn0.refl _ | apply Drawn0.step)⟩
        · rw [if_neg c5] at H
          have c5b0 : ((Go.bits .and .i64 x0_1 32) == 0) = false := beq_eq_false_iff_ne.mpr c5
          have c5b1 : ((Go.bits .and .i64 x0_1 32) != 0) = true := bne_iff_ne.mpr c5
          obtain rfl := Option.some.inj H
          go_wp2
          go_ret
          exact ⟨by first | rfl | (simp; done) | (simp [*]; done), by repeat (first | exact Drawn0.refl _ | apply Drawn0.step)⟩
      · rw [if_neg c4] at H
        have c4b0 : ((Go.bits .and .i64 x0_1 4) == 0) = false := beq_eq_false_iff_ne.mpr c4
        have c4b1 : ((Go.bits .and .i64 x0_1 4) != 0) = true := bne_iff_ne.mpr c4
        by_cases c6 : (Go.bits .and .i64 (Go.bits .or .i64 x0_1 2) 32) = 0
        · rw [if_pos c6] at H
          have c6b0 : ((Go.bits .and .i64 (Go.bits .or .i64 x0_1 2) 32) == 0) = true := beq_iff_eq.mpr c6
          have c6b1 : ((Go.bits .and .i64 (Go.bits .or .i64 x0_1 2) 32) != 0) = false := bne_eq_false_iff_eq.mpr c6
          clear c6
          obtain rfl := Option.some.inj H
          go_wp2
          go_ret
          exact ⟨by first | rfl | (simp; done) | (simp [*]; done), by repeat (first | exact Drawn0.refl _ | apply Drawn0.step)⟩
        · rw [if_neg c6] at H
          have c6b0 : ((Go.bits .and .i64 (Go.bits .or .i64 x0_1 2) 32) == 0) = false := beq_eq_false_iff_ne.mpr c6
          have c6b1 : ((Go.bits .and .i64 (Go.bits .or .i64 x0_1 2) 32) != 0) = true := bne_iff_ne.mpr c6
          obtain rfl := Option.some.inj H
          go_wp2
          go_ret
          exact ⟨by first | rfl | (simp; done) | (simp [*]; done), by repeat (first | exact Drawn0.refl _ | apply Drawn0.step)⟩

-- GIVEN BY HAND: function 21 (level_Asks)

/-! ### table_Missing: function 47 -/
def table_Missing.f (k : Nat) (a0 : Int) (a1 : Int) : Option (Int) := (level_Asks.f a1).bind fun t101 => ((level_Asks.f a0).bind fun t102 => ((level_Closed.f k t102).bind fun t103 => (some (Go.bits .andNot .i64 t101 t103))))
theorem table_Missing.mono : ∀ a0 a1 k, LeO (table_Missing.f k a0 a1) (table_Missing.f (k + 1) a0 a1) := by
  intro a0 a1 k
  unfold table_Missing.f
  repeat' first
      | (with_reducible exact level_Closed.mono _ _)
      | (with_reducible exact LeO.refl _)
      | (with_reducible exact LeO.none _)
      | (with_reducible refine LeO.ite ?_ ?_)
      | (with_reducible refine LeO.bind ?_ (fun _ => ?_))
      | exact level_Closed.mono _ _
      | exact LeO.none _
      | refine LeO.ite ?_ ?_
      | refine LeO.bind ?_ (fun _ => ?_)
set_option maxHeartbeats 8000000 in
set_option maxRecDepth 100000 in
theorem table_Missing.calls (k : Nat) (a0 : Int) (a1 : Int) (r : Int) (w : World) (h : table_Missing.f k a0 a1 = some r) :
    Calls Try.prog 47 #[.int .i64 a0, .int .i64 a1] w fun e w' => e = .returned (.int .i64 r) ∧ Below w.heap.size w w' := by
  have HB := Aside0.mk (Below.refl w.heap.size w)
  have H : ((level_Asks.f a1).bind fun t101 => ((level_Asks.f a0).bind fun t102 => ((level_Closed.f k t102).bind fun t103 => (some (Go.bits .andNot .i64 t101 t103))))) = some r := h
  clear h
  replace H := Option.bind_eq_some_iff.mp H
  obtain ⟨t101, A30, H⟩ := H
  replace H : ((level_Asks.f a0).bind fun t102 => ((level_Closed.f k t102).bind fun t103 => (some (Go.bits .andNot .i64 t101 t103)))) = some r := H
  have A3 := Aside0.mk A30
  clear A30
  replace H := Option.bind_eq_some_iff.mp H
  obtain ⟨t102, A40, H⟩ := H
  replace H : ((level_Closed.f k t102).bind fun t103 => (some (Go.bits .andNot .i64 t101 t103))) = some r := H
  have A4 := Aside0.mk A40
  clear A40
  replace H := Option.bind_eq_some_iff.mp H
  obtain ⟨t103, A50, H⟩ := H
  replace H : (some (Go.bits .andNot .i64 t101 t103)) = some r := H
  have A5 := Aside0.mk A50
  clear A50
  obtain rfl := Option.some.inj H
  go_enter Try.func47, Try.ntmps47
  go_wp2_with (first | ((with_reducible refine gate_callee (f := 21) rfl ?_); refine goesL_ (some 6) rfl rfl Try.func21 (by kernel_rfl) rfl #[.int .i64 a1] rfl (by (try simp only [List.map_toArray, List.map_cons, List.map_nil]); first | done | rfl | (simp only [List.length_drop, List.length_take]; rfl)) ?_; (with_reducible refine (level_Asks.calls a1 t101 _ A3.out).mono ?_); rintro e w6 ⟨rfl, hb⟩; refine ⟨_, rfl, ?_⟩; have n0_ := Aside0.mk (below_step (by repeat (first | (with_reducible first | exact HB.out | apply below_alloc | apply pw_below_drewN | apply below_drew1) | exact HB.out)) hb); clear HB; have HB := n0_; clear n0_; (try clear hb); (try clear hb2); (try clear hk); (try clear hi)) | ((with_reducible refine gate_callee (f := 21) rfl ?_); refine goesL_ (some 8) rfl rfl Try.func21 (by kernel_rfl) rfl #[.int .i64 a0] rfl (by (try simp only [List.map_toArray, List.map_cons, List.map_nil]); first | done | rfl | (simp only [List.length_drop, List.length_take]; rfl)) ?_; (with_reducible refine (level_Asks.calls a0 t102 _ A4.out).mono ?_); rintro e w7 ⟨rfl, hb⟩; refine ⟨_, rfl, ?_⟩; have n0_ := Aside0.mk (below_step (by repeat (first | (with_reducible first | exact HB.out | apply below_alloc | apply pw_below_drewN | apply below_drew1) | exact HB.out)) hb); clear HB; have HB := n0_; clear n0_; (try clear hb); (try clear hb2); (try clear hk); (try clear hi)) | ((with_reducible refine gate_callee (f := 20) rfl ?_); refine goesL_ (some 9) rfl rfl Try.func20 (by kernel_rfl) rfl #[.int .i64 t102] rfl (by (try simp only [List.map_toArray, List.map_cons, List.map_nil]); first | done | rfl | (simp only [List.length_drop, List.length_take]; rfl)) ?_; (with_reducible refine (level_Closed.calls k t102 t103 _ A5.out).mono ?_); rintro e w' ⟨rfl, ⟨nd, rfl⟩⟩; refine ⟨_, rfl, ?_⟩))
  go_ret
  exact ⟨by first | rfl | (simp [errW_none, errW_some] <;> rfl) | (simp [*, errW_none, errW_some] <;> rfl), by repeat (first | (with_reducible first | exact HB.out | apply below_alloc | apply pw_below_drewN | apply below_drew1) | exact HB.out)⟩

/-! ### table_Implies: function 18 -/
def table_Implies.f (k : Nat) (a0 : Int) (a1 : Int) : Option (Bool) := (level_Is.f a0).bind fun t104 => (if t104 = true then ((level_Is.f a1).bind fun t105 => (if t105 = true then ((table_Missing.f k a0 a1).bind fun t106 => (some (t106 == 0))) else (some false))) else (some false))
theorem table_Implies.mono : ∀ a0 a1 k, LeO (table_Implies.f k a0 a1) (table_Implies.f (k + 1) a0 a1) := by
  intro a0 a1 k
  unfold table_Implies.f
  repeat' first
      | (with_reducible exact table_Missing.mono _ _ _)
      | (with_reducible exact LeO.refl _)
      | (with_reducible exact LeO.none _)
      | (with_reducible refine LeO.ite ?_ ?_)
      | (with_reducible refine LeO.bind ?_ (fun _ => ?_))
      | exact table_Missing.mono _ _ _
      | exact LeO.none _
      | refine LeO.ite ?_ ?_
      | refine LeO.bind ?_ (fun _ => ?_)
set_option maxHeartbeats 8000000 in
set_option maxRecDepth 100000 in
theorem table_Implies.calls (k : Nat) (a0 : Int) (a1 : Int) (r : Bool) (w : World) (h : table_Implies.f k a0 a1 = some r) :
    Calls Try.prog 18 #[.int .i64 a0, .int .i64 a1] w fun e w' => e = .returned (.bool r) ∧ Below w.heap.size w w' := by
  have HB := Aside0.mk (Below.refl w.heap.size w)
  have H : ((level_Is.f a0).bind fun t104 => (if t104 = true then ((level_Is.f a1).bind fun t105 => (if t105 = true then ((table_Missing.f k a0 a1).bind fun t106 => (some (t106 == 0))) else (some false))) else (some false))) = some r := h
  clear h
  replace H := Option.bind_eq_some_iff.mp H
  obtain ⟨t104, A30, H⟩ := H
  replace H : (if t104 = true then ((level_Is.f a1).bind fun t105 => (if t105 = true then ((table_Missing.f k a0 a1).bind fun t106 => (some (t106 == 0))) else (some false))) else (some false)) = some r := H
  have A3 := Aside0.mk A30
  clear A30
  by_cases c4 : t104 = true
  · subst c4
    have H1 : ((level_Is.f a1).bind fun t105 => (if t105 = true then ((table_Missing.f k a0 a1).bind fun t106 => (some (t106 == 0))) else (some false))) = some r := by rw [if_pos rfl] at H; exact H
    clear H
    have H := H1
    clear H1
    replace H := Option.bind_eq_some_iff.mp H
    obtain ⟨t105, A50, H⟩ := H
    replace H : (if t105 = true then ((table_Missing.f k a0 a1).bind fun t106 => (some (t106 == 0))) else (some false)) = some r := H
    have A5 := Aside0.mk A50
    clear A50
    by_cases c6 : t105 = true
    · subst c6
      have H1 : ((table_Missing.f k a0 a1).bind fun t106 => (some (t106 == 0))) = some r := by rw [if_pos rfl] at H; exact H
      clear H
      have H := H1
      clear H1
      replace H := Option.bind_eq_some_iff.mp H
      obtain ⟨t106, A70, H⟩ := H
      replace H : (some (t106 == 0)) = some r := H
      have A7 := Aside0.mk A70
      clear A70
      obtain rfl := Option.some.inj H
      go_enter Try.func18, Try.ntmps18
      go_wp2_with (first | ((with_reducible refine gate_callee (f := 17) rfl ?_); refine goesL_ (some 6) rfl rfl Try.func17 (by kernel_rfl) rfl #[.int .i64 a0] rfl (by (try simp only [List.map_toArray, List.map_cons, List.map_nil]); first | done | rfl | (simp only [List.length_drop, List.length_take]; rfl)) ?_; (with_reducible refine (level_Is.calls a0 true _ A3.out).mono ?_); rintro e w' ⟨rfl, ⟨nd, rfl⟩⟩; refine ⟨_, rfl, ?_⟩) | (go_at_call 17; (with_reducible refine (level_Is.calls a1 true _ A5.out).mono ?_); rintro e w' ⟨rfl, ⟨nd, rfl⟩⟩) | (go_at_call 47; (with_reducible refine (table_Missing.calls k a0 a1 t106 _ A7.out).mono ?_); rintro e w8 ⟨rfl, hb⟩; have n0_ := Aside0.mk (below_step (by repeat (first | (with_reducible first | exact HB.out | apply below_alloc | apply pw_below_drewN | apply below_drew1) | exact HB.out)) hb); clear HB; have HB := n0_; clear n0_; (try clear hb); (try clear hb2); (try clear hk); (try clear hi)))
      go_ret
      exact ⟨by first | rfl | (simp [errW_none, errW_some] <;> rfl) | (simp [*, errW_none, errW_some] <;> rfl), by repeat (first | (with_reducible first | exact HB.out | apply below_alloc | apply pw_below_drewN | apply below_drew1) | exact HB.out)⟩
    · replace c6 := Bool.eq_false_iff.mpr c6
      subst c6
      have H1 : (some false) = some r := by rw [if_neg (show ¬ (false = true) by decide)] at H; exact H
      clear H
      have H := H1
      clear H1
      obtain rfl := Option.some.inj H
      go_enter Try.func18, Try.ntmps18
      go_wp2_with (first | ((with_reducible refine gate_callee (f := 17) rfl ?_); refine goesL_ (some 6) rfl rfl Try.func17 (by kernel_rfl) rfl #[.int .i64 a0] rfl (by (try simp only [List.map_toArray, List.map_cons, List.map_nil]); first | done | rfl | (simp only [List.length_drop, List.length_take]; rfl)) ?_; (with_reducible refine (level_Is.calls a0 true _ A3.out).mono ?_); rintro e w' ⟨rfl, ⟨nd, rfl⟩⟩; refine ⟨_, rfl, ?_⟩) | (go_at_call 17; (with_reducible refine (level_Is.calls a1 false _ A5.out).mono ?_); rintro e w' ⟨rfl, ⟨nd, rfl⟩⟩))
      go_ret
      exact ⟨by first | rfl | (simp [errW_none, errW_some] <;> rfl) | (simp [*, errW_none, errW_some] <;> rfl), by repeat (first | (with_reducible first | exact HB.out | apply below_alloc | apply pw_below_drewN | apply below_drew1) | exact HB.out)⟩
  · replace c4 := Bool.eq_false_iff.mpr c4
    subst c4
    have H1 : (some false) = some r := by rw [if_neg (show ¬ (false = true) by decide)] at H; exact H
    clear H
    have H := H1
    clear H1
    obtain rfl := Option.some.inj H
    go_enter Try.func18, Try.ntmps18
    go_wp2_with (first | ((with_reducible refine gate_callee (f := 17) rfl ?_); refine goesL_ (some 6) rfl rfl Try.func17 (by kernel_rfl) rfl #[.int .i64 a0] rfl (by (try simp only [List.map_toArray, List.map_cons, List.map_nil]); first | done | rfl | (simp only [List.length_drop, List.length_take]; rfl)) ?_; (with_reducible refine (level_Is.calls a0 false _ A3.out).mono ?_); rintro e w' ⟨rfl, ⟨nd, rfl⟩⟩; refine ⟨_, rfl, ?_⟩))
    go_ret
    exact ⟨by first | rfl | (simp [errW_none, errW_some] <;> rfl) | (simp [*, errW_none, errW_some] <;> rfl), by repeat (first | (with_reducible first | exact HB.out | apply below_alloc | apply pw_below_drewN | apply below_drew1) | exact HB.out)⟩

/-- THE ONE PURE STATEMENT of table_Implies: yours. -/
def table_Implies.Pure : Prop := ∀ (a0 : Int) (a1 : Int), (Lit.int .i64 a0).wf = true → (Lit.int .i64 a1).wf = true → ∃ k, table_Implies.f k a0 a1 = some true
theorem table_Implies.walk (P : table_Implies.Pure) (a0 : Int) (a1 : Int) (w : World) (w0 : (Lit.int .i64 a0).wf = true) (w1 : (Lit.int .i64 a1).wf = true) :
    Calls Try.prog 18 #[.int .i64 a0, .int .i64 a1] w fun e w' => e = .returned (.bool true) ∧ Below w.heap.size w w' := by
  obtain ⟨k, h⟩ := P a0 a1 w0 w1
  refine (table_Implies.calls k a0 a1 true w h).mono ?_
  rintro e w' ⟨rfl, hd⟩
  exact ⟨rfl, hd⟩

-- NOT PRINTED: function 19 (table_Below)

-- NOT PRINTED: function 49 (table_All)

-- NOT PRINTED: function 22 (table_Row_Strongest)

-- NOT PRINTED: function 50 (level_names)

-- NOT PRINTED: function 23 (level_Of)

-- NOT PRINTED: function 24 (level_Name)

-- NOT PRINTED: function 25 (table_Row_Closed)

-- NOT PRINTED: function 5 (burgagetop_WholeTable)

end Go.Proofs.Ytegeaomemgcciaa.Q
