/- qr3 of this claim, joined by a program of this session: the zS that its theorem uses. -/
import Derived.Test.YtngkneknopenmaaZT4
import Derived.Deep.QuietTactic
import Derived.BigQuiet
import Derived.Deep.RegionHeld3
import Derived.Lib.QuietBelow
import Derived.BigRegion
import Derived.Lib.Hide
import Derived.OwnWalk
import Derived.RowKit3
set_option linter.unusedVariables false
set_option linter.unusedSimpArgs false
section
namespace Go.Proofs.Ytngkneknopenmaa.qa9
open Go Go.RowKit
def jg5 (a b : Int) : Int := if a < b then -1 else if b < a then 1 else 0
theorem qN6 (a : Int) (w : World) : Calls Try.prog 62 #[.int .i64 a] w fun e w' => e = .returned (.bool false) ∧ w' = w := by
 go_enter Try.func62, Try.ntmps62
 go_wp2_with fail
 go_ret
 exact ⟨rfl, rfl⟩
theorem jx2 (a b : Int) (w : World) : Calls Try.prog 39 #[.int .i64 a, .int .i64 b] w fun e w' => e = .returned (.int .i64 (jg5 a b)) ∧ w' = w := by
 by_cases h1 : a < b
 ·have e : jg5 a b = -1 := by simp [jg5, h1]
  rw [e]
  clear e
  go_enter Try.func39, Try.ntmps39
  go_wp2_with (go_at_call 62; refine (qN6 _ _).mono ?_; rintro e w' ⟨rfl, rfl⟩)
  go_ret
  exact ⟨rfl, rfl⟩
 ·by_cases h2 : b < a
  ·have e : jg5 a b = 1 := by simp [jg5, h1, h2]
   rw [e]
   clear e
   have h3 : a > b := h2
   go_enter Try.func39, Try.ntmps39
   go_wp2_with (go_at_call 62; refine (qN6 _ _).mono ?_; rintro e w' ⟨rfl, rfl⟩)
   go_ret
   exact ⟨rfl, rfl⟩
  ·have e : jg5 a b = 0 := by simp [jg5, h1, h2]
   rw [e]
   clear e
   have h3 : ¬ a > b := h2
   go_enter Try.func39, Try.ntmps39
   go_wp2_with (go_at_call 62; refine (qN6 _ _).mono ?_; rintro e w' ⟨rfl, rfl⟩)
   go_ret
   exact ⟨rfl, rfl⟩
set_option maxHeartbeats 1000000 in
theorem qx1 (x y : O3) (w : World) : Calls Try.prog 71 #[.agg #[.bool x.w, .int .i64 x.k, .int .i64 x.v], .agg #[.bool y.w, .int .i64 y.k, .int .i64 y.v]] w fun e w' => e = .returned (.int .i64 (jg5 x.k y.k)) ∧ Below w.heap.size w w' := by
 go_enter Try.func71, Try.ntmps71
 go_wp2_with (go_at_call 39; refine (jx2 _ _ _).mono ?_; rintro e w' ⟨rfl, rfl⟩)
 go_ret
 exact ⟨rfl, ((Below.refl _ _).alloc (Nat.le_refl _) _).alloc (by simp) _⟩
def ST (g : Nat) (rest : List Value) (xs0 : List O3) (w0 w : World) : Prop := ∃ xs : List O3, xs.Perm xs0 ∧ RW g rest xs w ∧ w0.grownBy w (some g)
theorem ST.below {g : Nat} {rest : List Value} {xs0 : List O3} {w0 w w' : World} (h : ST g rest xs0 w0 w) (hb : Below w.heap.size w w') : ST g rest xs0 w0 w' := by
 obtain ⟨xs, h1, h2, h3⟩ := h
 exact ⟨xs, h1, h2.below hb, World.grownBy.trans h3 (below_grown hb)⟩
theorem ST.swap {g : Nat} {rest : List Value} {xs0 xs : List O3} {w0 w : World} (hp : xs.Perm xs0) (h2 : RW g rest xs w) (h3 : w0.grownBy w (some g)) (i j : Nat) (hi : i < xs.length) (hj : j < xs.length) :
  ST g rest xs0 w0 (jI3 (jI3 w g i (xs.getD j default)) g j (xs.getD i default)) := by
 refine ⟨swp xs i j, (zC1 xs i j hi hj).trans hp, ?_, World.grownBy.trans (World.grownBy.trans h3 (jr3 _ _ _ _)) (jr3 _ _ _ _)⟩
 exact (h2.put i _ hi).put j _ (by simpa using hj)
def Qo9 (g : Nat) (rest : List Value) (xs0 : List O3) (w0 : World) (n : Nat) (v : Value) (wr : World) : Prop := ∃ i, i ≤ n ∧ v = .int .i64 ((i : Nat) : Int) ∧ ST g rest xs0 w0 wr
set_option maxHeartbeats 2000000 in
set_option maxRecDepth 100000 in
theorem jj6 (g cap : Nat) (rest : List Value) (xs0 : List O3) (a b n : Nat) (hN : xs0.length < 4611686018427387904) (ha : a + n ≤ b) (hb : b + n ≤ xs0.length) (w0 w : World) (hw : ST g rest xs0 w0 w) (f : Value) :
  Calls Try.prog 111 #[.slice (some ⟨g, 0, none⟩) xs0.length cap, .int .i64 a, .int .i64 b, .int .i64 n, f] w fun e w' => e = .returned (.tuple #[]) ∧ ST g rest xs0 w0 w' := by
 obtain ⟨N, hNl⟩ : ∃ N, xs0.length = N := ⟨_, rfl⟩
 have HN := Lib.hid hNl
 rw [hNl] at hN hb ⊢
 clear hNl
 go_enter Try.func111, Try.ntmps111
 go_wp2_with fail
 go_loopw [10] (fun v wr => Qo9 g rest xs0 w0 n v wr) (fun v _ => n - (intOf v).toNat)
 case atStart => exact ⟨0, Nat.zero_le _, rfl, hw⟩
 case round =>
  obtain ⟨i, hi, rfl, xs, hp, hr, hg⟩ := hrel
  by_cases hin : i < n
  ·have hl : xs.length = N := by rw [← HN.out]; exact hp.length_eq
   have hai : a + i < xs.length := by omega
   have hbi : b + i < xs.length := by omega
   have hx : xs[a + i]? = some (xs.getD (a + i) default) := by simp [List.getD_eq_getElem?_getD, hai]
   have hy : xs[b + i]? = some (xs.getD (b + i) default) := by simp [List.getD_eq_getElem?_getD, hbi]
   have HS := ST.swap hp hr hg (a + i) (b + i) hai hbi
   generalize xs.getD (a + i) default = x at hx HS
   generalize xs.getD (b + i) default = y at hy HS
   obtain ⟨x0, x1, x2⟩ := hr.cells _ _ hx
   obtain ⟨y0, y1, y2⟩ := hr.cells _ _ hy
   have fz := hr.free
   have f0 := fz ((a + i) * 3); have f1 := fz ((a + i) * 3 + 1); have f2 := fz ((a + i) * 3 + 2)
   have f3 := fz ((b + i) * 3); have f4 := fz ((b + i) * 3 + 1); have f5 := fz ((b + i) * 3 + 2)
   have c1 : (i : Int) < (n : Int) := by omega
   have c2 : (a : Int) + (i : Int) < (N : Int) := by omega
   have c3 : (b : Int) + (i : Int) < (N : Int) := by omega
   have c4 : (0 : Int) ≤ (a : Int) + (i : Int) := by omega
   have c5 : (0 : Int) ≤ (b : Int) + (i : Int) := by omega
   have w1 : IntKind.i64.wrap ((a : Int) + (i : Int)) = (a : Int) + (i : Int) := by rw [IntKind.wrap_i64]; omega
   have w2 : IntKind.i64.wrap ((b : Int) + (i : Int)) = (b : Int) + (i : Int) := by rw [IntKind.wrap_i64]; omega
   have t1 : ((a : Int) + (i : Int)).toNat = a + i := by omega
   have t2 : ((b : Int) + (i : Int)).toNat = b + i := by omega
   clear fz hx hy hp hr hg
   go_wp2_with fail
   go_region
   clear x0 x1 x2 y0 y1 y2 f0 f1 f2 f3 f4 f5 w1 w2 t1 t2
   have HS2 := HS.below (Below.refl _ _).drew
   unfold jI3 at HS2
   go_wp2_with fail
   go_roundw
   case rel => exact ⟨i + 1, by omega, by go_num, HS2⟩
   case measure => simp [intOf]; omega
  ·have hin2 : i = n := by omega
   subst hin2
   go_wp2_with fail
   go_end0
   exact ⟨rfl, xs, hp, hr, hg⟩
end Go.Proofs.Ytngkneknopenmaa.qa9
end
section
namespace Go.Proofs.Ytngkneknopenmaa.qa9
open Go Go.RowKit
def Qp0 (g : Nat) (rest : List Value) (xs0 : List O3) (w0 : World) (m N : Nat) (v u : Value) (wr : World) : Prop :=
 ∃ i j : Nat, v = .int .i64 (i : Int) ∧ u = .int .i64 (j : Int) ∧ 0 < i ∧ 0 < j ∧ i ≤ m ∧ m + j ≤ N ∧ ST g rest xs0 w0 wr
set_option maxHeartbeats 2000000 in
set_option maxRecDepth 100000 in
theorem jJ1 (g cap : Nat) (rest : List Value) (xs0 : List O3) (a m b : Nat) (hN : xs0.length < 4611686018427387904) (ha : a < m) (hm : m < b) (hb : b ≤ xs0.length) (w0 w : World) (hw : ST g rest xs0 w0 w) (f : Value) :
  Calls Try.prog 108 #[.slice (some ⟨g, 0, none⟩) xs0.length cap, .int .i64 a, .int .i64 m, .int .i64 b, f] w fun e w' => e = .returned (.tuple #[]) ∧ ST g rest xs0 w0 w' := by
 have SR := fun (a b n : Nat) ha hb w hw => jj6 g cap rest xs0 a b n hN ha hb w0 w hw f
 obtain ⟨N, hNl⟩ : ∃ N, xs0.length = N := ⟨_, rfl⟩
 rw [hNl] at hN hb SR ⊢
 have HSR := Lib.hid SR
 have HW := Lib.hid hw
 clear hNl SR hw
 have e1 : IntKind.i64.wrap ((m : Int) - (a : Int)) = ((m - a : Nat) : Int) := by rw [IntKind.wrap_i64]; omega
 have e2 : IntKind.i64.wrap ((b : Int) - (m : Int)) = ((b - m : Nat) : Int) := by rw [IntKind.wrap_i64]; omega
 go_enter Try.func108, Try.ntmps108
 go_wp2_with fail
 go_loopw [10, 11] (fun v u wr => Qp0 g rest xs0 w0 m N v u wr) (fun v u _ => (intOf v).toNat + (intOf u).toNat)
 case atStart => exact ⟨m - a, b - m, by go_num, by go_num, by omega, by omega, by omega, by omega, HW.out⟩
 case round =>
  clear e1 e2
  obtain ⟨i, j, rfl, rfl, hi0, hj0, him, hjN, hs⟩ := hrel
  have HS := Lib.hid hs
  clear hs
  by_cases hij : i = j
  ·subst hij
   have q1 : ((m : Int) - (i : Int)) = ((m - i : Nat) : Int) := by omega
   go_wp2_with (go_at_call 111; refine (HSR.out (m - i) m i (by omega) (by omega) _ HS.out).mono ?_; rintro e w1 ⟨rfl, h1⟩)
   go_end0
   exact ⟨rfl, h1⟩
  ·have c0 : ((i : Int) != (j : Int)) = true := by simp; omega
   by_cases hlt : j < i
   ·have c1 : (j : Int) < (i : Int) := by omega
    have q1 : ((m : Int) - (i : Int)) = ((m - i : Nat) : Int) := by omega
    go_wp2_with (go_at_call 111; refine (HSR.out (m - i) m j (by omega) (by omega) _ HS.out).mono ?_; rintro e w1 ⟨rfl, h1⟩)
    go_roundw
    case rel => exact ⟨i - j, j, by go_num, rfl, by omega, by omega, by omega, by omega, h1⟩
    case measure => (simp [intOf]; try omega)
   ·have c1 : (i : Int) < (j : Int) := by omega
    have q1 : ((m : Int) - (i : Int)) = ((m - i : Nat) : Int) := by omega
    have q2 : ((m : Int) + (j : Int) - (i : Int)) = ((m + j - i : Nat) : Int) := by omega
    go_wp2_with (go_at_call 111; refine (HSR.out (m - i) (m + j - i) i (by omega) (by omega) _ HS.out).mono ?_; rintro e w1 ⟨rfl, h1⟩)
    go_roundw
    case rel => exact ⟨i, j - i, rfl, by go_num, by omega, by omega, by omega, by omega, h1⟩
    case measure => (simp [intOf]; try omega)
def RelI (g : Nat) (rest : List Value) (xs0 : List O3) (w0 : World) (a b : Nat) (v : Value) (wr : World) : Prop :=
 ∃ i : Nat, v = .int .i64 (i : Int) ∧ a < i ∧ i ≤ b + 1 ∧ ST g rest xs0 w0 wr
def RelJ (g : Nat) (rest : List Value) (xs0 : List O3) (w0 : World) (a i : Nat) (v : Value) (wr : World) : Prop :=
 ∃ j : Nat, v = .int .i64 (j : Int) ∧ a ≤ j ∧ j ≤ i ∧ ST g rest xs0 w0 wr
set_option maxHeartbeats 4000000 in
set_option maxRecDepth 100000 in
theorem jj7 (g cap : Nat) (rest : List Value) (xs0 : List O3) (a b : Nat) (hN : xs0.length < 4611686018427387904) (ha : a ≤ b) (hb : b ≤ xs0.length) (w0 w : World) (hw : ST g rest xs0 w0 w) :
  Calls Try.prog 101 #[.slice (some ⟨g, 0, none⟩) xs0.length cap, .int .i64 a, .int .i64 b, .func (.func 71) #[] #[]] w fun e w' => e = .returned (.tuple #[]) ∧ ST g rest xs0 w0 w' := by
 obtain ⟨N, hNl⟩ : ∃ N, xs0.length = N := ⟨_, rfl⟩
 have HN := Lib.hid hNl
 rw [hNl] at hN hb ⊢
 clear hNl
 go_enter Try.func101, Try.ntmps101
 go_wp2_with fail
 go_loopw [8] (fun v wr => RelI g rest xs0 w0 a b v wr) (fun v _ => b + 1 - (intOf v).toNat)
 case atStart => exact ⟨a + 1, by go_num, by omega, by omega, hw⟩
 case round =>
  obtain ⟨i, rfl, hai, hib, hs⟩ := hrel
  by_cases hlt : i < b
  ·have hltz : (i : Int) < (b : Int) := by omega
   go_wp2_with fail
   go_loopw [9] (fun v wr => RelJ g rest xs0 w0 a i v wr) (fun v _ => (intOf v).toNat)
   case atStart => exact ⟨i, rfl, by omega, by omega, hs⟩
   case round =>
    clear hs
    obtain ⟨j, rfl, haj, hji, xs, hp, hr, hg⟩ := hrel
    have hl : xs.length = N := by rw [← HN.out]; exact hp.length_eq
    by_cases hja : a < j
    ·obtain ⟨jp, rfl⟩ : ∃ jp, j = jp + 1 := ⟨j - 1, by omega⟩
     have c0 : ((jp + 1 : Nat) : Int) = (jp : Int) + 1 := by omega
     rw [c0]
     clear c0
     have c1 : (a : Int) < (jp : Int) + 1 := by omega
     have c1' : (jp : Int) + 1 > (a : Int) := by omega
     have c2 : (jp : Int) + 1 < (N : Int) := by omega
     have c3 : (jp : Int) < (N : Int) := by omega
     have c4 : (0 : Int) ≤ (jp : Int) + 1 := by omega
     have c5 : (0 : Int) ≤ (jp : Int) := by omega
     have t1 : ((jp : Int) + 1).toNat = jp + 1 := by omega
     have s1 : (jp : Int) + 1 - 1 = (jp : Int) := by omega
     have hx : xs[jp + 1]? = some (xs.getD (jp + 1) default) := by simp [List.getD_eq_getElem?_getD, show jp + 1 < xs.length by omega]
     have hy : xs[jp]? = some (xs.getD jp default) := by simp [List.getD_eq_getElem?_getD, show jp < xs.length by omega]
     have HS := fun w' (h : Below wr.heap.size wr w') => ST.swap hp (hr.below h) (World.grownBy.trans hg (below_grown h)) (jp + 1) jp (by omega) (by omega)
     have HC := fun w' (h : Below wr.heap.size wr w') => (hr.below h).cells _ _ hx
     have HD := fun w' (h : Below wr.heap.size wr w') => (hr.below h).cells _ _ hy
     have HF := fun w' (h : Below wr.heap.size wr w') => (hr.below h).free
     have HT : ST g rest xs0 w0 wr := ⟨xs, hp, hr, hg⟩
     generalize xs.getD (jp + 1) default = x at HS HC
     generalize xs.getD jp default = y at HS HD
     obtain ⟨x0, x1, x2⟩ := HC _ (Below.refl _ _)
     obtain ⟨y0, y1, y2⟩ := HD _ (Below.refl _ _)
     replace x0 := cell_regrown x0
     replace x1 := cell_regrown x1
     replace x2 := cell_regrown x2
     replace y0 := cell_regrown y0
     replace y1 := cell_regrown y1
     replace y2 := cell_regrown y2
     have HHS := Lib.hid HS
     have HHC := Lib.hid HC
     have HHD := Lib.hid HD
     have HHF := Lib.hid HF
     have BK := qx1 x y
     clear hx hy hp hr hg HS HC HD HF hl
     generalize jg5 x.k y.k = cv at BK
     have HBK := Lib.hid BK
     clear BK
     go_wp2_with fail
     refine wp_region_quiet_below (by kernel_rfl) (by kernel_rfl) ?_
     repeat (go_big_quiet_step (first
      | (go_at_call 71; with_reducible exact Calls.regrown_of (HBK.out _))))
     refine wpQuiet_nil ?_
     intro wq hw'
     obtain ⟨⟨dq, osq⟩, hw''⟩ := hw'
     have hb : Below wr.heap.size wr wq := hw'' ▸ below_regrown wr dq osq
     clear hw'' x0 x1 x2 y0 y1 y2
     have HS := HHS.out wq hb
     obtain ⟨x0, x1, x2⟩ := HHC.out wq hb
     obtain ⟨y0, y1, y2⟩ := HHD.out wq hb
     have fz := HHF.out wq hb
     have HT2 := HT.below hb
     clear HHS HHC HHD HHF HT hb HBK
     by_cases hlv : cv < 0
     ·go_wp2_with fail
      have f0 := fz ((jp + 1) * 3); have f1 := fz ((jp + 1) * 3 + 1); have f2 := fz ((jp + 1) * 3 + 2)
      have f3 := fz (jp * 3); have f4 := fz (jp * 3 + 1); have f5 := fz (jp * 3 + 2)
      clear fz HT2
      have HHS := Lib.hid HS
      clear HS
      go_region
      clear x0 x1 x2 y0 y1 y2 f0 f1 f2 f3 f4 f5 t1
      have HS2 := HHS.out.below (Below.refl _ _).drew
      unfold jI3 at HS2
      go_wp2_with fail
      go_roundw
      case rel => exact ⟨jp, by go_num, by omega, by omega, HS2⟩
      case measure => (simp [intOf]; try omega)
     ·clear HS x0 x1 x2 y0 y1 y2 fz
      go_wp2_with fail
      go_roundw
      case rel => exact ⟨i + 1, by go_num, by omega, by omega, HT2⟩
      case measure => (simp [intOf]; try omega)
    ·have hja2 : j = a := by omega
     subst hja2
     have c1 : decide ((j : Int) > (j : Int)) = false := by simp
     have HT : ST g rest xs0 w0 wr := ⟨xs, hp, hr, hg⟩
     clear hp hr hg hl
     go_wp2_with fail
     refine wp_region_quiet_below (by kernel_rfl) (by kernel_rfl) ?_
     repeat (go_big_quiet_step (fail))
     refine wpQuiet_nil ?_
     intro wq hw'
     obtain ⟨⟨dq, osq⟩, hw''⟩ := hw'
     have HT2 := hw'' ▸ HT.below (below_regrown wr dq osq)
     clear hw'' HT
     go_wp2_with fail
     go_roundw
     case rel => exact ⟨i + 1, by go_num, by omega, by omega, HT2⟩
     case measure => (simp [intOf]; try omega)
  ·have hltz : ¬ (i : Int) < (b : Int) := by omega
   go_wp2_with fail
   go_end0
   exact ⟨rfl, hs⟩
end Go.Proofs.Ytngkneknopenmaa.qa9
end
section
namespace Go.Proofs.Ytngkneknopenmaa.qa9
open Go Go.RowKit
def zk4 (g : Nat) (rest : List Value) (xs0 : List O3) (w0 : World) (lo hi : Nat) (v u : Value) (wr : World) : Prop :=
 ∃ i j : Nat, v = .int .i64 (i : Int) ∧ u = .int .i64 (j : Int) ∧ lo ≤ i ∧ i ≤ j ∧ j ≤ hi ∧ ST g rest xs0 w0 wr
def RelK (g : Nat) (rest : List Value) (xs0 : List O3) (w0 : World) (lo hi : Nat) (v : Value) (wr : World) : Prop :=
 ∃ k : Nat, v = .int .i64 (k : Int) ∧ lo ≤ k ∧ k ≤ hi ∧ ST g rest xs0 w0 wr
set_option maxHeartbeats 4000000 in
set_option maxRecDepth 100000 in
theorem zq7 (g cap : Nat) (rest : List Value) (xs0 : List O3) (a m b : Nat) (hN : xs0.length < 2305843009213693952) (ham : m = a + 1) (hmb : m < b) (hb : b ≤ xs0.length) (w0 w : World) (hw : ST g rest xs0 w0 w) :
  Calls Try.prog 102 #[.slice (some ⟨g, 0, none⟩) xs0.length cap, .int .i64 a, .int .i64 m, .int .i64 b, .func (.func 71) #[] #[]] w fun e w' => e = .returned (.tuple #[]) ∧ ST g rest xs0 w0 w' := by
 obtain ⟨N, hNl⟩ : ∃ N, xs0.length = N := ⟨_, rfl⟩
 have HN := Lib.hid hNl
 rw [hNl] at hN hb ⊢
 clear hNl
 have HM := Lib.hid ham
 have e1 : IntKind.i64.wrap ((m : Int) - (a : Int)) = 1 := by rw [IntKind.wrap_i64]; omega
 have e2 : (m : Int) - (a : Int) = 1 := by omega
 have ham' : a + 1 ≤ m := by omega
 clear ham
 go_enter Try.func102, Try.ntmps102
 go_wp2_with fail
 go_loopw [10, 11] (fun v u wr => zk4 g rest xs0 w0 m b v u wr) (fun v u _ => (intOf u).toNat - (intOf v).toNat)
 case atStart => exact ⟨m, b, rfl, rfl, by omega, by omega, by omega, hw⟩
 case round =>
  clear e1 e2
  obtain ⟨i, j, rfl, rfl, hmi, hij, hjb, hs⟩ := hrel
  by_cases hlt : i < j
  ·have hltz : (i : Int) < (j : Int) := by omega
   obtain ⟨h, hh⟩ : ∃ h : Nat, ((i : Int) + (j : Int)) / 2 = (h : Int) := ⟨(i + j) / 2, by omega⟩
   have hh1 : i ≤ h := by omega
   have hh2 : h < j := by omega
   have c1 : (h : Int) < (N : Int) := by omega
   have c2 : (a : Int) < (N : Int) := by omega
   obtain ⟨xs, hp, hr, hg⟩ := hs
   have hl : xs.length = N := by rw [← HN.out]; exact hp.length_eq
   have hx : xs[h]? = some (xs.getD (h) default) := by simp [List.getD_eq_getElem?_getD, show h < xs.length by omega]
   have hy : xs[a]? = some (xs.getD (a) default) := by simp [List.getD_eq_getElem?_getD, show a < xs.length by omega]
   have HT : ST g rest xs0 w0 wr := ⟨xs, hp, hr, hg⟩
   obtain ⟨x0, x1, x2⟩ := hr.cells _ _ hx
   obtain ⟨y0, y1, y2⟩ := hr.cells _ _ hy
   generalize xs.getD (h) default = x at x0 x1 x2
   generalize xs.getD (a) default = y at y0 y1 y2
   replace x0 := cell_regrown x0
   replace x1 := cell_regrown x1
   replace x2 := cell_regrown x2
   replace y0 := cell_regrown y0
   replace y1 := cell_regrown y1
   replace y2 := cell_regrown y2
   have BK := qx1 x y
   clear hx hy hp hr hg hl
   generalize jg5 x.k y.k = cv at BK
   have HBK := Lib.hid BK
   clear BK
   go_wp2_with fail
   refine wp_region_quiet_below (by kernel_rfl) (by kernel_rfl) ?_
   repeat (go_big_quiet_step (first
    | (go_at_call 71; with_reducible exact Calls.regrown_of (HBK.out _))))
   refine wpQuiet_nil ?_
   intro wq hw'
   obtain ⟨⟨dq, osq⟩, hw''⟩ := hw'
   have HT2 : ST g rest xs0 w0 wq := hw'' ▸ HT.below (below_regrown wr dq osq)
   clear hw'' x0 x1 x2 y0 y1 y2 HT HBK
   clear hh
   by_cases hlv : cv < 0
   ·go_wp2_with fail
    go_roundw
    case rel => exact ⟨h + 1, j, by go_num, rfl, by omega, by omega, by omega, HT2⟩
    case measure => (simp [intOf]; try omega)
   ·go_wp2_with fail
    go_roundw
    case rel => exact ⟨i, h, rfl, rfl, by omega, by omega, by omega, HT2⟩
    case measure => (simp [intOf]; try omega)
  ·have hij2 : i = j := by omega
   subst hij2
   go_wp2_with fail
   go_loopw [13] (fun v wr => RelK g rest xs0 w0 a b v wr) (fun v _ => b - (intOf v).toNat)
   case atStart => exact ⟨a, rfl, by omega, by omega, hs⟩
   case round =>
    clear hs
    obtain ⟨k, rfl, hak, hkb, hs⟩ := hrel
    by_cases hk : k + 1 < i
    ·have hkz : (k : Int) < (i : Int) - 1 := by omega
     have c1 : (k : Int) + 1 < (N : Int) := by omega
     have c2 : (k : Int) < (N : Int) := by omega
     have c3 : (0 : Int) ≤ (k : Int) + 1 := by omega
     have t1 : ((k : Int) + 1).toNat = k + 1 := by omega
     obtain ⟨xs, hp, hr, hg⟩ := hs
     have hl : xs.length = N := by rw [← HN.out]; exact hp.length_eq
     have hx : xs[k]? = some (xs.getD (k) default) := by simp [List.getD_eq_getElem?_getD, show k < xs.length by omega]
     have hy : xs[k + 1]? = some (xs.getD (k + 1) default) := by simp [List.getD_eq_getElem?_getD, show k + 1 < xs.length by omega]
     have HS := ST.swap hp hr hg (k) (k + 1) (by omega) (by omega)
     generalize xs.getD (k) default = x at hx HS
     generalize xs.getD (k + 1) default = y at hy HS
     obtain ⟨x0, x1, x2⟩ := hr.cells _ _ hx
     obtain ⟨y0, y1, y2⟩ := hr.cells _ _ hy
     have fz := hr.free
     have f0 := fz ((k) * 3); have f1 := fz ((k) * 3 + 1); have f2 := fz ((k) * 3 + 2)
     have f3 := fz ((k + 1) * 3); have f4 := fz ((k + 1) * 3 + 1); have f5 := fz ((k + 1) * 3 + 2)
     have HHS := Lib.hid HS
     clear fz hx hy hp hr hg hl HS
     go_wp2_with fail
     go_region
     clear x0 x1 x2 y0 y1 y2 f0 f1 f2 f3 f4 f5
     have HS2 := HHS.out.below (Below.refl _ _).drew
     unfold jI3 at HS2
     clear t1
     go_wp2_with fail
     go_roundw
     case rel => exact ⟨k + 1, by go_num, by omega, by omega, HS2⟩
     case measure => (simp [intOf]; try omega)
    ·have hkz : decide ((k : Int) < (i : Int) - 1) = false := decide_eq_false (by omega)
     have hkz2 : ¬ (k : Int) < (i : Int) - 1 := by omega
     have hkz3 : (i : Int) - 1 ≤ (k : Int) := by omega
     go_wp2_with fail
     refine bodyPost_ret (results_none rfl _ _ _) rfl ?_
     exact ⟨rfl, hs⟩
set_option maxHeartbeats 4000000 in
set_option maxRecDepth 100000 in
theorem zd8 (g cap : Nat) (rest : List Value) (xs0 : List O3) (a m b : Nat) (hN : xs0.length < 2305843009213693952) (ham : a + 1 < m) (hmb : b = m + 1) (hb : b ≤ xs0.length) (w0 w : World) (hw : ST g rest xs0 w0 w) :
  Calls Try.prog 102 #[.slice (some ⟨g, 0, none⟩) xs0.length cap, .int .i64 a, .int .i64 m, .int .i64 b, .func (.func 71) #[] #[]] w fun e w' => e = .returned (.tuple #[]) ∧ ST g rest xs0 w0 w' := by
 obtain ⟨N, hNl⟩ : ∃ N, xs0.length = N := ⟨_, rfl⟩
 have HN := Lib.hid hNl
 rw [hNl] at hN hb ⊢
 clear hNl
 have e0 : (((m : Int) - (a : Int)) == 1) = false := by simp; omega
 have e1 : IntKind.i64.wrap ((b : Int) - (m : Int)) = 1 := by rw [IntKind.wrap_i64]; omega
 have e2 : (b : Int) - (m : Int) = 1 := by omega
 have hmb' : m + 1 ≤ b := by omega
 clear hmb
 go_enter Try.func102, Try.ntmps102
 go_wp2_with fail
 go_loopw [14, 15] (fun v u wr => zk4 g rest xs0 w0 a m v u wr) (fun v u _ => (intOf u).toNat - (intOf v).toNat)
 case atStart => exact ⟨a, m, rfl, rfl, by omega, by omega, by omega, hw⟩
 case round =>
  clear e0 e1 e2
  obtain ⟨i, j, rfl, rfl, hmi, hij, hjb, hs⟩ := hrel
  by_cases hlt : i < j
  ·have hltz : (i : Int) < (j : Int) := by omega
   obtain ⟨h, hh⟩ : ∃ h : Nat, ((i : Int) + (j : Int)) / 2 = (h : Int) := ⟨(i + j) / 2, by omega⟩
   have hh1 : i ≤ h := by omega
   have hh2 : h < j := by omega
   have c1 : (h : Int) < (N : Int) := by omega
   have c2 : (m : Int) < (N : Int) := by omega
   obtain ⟨xs, hp, hr, hg⟩ := hs
   have hl : xs.length = N := by rw [← HN.out]; exact hp.length_eq
   have hx : xs[m]? = some (xs.getD (m) default) := by simp [List.getD_eq_getElem?_getD, show m < xs.length by omega]
   have hy : xs[h]? = some (xs.getD (h) default) := by simp [List.getD_eq_getElem?_getD, show h < xs.length by omega]
   have HT : ST g rest xs0 w0 wr := ⟨xs, hp, hr, hg⟩
   obtain ⟨x0, x1, x2⟩ := hr.cells _ _ hx
   obtain ⟨y0, y1, y2⟩ := hr.cells _ _ hy
   generalize xs.getD (m) default = x at x0 x1 x2
   generalize xs.getD (h) default = y at y0 y1 y2
   replace x0 := cell_regrown x0
   replace x1 := cell_regrown x1
   replace x2 := cell_regrown x2
   replace y0 := cell_regrown y0
   replace y1 := cell_regrown y1
   replace y2 := cell_regrown y2
   have BK := qx1 x y
   clear hx hy hp hr hg hl
   generalize jg5 x.k y.k = cv at BK
   have HBK := Lib.hid BK
   clear BK
   go_wp2_with fail
   refine wp_region_quiet_below (by kernel_rfl) (by kernel_rfl) ?_
   repeat (go_big_quiet_step (first
    | (go_at_call 71; with_reducible exact Calls.regrown_of (HBK.out _))))
   refine wpQuiet_nil ?_
   intro wq hw'
   obtain ⟨⟨dq, osq⟩, hw''⟩ := hw'
   have HT2 : ST g rest xs0 w0 wq := hw'' ▸ HT.below (below_regrown wr dq osq)
   clear hw'' x0 x1 x2 y0 y1 y2 HT HBK
   clear hh
   generalize decide (cv < 0) = dv
   cases dv
   ·go_wp2_with fail
    go_roundw
    case rel => exact ⟨h + 1, j, by go_num, rfl, by omega, by omega, by omega, HT2⟩
    case measure => (simp [intOf]; try omega)
   ·go_wp2_with fail
    go_roundw
    case rel => exact ⟨i, h, rfl, rfl, by omega, by omega, by omega, HT2⟩
    case measure => (simp [intOf]; try omega)
  ·have hij2 : i = j := by omega
   subst hij2
   go_wp2_with fail
   go_loopw [17] (fun v wr => RelK g rest xs0 w0 i m v wr) (fun v _ => (intOf v).toNat)
   case atStart => exact ⟨m, rfl, by omega, by omega, hs⟩
   case round =>
    clear hs
    obtain ⟨k, rfl, hak, hkb, hs⟩ := hrel
    by_cases hk : i < k
    ·obtain ⟨kp, rfl⟩ : ∃ kp, k = kp + 1 := ⟨k - 1, by omega⟩
     have c0 : ((kp + 1 : Nat) : Int) = (kp : Int) + 1 := by omega
     rw [c0]
     clear c0
     have hkz : (i : Int) < (kp : Int) + 1 := by omega
     have hkz' : (kp : Int) + 1 > (i : Int) := by omega
     have c1 : (kp : Int) + 1 < (N : Int) := by omega
     have c2 : (kp : Int) < (N : Int) := by omega
     have c3 : (0 : Int) ≤ (kp : Int) + 1 := by omega
     have s1 : (kp : Int) + 1 - 1 = (kp : Int) := by omega
     have t1 : ((kp : Int) + 1).toNat = kp + 1 := by omega
     obtain ⟨xs, hp, hr, hg⟩ := hs
     have hl : xs.length = N := by rw [← HN.out]; exact hp.length_eq
     have hx : xs[kp + 1]? = some (xs.getD (kp + 1) default) := by simp [List.getD_eq_getElem?_getD, show kp + 1 < xs.length by omega]
     have hy : xs[kp]? = some (xs.getD (kp) default) := by simp [List.getD_eq_getElem?_getD, show kp < xs.length by omega]
     have HS := ST.swap hp hr hg (kp + 1) (kp) (by omega) (by omega)
     generalize xs.getD (kp + 1) default = x at hx HS
     generalize xs.getD (kp) default = y at hy HS
     obtain ⟨x0, x1, x2⟩ := hr.cells _ _ hx
     obtain ⟨y0, y1, y2⟩ := hr.cells _ _ hy
     have fz := hr.free
     have f0 := fz ((kp + 1) * 3); have f1 := fz ((kp + 1) * 3 + 1); have f2 := fz ((kp + 1) * 3 + 2)
     have f3 := fz ((kp) * 3); have f4 := fz ((kp) * 3 + 1); have f5 := fz ((kp) * 3 + 2)
     have HHS := Lib.hid HS
     clear fz hx hy hp hr hg hl HS
     go_wp2_with fail
     go_region
     clear x0 x1 x2 y0 y1 y2 f0 f1 f2 f3 f4 f5
     have HS2 := HHS.out.below (Below.refl _ _).drew
     unfold jI3 at HS2
     clear t1
     go_wp2_with fail
     go_roundw
     case rel => exact ⟨kp, by go_num, by omega, by omega, HS2⟩
     case measure => (simp [intOf]; try omega)
    ·have hik : i = k := by omega
     subst hik
     have hkz : ¬ (i : Int) > (i : Int) := by omega
     go_wp2_with fail
     refine bodyPost_ret (results_none rfl _ _ _) rfl ?_
     exact ⟨rfl, hs⟩
end Go.Proofs.Ytngkneknopenmaa.qa9
end
section
namespace Go.Proofs.Ytngkneknopenmaa.qa9
open Go Go.RowKit
set_option maxHeartbeats 40000000 in
set_option maxRecDepth 100000 in
theorem jU7 (g cap : Nat) (rest : List Value) (xs0 : List O3) (hN : xs0.length < 2305843009213693952) (w0 : World) : ∀ (F a m b : Nat), b - a ≤ F → a < m → m < b → b ≤ xs0.length → ∀ w, ST g rest xs0 w0 w →
  Calls Try.prog 102 #[.slice (some ⟨g, 0, none⟩) xs0.length cap, .int .i64 a, .int .i64 m, .int .i64 b, .func (.func 71) #[] #[]] w fun e w' => e = .returned (.tuple #[]) ∧ ST g rest xs0 w0 w' := by
 intro F
 induction F with
 | zero => intro a m b h1 h2 h3; omega
 | succ F ih =>
  intro a m b hF ham hmb hb w hw
  by_cases hm1 : m = a + 1
  ·exact zq7 g cap rest xs0 a m b hN hm1 hmb hb w0 w hw
  by_cases hb1 : b = m + 1
  ·exact zd8 g cap rest xs0 a m b hN (by omega) hb1 hb w0 w hw
  have RO := fun (a m b : Nat) ha hm hb w hw => jJ1 g cap rest xs0 a m b (by omega) ha hm hb w0 w hw (.func (.func 71) #[] #[])
  obtain ⟨N, hNl⟩ : ∃ N, xs0.length = N := ⟨_, rfl⟩
  have HN := Lib.hid hNl
  rw [hNl] at hN hb ih RO ⊢
  have IH := Lib.hid ih
  have HRO := Lib.hid RO
  clear hNl ih RO
  have e0 : (((m : Int) - (a : Int)) == 1) = false := by simp; omega
  have e1 : (((b : Int) - (m : Int)) == 1) = false := by simp; omega
  obtain ⟨mid, hmid⟩ : ∃ h : Nat, ((a : Int) + (b : Int)) / 2 = (h : Int) := ⟨(a + b) / 2, by omega⟩
  have hm2 : a + b - 1 ≤ 2 * mid := by omega
  have hm3 : 2 * mid ≤ a + b := by omega
  obtain ⟨s0, r0, h0, k1, k2, k3, k4, k5⟩ : ∃ s0 r0 : Nat, ((mid < m ∧ mid + m = s0 + b ∧ mid = r0) ∨ (m ≤ mid ∧ a = s0 ∧ m = r0)) ∧ a ≤ s0 ∧ s0 ≤ r0 ∧ r0 ≤ mid ∧ r0 ≤ m ∧ mid + m - s0 ≤ b := by
   by_cases h : mid < m
   ·exact ⟨mid + m - b, mid, .inl ⟨h, by omega, rfl⟩, by omega, by omega, by omega, by omega, by omega⟩
   ·exact ⟨a, m, .inr ⟨by omega, rfl, rfl⟩, by omega, by omega, by omega, by omega, by omega⟩
  clear hm1 hb1
  rcases h0 with ⟨hmm, hs0, rfl⟩ | ⟨hmm, rfl, rfl⟩
  ·have g1 : (m : Int) > (mid : Int) := by omega
   have g2 : (mid : Int) + (m : Int) - (b : Int) = (s0 : Int) := by omega
   go_enter Try.func102, Try.ntmps102
   go_wp2_with fail
   clear e0 e1 hmid g1 g2
   go_loopw [20, 21] (fun v u wr => zk4 g rest xs0 w0 s0 mid v u wr) (fun v u _ => (intOf u).toNat - (intOf v).toNat)
   case atStart => exact ⟨s0, mid, by go_num, rfl, by omega, by omega, by omega, hw⟩
   case round =>
    clear hw
    obtain ⟨s, r, rfl, rfl, hmi, hij, hjb, hs⟩ := hrel
    by_cases hlt : s < r
    ·have hltz : (s : Int) < (r : Int) := by omega
     obtain ⟨h, hh⟩ : ∃ h : Nat, ((s : Int) + (r : Int)) / 2 = (h : Int) := ⟨(s + r) / 2, by omega⟩
     have hh1 : s ≤ h := by omega
     have hh2 : h < r := by omega
     obtain ⟨q, hq⟩ : ∃ q : Nat, (mid : Int) + (m : Int) - 1 - (h : Int) = (q : Int) := ⟨mid + m - 1 - h, by omega⟩
     have hqN : q < N := by omega
     have c1 : (h : Int) < (N : Int) := by omega
     have c2 : (q : Int) < (N : Int) := by omega
     obtain ⟨xs, hp, hr, hg⟩ := hs
     have hl : xs.length = N := by rw [← HN.out]; exact hp.length_eq
     have hx : xs[q]? = some (xs.getD (q) default) := by simp [List.getD_eq_getElem?_getD, show q < xs.length by omega]
     have hy : xs[h]? = some (xs.getD (h) default) := by simp [List.getD_eq_getElem?_getD, show h < xs.length by omega]
     have HT : ST g rest xs0 w0 wr := ⟨xs, hp, hr, hg⟩
     obtain ⟨x0, x1, x2⟩ := hr.cells _ _ hx
     obtain ⟨y0, y1, y2⟩ := hr.cells _ _ hy
     generalize xs.getD (q) default = x at x0 x1 x2
     generalize xs.getD (h) default = y at y0 y1 y2
     replace x0 := cell_regrown x0
     replace x1 := cell_regrown x1
     replace x2 := cell_regrown x2
     replace y0 := cell_regrown y0
     replace y1 := cell_regrown y1
     replace y2 := cell_regrown y2
     have BK := qx1 x y
     clear hx hy hp hr hg hl
     generalize jg5 x.k y.k = cv at BK
     have HBK := Lib.hid BK
     clear BK
     go_wp2_with fail
     refine wp_region_quiet_below (by kernel_rfl) (by kernel_rfl) ?_
     repeat (go_big_quiet_step (first
      | (go_at_call 71; with_reducible exact Calls.regrown_of (HBK.out _))))
     refine wpQuiet_nil ?_
     intro wq hw'
     obtain ⟨⟨dq, osq⟩, hw''⟩ := hw'
     have HT2 : ST g rest xs0 w0 wq := hw'' ▸ HT.below (below_regrown wr dq osq)
     clear hw'' x0 x1 x2 y0 y1 y2 HT HBK
     clear hh hq
     generalize decide (cv < 0) = dv
     cases dv
     ·go_wp2_with fail
      go_roundw
      case rel => exact ⟨h + 1, r, by go_num, rfl, by omega, by omega, by omega, HT2⟩
      case measure => (simp [intOf]; try omega)
     ·go_wp2_with fail
      go_roundw
      case rel => exact ⟨s, h, rfl, rfl, by omega, by omega, by omega, HT2⟩
      case measure => (simp [intOf]; try omega)
    ·have hij2 : s = r := by omega
     subst hij2
     obtain ⟨ed, hed⟩ : ∃ q : Nat, (mid : Int) + (m : Int) - (s : Int) = (q : Int) := ⟨mid + m - s, by omega⟩
     have hed2 : ed + s = mid + m := by omega
     have HS := Lib.hid hs
     by_cases hA : s < m
     ·have hA0 : (s : Int) < (m : Int) := by omega
      have hA1 : (mid : Int) < (ed : Int) := by omega
      by_cases hB : s < mid
      ·have hB0 : (m : Int) < (ed : Int) := by omega
       have hB1 : (s : Int) < (mid : Int) := by omega
       by_cases hC : a < s
       ·have hC0 : (a : Int) < (s : Int) := by omega
        by_cases hD : ed < b
        ·have hD0 : (ed : Int) < (b : Int) := by omega
         clear hs
         go_wp2_with (first
          | (go_at_call 108; (with_reducible refine (HRO.out s m ed (by omega) (by omega) (by omega) _ HS.out).mono ?_); rintro e w1 ⟨rfl, h1⟩; replace HS := Lib.hid h1; clear h1)
          | (go_at_call 102; (with_reducible refine (IH.out a s mid (by omega) (by omega) (by omega) (by omega) _ HS.out).mono ?_); rintro e w2 ⟨rfl, h1⟩; replace HS := Lib.hid h1; clear h1)
          | (go_at_call 102; (with_reducible refine (IH.out mid ed b (by omega) (by omega) (by omega) (by omega) _ HS.out).mono ?_); rintro e w3 ⟨rfl, h1⟩; replace HS := Lib.hid h1; clear h1))
         all_goals
          go_end0
          exact ⟨rfl, HS.out⟩
        ·have hD0 : decide ((ed : Int) < (b : Int)) = false := decide_eq_false (by omega)
         clear hs
         go_wp2_with (first
          | (go_at_call 108; (with_reducible refine (HRO.out s m ed (by omega) (by omega) (by omega) _ HS.out).mono ?_); rintro e w1 ⟨rfl, h1⟩; replace HS := Lib.hid h1; clear h1)
          | (go_at_call 102; (with_reducible refine (IH.out a s mid (by omega) (by omega) (by omega) (by omega) _ HS.out).mono ?_); rintro e w2 ⟨rfl, h1⟩; replace HS := Lib.hid h1; clear h1)
          | (go_at_call 102; (with_reducible refine (IH.out mid ed b (by omega) (by omega) (by omega) (by omega) _ HS.out).mono ?_); rintro e w3 ⟨rfl, h1⟩; replace HS := Lib.hid h1; clear h1))
         all_goals
          go_end0
          exact ⟨rfl, HS.out⟩
       ·have hC0 : decide ((a : Int) < (s : Int)) = false := decide_eq_false (by omega)
        by_cases hD : ed < b
        ·have hD0 : (ed : Int) < (b : Int) := by omega
         clear hs
         go_wp2_with (first
          | (go_at_call 108; (with_reducible refine (HRO.out s m ed (by omega) (by omega) (by omega) _ HS.out).mono ?_); rintro e w1 ⟨rfl, h1⟩; replace HS := Lib.hid h1; clear h1)
          | (go_at_call 102; (with_reducible refine (IH.out a s mid (by omega) (by omega) (by omega) (by omega) _ HS.out).mono ?_); rintro e w2 ⟨rfl, h1⟩; replace HS := Lib.hid h1; clear h1)
          | (go_at_call 102; (with_reducible refine (IH.out mid ed b (by omega) (by omega) (by omega) (by omega) _ HS.out).mono ?_); rintro e w3 ⟨rfl, h1⟩; replace HS := Lib.hid h1; clear h1))
         all_goals
          go_end0
          exact ⟨rfl, HS.out⟩
        ·have hD0 : decide ((ed : Int) < (b : Int)) = false := decide_eq_false (by omega)
         clear hs
         go_wp2_with (first
          | (go_at_call 108; (with_reducible refine (HRO.out s m ed (by omega) (by omega) (by omega) _ HS.out).mono ?_); rintro e w1 ⟨rfl, h1⟩; replace HS := Lib.hid h1; clear h1)
          | (go_at_call 102; (with_reducible refine (IH.out a s mid (by omega) (by omega) (by omega) (by omega) _ HS.out).mono ?_); rintro e w2 ⟨rfl, h1⟩; replace HS := Lib.hid h1; clear h1)
          | (go_at_call 102; (with_reducible refine (IH.out mid ed b (by omega) (by omega) (by omega) (by omega) _ HS.out).mono ?_); rintro e w3 ⟨rfl, h1⟩; replace HS := Lib.hid h1; clear h1))
         all_goals
          go_end0
          exact ⟨rfl, HS.out⟩
      ·have hB0 : decide ((m : Int) < (ed : Int)) = false := decide_eq_false (by omega)
       have hB1 : decide ((s : Int) < (mid : Int)) = false := decide_eq_false (by omega)
       by_cases hC : a < s
       ·have hC0 : (a : Int) < (s : Int) := by omega
        by_cases hD : ed < b
        ·have hD0 : (ed : Int) < (b : Int) := by omega
         clear hs
         go_wp2_with (first
          | (go_at_call 108; (with_reducible refine (HRO.out s m ed (by omega) (by omega) (by omega) _ HS.out).mono ?_); rintro e w1 ⟨rfl, h1⟩; replace HS := Lib.hid h1; clear h1)
          | (go_at_call 102; (with_reducible refine (IH.out a s mid (by omega) (by omega) (by omega) (by omega) _ HS.out).mono ?_); rintro e w2 ⟨rfl, h1⟩; replace HS := Lib.hid h1; clear h1)
          | (go_at_call 102; (with_reducible refine (IH.out mid ed b (by omega) (by omega) (by omega) (by omega) _ HS.out).mono ?_); rintro e w3 ⟨rfl, h1⟩; replace HS := Lib.hid h1; clear h1))
         all_goals
          go_end0
          exact ⟨rfl, HS.out⟩
        ·have hD0 : decide ((ed : Int) < (b : Int)) = false := decide_eq_false (by omega)
         clear hs
         go_wp2_with (first
          | (go_at_call 108; (with_reducible refine (HRO.out s m ed (by omega) (by omega) (by omega) _ HS.out).mono ?_); rintro e w1 ⟨rfl, h1⟩; replace HS := Lib.hid h1; clear h1)
          | (go_at_call 102; (with_reducible refine (IH.out a s mid (by omega) (by omega) (by omega) (by omega) _ HS.out).mono ?_); rintro e w2 ⟨rfl, h1⟩; replace HS := Lib.hid h1; clear h1)
          | (go_at_call 102; (with_reducible refine (IH.out mid ed b (by omega) (by omega) (by omega) (by omega) _ HS.out).mono ?_); rintro e w3 ⟨rfl, h1⟩; replace HS := Lib.hid h1; clear h1))
         all_goals
          go_end0
          exact ⟨rfl, HS.out⟩
       ·have hC0 : decide ((a : Int) < (s : Int)) = false := decide_eq_false (by omega)
        by_cases hD : ed < b
        ·have hD0 : (ed : Int) < (b : Int) := by omega
         clear hs
         go_wp2_with (first
          | (go_at_call 108; (with_reducible refine (HRO.out s m ed (by omega) (by omega) (by omega) _ HS.out).mono ?_); rintro e w1 ⟨rfl, h1⟩; replace HS := Lib.hid h1; clear h1)
          | (go_at_call 102; (with_reducible refine (IH.out a s mid (by omega) (by omega) (by omega) (by omega) _ HS.out).mono ?_); rintro e w2 ⟨rfl, h1⟩; replace HS := Lib.hid h1; clear h1)
          | (go_at_call 102; (with_reducible refine (IH.out mid ed b (by omega) (by omega) (by omega) (by omega) _ HS.out).mono ?_); rintro e w3 ⟨rfl, h1⟩; replace HS := Lib.hid h1; clear h1))
         all_goals
          go_end0
          exact ⟨rfl, HS.out⟩
        ·have hD0 : decide ((ed : Int) < (b : Int)) = false := decide_eq_false (by omega)
         clear hs
         go_wp2_with (first
          | (go_at_call 108; (with_reducible refine (HRO.out s m ed (by omega) (by omega) (by omega) _ HS.out).mono ?_); rintro e w1 ⟨rfl, h1⟩; replace HS := Lib.hid h1; clear h1)
          | (go_at_call 102; (with_reducible refine (IH.out a s mid (by omega) (by omega) (by omega) (by omega) _ HS.out).mono ?_); rintro e w2 ⟨rfl, h1⟩; replace HS := Lib.hid h1; clear h1)
          | (go_at_call 102; (with_reducible refine (IH.out mid ed b (by omega) (by omega) (by omega) (by omega) _ HS.out).mono ?_); rintro e w3 ⟨rfl, h1⟩; replace HS := Lib.hid h1; clear h1))
         all_goals
          go_end0
          exact ⟨rfl, HS.out⟩
     ·have hA0 : decide ((s : Int) < (m : Int)) = false := decide_eq_false (by omega)
      have hA1 : decide ((mid : Int) < (ed : Int)) = false := decide_eq_false (by omega)
      by_cases hB : s < mid
      ·have hB0 : (m : Int) < (ed : Int) := by omega
       have hB1 : (s : Int) < (mid : Int) := by omega
       by_cases hC : a < s
       ·have hC0 : (a : Int) < (s : Int) := by omega
        by_cases hD : ed < b
        ·have hD0 : (ed : Int) < (b : Int) := by omega
         clear hs
         go_wp2_with (first
          | (go_at_call 108; (with_reducible refine (HRO.out s m ed (by omega) (by omega) (by omega) _ HS.out).mono ?_); rintro e w1 ⟨rfl, h1⟩; replace HS := Lib.hid h1; clear h1)
          | (go_at_call 102; (with_reducible refine (IH.out a s mid (by omega) (by omega) (by omega) (by omega) _ HS.out).mono ?_); rintro e w2 ⟨rfl, h1⟩; replace HS := Lib.hid h1; clear h1)
          | (go_at_call 102; (with_reducible refine (IH.out mid ed b (by omega) (by omega) (by omega) (by omega) _ HS.out).mono ?_); rintro e w3 ⟨rfl, h1⟩; replace HS := Lib.hid h1; clear h1))
         all_goals
          go_end0
          exact ⟨rfl, HS.out⟩
        ·have hD0 : decide ((ed : Int) < (b : Int)) = false := decide_eq_false (by omega)
         clear hs
         go_wp2_with (first
          | (go_at_call 108; (with_reducible refine (HRO.out s m ed (by omega) (by omega) (by omega) _ HS.out).mono ?_); rintro e w1 ⟨rfl, h1⟩; replace HS := Lib.hid h1; clear h1)
          | (go_at_call 102; (with_reducible refine (IH.out a s mid (by omega) (by omega) (by omega) (by omega) _ HS.out).mono ?_); rintro e w2 ⟨rfl, h1⟩; replace HS := Lib.hid h1; clear h1)
          | (go_at_call 102; (with_reducible refine (IH.out mid ed b (by omega) (by omega) (by omega) (by omega) _ HS.out).mono ?_); rintro e w3 ⟨rfl, h1⟩; replace HS := Lib.hid h1; clear h1))
         all_goals
          go_end0
          exact ⟨rfl, HS.out⟩
       ·have hC0 : decide ((a : Int) < (s : Int)) = false := decide_eq_false (by omega)
        by_cases hD : ed < b
        ·have hD0 : (ed : Int) < (b : Int) := by omega
         clear hs
         go_wp2_with (first
          | (go_at_call 108; (with_reducible refine (HRO.out s m ed (by omega) (by omega) (by omega) _ HS.out).mono ?_); rintro e w1 ⟨rfl, h1⟩; replace HS := Lib.hid h1; clear h1)
          | (go_at_call 102; (with_reducible refine (IH.out a s mid (by omega) (by omega) (by omega) (by omega) _ HS.out).mono ?_); rintro e w2 ⟨rfl, h1⟩; replace HS := Lib.hid h1; clear h1)
          | (go_at_call 102; (with_reducible refine (IH.out mid ed b (by omega) (by omega) (by omega) (by omega) _ HS.out).mono ?_); rintro e w3 ⟨rfl, h1⟩; replace HS := Lib.hid h1; clear h1))
         all_goals
          go_end0
          exact ⟨rfl, HS.out⟩
        ·have hD0 : decide ((ed : Int) < (b : Int)) = false := decide_eq_false (by omega)
         clear hs
         go_wp2_with (first
          | (go_at_call 108; (with_reducible refine (HRO.out s m ed (by omega) (by omega) (by omega) _ HS.out).mono ?_); rintro e w1 ⟨rfl, h1⟩; replace HS := Lib.hid h1; clear h1)
          | (go_at_call 102; (with_reducible refine (IH.out a s mid (by omega) (by omega) (by omega) (by omega) _ HS.out).mono ?_); rintro e w2 ⟨rfl, h1⟩; replace HS := Lib.hid h1; clear h1)
          | (go_at_call 102; (with_reducible refine (IH.out mid ed b (by omega) (by omega) (by omega) (by omega) _ HS.out).mono ?_); rintro e w3 ⟨rfl, h1⟩; replace HS := Lib.hid h1; clear h1))
         all_goals
          go_end0
          exact ⟨rfl, HS.out⟩
      ·have hB0 : decide ((m : Int) < (ed : Int)) = false := decide_eq_false (by omega)
       have hB1 : decide ((s : Int) < (mid : Int)) = false := decide_eq_false (by omega)
       by_cases hC : a < s
       ·have hC0 : (a : Int) < (s : Int) := by omega
        by_cases hD : ed < b
        ·have hD0 : (ed : Int) < (b : Int) := by omega
         clear hs
         go_wp2_with (first
          | (go_at_call 108; (with_reducible refine (HRO.out s m ed (by omega) (by omega) (by omega) _ HS.out).mono ?_); rintro e w1 ⟨rfl, h1⟩; replace HS := Lib.hid h1; clear h1)
          | (go_at_call 102; (with_reducible refine (IH.out a s mid (by omega) (by omega) (by omega) (by omega) _ HS.out).mono ?_); rintro e w2 ⟨rfl, h1⟩; replace HS := Lib.hid h1; clear h1)
          | (go_at_call 102; (with_reducible refine (IH.out mid ed b (by omega) (by omega) (by omega) (by omega) _ HS.out).mono ?_); rintro e w3 ⟨rfl, h1⟩; replace HS := Lib.hid h1; clear h1))
         all_goals
          go_end0
          exact ⟨rfl, HS.out⟩
        ·have hD0 : decide ((ed : Int) < (b : Int)) = false := decide_eq_false (by omega)
         clear hs
         go_wp2_with (first
          | (go_at_call 108; (with_reducible refine (HRO.out s m ed (by omega) (by omega) (by omega) _ HS.out).mono ?_); rintro e w1 ⟨rfl, h1⟩; replace HS := Lib.hid h1; clear h1)
          | (go_at_call 102; (with_reducible refine (IH.out a s mid (by omega) (by omega) (by omega) (by omega) _ HS.out).mono ?_); rintro e w2 ⟨rfl, h1⟩; replace HS := Lib.hid h1; clear h1)
          | (go_at_call 102; (with_reducible refine (IH.out mid ed b (by omega) (by omega) (by omega) (by omega) _ HS.out).mono ?_); rintro e w3 ⟨rfl, h1⟩; replace HS := Lib.hid h1; clear h1))
         all_goals
          go_end0
          exact ⟨rfl, HS.out⟩
       ·have hC0 : decide ((a : Int) < (s : Int)) = false := decide_eq_false (by omega)
        by_cases hD : ed < b
        ·have hD0 : (ed : Int) < (b : Int) := by omega
         clear hs
         go_wp2_with (first
          | (go_at_call 108; (with_reducible refine (HRO.out s m ed (by omega) (by omega) (by omega) _ HS.out).mono ?_); rintro e w1 ⟨rfl, h1⟩; replace HS := Lib.hid h1; clear h1)
          | (go_at_call 102; (with_reducible refine (IH.out a s mid (by omega) (by omega) (by omega) (by omega) _ HS.out).mono ?_); rintro e w2 ⟨rfl, h1⟩; replace HS := Lib.hid h1; clear h1)
          | (go_at_call 102; (with_reducible refine (IH.out mid ed b (by omega) (by omega) (by omega) (by omega) _ HS.out).mono ?_); rintro e w3 ⟨rfl, h1⟩; replace HS := Lib.hid h1; clear h1))
         all_goals
          go_end0
          exact ⟨rfl, HS.out⟩
        ·have hD0 : decide ((ed : Int) < (b : Int)) = false := decide_eq_false (by omega)
         clear hs
         go_wp2_with (first
          | (go_at_call 108; (with_reducible refine (HRO.out s m ed (by omega) (by omega) (by omega) _ HS.out).mono ?_); rintro e w1 ⟨rfl, h1⟩; replace HS := Lib.hid h1; clear h1)
          | (go_at_call 102; (with_reducible refine (IH.out a s mid (by omega) (by omega) (by omega) (by omega) _ HS.out).mono ?_); rintro e w2 ⟨rfl, h1⟩; replace HS := Lib.hid h1; clear h1)
          | (go_at_call 102; (with_reducible refine (IH.out mid ed b (by omega) (by omega) (by omega) (by omega) _ HS.out).mono ?_); rintro e w3 ⟨rfl, h1⟩; replace HS := Lib.hid h1; clear h1))
         all_goals
          go_end0
          exact ⟨rfl, HS.out⟩
  ·have g1 : decide ((m : Int) > (mid : Int)) = false := decide_eq_false (by omega)
   go_enter Try.func102, Try.ntmps102
   go_wp2_with fail
   clear e0 e1 hmid g1
   go_loopw [20, 21] (fun v u wr => zk4 g rest xs0 w0 a m v u wr) (fun v u _ => (intOf u).toNat - (intOf v).toNat)
   case atStart => exact ⟨a, m, by go_num, rfl, by omega, by omega, by omega, hw⟩
   case round =>
    clear hw
    obtain ⟨s, r, rfl, rfl, hmi, hij, hjb, hs⟩ := hrel
    by_cases hlt : s < r
    ·have hltz : (s : Int) < (r : Int) := by omega
     obtain ⟨h, hh⟩ : ∃ h : Nat, ((s : Int) + (r : Int)) / 2 = (h : Int) := ⟨(s + r) / 2, by omega⟩
     have hh1 : s ≤ h := by omega
     have hh2 : h < r := by omega
     obtain ⟨q, hq⟩ : ∃ q : Nat, (mid : Int) + (m : Int) - 1 - (h : Int) = (q : Int) := ⟨mid + m - 1 - h, by omega⟩
     have hqN : q < N := by omega
     have c1 : (h : Int) < (N : Int) := by omega
     have c2 : (q : Int) < (N : Int) := by omega
     obtain ⟨xs, hp, hr, hg⟩ := hs
     have hl : xs.length = N := by rw [← HN.out]; exact hp.length_eq
     have hx : xs[q]? = some (xs.getD (q) default) := by simp [List.getD_eq_getElem?_getD, show q < xs.length by omega]
     have hy : xs[h]? = some (xs.getD (h) default) := by simp [List.getD_eq_getElem?_getD, show h < xs.length by omega]
     have HT : ST g rest xs0 w0 wr := ⟨xs, hp, hr, hg⟩
     obtain ⟨x0, x1, x2⟩ := hr.cells _ _ hx
     obtain ⟨y0, y1, y2⟩ := hr.cells _ _ hy
     generalize xs.getD (q) default = x at x0 x1 x2
     generalize xs.getD (h) default = y at y0 y1 y2
     replace x0 := cell_regrown x0
     replace x1 := cell_regrown x1
     replace x2 := cell_regrown x2
     replace y0 := cell_regrown y0
     replace y1 := cell_regrown y1
     replace y2 := cell_regrown y2
     have BK := qx1 x y
     clear hx hy hp hr hg hl
     generalize jg5 x.k y.k = cv at BK
     have HBK := Lib.hid BK
     clear BK
     go_wp2_with fail
     refine wp_region_quiet_below (by kernel_rfl) (by kernel_rfl) ?_
     repeat (go_big_quiet_step (first
      | (go_at_call 71; with_reducible exact Calls.regrown_of (HBK.out _))))
     refine wpQuiet_nil ?_
     intro wq hw'
     obtain ⟨⟨dq, osq⟩, hw''⟩ := hw'
     have HT2 : ST g rest xs0 w0 wq := hw'' ▸ HT.below (below_regrown wr dq osq)
     clear hw'' x0 x1 x2 y0 y1 y2 HT HBK
     clear hh hq
     generalize decide (cv < 0) = dv
     cases dv
     ·go_wp2_with fail
      go_roundw
      case rel => exact ⟨h + 1, r, by go_num, rfl, by omega, by omega, by omega, HT2⟩
      case measure => (simp [intOf]; try omega)
     ·go_wp2_with fail
      go_roundw
      case rel => exact ⟨s, h, rfl, rfl, by omega, by omega, by omega, HT2⟩
      case measure => (simp [intOf]; try omega)
    ·have hij2 : s = r := by omega
     subst hij2
     obtain ⟨ed, hed⟩ : ∃ q : Nat, (mid : Int) + (m : Int) - (s : Int) = (q : Int) := ⟨mid + m - s, by omega⟩
     have hed2 : ed + s = mid + m := by omega
     have HS := Lib.hid hs
     by_cases hA : s < m
     ·have hA0 : (s : Int) < (m : Int) := by omega
      have hA1 : (mid : Int) < (ed : Int) := by omega
      by_cases hB : s < mid
      ·have hB0 : (m : Int) < (ed : Int) := by omega
       have hB1 : (s : Int) < (mid : Int) := by omega
       by_cases hC : a < s
       ·have hC0 : (a : Int) < (s : Int) := by omega
        by_cases hD : ed < b
        ·have hD0 : (ed : Int) < (b : Int) := by omega
         clear hs
         go_wp2_with (first
          | (go_at_call 108; (with_reducible refine (HRO.out s m ed (by omega) (by omega) (by omega) _ HS.out).mono ?_); rintro e w1 ⟨rfl, h1⟩; replace HS := Lib.hid h1; clear h1)
          | (go_at_call 102; (with_reducible refine (IH.out a s mid (by omega) (by omega) (by omega) (by omega) _ HS.out).mono ?_); rintro e w2 ⟨rfl, h1⟩; replace HS := Lib.hid h1; clear h1)
          | (go_at_call 102; (with_reducible refine (IH.out mid ed b (by omega) (by omega) (by omega) (by omega) _ HS.out).mono ?_); rintro e w3 ⟨rfl, h1⟩; replace HS := Lib.hid h1; clear h1))
         all_goals
          go_end0
          exact ⟨rfl, HS.out⟩
        ·have hD0 : decide ((ed : Int) < (b : Int)) = false := decide_eq_false (by omega)
         clear hs
         go_wp2_with (first
          | (go_at_call 108; (with_reducible refine (HRO.out s m ed (by omega) (by omega) (by omega) _ HS.out).mono ?_); rintro e w1 ⟨rfl, h1⟩; replace HS := Lib.hid h1; clear h1)
          | (go_at_call 102; (with_reducible refine (IH.out a s mid (by omega) (by omega) (by omega) (by omega) _ HS.out).mono ?_); rintro e w2 ⟨rfl, h1⟩; replace HS := Lib.hid h1; clear h1)
          | (go_at_call 102; (with_reducible refine (IH.out mid ed b (by omega) (by omega) (by omega) (by omega) _ HS.out).mono ?_); rintro e w3 ⟨rfl, h1⟩; replace HS := Lib.hid h1; clear h1))
         all_goals
          go_end0
          exact ⟨rfl, HS.out⟩
       ·have hC0 : decide ((a : Int) < (s : Int)) = false := decide_eq_false (by omega)
        by_cases hD : ed < b
        ·have hD0 : (ed : Int) < (b : Int) := by omega
         clear hs
         go_wp2_with (first
          | (go_at_call 108; (with_reducible refine (HRO.out s m ed (by omega) (by omega) (by omega) _ HS.out).mono ?_); rintro e w1 ⟨rfl, h1⟩; replace HS := Lib.hid h1; clear h1)
          | (go_at_call 102; (with_reducible refine (IH.out a s mid (by omega) (by omega) (by omega) (by omega) _ HS.out).mono ?_); rintro e w2 ⟨rfl, h1⟩; replace HS := Lib.hid h1; clear h1)
          | (go_at_call 102; (with_reducible refine (IH.out mid ed b (by omega) (by omega) (by omega) (by omega) _ HS.out).mono ?_); rintro e w3 ⟨rfl, h1⟩; replace HS := Lib.hid h1; clear h1))
         all_goals
          go_end0
          exact ⟨rfl, HS.out⟩
        ·have hD0 : decide ((ed : Int) < (b : Int)) = false := decide_eq_false (by omega)
         clear hs
         go_wp2_with (first
          | (go_at_call 108; (with_reducible refine (HRO.out s m ed (by omega) (by omega) (by omega) _ HS.out).mono ?_); rintro e w1 ⟨rfl, h1⟩; replace HS := Lib.hid h1; clear h1)
          | (go_at_call 102; (with_reducible refine (IH.out a s mid (by omega) (by omega) (by omega) (by omega) _ HS.out).mono ?_); rintro e w2 ⟨rfl, h1⟩; replace HS := Lib.hid h1; clear h1)
          | (go_at_call 102; (with_reducible refine (IH.out mid ed b (by omega) (by omega) (by omega) (by omega) _ HS.out).mono ?_); rintro e w3 ⟨rfl, h1⟩; replace HS := Lib.hid h1; clear h1))
         all_goals
          go_end0
          exact ⟨rfl, HS.out⟩
      ·have hB0 : decide ((m : Int) < (ed : Int)) = false := decide_eq_false (by omega)
       have hB1 : decide ((s : Int) < (mid : Int)) = false := decide_eq_false (by omega)
       by_cases hC : a < s
       ·have hC0 : (a : Int) < (s : Int) := by omega
        by_cases hD : ed < b
        ·have hD0 : (ed : Int) < (b : Int) := by omega
         clear hs
         go_wp2_with (first
          | (go_at_call 108; (with_reducible refine (HRO.out s m ed (by omega) (by omega) (by omega) _ HS.out).mono ?_); rintro e w1 ⟨rfl, h1⟩; replace HS := Lib.hid h1; clear h1)
          | (go_at_call 102; (with_reducible refine (IH.out a s mid (by omega) (by omega) (by omega) (by omega) _ HS.out).mono ?_); rintro e w2 ⟨rfl, h1⟩; replace HS := Lib.hid h1; clear h1)
          | (go_at_call 102; (with_reducible refine (IH.out mid ed b (by omega) (by omega) (by omega) (by omega) _ HS.out).mono ?_); rintro e w3 ⟨rfl, h1⟩; replace HS := Lib.hid h1; clear h1))
         all_goals
          go_end0
          exact ⟨rfl, HS.out⟩
        ·have hD0 : decide ((ed : Int) < (b : Int)) = false := decide_eq_false (by omega)
         clear hs
         go_wp2_with (first
          | (go_at_call 108; (with_reducible refine (HRO.out s m ed (by omega) (by omega) (by omega) _ HS.out).mono ?_); rintro e w1 ⟨rfl, h1⟩; replace HS := Lib.hid h1; clear h1)
          | (go_at_call 102; (with_reducible refine (IH.out a s mid (by omega) (by omega) (by omega) (by omega) _ HS.out).mono ?_); rintro e w2 ⟨rfl, h1⟩; replace HS := Lib.hid h1; clear h1)
          | (go_at_call 102; (with_reducible refine (IH.out mid ed b (by omega) (by omega) (by omega) (by omega) _ HS.out).mono ?_); rintro e w3 ⟨rfl, h1⟩; replace HS := Lib.hid h1; clear h1))
         all_goals
          go_end0
          exact ⟨rfl, HS.out⟩
       ·have hC0 : decide ((a : Int) < (s : Int)) = false := decide_eq_false (by omega)
        by_cases hD : ed < b
        ·have hD0 : (ed : Int) < (b : Int) := by omega
         clear hs
         go_wp2_with (first
          | (go_at_call 108; (with_reducible refine (HRO.out s m ed (by omega) (by omega) (by omega) _ HS.out).mono ?_); rintro e w1 ⟨rfl, h1⟩; replace HS := Lib.hid h1; clear h1)
          | (go_at_call 102; (with_reducible refine (IH.out a s mid (by omega) (by omega) (by omega) (by omega) _ HS.out).mono ?_); rintro e w2 ⟨rfl, h1⟩; replace HS := Lib.hid h1; clear h1)
          | (go_at_call 102; (with_reducible refine (IH.out mid ed b (by omega) (by omega) (by omega) (by omega) _ HS.out).mono ?_); rintro e w3 ⟨rfl, h1⟩; replace HS := Lib.hid h1; clear h1))
         all_goals
          go_end0
          exact ⟨rfl, HS.out⟩
        ·have hD0 : decide ((ed : Int) < (b : Int)) = false := decide_eq_false (by omega)
         clear hs
         go_wp2_with (first
          | (go_at_call 108; (with_reducible refine (HRO.out s m ed (by omega) (by omega) (by omega) _ HS.out).mono ?_); rintro e w1 ⟨rfl, h1⟩; replace HS := Lib.hid h1; clear h1)
          | (go_at_call 102; (with_reducible refine (IH.out a s mid (by omega) (by omega) (by omega) (by omega) _ HS.out).mono ?_); rintro e w2 ⟨rfl, h1⟩; replace HS := Lib.hid h1; clear h1)
          | (go_at_call 102; (with_reducible refine (IH.out mid ed b (by omega) (by omega) (by omega) (by omega) _ HS.out).mono ?_); rintro e w3 ⟨rfl, h1⟩; replace HS := Lib.hid h1; clear h1))
         all_goals
          go_end0
          exact ⟨rfl, HS.out⟩
     ·have hA0 : decide ((s : Int) < (m : Int)) = false := decide_eq_false (by omega)
      have hA1 : decide ((mid : Int) < (ed : Int)) = false := decide_eq_false (by omega)
      by_cases hB : s < mid
      ·have hB0 : (m : Int) < (ed : Int) := by omega
       have hB1 : (s : Int) < (mid : Int) := by omega
       by_cases hC : a < s
       ·have hC0 : (a : Int) < (s : Int) := by omega
        by_cases hD : ed < b
        ·have hD0 : (ed : Int) < (b : Int) := by omega
         clear hs
         go_wp2_with (first
          | (go_at_call 108; (with_reducible refine (HRO.out s m ed (by omega) (by omega) (by omega) _ HS.out).mono ?_); rintro e w1 ⟨rfl, h1⟩; replace HS := Lib.hid h1; clear h1)
          | (go_at_call 102; (with_reducible refine (IH.out a s mid (by omega) (by omega) (by omega) (by omega) _ HS.out).mono ?_); rintro e w2 ⟨rfl, h1⟩; replace HS := Lib.hid h1; clear h1)
          | (go_at_call 102; (with_reducible refine (IH.out mid ed b (by omega) (by omega) (by omega) (by omega) _ HS.out).mono ?_); rintro e w3 ⟨rfl, h1⟩; replace HS := Lib.hid h1; clear h1))
         all_goals
          go_end0
          exact ⟨rfl, HS.out⟩
        ·have hD0 : decide ((ed : Int) < (b : Int)) = false := decide_eq_false (by omega)
         clear hs
         go_wp2_with (first
          | (go_at_call 108; (with_reducible refine (HRO.out s m ed (by omega) (by omega) (by omega) _ HS.out).mono ?_); rintro e w1 ⟨rfl, h1⟩; replace HS := Lib.hid h1; clear h1)
          | (go_at_call 102; (with_reducible refine (IH.out a s mid (by omega) (by omega) (by omega) (by omega) _ HS.out).mono ?_); rintro e w2 ⟨rfl, h1⟩; replace HS := Lib.hid h1; clear h1)
          | (go_at_call 102; (with_reducible refine (IH.out mid ed b (by omega) (by omega) (by omega) (by omega) _ HS.out).mono ?_); rintro e w3 ⟨rfl, h1⟩; replace HS := Lib.hid h1; clear h1))
         all_goals
          go_end0
          exact ⟨rfl, HS.out⟩
       ·have hC0 : decide ((a : Int) < (s : Int)) = false := decide_eq_false (by omega)
        by_cases hD : ed < b
        ·have hD0 : (ed : Int) < (b : Int) := by omega
         clear hs
         go_wp2_with (first
          | (go_at_call 108; (with_reducible refine (HRO.out s m ed (by omega) (by omega) (by omega) _ HS.out).mono ?_); rintro e w1 ⟨rfl, h1⟩; replace HS := Lib.hid h1; clear h1)
          | (go_at_call 102; (with_reducible refine (IH.out a s mid (by omega) (by omega) (by omega) (by omega) _ HS.out).mono ?_); rintro e w2 ⟨rfl, h1⟩; replace HS := Lib.hid h1; clear h1)
          | (go_at_call 102; (with_reducible refine (IH.out mid ed b (by omega) (by omega) (by omega) (by omega) _ HS.out).mono ?_); rintro e w3 ⟨rfl, h1⟩; replace HS := Lib.hid h1; clear h1))
         all_goals
          go_end0
          exact ⟨rfl, HS.out⟩
        ·have hD0 : decide ((ed : Int) < (b : Int)) = false := decide_eq_false (by omega)
         clear hs
         go_wp2_with (first
          | (go_at_call 108; (with_reducible refine (HRO.out s m ed (by omega) (by omega) (by omega) _ HS.out).mono ?_); rintro e w1 ⟨rfl, h1⟩; replace HS := Lib.hid h1; clear h1)
          | (go_at_call 102; (with_reducible refine (IH.out a s mid (by omega) (by omega) (by omega) (by omega) _ HS.out).mono ?_); rintro e w2 ⟨rfl, h1⟩; replace HS := Lib.hid h1; clear h1)
          | (go_at_call 102; (with_reducible refine (IH.out mid ed b (by omega) (by omega) (by omega) (by omega) _ HS.out).mono ?_); rintro e w3 ⟨rfl, h1⟩; replace HS := Lib.hid h1; clear h1))
         all_goals
          go_end0
          exact ⟨rfl, HS.out⟩
      ·have hB0 : decide ((m : Int) < (ed : Int)) = false := decide_eq_false (by omega)
       have hB1 : decide ((s : Int) < (mid : Int)) = false := decide_eq_false (by omega)
       by_cases hC : a < s
       ·have hC0 : (a : Int) < (s : Int) := by omega
        by_cases hD : ed < b
        ·have hD0 : (ed : Int) < (b : Int) := by omega
         clear hs
         go_wp2_with (first
          | (go_at_call 108; (with_reducible refine (HRO.out s m ed (by omega) (by omega) (by omega) _ HS.out).mono ?_); rintro e w1 ⟨rfl, h1⟩; replace HS := Lib.hid h1; clear h1)
          | (go_at_call 102; (with_reducible refine (IH.out a s mid (by omega) (by omega) (by omega) (by omega) _ HS.out).mono ?_); rintro e w2 ⟨rfl, h1⟩; replace HS := Lib.hid h1; clear h1)
          | (go_at_call 102; (with_reducible refine (IH.out mid ed b (by omega) (by omega) (by omega) (by omega) _ HS.out).mono ?_); rintro e w3 ⟨rfl, h1⟩; replace HS := Lib.hid h1; clear h1))
         all_goals
          go_end0
          exact ⟨rfl, HS.out⟩
        ·have hD0 : decide ((ed : Int) < (b : Int)) = false := decide_eq_false (by omega)
         clear hs
         go_wp2_with (first
          | (go_at_call 108; (with_reducible refine (HRO.out s m ed (by omega) (by omega) (by omega) _ HS.out).mono ?_); rintro e w1 ⟨rfl, h1⟩; replace HS := Lib.hid h1; clear h1)
          | (go_at_call 102; (with_reducible refine (IH.out a s mid (by omega) (by omega) (by omega) (by omega) _ HS.out).mono ?_); rintro e w2 ⟨rfl, h1⟩; replace HS := Lib.hid h1; clear h1)
          | (go_at_call 102; (with_reducible refine (IH.out mid ed b (by omega) (by omega) (by omega) (by omega) _ HS.out).mono ?_); rintro e w3 ⟨rfl, h1⟩; replace HS := Lib.hid h1; clear h1))
         all_goals
          go_end0
          exact ⟨rfl, HS.out⟩
       ·have hC0 : decide ((a : Int) < (s : Int)) = false := decide_eq_false (by omega)
        by_cases hD : ed < b
        ·have hD0 : (ed : Int) < (b : Int) := by omega
         clear hs
         go_wp2_with (first
          | (go_at_call 108; (with_reducible refine (HRO.out s m ed (by omega) (by omega) (by omega) _ HS.out).mono ?_); rintro e w1 ⟨rfl, h1⟩; replace HS := Lib.hid h1; clear h1)
          | (go_at_call 102; (with_reducible refine (IH.out a s mid (by omega) (by omega) (by omega) (by omega) _ HS.out).mono ?_); rintro e w2 ⟨rfl, h1⟩; replace HS := Lib.hid h1; clear h1)
          | (go_at_call 102; (with_reducible refine (IH.out mid ed b (by omega) (by omega) (by omega) (by omega) _ HS.out).mono ?_); rintro e w3 ⟨rfl, h1⟩; replace HS := Lib.hid h1; clear h1))
         all_goals
          go_end0
          exact ⟨rfl, HS.out⟩
        ·have hD0 : decide ((ed : Int) < (b : Int)) = false := decide_eq_false (by omega)
         clear hs
         go_wp2_with (first
          | (go_at_call 108; (with_reducible refine (HRO.out s m ed (by omega) (by omega) (by omega) _ HS.out).mono ?_); rintro e w1 ⟨rfl, h1⟩; replace HS := Lib.hid h1; clear h1)
          | (go_at_call 102; (with_reducible refine (IH.out a s mid (by omega) (by omega) (by omega) (by omega) _ HS.out).mono ?_); rintro e w2 ⟨rfl, h1⟩; replace HS := Lib.hid h1; clear h1)
          | (go_at_call 102; (with_reducible refine (IH.out mid ed b (by omega) (by omega) (by omega) (by omega) _ HS.out).mono ?_); rintro e w3 ⟨rfl, h1⟩; replace HS := Lib.hid h1; clear h1))
         all_goals
          go_end0
          exact ⟨rfl, HS.out⟩
end Go.Proofs.Ytngkneknopenmaa.qa9
end
section
namespace Go.Proofs.Ytngkneknopenmaa.qa9
open Go Go.RowKit
def Qp1 (g : Nat) (rest : List Value) (xs0 : List O3) (w0 : World) (N : Nat) (v u : Value) (wr : World) : Prop :=
 ∃ a : Nat, v = .int .i64 (a : Int) ∧ u = .int .i64 ((a : Int) + 20) ∧ a ≤ N ∧ ST g rest xs0 w0 wr
def Qp2 (g : Nat) (rest : List Value) (xs0 : List O3) (w0 : World) (N : Nat) (v : Value) (wr : World) : Prop :=
 ∃ s : Nat, v = .int .i64 (s : Int) ∧ 20 ≤ s ∧ s ≤ 2 * N + 20 ∧ ST g rest xs0 w0 wr
def Qp3 (g : Nat) (rest : List Value) (xs0 : List O3) (w0 : World) (N s : Nat) (v u : Value) (wr : World) : Prop :=
 ∃ a : Nat, v = .int .i64 (a : Int) ∧ u = .int .i64 ((a : Int) + 2 * (s : Int)) ∧ a ≤ N ∧ ST g rest xs0 w0 wr
set_option maxHeartbeats 4000000 in
set_option maxRecDepth 100000 in
theorem jJ2 (g cap : Nat) (rest : List Value) (xs0 : List O3) (hN : xs0.length < 1152921504606846976) (w0 w : World) (hw : ST g rest xs0 w0 w) :
  Calls Try.prog 85 #[.slice (some ⟨g, 0, none⟩) xs0.length cap, .int .i64 (xs0.length : Int), .func (.func 71) #[] #[]] w fun e w' => e = .returned (.tuple #[]) ∧ ST g rest xs0 w0 w' := by
 have IN := fun (a b : Nat) ha hb w hw => jj7 g cap rest xs0 a b (by omega) ha hb w0 w hw
 have ME := fun (a m b : Nat) ha hm hb w hw => jU7 g cap rest xs0 (by omega) w0 (b - a) a m b (Nat.le_refl _) ha hm hb w hw
 obtain ⟨N, hNl⟩ : ∃ N, xs0.length = N := ⟨_, rfl⟩
 rw [hNl] at hN IN ME ⊢
 have HIN := Lib.hid IN
 have HME := Lib.hid ME
 clear hNl IN ME
 go_enter Try.func85, Try.ntmps85
 go_wp2_with fail
 go_loopw [7, 8] (fun v u wr => Qp1 g rest xs0 w0 N v u wr) (fun v _ _ => N - (intOf v).toNat)
 case atStart => exact ⟨0, rfl, by go_num, Nat.zero_le _, hw⟩
 case round =>
  clear hw
  obtain ⟨a, rfl, rfl, haN, hs⟩ := hrel
  have HS := Lib.hid hs
  clear hs
  by_cases hb : a + 20 ≤ N
  ·have hbz : (a : Int) + 20 ≤ (N : Int) := by omega
   obtain ⟨q, q1⟩ : ∃ q : Nat, (a : Int) + 20 = (q : Int) := ⟨a + 20, by omega⟩
   rw [q1] at hbz
   go_wp2_with (go_at_call 101; (with_reducible refine (HIN.out a q (by omega) (by omega) _ HS.out).mono ?_); rintro e w1 ⟨rfl, h1⟩)
   go_roundw
   case rel => exact ⟨q, rfl, by go_num, by omega, h1⟩
   case measure => (simp [intOf]; try omega)
  ·have hbz : decide ((a : Int) + 20 ≤ (N : Int)) = false := decide_eq_false (by omega)
   go_wp2_with (go_at_call 101; (with_reducible refine (HIN.out a N (by omega) (by omega) _ HS.out).mono ?_); rintro e w1 ⟨rfl, h1⟩)
   clear hbz
   go_loopw [6] (fun v wr => Qp2 g rest xs0 w0 N v wr) (fun v _ => 2 * N + 20 - (intOf v).toNat)
   case atStart => exact ⟨20, rfl, by omega, by omega, h1⟩
   case round =>
    clear h1 HS
    obtain ⟨s, rfl, hs20, hsN, hs⟩ := hrel
    by_cases hsl : s < N
    ·have hsz : (s : Int) < (N : Int) := by omega
     go_wp2_with fail
     go_loopw [7, 8] (fun v u wr => Qp3 g rest xs0 w0 N s v u wr) (fun v _ _ => N - (intOf v).toNat)
     case atStart => exact ⟨0, rfl, by go_num, Nat.zero_le _, hs⟩
     case round =>
      clear hs
      rename_i a0 _ _ _
      obtain ⟨a, rfl, rfl, haN, hs⟩ := hrel
      have HS := Lib.hid hs
      clear hs
      by_cases hb : a + 2 * s ≤ N
      ·have hbz : (a : Int) + 2 * (s : Int) ≤ (N : Int) := by omega
       obtain ⟨q, q1⟩ : ∃ q : Nat, (a : Int) + 2 * (s : Int) = (q : Int) := ⟨a + 2 * s, by omega⟩
       obtain ⟨p, q2⟩ : ∃ q : Nat, (a : Int) + (s : Int) = (q : Int) := ⟨a + s, by omega⟩
       rw [q1] at hbz
       go_wp2_with (go_at_call 102; (with_reducible refine (HME.out a p q (by omega) (by omega) (by omega) _ HS.out).mono ?_); rintro e w1 ⟨rfl, h1⟩)
       go_roundw
       case rel => exact ⟨q, rfl, by go_num, by omega, h1⟩
       case measure => (simp [intOf]; try omega)
      ·have hbz : decide ((a : Int) + 2 * (s : Int) ≤ (N : Int)) = false := decide_eq_false (by omega)
       obtain ⟨p, q2⟩ : ∃ q : Nat, (a : Int) + (s : Int) = (q : Int) := ⟨a + s, by omega⟩
       by_cases hm : p < N
       ·have hmz : (p : Int) < (N : Int) := by omega
        go_wp2_with (go_at_call 102; (with_reducible refine (HME.out a p N (by omega) (by omega) (by omega) _ HS.out).mono ?_); rintro e w1 ⟨rfl, h1⟩)
        go_roundw
        case rel => exact ⟨s * 2, by go_num, by omega, by omega, h1⟩
        case measure => (simp [intOf]; try omega)
       ·have hmz : decide ((p : Int) < (N : Int)) = false := decide_eq_false (by omega)
        go_wp2_with fail
        go_roundw
        case rel => exact ⟨s * 2, by go_num, by omega, by omega, HS.out⟩
        case measure => (simp [intOf]; try omega)
    ·have hsz : decide ((s : Int) < (N : Int)) = false := decide_eq_false (by omega)
     go_wp2_with fail
     go_end0
     exact ⟨rfl, hs⟩
theorem jg6 (g cap : Nat) (rest : List Value) (xs0 : List O3) (hN : xs0.length < 1152921504606846976) (w0 w : World) (hw : ST g rest xs0 w0 w) :
  Calls Try.prog 70 #[.slice (some ⟨g, 0, none⟩) xs0.length cap, .func (.func 71) #[] #[]] w fun e w' => e = .returned (.tuple #[]) ∧ ST g rest xs0 w0 w' := by
 have H := jJ2 g cap rest xs0 hN w0 w hw
 generalize xs0.length = N at hN H ⊢
 go_enter Try.func70, Try.ntmps70
 go_wp2_with fail
 refine H.mono ?_
 rintro e w1 ⟨rfl, h1⟩
 go_wp2_with fail
 go_end0
 exact ⟨rfl, h1⟩
theorem jU8 (g cap : Nat) (rest : List Value) (xs0 : List O3) (hN : xs0.length < 1152921504606846976) (w0 w : World) (hw : ST g rest xs0 w0 w) :
  Calls Try.prog 56 #[.slice (some ⟨g, 0, none⟩) xs0.length cap] w fun e w' => e = .returned (.slice (some ⟨g, 0, none⟩) xs0.length cap) ∧ ST g rest xs0 w0 w' := by
 have H := jg6 g cap rest xs0 hN w0 w hw
 generalize xs0.length = N at hN H ⊢
 go_enter Try.func56, Try.ntmps56
 go_wp2_with fail
 refine H.mono ?_
 rintro e w1 ⟨rfl, h1⟩
 go_wp2_with fail
 go_ret
 exact ⟨rfl, h1⟩
end Go.Proofs.Ytngkneknopenmaa.qa9
end
