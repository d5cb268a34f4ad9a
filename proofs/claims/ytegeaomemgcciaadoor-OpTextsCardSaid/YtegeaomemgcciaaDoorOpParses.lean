/- OpParses, walked: which operation any line of at most 500 bytes is. -/
import Derived.Test.YtegeaomemgcciaaDoorOpWalk
import Derived.Test.YtegeaomemgcciaaDoorOpKinds
import Derived.Deep.RegionWith
import Derived.Deep.QuietTactic
import Derived.BigQuiet
import Derived.Deep.RegionHeld3
import Derived.StillTailTactics
namespace Go.Proofs.YtegeaomemgcciaaDoor.OpParses
open Go Go.Lib Go.RowKit Go.Proofs.YtegeaomemgcciaaDoor Go.Proofs.YtegeaomemgcciaaDoor.Hand Go.Proofs.YtegeaomemgcciaaDoor.Plain Go.Proofs.YtegeaomemgcciaaDoor.Q Go.Proofs.YtegeaomemgcciaaDoorW.PrintWords

/-- The reference's words, as a contract. -/
theorem wordsR_any (s : ByteArray) (hs : s.size ≤ 140737488) (r : ByteArray × List Int × Bool) (hr : wordsP s 2 = r) (w : World) (HY : Laid w) :
    Calls Tryd.prog 15 #[.string s, .int .i64 2] w fun e w' => ∃ v1_ : Value, e = .returned (.tuple #[.string r.1, v1_, .bool r.2.2]) ∧ Kd.R (Kd.int .i64) 3 w' w.heap.size (fun _ => True) v1_ r.2.1 ∧ Below w.heap.size w w' :=
  burgageref03_Words.calls (s.size + 70) s 2 _ _ _ w (by rw [words_ref s 2 (by omega) (by omega) hs _ (Nat.le_refl _), hr]) HY

theorem parseR_any (s : ByteArray) (hs : s.size ≤ 140737488) (b : Bool) (key val : Int) (ok : Bool) (hr : opParse s = (b, key, val, ok)) (w : World) (HY : Laid w) :
    Calls Tryd.prog 18 #[.string s] w fun e w' => e = .returned (.tuple #[.agg #[.bool b, .int .i64 key, .int .i64 val], .bool ok]) ∧ Below w.heap.size w w' := by
  have := parse_any s hs w HY
  rw [hr] at this
  exact this

theorem mayR_any (b : Bool) (key val : Int) (r : Bool) (h : rightB b key val = r) (w : World) (HY : Laid w) : Calls Tryd.prog 21 #[.agg #[.bool b, .int .i64 key, .int .i64 val]] w fun e w' => e = .returned (.bool r) ∧ Below w.heap.size w w' := by
  have := may_any b key val w HY
  rw [h] at this
  exact this

theorem textR_any (b : Bool) (key val : Int) (s : ByteArray) (h : mkB (opText b key val) = s) (hk : -9223372036854775808 ≤ key ∧ key ≤ 9223372036854775807 ∧ -9223372036854775808 ≤ val ∧ val ≤ 9223372036854775807) (w : World) (HY : Laid w) :
    Calls Tryd.prog 19 #[.agg #[.bool b, .int .i64 key, .int .i64 val]] w fun e w' => e = .returned (.string s) ∧ Below w.heap.size w w' := by
  have := text_any b key val hk.1 hk.2.1 hk.2.2.1 hk.2.2.2 w HY
  rw [h] at this
  exact this

theorem two_cells {W : World} {B : Nat} {v : Value} {k x : Int} (h : Kd.R (Kd.int .i64) 3 W B (fun _ => True) v [k, x]) :
    ∃ g c, v = .slice (some ⟨g, 0, none⟩) 2 c ∧ 2 ≤ c ∧ B ≤ g ∧ g < W.heap.size ∧ W.cell? ⟨g, 0, none⟩ = some (.int .i64 k) ∧ W.cell? ⟨g, 1, none⟩ = some (.int .i64 x) := by
  obtain ⟨g, c, hv, hB, hlt, _⟩ := Kd.R_form h (by simp)
  subst hv
  obtain ⟨_, hc, hr⟩ := Kd.R_reads' h
  obtain ⟨ad, e0, c0⟩ := Kd.at_int hr 0 (by omega) (by simp)
  obtain ⟨ad1, e1, c1⟩ := Kd.at_int hr 1 (by omega) (by simp)
  cases e0
  cases e1
  exact ⟨g, c, rfl, hc, hB, hlt, by simpa [rd, Addr.add] using c0, by simpa [rd, Addr.add] using c1⟩

set_option maxHeartbeats 1000000 in
set_option maxRecDepth 100000 in
theorem walk_r (s : ByteArray) (hs : s.size ≤ 500) (k x : Int) (hw : wordsP s 2 = (⟨#[114]⟩, [k, x], true)) (hm : rightB false k x = true) (hp : opParse s = (false, k, x, true)) (ht : mkB (opText false k x) = s) (w : World) (HY : Laid w) :
    Calls Tryd.prog 7 #[.string s] w fun e w' => e = .returned (.bool true) ∧ Below w.heap.size w w' := by
  have HW := Lib.hid hw
  have HM := Lib.hid hm
  have HP := Lib.hid hp
  have HT := Lib.hid ht
  have hkx : -9223372036854775808 ≤ k ∧ k ≤ 9223372036854775807 ∧ -9223372036854775808 ≤ x ∧ x ≤ 9223372036854775807 := by unfold rightB at hm; rw [decide_eq_true_iff] at hm; omega
  have HKX := Lib.hid hkx
  clear hw hm hp ht hkx
  go_enter Tryd.func7, Tryd.ntmps7
  go_wp2_with fail
  refine (speaks_any _ HY).mono ?_
  rintro e w1 ⟨rfl, h1⟩
  go_wp2_with fail
  refine (parseR_any s (by omega) false k x true HP.out _ (HY.below h1)).mono ?_
  rintro e w2 ⟨rfl, h2⟩
  have g2 : Below w.heap.size w w2 := h1.trans (h2.mono h1.size)
  go_wp2_with fail
  obtain ⟨W, hW⟩ : ∃ W, w2.alloc (.cells #[.bool false, .int .i64 k, .int .i64 x] 35) = W := ⟨_, rfl⟩
  have gW : Below w.heap.size w W := hW ▸ (g2.alloc g2.size _)
  have B1 : W.heap[w2.heap.size]? = some (.cells #[.bool false, .int .i64 k, .int .i64 x] 35) := by
    rw [← hW]; exact alloc_at w2 _
  rw [hW]
  clear hW
  refine (wordsR_any s (by omega) _ HW.out _ (HY.below gW)).mono ?_
  rintro e w3 ⟨v, rfl, hv, h3⟩
  have g3 : Below w.heap.size w w3 := gW.trans (h3.mono gW.size)
  have B3 := Plain.blk_below B1 h3
  obtain ⟨g, c, rfl, hc, hB, hlt, c0, c1⟩ := two_cells hv
  clear hv
  go_wp2_with fail
  have HY3 := HY.below g3
  go_still_tail 19, (by kernel_rfl)
  go_wp2_with fail
  have k3 : Below w3.heap.size w3 w3.drew := (Below.refl _ _).drew
  refine (mayR_any false k x true HM.out _ (HY3.below k3)).mono ?_
  rintro e w4 ⟨rfl, k4'⟩
  have k4 : Below w3.heap.size w3 w4 := k3.trans k4'
  clear k4' k3
  have g4 : Below w.heap.size w w4 := g3.trans (k4.mono g3.size)
  have B4 := Plain.blk_below B3 k4
  have c0' := (k4.cell (p := ⟨g, 0, none⟩) hlt).trans c0
  have c1' := (k4.cell (p := ⟨g, 1, none⟩) hlt).trans c1
  obtain ⟨o0, o1, o2⟩ := OpKinds.op_cells B4
  clear c0 c1
  go_wp2_with fail
  have HY4 := HY.below g4
  have hl2 : w2.heap.size < w4.heap.size := (Array.getElem?_eq_some_iff.1 B4).1
  have hl4 : g < w4.heap.size := Nat.lt_of_lt_of_le hlt k4.size
  go_region_held3 (fun w' => w'.cell? ⟨w2.heap.size, 0, none⟩ = some (.bool false) ∧ w'.cell? ⟨w2.heap.size, 1, none⟩ = some (.int .i64 k) ∧ w'.cell? ⟨w2.heap.size, 2, none⟩ = some (.int .i64 x) ∧ w'.cell? ⟨g, 0, none⟩ = some (.int .i64 k) ∧ w'.cell? ⟨g, 1, none⟩ = some (.int .i64 x) ∧ Below w4.heap.size w4 w') (repeat' (first | assumption | exact Below.refl _ _ | (apply Below.drew) | apply And.intro | (simp [*]; done)))
    (first | (go_at_call 19; refine (textR_any false k x s HT.out HKX.out _ (HY4.below ((Below.refl _ w4).drew))).mono ?_; rintro e w5 ⟨rfl, k5⟩; have kk5 : Below w4.heap.size w4 w5 := ((Below.refl _ w4).drew).trans k5; have q0 := (kk5.cell (p := ⟨w2.heap.size, 0, none⟩) hl2).trans o0; have q1 := (kk5.cell (p := ⟨w2.heap.size, 1, none⟩) hl2).trans o1; have q2 := (kk5.cell (p := ⟨w2.heap.size, 2, none⟩) hl2).trans o2; have q3 := (kk5.cell (p := ⟨g, 0, none⟩) hl4).trans c0'; have q4 := (kk5.cell (p := ⟨g, 1, none⟩) hl4).trans c1'))
  go_wp2_with fail
  go_ret
  exact ⟨rfl, g4.trans (kk5.mono g4.size)⟩

set_option maxHeartbeats 1000000 in
set_option maxRecDepth 100000 in
theorem walk_w (s : ByteArray) (hs : s.size ≤ 500) (k x : Int) (hw : wordsP s 2 = (⟨#[119]⟩, [k, x], true)) (hm : rightB true k x = true) (hp : opParse s = (true, k, x, true)) (ht : mkB (opText true k x) = s) (w : World) (HY : Laid w) :
    Calls Tryd.prog 7 #[.string s] w fun e w' => e = .returned (.bool true) ∧ Below w.heap.size w w' := by
  have HW := Lib.hid hw
  have HM := Lib.hid hm
  have HP := Lib.hid hp
  have HT := Lib.hid ht
  have hkx : -9223372036854775808 ≤ k ∧ k ≤ 9223372036854775807 ∧ -9223372036854775808 ≤ x ∧ x ≤ 9223372036854775807 := by unfold rightB at hm; rw [decide_eq_true_iff] at hm; omega
  have HKX := Lib.hid hkx
  clear hw hm hp ht hkx
  go_enter Tryd.func7, Tryd.ntmps7
  go_wp2_with fail
  refine (speaks_any _ HY).mono ?_
  rintro e w1 ⟨rfl, h1⟩
  go_wp2_with fail
  refine (parseR_any s (by omega) true k x true HP.out _ (HY.below h1)).mono ?_
  rintro e w2 ⟨rfl, h2⟩
  have g2 : Below w.heap.size w w2 := h1.trans (h2.mono h1.size)
  go_wp2_with fail
  obtain ⟨W, hW⟩ : ∃ W, w2.alloc (.cells #[.bool true, .int .i64 k, .int .i64 x] 35) = W := ⟨_, rfl⟩
  have gW : Below w.heap.size w W := hW ▸ (g2.alloc g2.size _)
  have B1 : W.heap[w2.heap.size]? = some (.cells #[.bool true, .int .i64 k, .int .i64 x] 35) := by
    rw [← hW]; exact alloc_at w2 _
  rw [hW]
  clear hW
  refine (wordsR_any s (by omega) _ HW.out _ (HY.below gW)).mono ?_
  rintro e w3 ⟨v, rfl, hv, h3⟩
  have g3 : Below w.heap.size w w3 := gW.trans (h3.mono gW.size)
  have B3 := Plain.blk_below B1 h3
  obtain ⟨g, c, rfl, hc, hB, hlt, c0, c1⟩ := two_cells hv
  clear hv
  go_wp2_with fail
  have HY3 := HY.below g3
  go_still_tail 19, (by kernel_rfl)
  go_wp2_with fail
  have k3 : Below w3.heap.size w3 w3.drew := (Below.refl _ _).drew
  refine (mayR_any true k x true HM.out _ (HY3.below k3)).mono ?_
  rintro e w4 ⟨rfl, k4'⟩
  have k4 : Below w3.heap.size w3 w4 := k3.trans k4'
  clear k4' k3
  have g4 : Below w.heap.size w w4 := g3.trans (k4.mono g3.size)
  have B4 := Plain.blk_below B3 k4
  have c0' := (k4.cell (p := ⟨g, 0, none⟩) hlt).trans c0
  have c1' := (k4.cell (p := ⟨g, 1, none⟩) hlt).trans c1
  obtain ⟨o0, o1, o2⟩ := OpKinds.op_cells B4
  clear c0 c1
  go_wp2_with fail
  have HY4 := HY.below g4
  have hl2 : w2.heap.size < w4.heap.size := (Array.getElem?_eq_some_iff.1 B4).1
  have hl4 : g < w4.heap.size := Nat.lt_of_lt_of_le hlt k4.size
  go_region_held3 (fun w' => w'.cell? ⟨w2.heap.size, 0, none⟩ = some (.bool true) ∧ w'.cell? ⟨w2.heap.size, 1, none⟩ = some (.int .i64 k) ∧ w'.cell? ⟨w2.heap.size, 2, none⟩ = some (.int .i64 x) ∧ w'.cell? ⟨g, 0, none⟩ = some (.int .i64 k) ∧ w'.cell? ⟨g, 1, none⟩ = some (.int .i64 x) ∧ Below w4.heap.size w4 w') (repeat' (first | assumption | exact Below.refl _ _ | (apply Below.drew) | apply And.intro | (simp [*]; done)))
    (first | (go_at_call 19; refine (textR_any true k x s HT.out HKX.out _ (HY4.below ((Below.refl _ w4).drew))).mono ?_; rintro e w5 ⟨rfl, k5⟩; have kk5 : Below w4.heap.size w4 w5 := ((Below.refl _ w4).drew).trans k5; have q0 := (kk5.cell (p := ⟨w2.heap.size, 0, none⟩) hl2).trans o0; have q1 := (kk5.cell (p := ⟨w2.heap.size, 1, none⟩) hl2).trans o1; have q2 := (kk5.cell (p := ⟨w2.heap.size, 2, none⟩) hl2).trans o2; have q3 := (kk5.cell (p := ⟨g, 0, none⟩) hl4).trans c0'; have q4 := (kk5.cell (p := ⟨g, 1, none⟩) hl4).trans c1'))
  go_wp2_with fail
  go_ret
  exact ⟨rfl, g4.trans (kk5.mono g4.size)⟩

set_option maxHeartbeats 1000000 in
set_option maxRecDepth 100000 in
theorem walk_none (s : ByteArray) (hs : s.size ≤ 500) (hw : wordsP s 2 = (⟨#[]⟩, [], false)) (hp : opParse s = (false, 0, 0, false)) (w : World) (HY : Laid w) :
    Calls Tryd.prog 7 #[.string s] w fun e w' => e = .returned (.bool true) ∧ Below w.heap.size w w' := by
  have HW := Lib.hid hw
  have HP := Lib.hid hp
  clear hw hp
  go_enter Tryd.func7, Tryd.ntmps7
  go_wp2_with fail
  refine (speaks_any _ HY).mono ?_
  rintro e w1 ⟨rfl, h1⟩
  go_wp2_with fail
  refine (parseR_any s (by omega) false 0 0 false HP.out _ (HY.below h1)).mono ?_
  rintro e w2 ⟨rfl, h2⟩
  have g2 : Below w.heap.size w w2 := h1.trans (h2.mono h1.size)
  go_wp2_with fail
  obtain ⟨W, hW⟩ : ∃ W, w2.alloc (.cells #[.bool false, .int .i64 0, .int .i64 0] 35) = W := ⟨_, rfl⟩
  have gW : Below w.heap.size w W := hW ▸ (g2.alloc g2.size _)
  have B1 : W.heap[w2.heap.size]? = some (.cells #[.bool false, .int .i64 0, .int .i64 0] 35) := by
    rw [← hW]; exact alloc_at w2 _
  rw [hW]
  clear hW
  refine (wordsR_any s (by omega) _ HW.out _ (HY.below gW)).mono ?_
  rintro e w3 ⟨v, rfl, hv, h3⟩
  have g3 : Below w.heap.size w w3 := gW.trans (h3.mono gW.size)
  have B3 := Plain.blk_below B1 h3
  obtain ⟨o0, o1, o2⟩ := OpKinds.op_cells B3
  go_wp2_with fail
  go_quiet (fail)
  go_wp2_with fail
  go_ret
  exact ⟨rfl, below_drewN g3 _⟩

set_option maxHeartbeats 1000000 in
set_option maxRecDepth 100000 in
theorem walk_other (s : ByteArray) (hs : s.size ≤ 500) (wd : ByteArray) (l : List Int) (hw : wordsP s 2 = (wd, l, true)) (e1 : (wd.toList == [114]) = false) (e2 : (wd.toList == [119]) = false) (hp : opParse s = (false, 0, 0, false)) (w : World) (HY : Laid w) :
    Calls Tryd.prog 7 #[.string s] w fun e w' => e = .returned (.bool true) ∧ Below w.heap.size w w' := by
  have HW := Lib.hid hw
  have HP := Lib.hid hp
  clear hw hp
  go_enter Tryd.func7, Tryd.ntmps7
  go_wp2_with fail
  refine (speaks_any _ HY).mono ?_
  rintro e w1 ⟨rfl, h1⟩
  go_wp2_with fail
  refine (parseR_any s (by omega) false 0 0 false HP.out _ (HY.below h1)).mono ?_
  rintro e w2 ⟨rfl, h2⟩
  have g2 : Below w.heap.size w w2 := h1.trans (h2.mono h1.size)
  go_wp2_with fail
  obtain ⟨W, hW⟩ : ∃ W, w2.alloc (.cells #[.bool false, .int .i64 0, .int .i64 0] 35) = W := ⟨_, rfl⟩
  have gW : Below w.heap.size w W := hW ▸ (g2.alloc g2.size _)
  have B1 : W.heap[w2.heap.size]? = some (.cells #[.bool false, .int .i64 0, .int .i64 0] 35) := by
    rw [← hW]; exact alloc_at w2 _
  rw [hW]
  clear hW
  refine (wordsR_any s (by omega) _ HW.out _ (HY.below gW)).mono ?_
  rintro e w3 ⟨v, rfl, hv, h3⟩
  have g3 : Below w.heap.size w w3 := gW.trans (h3.mono gW.size)
  have B3 := Plain.blk_below B1 h3
  obtain ⟨o0, o1, o2⟩ := OpKinds.op_cells B3
  go_wp2_with fail
  go_quiet (fail)
  go_wp2_with fail
  go_ret
  exact ⟨rfl, below_drewN g3 _⟩

set_option maxHeartbeats 1000000 in
set_option maxRecDepth 100000 in
theorem walk_rn (s : ByteArray) (hs : s.size ≤ 500) (k x : Int) (hw : wordsP s 2 = (⟨#[114]⟩, [k, x], true)) (hm : rightB false k x = false) (hp : opParse s = (false, 0, 0, false)) (w : World) (HY : Laid w) :
    Calls Tryd.prog 7 #[.string s] w fun e w' => e = .returned (.bool true) ∧ Below w.heap.size w w' := by
  have HW := Lib.hid hw
  have HP := Lib.hid hp
  have HM := Lib.hid hm
  clear hw hp hm
  go_enter Tryd.func7, Tryd.ntmps7
  go_wp2_with fail
  refine (speaks_any _ HY).mono ?_
  rintro e w1 ⟨rfl, h1⟩
  go_wp2_with fail
  refine (parseR_any s (by omega) false 0 0 false HP.out _ (HY.below h1)).mono ?_
  rintro e w2 ⟨rfl, h2⟩
  have g2 : Below w.heap.size w w2 := h1.trans (h2.mono h1.size)
  go_wp2_with fail
  obtain ⟨W, hW⟩ : ∃ W, w2.alloc (.cells #[.bool false, .int .i64 0, .int .i64 0] 35) = W := ⟨_, rfl⟩
  have gW : Below w.heap.size w W := hW ▸ (g2.alloc g2.size _)
  have B1 : W.heap[w2.heap.size]? = some (.cells #[.bool false, .int .i64 0, .int .i64 0] 35) := by
    rw [← hW]; exact alloc_at w2 _
  rw [hW]
  clear hW
  refine (wordsR_any s (by omega) _ HW.out _ (HY.below gW)).mono ?_
  rintro e w3 ⟨v, rfl, hv, h3⟩
  have g3 : Below w.heap.size w w3 := gW.trans (h3.mono gW.size)
  have B3 := Plain.blk_below B1 h3
  obtain ⟨g, c, rfl, hc, hB, hlt, c0, c1⟩ := two_cells hv
  clear hv
  go_wp2_with fail
  have HY3 := HY.below g3
  go_still_tail 19, (by kernel_rfl)
  go_wp2_with fail
  have k3 : Below w3.heap.size w3 w3.drew := (Below.refl _ _).drew
  refine (mayR_any false k x false HM.out _ (HY3.below k3)).mono ?_
  rintro e w4 ⟨rfl, k4'⟩
  have k4 : Below w3.heap.size w3 w4 := k3.trans k4'
  clear k4' k3
  have g4 : Below w.heap.size w w4 := g3.trans (k4.mono g3.size)
  have B4 := Plain.blk_below B3 k4
  obtain ⟨o0, o1, o2⟩ := OpKinds.op_cells B4
  clear c0 c1
  go_wp2_with fail
  go_ret
  exact ⟨rfl, g4⟩

set_option maxHeartbeats 1000000 in
set_option maxRecDepth 100000 in
theorem walk_wn (s : ByteArray) (hs : s.size ≤ 500) (k x : Int) (hw : wordsP s 2 = (⟨#[119]⟩, [k, x], true)) (hm : rightB true k x = false) (hp : opParse s = (false, 0, 0, false)) (w : World) (HY : Laid w) :
    Calls Tryd.prog 7 #[.string s] w fun e w' => e = .returned (.bool true) ∧ Below w.heap.size w w' := by
  have HW := Lib.hid hw
  have HP := Lib.hid hp
  have HM := Lib.hid hm
  clear hw hp hm
  go_enter Tryd.func7, Tryd.ntmps7
  go_wp2_with fail
  refine (speaks_any _ HY).mono ?_
  rintro e w1 ⟨rfl, h1⟩
  go_wp2_with fail
  refine (parseR_any s (by omega) false 0 0 false HP.out _ (HY.below h1)).mono ?_
  rintro e w2 ⟨rfl, h2⟩
  have g2 : Below w.heap.size w w2 := h1.trans (h2.mono h1.size)
  go_wp2_with fail
  obtain ⟨W, hW⟩ : ∃ W, w2.alloc (.cells #[.bool false, .int .i64 0, .int .i64 0] 35) = W := ⟨_, rfl⟩
  have gW : Below w.heap.size w W := hW ▸ (g2.alloc g2.size _)
  have B1 : W.heap[w2.heap.size]? = some (.cells #[.bool false, .int .i64 0, .int .i64 0] 35) := by
    rw [← hW]; exact alloc_at w2 _
  rw [hW]
  clear hW
  refine (wordsR_any s (by omega) _ HW.out _ (HY.below gW)).mono ?_
  rintro e w3 ⟨v, rfl, hv, h3⟩
  have g3 : Below w.heap.size w w3 := gW.trans (h3.mono gW.size)
  have B3 := Plain.blk_below B1 h3
  obtain ⟨g, c, rfl, hc, hB, hlt, c0, c1⟩ := two_cells hv
  clear hv
  go_wp2_with fail
  have HY3 := HY.below g3
  go_still_tail 19, (by kernel_rfl)
  go_wp2_with fail
  have k3 : Below w3.heap.size w3 w3.drew := (Below.refl _ _).drew
  refine (mayR_any true k x false HM.out _ (HY3.below k3)).mono ?_
  rintro e w4 ⟨rfl, k4'⟩
  have k4 : Below w3.heap.size w3 w4 := k3.trans k4'
  clear k4' k3
  have g4 : Below w.heap.size w w4 := g3.trans (k4.mono g3.size)
  have B4 := Plain.blk_below B3 k4
  obtain ⟨o0, o1, o2⟩ := OpKinds.op_cells B4
  clear c0 c1
  go_wp2_with fail
  go_ret
  exact ⟨rfl, g4⟩

set_option maxRecDepth 100000 in
theorem walk_long (s : ByteArray) (hs : 500 < s.size) (hb : s.size ≤ 140737488351232) (w : World) (HY : Laid w) :
    Calls Tryd.prog 7 #[.string s] w fun e w' => e = .returned (.bool true) ∧ Below w.heap.size w w' := by
  go_enter Tryd.func7, Tryd.ntmps7
  go_wp2_with fail
  refine (speaks_any _ HY).mono ?_
  rintro e w1 ⟨rfl, h1⟩
  go_wp2_with fail
  go_ret
  exact ⟨rfl, h1⟩

/-- Pieces, put together again. -/
def joinC (c : UInt8) : List (List UInt8) → List UInt8
  | [] => []
  | [p] => p
  | p :: q :: r => p ++ c :: joinC c (q :: r)

theorem joinC_cutL (c : UInt8) : ∀ l : List UInt8, joinC c (cutL c l) = l
  | [] => rfl
  | x :: r => by
    have ih := joinC_cutL c r
    have hne := cutL_ne c r
    unfold cutL
    split
    · rename_i h
      cases hc : cutL c r with
      | nil => exact absurd hc hne
      | cons p q => rw [hc] at ih; show [] ++ c :: joinC c (p :: q) = x :: r; rw [ih, h]; rfl
    · cases hc : cutL c r with
      | nil => exact absurd hc hne
      | cons p q =>
        rw [hc] at ih
        show joinC c ((x :: p) :: q) = x :: r
        rw [← ih]
        cases q <;> rfl

theorem words_text (s : ByteArray) (wd : ByteArray) (k x : Int) (h : wordsP s 2 = (wd, [k, x], true)) : s = mkB (wd.data.toList ++ tailL [k, x]) := by
  unfold wordsP at h
  split at h
  · rename_i hc
    obtain ⟨hl, hall⟩ := hc
    have hd := pieces_data s
    have hj := joinC_cutL 32 s.data.toList
    rw [← hd] at hj
    generalize pieces s = ps at *
    match ps, hl with
    | [p, q, r], _ =>
      simp only [List.headD_cons, List.tail_cons, numsOf, List.map_cons, List.map_nil, Prod.mk.injEq, List.cons.injEq, and_true] at h
      obtain ⟨rfl, rfl, rfl⟩ := h
      unfold allNum at hall
      simp only [List.tail_cons, List.all_cons, List.all_nil, Bool.and_true, Bool.and_eq_true] at hall
      have num : ∀ z : ByteArray, (numI z).2 = true → z.data.toList = itoa (numI z).1 := by
        intro z hz
        unfold numI at hz ⊢
        cases hp : numP z.data.toList with
        | none => rw [hp] at hz; simp at hz
        | some u => simp only; rw [itoa_nat]; exact (numP_some hp).2
      rw [← ba_mk s, ← hj]
      unfold mkB tailL joinC
      simp only [List.map_cons, List.map_nil, List.flatMap_cons, List.flatMap_nil]
      unfold joinC joinC
      rw [← num q hall.1, ← num r hall.2]
      simp
    | [], h | [_], h | [_, _], h => simp at h
    | _ :: _ :: _ :: _ :: _, h => simp at h; omega
  · simp at h

theorem walk_any (s : ByteArray) (hb : s.size ≤ 140737488351232) (w : World) (HY : Laid w) :
    Calls Tryd.prog 7 #[.string s] w fun e w' => e = .returned (.bool true) ∧ Below w.heap.size w w' := by
  by_cases hs : s.size ≤ 500
  · obtain ⟨⟨wd, l, b⟩, hw⟩ : ∃ r, wordsP s 2 = r := ⟨_, rfl⟩
    have hl := words_two s
    rw [hw] at hl
    simp only at hl
    cases b with
    | false =>
      have e : wordsP s 2 = (⟨#[]⟩, [], false) := by
        unfold wordsP at hw ⊢
        split at hw
        · simp at hw
        · rename_i h; rw [if_neg h]
      exact walk_none s hs e (by unfold opParse; rw [e]; rfl) w HY
    | true =>
      obtain ⟨k, x, rfl⟩ : ∃ k x, l = [k, x] := by
        match l, hl rfl with
        | [k, x], _ => exact ⟨k, x, rfl⟩
      have htext := words_text s wd k x hw
      by_cases h1 : wd.data.toList = [114]
      · obtain rfl : wd = ⟨#[114]⟩ := ba_ext h1
        cases hm : rightB false k x with
        | true => exact walk_r s hs k x hw hm (by unfold opParse; rw [hw]; simp only; rw [if_pos ⟨trivial, .inl trivial, hm⟩]; rfl) (by rw [htext]; rfl) w HY
        | false => exact walk_rn s hs k x hw hm (by unfold opParse; rw [hw]; simp only; rw [if_neg (fun h => by have h3 : rightB false k x = true := h.2.2; rw [hm] at h3; cases h3)]) w HY
      · by_cases h2 : wd.data.toList = [119]
        · obtain rfl : wd = ⟨#[119]⟩ := ba_ext h2
          cases hm : rightB true k x with
          | true => exact walk_w s hs k x hw hm (by unfold opParse; rw [hw]; simp only; rw [if_pos ⟨trivial, .inr trivial, hm⟩]; rfl) (by rw [htext]; rfl) w HY
          | false => exact walk_wn s hs k x hw hm (by unfold opParse; rw [hw]; simp only; rw [if_neg (fun h => by have h3 : rightB true k x = true := h.2.2; rw [hm] at h3; cases h3)]) w HY
        · refine walk_other s hs wd [k, x] hw (by rw [toList_data]; simpa using h1) (by rw [toList_data]; simpa using h2) ?_ w HY
          unfold opParse
          rw [hw]
          simp only
          rw [if_neg (fun h => by rcases h.2.1 with h | h; exact h1 h; exact h2 h)]
  · exact walk_long s (by omega) hb w HY

theorem walk_row (s : ByteArray) (w : World) (hb : s.size ≤ 140737488351232) (HY : Laid w) :
    Calls Tryd.prog 7 #[.string s] w fun e w' => e = .returned (.bool true) ∧ Below w.heap.size w w' := walk_any s hb w HY

end Go.Proofs.YtegeaomemgcciaaDoor.OpParses
