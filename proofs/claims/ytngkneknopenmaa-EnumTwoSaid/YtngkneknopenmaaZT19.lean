/- qr3 of this claim, joined by a program of this session: the zS that its theorem uses. -/
import Derived.Test.YtngkneknopenmaaZT4
import Derived.Test.YtngkneknopenmaaZT13
import Derived.Test.YtngkneknopenmaaZT14
import Derived.Deep.Slices
import Derived.Deep.Strs
import Derived.WalkKit
import Derived.ProofKit
import Derived.SizedLaws
set_option linter.unusedVariables false
set_option linter.unusedSimpArgs false
section
namespace Go.Proofs.Ytngkneknopenmaa.zM
open Go Go.RowKit Go.Proofs.Ytngkneknopenmaa Go.Proofs.Ytngkneknopenmaa.qa9
theorem count_le {B : Nat} : ∀ {h : List T4}, (∀ t ∈ h, t.ops.length ≤ B) → jL h ≤ h.length * B
 | [], _ => by simp [jL]
 | t :: r, hb => by
  have h1 := hb t (by simp)
  have h2 := count_le (h := r) fun u hu => hb u (by simp [hu])
  have e : jL (t :: r) = t.ops.length + jL r := by simp [jL]
  rw [e, List.length_cons, Nat.add_mul]
  omega
theorem zA7 {h : List T4} (hc : zT h = 0) : ∀ t ∈ h, t.ops.length ≤ 64 := by
 intro t ht
 obtain ⟨_, _, _, _, _, _, h7, _⟩ := (qk9 t).1 ((qi9 hc).2.2.1 t ht)
 omega
theorem Qn9 {w : World} {A : Option Addr} {h : List T4} (hr : RdT w A h) (hc : zT h = 0) : CT w A h :=
 jq5 hr (by have := (qi9 hc).1; omega) (fun t ht => by have := zA7 hc t ht; omega)
theorem Qo0 {h : List T4} (hc : zT h = 0) : Sm h := ⟨by have := (qi9 hc).1; omega, by have := (qi9 hc).2.1; omega⟩
end Go.Proofs.Ytngkneknopenmaa.zM
end
section
namespace Go.Proofs.Ytngkneknopenmaa.zM
open Go Go.Lib Go.RowKit Go.Proofs.Ytngkneknopenmaa Go.Proofs.Ytngkneknopenmaa.qa9
theorem zp2 {w : World} {A : Option Addr} {h : List T4} (k : CT w A h) : RdT w A h := by have := zA8 k; rwa [jT8] at this
attribute [local go_sem high] K.zz1
set_option maxHeartbeats 8000000 in
set_option maxRecDepth 100000 in
theorem jh7 {A B : Option Addr} {c d : Nat} {a b : List T4} {w : World} (hra : RdT w A a) (hc : a.length ≤ c) (ha : a.length ≤ 1000) (hoa : ∀ t ∈ a, t.ops.length ≤ 100000) (hrb : RdT w B b) (hd : b.length ≤ d) :
  Calls Try.prog 59 #[.slice A a.length c, .slice B b.length d] w fun e w' => e = .returned (.bool (decide (a = b))) ∧ Below w.heap.size w w' := by
 obtain ⟨n, hn⟩ : ∃ n, a.length = n := ⟨_, rfl⟩
 obtain ⟨m, hm⟩ : ∃ n, b.length = n := ⟨_, rfl⟩
 rw [hn] at hc ha ⊢
 rw [hm] at hd ⊢
 have HN := Lib.hid hn
 have HM := Lib.hid hm
 have HA := Lib.hid hra
 have HB := Lib.hid hrb
 have HO := Lib.hid hoa
 clear hra hrb hoa hn hm
 go_enter Try.func59, Try.ntmps59
 by_cases hnm : n = m
 ·subst hnm
  go_wp2_with fail
  go_loopw [5] (fun v wr => ∃ i : Nat, i ≤ n ∧ v = .int .i64 ((i : Nat) : Int) ∧ a.take i = b.take i ∧ Below w.heap.size w wr) (fun v _ => n - (intOf v).toNat)
  case atStart => exact ⟨0, Nat.zero_le _, rfl, rfl, Below.refl _ _⟩
  case round =>
   obtain ⟨i, hi, rfl, htk, hb⟩ := hrel
   have HTK := Lib.hid htk
   have HBr := Lib.hid hb
   clear htk
   by_cases hlt : i < n
   ·have hltz : (i : Int) < (n : Int) := by omega
    obtain ⟨ad, rfl, hca⟩ := HA.out (by rw [HN.out]; omega)
    obtain ⟨bd, rfl, hcb⟩ := HB.out (by rw [HM.out]; omega)
    obtain ⟨t, ht⟩ : ∃ t, a[i]? = some t := ⟨_, List.getElem?_eq_getElem (by rw [HN.out]; exact hlt)⟩
    obtain ⟨u, hu⟩ : ∃ t, b[i]? = some t := ⟨_, List.getElem?_eq_getElem (by rw [HM.out]; exact hlt)⟩
    obtain ⟨A3, c3, y0, y1, y2, y3, hl3, hro⟩ := hca i t ht
    obtain ⟨B3, d3, x0, x1, x2, x3, hm3, hru⟩ := hcb i u hu
    have HY := Lib.hid y3
    have HX := Lib.hid x3
    have hno := HO.out t (List.mem_of_getElem? ht)
    have HNE := Lib.hid (fun h => Qm9 ht hu h)
    have HSN := Lib.hid (show t = u → a.take (i + 1) = b.take (i + 1) by intro e; rw [List.take_add_one, List.take_add_one, ht, hu, HTK.out, e])
    have HRO := Lib.hid hro
    have HRU := Lib.hid hru
    clear hca hcb ht hu hro hru
    obtain ⟨ts, tb, tc, zm3⟩ := t
    obtain ⟨us, ub, uc, zm2⟩ := u
    dsimp only at y0 y1 y2 y3 x0 x1 x2 x3 hl3 hm3 hno HRO HRU HY HX
    obtain ⟨no, hno'⟩ : ∃ q, zm3.length = q := ⟨_, rfl⟩
    obtain ⟨mo, Qc3⟩ : ∃ q, zm2.length = q := ⟨_, rfl⟩
    rw [hno'] at y3 hl3 hno HY
    rw [Qc3] at x3 hm3 HX
    have HNO := Lib.hid hno'
    have HMO := Lib.hid Qc3
    have z0 := fun dq os => cell_regrown (cell_below hb y0) dq os
    have z1 := fun dq os => cell_regrown (cell_below hb y1) dq os
    have z2 := fun dq os => cell_regrown (cell_below hb y2) dq os
    have z3 := fun dq os => cell_regrown (cell_below hb y3) dq os
    have v0 := fun dq os => cell_regrown (cell_below hb x0) dq os
    have v1 := fun dq os => cell_regrown (cell_below hb x1) dq os
    have v2 := fun dq os => cell_regrown (cell_below hb x2) dq os
    have v3 := fun dq os => cell_regrown (cell_below hb x3) dq os
    clear hno' Qc3 hb y0 y1 y2 y3 x0 x1 x2 x3
    go_upto_region 6 with fail
    by_cases p1 : ts = us
    ·subst p1
     by_cases p2 : tb = ub
     ·subst p2
      by_cases p3 : tc = uc
      ·subst p3
       by_cases p4 : no = mo
       ·subst p4
        refine wp_region_quiet_below (by kernel_rfl) (by kernel_rfl) ?_
        repeat (go_big_quiet_step (fail))
        refine wpQuiet_nil ?_
        intro w9 hw'
        obtain ⟨⟨dq, osq⟩, hw''⟩ := hw'
        have hb9 : Below w.heap.size w w9 := hw'' ▸ (HBr.out.trans ((below_regrown _ dq osq).mono HBr.out.size))
        have HB9 := Lib.hid hb9
        clear hw'' z0 z1 z2 z3 v0 v1 v2 v3 hb9
        go_wp2_with fail
        go_loopw [6] (fun v ws => ∃ j : Nat, j ≤ no ∧ v = .int .i64 ((j : Nat) : Int) ∧ zm3.take j = zm2.take j ∧ Below w.heap.size w ws) (fun v _ => no - (intOf v).toNat)
        case atStart => exact ⟨0, Nat.zero_le _, rfl, rfl, HB9.out⟩
        case round =>
         rename World => ws
         obtain ⟨j, hj, rfl, htj, hb⟩ := hrel
         have HTJ := Lib.hid htj
         clear htj
         have HBs := Lib.hid hb
         have y3 := cell_below hb HY.out
         by_cases hjt : j < no
         ·have hjz : (j : Int) < (no : Int) := by omega
          obtain ⟨ao, rfl, hco⟩ := HRO.out (by rw [HNO.out]; omega)
          obtain ⟨bo, rfl, hdo⟩ := HRU.out (by rw [HMO.out]; omega)
          obtain ⟨o, ho⟩ : ∃ o, zm3[j]? = some o := ⟨_, List.getElem?_eq_getElem (by rw [HNO.out]; exact hjt)⟩
          obtain ⟨p, hp⟩ : ∃ o, zm2[j]? = some o := ⟨_, List.getElem?_eq_getElem (by rw [HMO.out]; exact hjt)⟩
          obtain ⟨y0, y1, y2⟩ := hco j o ho
          obtain ⟨x0, x1, x2⟩ := hdo j p hp
          have z0 := fun dq os => cell_regrown (cell_below hb y0) dq os
          have z1 := fun dq os => cell_regrown (cell_below hb y1) dq os
          have z2 := fun dq os => cell_regrown (cell_below hb y2) dq os
          have z3 := fun dq os => cell_regrown y3 dq os
          have v0 := fun dq os => cell_regrown (cell_below hb x0) dq os
          have v1 := fun dq os => cell_regrown (cell_below hb x1) dq os
          have v2 := fun dq os => cell_regrown (cell_below hb x2) dq os
          have v3 := fun dq os => cell_regrown (cell_below hb HX.out) dq os
          have HSJ := Lib.hid (show o = p → zm3.take (j + 1) = zm2.take (j + 1) by intro e; rw [List.take_add_one, List.take_add_one, ho, hp, HTJ.out, e])
          have HNO' := Lib.hid (show o ≠ p → zm3 ≠ zm2 from fun h e => by rw [e, hp] at ho; exact h (Option.some.inj ho).symm)
          clear hb hco hdo ho hp y0 y1 y2 x0 x1 x2
          obtain ⟨ow, ok, ov⟩ := o
          obtain ⟨pw, pk, pv⟩ := p
          dsimp only at z0 z1 z2 v0 v1 v2
          obtain ⟨q, hq⟩ : ∃ q, decide ((⟨ow, ok, ov⟩ : O3) = ⟨pw, pk, pv⟩) = q := ⟨_, rfl⟩
          have hqq := (decO ow pw ok pk ov pv).trans hq
          have HQ := Lib.hid hq
          clear hq
          go_upto_region 11 with fail
          clear y3
          cases q with
          | false =>
           have HF := Lib.hid (HNE.out (fun e => HNO'.out (of_decide_eq_false HQ.out) (congrArg T4.ops e)))
           refine wp_region_quiet_below (by kernel_rfl) (by kernel_rfl) ?_
           repeat (go_big_quiet_step (fail))
           refine wpQuiet_nil ?_
           intro w9 hw'
           obtain ⟨⟨dq, osq⟩, hw''⟩ := hw'
           have g9 : Below w.heap.size w w9 := hw'' ▸ (HBs.out.trans ((below_regrown _ dq osq).mono HBs.out.size))
           clear hw''
           go_wp2_with fail
           go_ret
           exact ⟨by rw [HF.out]; rfl, g9⟩
          | true =>
           have HT := Lib.hid (HSJ.out (of_decide_eq_true HQ.out))
           refine wp_region_quiet_below (by kernel_rfl) (by kernel_rfl) ?_
           repeat (go_big_quiet_step (fail))
           refine wpQuiet_nil ?_
           intro w9 hw'
           obtain ⟨⟨dq, osq⟩, hw''⟩ := hw'
           have g9 : Below w.heap.size w w9 := hw'' ▸ (HBs.out.trans ((below_regrown _ dq osq).mono HBs.out.size))
           clear hw''
           go_wp2_with fail
           go_roundw
           case rel => exact ⟨j + 1, by omega, by go_num, HT.out, g9⟩
           case measure => (simp [intOf]; try omega)
         ·have hjn : j = no := by omega
          subst hjn
          have HT := Lib.hid (HSN.out (by
           have := HTJ.out
           rw [List.take_of_length_le (by rw [HNO.out]; exact Nat.le_refl _), List.take_of_length_le (by rw [HMO.out]; exact Nat.le_refl _)] at this
           rw [this]))
          clear hb
          go_wp2_with fail
          go_roundw
          case rel => exact ⟨i + 1, by omega, by go_num, HT.out, HBs.out⟩
          case measure => (simp [intOf]; try omega)
       ·have q4 : ((no : Int) != (mo : Int)) = true := by simp; omega
        have HF := Lib.hid (HNE.out (fun e => p4 (by rw [← HNO.out, ← HMO.out]; exact congrArg (·.ops.length) e)))
        refine wp_region_quiet_below (by kernel_rfl) (by kernel_rfl) ?_
        repeat (go_big_quiet_step (fail))
        refine wpQuiet_nil ?_
        intro w9 hw'
        obtain ⟨⟨dq, osq⟩, hw''⟩ := hw'
        have g9 : Below w.heap.size w w9 := hw'' ▸ (HBr.out.trans ((below_regrown _ dq osq).mono HBr.out.size))
        clear hw''
        go_wp2_with fail
        go_ret
        exact ⟨by rw [HF.out]; rfl, g9⟩
      ·have q3 : (tc != uc) = true := by simp [p3]
       have HF := Lib.hid (HNE.out (fun e => p3 (congrArg T4.c e)))
       refine wp_region_quiet_below (by kernel_rfl) (by kernel_rfl) ?_
       repeat (go_big_quiet_step (fail))
       refine wpQuiet_nil ?_
       intro w9 hw'
       obtain ⟨⟨dq, osq⟩, hw''⟩ := hw'
       have g9 : Below w.heap.size w w9 := hw'' ▸ (HBr.out.trans ((below_regrown _ dq osq).mono HBr.out.size))
       clear hw''
       go_wp2_with fail
       go_ret
       exact ⟨by rw [HF.out]; rfl, g9⟩
     ·have q2 : (tb != ub) = true := by simp [p2]
      have HF := Lib.hid (HNE.out (fun e => p2 (congrArg T4.b e)))
      refine wp_region_quiet_below (by kernel_rfl) (by kernel_rfl) ?_
      repeat (go_big_quiet_step (fail))
      refine wpQuiet_nil ?_
      intro w9 hw'
      obtain ⟨⟨dq, osq⟩, hw''⟩ := hw'
      have g9 : Below w.heap.size w w9 := hw'' ▸ (HBr.out.trans ((below_regrown _ dq osq).mono HBr.out.size))
      clear hw''
      go_wp2_with fail
      go_ret
      exact ⟨by rw [HF.out]; rfl, g9⟩
    ·have q1 : (ts != us) = true := by simp [p1]
     have HF := Lib.hid (HNE.out (fun e => p1 (congrArg T4.s e)))
     refine wp_region_quiet_below (by kernel_rfl) (by kernel_rfl) ?_
     repeat (go_big_quiet_step (fail))
     refine wpQuiet_nil ?_
     intro w9 hw'
     obtain ⟨⟨dq, osq⟩, hw''⟩ := hw'
     have g9 : Below w.heap.size w w9 := hw'' ▸ (HBr.out.trans ((below_regrown _ dq osq).mono HBr.out.size))
     clear hw''
     go_wp2_with fail
     go_ret
     exact ⟨by rw [HF.out]; rfl, g9⟩
   ·have hin : i = n := by omega
    subst hin
    have hab : a = b := by
     have := HTK.out
     rwa [List.take_of_length_le (by rw [HN.out]; exact Nat.le_refl _), List.take_of_length_le (by rw [HM.out]; exact Nat.le_refl _)] at this
    have HF := Lib.hid (decide_eq_true hab)
    clear hab
    go_wp2_with fail
    go_ret
    exact ⟨by rw [HF.out]; rfl, hb⟩
 ·have hq : ((n : Int) != (m : Int)) = true := by simp; omega
  have HF := Lib.hid (show decide (a = b) = false from decide_eq_false fun e => hnm (by rw [← HN.out, ← HM.out, e]))
  go_wp2_with fail
  go_ret
  exact ⟨by rw [HF.out]; rfl, Below.refl _ _⟩
def isR (h : List T4) : Bool := decide (zT h = 0) && decide (zU h = h)
set_option maxHeartbeats 4000000 in
set_option maxRecDepth 100000 in
theorem zc0 {A : Option Addr} {c : Nat} {h : List T4} {w : World} (hr : RdT w A h) (hc : h.length ≤ c) (hl : h.length ≤ 1000) (ho : ∀ t ∈ h, t.ops.length ≤ 1000) :
  Calls Try.prog 35 #[.slice A h.length c] w fun e w' => e = .returned (.bool (isR h)) ∧ Below w.heap.size w w' := by
 have hcnt := count_le ho
 have hrf := zm4 A c h hc (by omega) (by have : h.length * 1000 ≤ 1000 * 1000 := Nat.mul_le_mul_right _ hl; omega) w hr
 rw [zm5] at hrf
 obtain ⟨n, hn⟩ : ∃ n, h.length = n := ⟨_, rfl⟩
 obtain ⟨cz, hcz⟩ : ∃ c, zT h = c := ⟨_, rfl⟩
 rw [hn, hcz] at hrf
 have HRF := Lib.hid hrf
 have HCZ := Lib.hid hcz
 have HN := Lib.hid hn
 have HR := Lib.hid hr
 have HCAP := Lib.hid hc
 have hl2 : n ≤ 1000 := by omega
 rw [hn]
 clear hrf hcz hn hr hc ho hcnt
 go_enter Try.func35, Try.ntmps35
 by_cases hc : cz = 0
 ·subst hc
  have hro := fun (w1 : World) (hb1 : Below w.heap.size w w1) => zL0 (w := w1) (Qn9 (HR.out.below hb1) HCZ.out) HCAP.out (Qo0 HCZ.out) (qi9 HCZ.out).2.2
  obtain ⟨x, hx⟩ : ∃ x, zU h = x := ⟨_, rfl⟩
  have hxl : x.length = n := by rw [← hx, qP8, HN.out]
  rw [hx, HN.out, hxl] at hro
  have HRO := Lib.hid hro
  obtain ⟨q, hq⟩ : ∃ q, decide (x = h) = q := ⟨_, rfl⟩
  have hcx := jN5 HCZ.out
  rw [hx] at hcx
  have HSM := Lib.hid (fun (w2 : World) (A3 : Option Addr) (c3 : Nat) (hb2 : Below w.heap.size w w2) (hc3 : n ≤ c3) (hk : CT w2 A3 x) => by
   have := jh7 (w := w2) (a := x) (b := h) (zp2 hk) (by rw [hxl]; exact hc3) (by omega) (fun t ht => Nat.le_trans (zA7 hcx t ht) (by omega)) (HR.out.below hb2) HCAP.out
   rw [hq, hxl, HN.out] at this
   exact this)
  have HF := Lib.hid (show isR h = q by unfold isR; rw [HCZ.out, hx, hq]; simp)
  clear hro hx hxl hq hcx
  go_wp2_with (first
   | (go_at_call 14; (with_reducible refine HRF.out.mono ?_); rintro e w1 ⟨rfl, hb1⟩; have HB1 := Lib.hid hb1; clear hb1)
   | (go_at_call 17; (with_reducible refine (HRO.out _ HB1.out).mono ?_); rintro e w2 ⟨A3, c3, rfl, ⟨hc3, hk3⟩, hb2⟩; have HB2 := Lib.hid (HB1.out.trans (hb2.mono HB1.out.size)); have HK3 := Lib.hid (show n ≤ c3 ∧ CT w2 A3 x from ⟨hc3, hk3⟩); clear hb2 hc3 hk3)
   | (go_at_call 59; (with_reducible refine (HSM.out _ _ _ HB2.out HK3.out.1 HK3.out.2).mono ?_); rintro e w3 ⟨rfl, hb3⟩; have HB3 := Lib.hid (HB2.out.trans (hb3.mono HB2.out.size)); clear hb3))
  go_ret
  exact ⟨by rw [HF.out]; rfl, HB3.out⟩
 ·have hq : (cz == 0) = false := by simp [hc]
  have HF := Lib.hid (show isR h = false by unfold isR; rw [HCZ.out]; simp [hc])
  go_wp2_with (go_at_call 14; (with_reducible refine HRF.out.mono ?_); rintro e w1 ⟨rfl, hb1⟩; have HB1 := Lib.hid hb1; clear hb1)
  go_ret
  exact ⟨by rw [HF.out]; rfl, HB1.out⟩
end Go.Proofs.Ytngkneknopenmaa.zM
end
