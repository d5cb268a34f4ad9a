/- Texts of this claim, joined by a program of this session: the declarations that its theorem uses. -/
import Derived.Test.YtngkneknopenmaaZN17
import Derived.Test.YtngkneknopenmaaZN18
section
namespace Go.Proofs.Ytngkneknopenmaa.Hist
open Go Go.RowKit Go.Proofs.Ytngkneknopenmaa Go.Proofs.Ytngkneknopenmaa.Row3
theorem count_le {B : Nat} : ∀ {h : List T4}, (∀ t ∈ h, t.ops.length ≤ B) → qar h ≤ h.length * B
 | [], _ => by simp [qar]
 | t :: r, hb => by
  have h1 := hb t (by simp)
  have h2 := count_le (h := r) fun u hu => hb u (by simp [hu])
  have e : qar (t :: r) = t.ops.length + qar r := by simp [qar]
  rw [e, List.length_cons, Nat.add_mul]
  omega
theorem sameF_of {h y : List T4} (hc : qa3 h = 0) (hy : qa3 y = 0) (e : qbg y = qbg h) : sameF h y = true := by
 unfold sameF
 rw [if_pos hc, if_pos hy, ofF_yes hc, ofF_yes hy, e]
 exact decide_eq_true rfl
theorem ops64 {h : List T4} (hc : qa3 h = 0) : ∀ t ∈ h, t.ops.length ≤ 64 := by
 intro t ht
 obtain ⟨_, _, _, _, _, _, h7, _⟩ := (rightT_iff t).1 ((check_zero' hc).2.2.1 t ht)
 omega
theorem ct_of {w : World} {A : Option Addr} {h : List T4} (hr : RdT w A h) (hc : qa3 h = 0) : CT w A h :=
 C_of_RdT hr (by have := (check_zero' hc).1; omega) (fun t ht => by have := ops64 hc t ht; omega)
theorem sm_of {h : List T4} (hc : qa3 h = 0) : Sm h := ⟨by have := (check_zero' hc).1; omega, by have := (check_zero' hc).2.1; omega⟩
theorem sm_canon {h : List T4} (hc : qa3 h = 0) : Sm (qbg h) := Sm.canon (sm_of hc)
set_option maxHeartbeats 16000000 in
set_option maxRecDepth 100000 in
theorem canonNames_walk (A : Option Addr) (cap : Nat) (h : List T4) (A0 : Option Addr) (c0 : Nat) (l0 : List (Int × Int)) (A1 : Option Addr) (c1 : Nat) (l1 : List (Int × Int)) (A2 : Option Addr) (c2 : Nat) (l2 : List (Int × Int)) (A3 : Option Addr) (c3 : Nat) (l3 : List (Int × Int)) (A4 : Option Addr) (c4 : Nat) (l4 : List Int) (w : World)
  (hr : RdT w A h) (hcap : h.length ≤ cap) (hl : h.length ≤ 2932031007317) (hw : ∀ t ∈ h, WfT t)
  (r0 : RdP w A0 l0) (z0 : l0.length ≤ 8796093022209) (w0 : ∀ p ∈ l0, Wf p.1 ∧ Wf p.2) (r1 : RdP w A1 l1) (z1 : l1.length ≤ 8796093022209) (w1 : ∀ p ∈ l1, Wf p.1 ∧ Wf p.2) (r2 : RdP w A2 l2) (z2 : l2.length ≤ 8796093022209) (w2 : ∀ p ∈ l2, Wf p.1 ∧ Wf p.2) (r3 : RdP w A3 l3) (z3 : l3.length ≤ 8796093022209) (w3 : ∀ p ∈ l3, Wf p.1 ∧ Wf p.2)
  (r4 : RdI w A4 l4) (d4 : l4.length ≤ c4) (z4 : l4.length ≤ 17592186044419) :
  Calls Try.prog 5 #[.slice A h.length cap, .agg #[.slice A0 l0.length c0, .slice A1 l1.length c1, .slice A2 l2.length c2, .slice A3 l3.length c3, .slice A4 l4.length c4]] w fun e w' => e = .returned (.bool true) ∧ Below w.heap.size w w' := by
 obtain ⟨n, hn⟩ : ∃ n, h.length = n := ⟨_, rfl⟩
 obtain ⟨n0, e0⟩ : ∃ n, l0.length = n := ⟨_, rfl⟩
 obtain ⟨n1, e1⟩ : ∃ n, l1.length = n := ⟨_, rfl⟩
 obtain ⟨n2, e2⟩ : ∃ n, l2.length = n := ⟨_, rfl⟩
 obtain ⟨n3, e3⟩ : ∃ n, l3.length = n := ⟨_, rfl⟩
 obtain ⟨n4, e4⟩ : ∃ n, l4.length = n := ⟨_, rfl⟩
 have HO := Lib.hid (fun t ht => (hw t ht).2.2.2.1 : ∀ t ∈ h, t.ops.length ≤ 5864062014634)
 have HN := Lib.hid hn
 have HR := Lib.hid hr
 have HCAP := Lib.hid hcap
 have hbe := (Below.refl w.heap.size w).alloc (Nat.le_refl _) (.cells #[.slice A0 n0 c0, .slice A1 n1 c1, .slice A2 n2 c2, .slice A3 n3 c3, .slice A4 n4 c4] 31)
 have hbx := alloc_at w (.cells #[.slice A0 n0 c0, .slice A1 n1 c1, .slice A2 n2 c2, .slice A3 n3 c3, .slice A4 n4 c4] 31)
 obtain ⟨W, hW⟩ : ∃ W, w.alloc (.cells #[.slice A0 n0 c0, .slice A1 n1 c1, .slice A2 n2 c2, .slice A3 n3 c3, .slice A4 n4 c4] 31) = W := ⟨_, rfl⟩
 rw [hW] at hbe hbx
 have HB := Lib.hid hbe
 have HBX := Lib.hid hbx
 have HSP := Lib.hid (speaks_calls W)
 have HE := Lib.hid (show l0.length = n0 ∧ l1.length = n1 ∧ l2.length = n2 ∧ l3.length = n3 ∧ l4.length = n4 ∧ n4 ≤ c4 from ⟨e0, e1, e2, e3, e4, by omega⟩)
 have HP := Lib.hid (show RdP w A0 l0 ∧ RdP w A1 l1 ∧ RdP w A2 l2 ∧ RdP w A3 l3 ∧ RdI w A4 l4 from ⟨r0, r1, r2, r3, r4⟩)
 have HW := Lib.hid (show (∀ p ∈ l0, Wf p.1 ∧ Wf p.2) ∧ (∀ p ∈ l1, Wf p.1 ∧ Wf p.2) ∧ (∀ p ∈ l2, Wf p.1 ∧ Wf p.2) ∧ ∀ p ∈ l3, Wf p.1 ∧ Wf p.2 from ⟨w0, w1, w2, w3⟩)
 rw [e0] at z0
 rw [e1] at z1
 rw [e2] at z2
 rw [e3] at z3
 rw [e4] at z4
 rw [hn, e0, e1, e2, e3, e4]
 have hl' : n ≤ 2932031007317 := by rw [← hn]; exact hl
 clear hr hcap hl hw r0 r1 r2 r3 r4 w0 w1 w2 w3 d4 e0 e1 e2 e3 e4 hn hbe hbx
 go_enter Try.func5, Try.ntmps5
 go_upto_region 3 with (go_at_call 11; (with_reducible refine HSP.out.mono ?_); rintro e v1 ⟨rfl, hb1⟩)
 have HB1 := Lib.hid (HB.out.trans (hb1.mono HB.out.size))
 have hbx1 := (hb1.block _ (Array.getElem?_eq_some_iff.1 HBX.out).1).trans HBX.out
 have HBX1 := Lib.hid hbx1
 clear hb1 hbx1 HSP HBX hW
 by_cases h8 : (8 : Int) < (n : Int)
 ·go_wp2_with fail
  go_ret
  exact ⟨rfl, HB1.out⟩
 ·have hn8 : n ≤ 8 := by omega
  have hrf := ref_calls A cap h HCAP.out (by rw [HN.out]; omega) (by have := count_le HO.out; rw [HN.out] at this; omega) v1 (HR.out.below HB1.out)
  rw [ref_check, HN.out] at hrf
  obtain ⟨cz, hcz⟩ : ∃ c, qa3 h = c := ⟨_, rfl⟩
  rw [hcz] at hrf
  have HRF := Lib.hid hrf
  have HCZ := Lib.hid hcz
  clear hrf hcz
  by_cases hc : cz = 0
  ·subst hc
   by_cases hs : (200 : Int) < (n0 : Int) + (n1 : Int) + (n2 : Int) + (n3 : Int)
   ·go_wp2_with (go_at_call 14; (with_reducible refine HRF.out.mono ?_); rintro e v2 ⟨rfl, hb2⟩; have HB2 := Lib.hid (HB1.out.trans (hb2.mono HB1.out.size)); have hbx2 := (hb2.block _ (Array.getElem?_eq_some_iff.1 HBX1.out).1).trans HBX1.out; have x0 := Lib.cell_of_heap hbx2 0; have x1 := Lib.cell_of_heap hbx2 1; have x2 := Lib.cell_of_heap hbx2 2; have x3 := Lib.cell_of_heap hbx2 3; have x4 := Lib.cell_of_heap hbx2 4; simp only [List.getElem?_toArray, List.getElem?_cons_zero, List.getElem?_cons_succ] at x0 x1 x2 x3 x4; have HBX2 := Lib.hid hbx2; clear hb2 hbx2)
    go_ret
    exact ⟨rfl, HB2.out⟩
   ·by_cases h4 : (50 : Int) < (n4 : Int)
    ·go_wp2_with (go_at_call 14; (with_reducible refine HRF.out.mono ?_); rintro e v2 ⟨rfl, hb2⟩; have HB2 := Lib.hid (HB1.out.trans (hb2.mono HB1.out.size)); have hbx2 := (hb2.block _ (Array.getElem?_eq_some_iff.1 HBX1.out).1).trans HBX1.out; have x0 := Lib.cell_of_heap hbx2 0; have x1 := Lib.cell_of_heap hbx2 1; have x2 := Lib.cell_of_heap hbx2 2; have x3 := Lib.cell_of_heap hbx2 3; have x4 := Lib.cell_of_heap hbx2 4; simp only [List.getElem?_toArray, List.getElem?_cons_zero, List.getElem?_cons_succ] at x0 x1 x2 x3 x4; have HBX2 := Lib.hid hbx2; clear hb2 hbx2)
     go_ret
     exact ⟨rfl, HB2.out⟩
    ·go_upto_region 5 with (go_at_call 14; (with_reducible refine HRF.out.mono ?_); rintro e v2 ⟨rfl, hb2⟩; have HB2 := Lib.hid (HB1.out.trans (hb2.mono HB1.out.size)); have hbx2 := (hb2.block _ (Array.getElem?_eq_some_iff.1 HBX1.out).1).trans HBX1.out; have x0 := Lib.cell_of_heap hbx2 0; have x1 := Lib.cell_of_heap hbx2 1; have x2 := Lib.cell_of_heap hbx2 2; have x3 := Lib.cell_of_heap hbx2 3; have x4 := Lib.cell_of_heap hbx2 4; simp only [List.getElem?_toArray, List.getElem?_cons_zero, List.getElem?_cons_succ] at x0 x1 x2 x3 x4; have HBX2 := Lib.hid hbx2; clear hb2 hbx2)
     have hm0 : n0 ≤ 200 ∧ n1 ≤ 200 ∧ n2 ≤ 200 ∧ n3 ≤ 200 ∧ n4 ≤ 50 := by omega
     have hmp := Map_calls (A0 := A0) (A1 := A1) (A2 := A2) (A3 := A3) (A4 := A4) (c0 := c0) (c1 := c1) (c2 := c2) (c3 := c3) (c4 := c4) (m := n4) (l0 := l0) (l1 := l1) (l2 := l2) (l3 := l3) (w := v2) (by have := HE.out.1; omega) (by have := HE.out.2.1; omega) (by have := HE.out.2.2.1; omega) (by have := HE.out.2.2.2.1; omega) HW.out.1 HW.out.2.1 HW.out.2.2.1 HW.out.2.2.2 (HP.out.1.below HB2.out) (HP.out.2.1.below HB2.out) (HP.out.2.2.1.below HB2.out) (HP.out.2.2.2.1.below HB2.out)
     rw [HE.out.1, HE.out.2.1, HE.out.2.2.1, HE.out.2.2.2.1] at hmp
     have HMP := Lib.hid hmp
     clear hmp HRF
     go_wp2_with (go_at_call 20; (with_reducible refine HMP.out.mono ?_); rintro e v3 ⟨⟨bK, bS, bV, bR, gK, gS, gV, gR, rfl, hmm⟩, hb3⟩)
     have HB3 := Lib.hid (HB2.out.trans (hb3.mono HB2.out.size))
     have hap := apply_calls (bK := bK) (bS := bS) (bV := bV) (bR := bR) (m := n4) (c4 := c4) (A4 := A4) HCAP.out HCZ.out (HR.out.below HB3.out) hmm HE.out.2.2.2.2.1 HE.out.2.2.2.2.2 (by omega) (HP.out.2.2.2.2.below HB3.out)
     rw [HN.out] at hap
     refine hap.mono ?_
     rintro e v4 ⟨⟨v, r, rfl, ho⟩, hb4⟩
     have HB4 := Lib.hid (HB3.out.trans (hb4.mono HB3.out.size))
     clear hap hmm hb3 hb4 x0 x1 x2 x3 x4 HMP
     cases r with
     | false =>
      clear ho
      go_wp2_with fail
      go_ret
      exact ⟨rfl, HB4.out⟩
     | true =>
      obtain ⟨y, A', c', rfl, hyc, hyr, hy0, hye⟩ := ho rfl
      obtain ⟨ny, hny⟩ : ∃ q, y.length = q := ⟨_, rfl⟩
      have hcl : (qbg y).length = ny := by rw [canonF_length, hny]
      have hcl2 : (qbg h).length = ny := by rw [← hye, hcl]
      have hs1 := same2_q true (ct_of (HR.out.below HB4.out) HCZ.out) HCAP.out (sm_of HCZ.out) (ct_of hyr hy0) hyc (sm_of hy0) (sameF_of HCZ.out hy0 hye)
      rw [HN.out, hny] at hs1
      have HS1 := Lib.hid hs1
      have HY := Lib.hid (show y.length ≤ c' ∧ CT v4 A' y ∧ Sm y ∧ qa3 y = 0 ∧ qbg y = qbg h ∧ y.length = ny from ⟨hyc, ct_of hyr hy0, sm_of hy0, hy0, hye, hny⟩)
      rw [hny]
      clear ho hyc hyr hy0 hye hny hcl hcl2 hs1
      go_wp2_with (go_at_call 16; (with_reducible refine HS1.out.mono ?_); rintro e v5 ⟨rfl, hb5⟩)
      have HB5 := Lib.hid (HB4.out.trans (hb5.mono HB4.out.size))
      have hof := of_yes (HY.out.2.1.below hb5) HY.out.1 HY.out.2.2.1 HY.out.2.2.2.1
      rw [HY.out.2.2.2.2.1, HY.out.2.2.2.2.2] at hof
      refine hof.mono ?_
      rintro e v6 ⟨A6, c6, rfl, ⟨hc6, hk6⟩, hb6⟩
      have HB6 := Lib.hid (HB5.out.trans (hb6.mono HB5.out.size))
      have HK6 := Lib.hid hk6
      have HC6 := Lib.hid hc6
      clear hof hb5 hb6 hk6 hc6
      have hrf := refOf_c (ct_of (HR.out.below HB6.out) HCZ.out) HCAP.out (sm_of HCZ.out) (check_zero' HCZ.out).2.2
      rw [HN.out] at hrf
      have HRF := Lib.hid hrf
      clear hrf
      go_wp2_with (go_at_call 17; (with_reducible refine HRF.out.mono ?_); rintro e v7 ⟨A7, c7, rfl, ⟨hc7, hk7⟩, hb7⟩)
      have HB7 := Lib.hid (HB6.out.trans (hb7.mono HB6.out.size))
      have heq := eq_yes (HK6.out.below hb7) HC6.out (sm_canon (h := h) HCZ.out) hk7 hc7
      refine heq.mono ?_
      rintro e v8 ⟨rfl, hb8⟩
      have HB8 := Lib.hid (HB7.out.trans (hb8.mono HB7.out.size))
      clear heq hb8 hb7 hk7 hc7
      go_wp2_with fail
      go_ret
      exact ⟨rfl, HB8.out⟩
  ·have hq : (cz == 0) = false := by simp [hc]
   go_wp2_with (go_at_call 14; (with_reducible refine HRF.out.mono ?_); rintro e v2 ⟨rfl, hb2⟩; have HB2 := Lib.hid (HB1.out.trans (hb2.mono HB1.out.size)); clear hb2)
   go_ret
   exact ⟨rfl, HB2.out⟩
end Go.Proofs.Ytngkneknopenmaa.Hist
end
