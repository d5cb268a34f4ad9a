/- Texts of this claim, joined by a program of this session: the declarations that its theorem uses. -/
import Derived.Test.YtngkneknopenmaaZC8
import Derived.Test.YtngkneknopenmaaZC15
section
namespace Go.Proofs.Ytngkneknopenmaa.Hist
open Go Go.RowKit Go.Proofs.Ytngkneknopenmaa Go.Proofs.Ytngkneknopenmaa.Row3 Go.Proofs.YtngkneknopenmaaW.PrintWords
open Go.Proofs.Ytngkneknopenmaa.K (S55 S51 rd_T55 rd_T51 k55 k55_heap)
theorem isF_no {h : List T4} (hc : checkF h ≠ 0) : isF h = false := by unfold isF; rw [if_neg hc]
theorem sameF_no {a b : List T4} (hc : checkF a ≠ 0) : sameF a b = false := by unfold sameF; rw [if_neg hc]
theorem ofF_no {h : List T4} (hc : checkF h ≠ 0) : Give.ofF h = [] := by unfold Give.ofF; rw [if_neg hc]
theorem ofF_yes {h : List T4} (hc : checkF h = 0) : Give.ofF h = canonF h := by unfold Give.ofF; rw [if_pos hc]
theorem isF_canon {h : List T4} (hc : checkF h = 0) : isF (canonF h) = true := by
  unfold isF
  rw [if_pos (canon_check hc), ofF_yes (canon_check hc), canon_idem (check_zero' hc).2.2]
  exact decide_eq_true rfl
theorem sameF_canon {h : List T4} (hc : checkF h = 0) : sameF h (canonF h) = true := by
  unfold sameF
  rw [if_pos hc, if_pos (canon_check hc), ofF_yes hc, ofF_yes (canon_check hc), canon_idem (check_zero' hc).2.2]
  exact decide_eq_true rfl
theorem isF_same {h : List T4} (hc : checkF h = 0) : isF h = decide (h = canonF h) := by
  unfold isF
  rw [if_pos hc, ofF_yes hc]
  by_cases e : canonF h = h
  · rw [decide_eq_true e, decide_eq_true e.symm]
  · rw [decide_eq_false e, decide_eq_false (Ne.symm e)]
variable {A B : Option Addr} {c d : Nat} {a b h : List T4} {w : World}
theorem Sm.canon (s : Sm h) : Sm (canonF h) := ⟨by rw [canonF_length]; exact s.1, by rw [canonF_count]; exact s.2⟩
theorem big_yes (k : CT w A h) (hc : h.length ≤ c) (ho : ∀ t ∈ h, t.ops.length ≤ 5864062014634) (hb : bigF h = true) :
    Calls Try.prog 12 #[.slice A h.length c] w fun e w' => e = .returned (.int .i64 1) ∧ Below w.heap.size w w' := by
  have := big_c k hc ho; rw [if_pos hb] at this; exact this
theorem big_no (k : CT w A h) (hc : h.length ≤ c) (ho : ∀ t ∈ h, t.ops.length ≤ 5864062014634) (hb : bigF h = false) :
    Calls Try.prog 12 #[.slice A h.length c] w fun e w' => e = .returned (.int .i64 0) ∧ Below w.heap.size w w' := by
  have := big_c k hc ho; rw [if_neg (by simp [hb])] at this; exact this
theorem of_yes (k : CT w A h) (hc : h.length ≤ c) (s : Sm h) (hz : checkF h = 0) :
    Calls Try.prog 13 #[.slice A h.length c] w fun e w' => ∃ (A' : Option Addr) (c' : Nat), e = .returned (.slice A' (canonF h).length c') ∧ ((canonF h).length ≤ c' ∧ CT w' A' (canonF h)) ∧ Below w.heap.size w w' := by
  have := of_c k hc s; rw [ofF_yes hz] at this; exact this
theorem of_no (k : CT w A h) (hc : h.length ≤ c) (s : Sm h) (hz : checkF h ≠ 0) :
    Calls Try.prog 13 #[.slice A h.length c] w fun e w' => ∃ (A' : Option Addr) (c' : Nat), e = .returned (.slice A' 0 c') ∧ Below w.heap.size w w' := by
  have := of_c k hc s; rw [ofF_no hz] at this
  exact this.mono fun _ _ ⟨A', c', e1, _, e2⟩ => ⟨A', c', e1, e2⟩
theorem ref_yes (k : CT w A h) (hc : h.length ≤ c) (s : Sm h) (hz : checkF h = 0) :
    Calls Try.prog 14 #[.slice A h.length c] w fun e w' => e = .returned (.int .i64 0) ∧ Below w.heap.size w w' := by
  have := ref_c k hc s; rw [hz] at this; exact this
theorem ref_no (k : CT w A h) (hc : h.length ≤ c) (s : Sm h) (hz : checkF h ≠ 0) :
    Calls Try.prog 14 #[.slice A h.length c] w fun e w' => ∃ r : Int, r ≠ 0 ∧ e = .returned (.int .i64 r) ∧ Below w.heap.size w w' :=
  (ref_c k hc s).mono fun _ _ ⟨e1, e2⟩ => ⟨_, hz, e1, e2⟩
theorem is_yes (k : CT w A h) (hc : h.length ≤ c) (s : Sm h) (hz : isF h = true) :
    Calls Try.prog 15 #[.slice A h.length c] w fun e w' => e = .returned (.bool true) ∧ Below w.heap.size w w' := by
  have := is_c k hc s; rw [hz] at this; exact this
theorem is_no (k : CT w A h) (hc : h.length ≤ c) (s : Sm h) (hz : isF h = false) :
    Calls Try.prog 15 #[.slice A h.length c] w fun e w' => e = .returned (.bool false) ∧ Below w.heap.size w w' := by
  have := is_c k hc s; rw [hz] at this; exact this
theorem same2_yes (k : CT w A a) (hc : a.length ≤ c) (s : Sm a) (k2 : CT w B b) (hd : b.length ≤ d) (t : Sm b) (hz : sameF a b = true) :
    Calls Try.prog 16 #[.slice A a.length c, .slice B b.length d] w fun e w' => e = .returned (.bool true) ∧ Below w.heap.size w w' := by
  have := same2_c k hc s k2 hd t; rw [hz] at this; exact this
theorem same2_no (k : CT w A a) (hc : a.length ≤ c) (s : Sm a) (k2 : CT w B b) (hd : b.length ≤ d) (t : Sm b) (hz : sameF a b = false) :
    Calls Try.prog 16 #[.slice A a.length c, .slice B b.length d] w fun e w' => e = .returned (.bool false) ∧ Below w.heap.size w w' := by
  have := same2_c k hc s k2 hd t; rw [hz] at this; exact this
theorem eq_yes (k : CT w A a) (hc : a.length ≤ c) (s : Sm a) (k2 : CT w B a) (hd : a.length ≤ d) :
    Calls Try.prog 18 #[.slice A a.length c, .slice B a.length d] w fun e w' => e = .returned (.bool true) ∧ Below w.heap.size w w' := by
  have := eq_c k hc s k2 hd; rw [decide_eq_true rfl] at this; exact this
set_option maxHeartbeats 2000000 in
set_option maxRecDepth 100000 in
theorem canonOf_walk (A : Option Addr) (cap : Nat) (h : List T4) (w : World) (hr : RdT w A h) (hcap : h.length ≤ cap) (hl : h.length ≤ 2932031007317) (hw : ∀ t ∈ h, WfT t) :
    Calls Try.prog 3 #[.slice A h.length cap] w fun e w' => e = .returned (.bool true) ∧ Below w.heap.size w w' := by
  have HO := Lib.hid (fun t ht => (hw t ht).2.2.2.1 : ∀ t ∈ h, t.ops.length ≤ 5864062014634)
  have HC := Lib.hid (show CT w A h from C_of_RdT hr (by omega) (fun t ht => by have := HO.out t ht; omega))
  have HCAP := Lib.hid hcap
  clear hr hcap hl hw
  go_enter Try.func3, Try.ntmps3
  go_wp2_with fail
  with_reducible refine (speaks_calls _).mono ?_
  rintro e w1 ⟨rfl, hb1⟩
  have HB1 := Lib.hid hb1
  clear hb1
  cases hbig : bigF h with
  | true =>
    have HBIG := Lib.hid hbig
    clear hbig
    go_wp2_with ((go_at_call 12; (with_reducible refine (big_yes (HC.out.below HB1.out) HCAP.out HO.out HBIG.out).mono ?_); rintro e w2 ⟨rfl, hb2⟩))
    go_ret
    exact ⟨rfl, HB1.out.trans (hb2.mono HB1.out.size)⟩
  | false =>
    have HS := Lib.hid (big_small hbig)
    have HBIG := Lib.hid hbig
    clear hbig
    by_cases hch : checkF h = 0
    · have HCH := Lib.hid hch
      clear hch
      have HM := Lib.hid (check_zero' HCH.out)
      go_wp2_with (first
        | (go_at_call 12; (with_reducible refine (big_no (HC.out.below HB1.out) HCAP.out HO.out HBIG.out).mono ?_); rintro e w2 ⟨rfl, hb2⟩; have HB2 := Lib.hid (HB1.out.trans (hb2.mono HB1.out.size)); clear hb2)
        | (go_at_call 13; (with_reducible refine (of_yes (HC.out.below HB2.out) HCAP.out HS.out HCH.out).mono ?_); rintro e w3 ⟨A3, c3, rfl, k3, hb3⟩; have HB3 := Lib.hid (HB2.out.trans (hb3.mono HB2.out.size)); have K3 := Lib.hid k3; clear hb3 k3)
        | (go_at_call 14; (with_reducible refine (ref_yes (HC.out.below HB3.out) HCAP.out HS.out HCH.out).mono ?_); rintro e w4 ⟨rfl, hb4⟩; have HB4 := Lib.hid (HB3.out.trans (hb4.mono HB3.out.size)); have K4 := Lib.hid (K3.out.2.below hb4); clear hb4)
        | (go_at_call 17; (with_reducible refine (refOf_c (HC.out.below HB4.out) HCAP.out HS.out HM.out.2.2).mono ?_); rintro e w5 ⟨A5, c5, rfl, k5, hb5⟩; have HB5 := Lib.hid (HB4.out.trans (hb5.mono HB4.out.size)); have K5 := Lib.hid k5; have K45 := Lib.hid (K4.out.below hb5); clear hb5 k5)
        | (go_at_call 18; (with_reducible refine (eq_yes K45.out K3.out.1 HS.out.canon K5.out.2 K5.out.1).mono ?_); rintro e w6 ⟨rfl, hb6⟩; have HB6 := Lib.hid (HB5.out.trans (hb6.mono HB5.out.size)); have K46 := Lib.hid (K45.out.below hb6); have K56 := Lib.hid (K5.out.2.below hb6); clear hb6)
        | (go_at_call 14; (with_reducible refine (ref_yes K46.out K3.out.1 HS.out.canon (canon_check HCH.out)).mono ?_); rintro e w7 ⟨rfl, hb7⟩; have HB7 := Lib.hid (HB6.out.trans (hb7.mono HB6.out.size)); have K47 := Lib.hid (K46.out.below hb7); have K57 := Lib.hid (K56.out.below hb7); clear hb7)
        | (go_at_call 15; (with_reducible refine (is_yes K47.out K3.out.1 HS.out.canon (isF_canon HCH.out)).mono ?_); rintro e w8 ⟨rfl, hb8⟩; have HB8 := Lib.hid (HB7.out.trans (hb8.mono HB7.out.size)); have K48 := Lib.hid (K47.out.below hb8); have K58 := Lib.hid (K57.out.below hb8); clear hb8)
        | (go_at_call 16; (with_reducible refine (same2_yes (HC.out.below HB8.out) HCAP.out HS.out K48.out K3.out.1 HS.out.canon (sameF_canon HCH.out)).mono ?_); rintro e w9 ⟨rfl, hb9⟩; have HB9 := Lib.hid (HB8.out.trans (hb9.mono HB8.out.size)); have K59 := Lib.hid (K58.out.below hb9); clear hb9)
        | (go_at_call 15; (with_reducible refine (is_c (HC.out.below HB9.out) HCAP.out HS.out).mono ?_); rintro e wA ⟨rfl, hbA⟩; have HBA := Lib.hid (HB9.out.trans (hbA.mono HB9.out.size)); have K5A := Lib.hid (K59.out.below hbA); clear hbA)
        | (go_at_call 18; (with_reducible refine (eq_c (HC.out.below HBA.out) HCAP.out HS.out K5A.out K5.out.1).mono ?_); rintro e wB ⟨rfl, hbB⟩; have HBB := Lib.hid (HBA.out.trans (hbB.mono HBA.out.size)); clear hbB))
      go_ret
      have := isF_same HCH.out
      exact ⟨by rw [this]; simp, HBB.out⟩
    · have HCH := Lib.hid hch
      clear hch
      have HF1 := Lib.hid (isF_no HCH.out)
      have HF2 := Lib.hid (sameF_no (b := h) HCH.out)
      go_wp2_with (first
        | (go_at_call 12; (with_reducible refine (big_no (HC.out.below HB1.out) HCAP.out HO.out HBIG.out).mono ?_); rintro e w2 ⟨rfl, hb2⟩; have HB2 := Lib.hid (HB1.out.trans (hb2.mono HB1.out.size)); clear hb2)
        | (go_at_call 13; (with_reducible refine (of_no (HC.out.below HB2.out) HCAP.out HS.out HCH.out).mono ?_); rintro e w3 ⟨A3, c3, rfl, hb3⟩; have HB3 := Lib.hid (HB2.out.trans (hb3.mono HB2.out.size)); clear hb3)
        | (go_at_call 14; (with_reducible refine (ref_no (HC.out.below HB3.out) HCAP.out HS.out HCH.out).mono ?_); rintro e w4 ⟨r4, hr4, rfl, hb4⟩; have HB4 := Lib.hid (HB3.out.trans (hb4.mono HB3.out.size)); have hr5 : (r4 != 0) = true := (by simpa using hr4); clear hb4)
        | (go_at_call 15; (with_reducible refine (is_no (HC.out.below HB4.out) HCAP.out HS.out HF1.out).mono ?_); rintro e w5 ⟨rfl, hb5⟩; have HB5 := Lib.hid (HB4.out.trans (hb5.mono HB4.out.size)); clear hb5)
        | (go_at_call 16; (with_reducible refine (same2_no (HC.out.below HB5.out) HCAP.out HS.out (HC.out.below HB5.out) HCAP.out HS.out HF2.out).mono ?_); rintro e w6 ⟨rfl, hb6⟩; have HB6 := Lib.hid (HB5.out.trans (hb6.mono HB5.out.size)); clear hb6))
      go_ret
      exact ⟨rfl, HB6.out⟩
theorem sameF_both {a b : List T4} (ha : checkF a = 0) (hb : checkF b = 0) : sameF a b = decide (canonF a = canonF b) := by
  unfold sameF
  rw [if_pos ha, if_pos hb, ofF_yes ha, ofF_yes hb]
theorem sameF_comm (a b : List T4) : sameF b a = sameF a b := by
  unfold sameF
  by_cases h1 : checkF a = 0 <;> by_cases h2 : checkF b = 0 <;> simp [h1, h2, eq_comm]
theorem sameF_no2 {a b : List T4} (hc : checkF b ≠ 0) : sameF a b = false := by rw [← sameF_comm]; exact sameF_no hc
theorem eq_q (q : Bool) (k : CT w A a) (hc : a.length ≤ c) (s : Sm a) (k2 : CT w B b) (hd : b.length ≤ d) (hq : decide (a = b) = q) :
    Calls Try.prog 18 #[.slice A a.length c, .slice B b.length d] w fun e w' => e = .returned (.bool q) ∧ Below w.heap.size w w' := by
  have := eq_c k hc s k2 hd; rw [hq] at this; exact this
theorem same2_q (q : Bool) (k : CT w A a) (hc : a.length ≤ c) (s : Sm a) (k2 : CT w B b) (hd : b.length ≤ d) (t : Sm b) (hz : sameF a b = q) :
    Calls Try.prog 16 #[.slice A a.length c, .slice B b.length d] w fun e w' => e = .returned (.bool q) ∧ Below w.heap.size w w' := by
  have := same2_c k hc s k2 hd t; rw [hz] at this; exact this
set_option maxHeartbeats 4000000 in
set_option maxRecDepth 100000 in
theorem canonApart_walk (A : Option Addr) (cap : Nat) (h : List T4) (B : Option Addr) (capB : Nat) (g : List T4) (w : World) (hr : RdT w A h) (hcap : h.length ≤ cap) (hl : h.length ≤ 2932031007317) (hw : ∀ t ∈ h, WfT t)
    (gr : RdT w B g) (gcap : g.length ≤ capB) (gl : g.length ≤ 2932031007317) (gw : ∀ t ∈ g, WfT t) :
    Calls Try.prog 4 #[.slice A h.length cap, .slice B g.length capB] w fun e w' => e = .returned (.bool true) ∧ Below w.heap.size w w' := by
  have HO := Lib.hid (fun t ht => (hw t ht).2.2.2.1 : ∀ t ∈ h, t.ops.length ≤ 5864062014634)
  have HC := Lib.hid (show CT w A h from C_of_RdT hr (by omega) (fun t ht => by have := HO.out t ht; omega))
  have HCAP := Lib.hid hcap
  have GO := Lib.hid (fun t ht => (gw t ht).2.2.2.1 : ∀ t ∈ g, t.ops.length ≤ 5864062014634)
  have GC := Lib.hid (show CT w B g from C_of_RdT gr (by omega) (fun t ht => by have := GO.out t ht; omega))
  have GCAP := Lib.hid gcap
  clear hr hcap hl hw gr gcap gl gw
  go_enter Try.func4, Try.ntmps4
  go_wp2_with fail
  with_reducible refine (speaks_calls _).mono ?_
  rintro e w1 ⟨rfl, hb1⟩
  have HB1 := Lib.hid hb1
  clear hb1
  cases hbig : bigF h with
  | true =>
    have HBIG := Lib.hid hbig
    clear hbig
    go_wp2_with ((go_at_call 12; (with_reducible refine (big_yes (HC.out.below HB1.out) HCAP.out HO.out HBIG.out).mono ?_); rintro e w2 ⟨rfl, hb2⟩))
    go_ret
    exact ⟨rfl, HB1.out.trans (hb2.mono HB1.out.size)⟩
  | false =>
    have HS := Lib.hid (big_small hbig)
    have HBIG := Lib.hid hbig
    clear hbig
    cases gbig : bigF g with
    | true =>
      have GBIG := Lib.hid gbig
      clear gbig
      go_wp2_with (first
        | (go_at_call 12; (with_reducible refine (big_no (HC.out.below HB1.out) HCAP.out HO.out HBIG.out).mono ?_); rintro e w2 ⟨rfl, hb2⟩; have HB2 := Lib.hid (HB1.out.trans (hb2.mono HB1.out.size)); clear hb2)
        | (go_at_call 12; (with_reducible refine (big_yes (GC.out.below HB2.out) GCAP.out GO.out GBIG.out).mono ?_); rintro e w3 ⟨rfl, hb3⟩; have HB3 := Lib.hid (HB2.out.trans (hb3.mono HB2.out.size)); clear hb3))
      go_ret
      exact ⟨rfl, HB3.out⟩
    | false =>
      have GS := Lib.hid (big_small gbig)
      have GBIG := Lib.hid gbig
      clear gbig
      by_cases hch : checkF h = 0
      · have HCH := Lib.hid hch
        have HM := Lib.hid (check_zero' hch)
        clear hch
        by_cases gch : checkF g = 0
        · have GCH := Lib.hid gch
          have GM := Lib.hid (check_zero' gch)
          clear gch
          obtain ⟨q, hq⟩ : ∃ q, sameF h g = q := ⟨_, rfl⟩
          have HQ := Lib.hid hq
          have HQ2 := Lib.hid (show sameF g h = q by rw [sameF_comm]; exact hq)
          have HE := Lib.hid (show decide (canonF h = canonF g) = q by rw [← sameF_both HCH.out GCH.out]; exact hq)
          clear hq
          go_wp2_with (first
            | (go_at_call 12; (with_reducible refine (big_no (HC.out.below HB1.out) HCAP.out HO.out HBIG.out).mono ?_); rintro e w2 ⟨rfl, hb2⟩; have HB2 := Lib.hid (HB1.out.trans (hb2.mono HB1.out.size)); clear hb2)
            | (go_at_call 12; (with_reducible refine (big_no (GC.out.below HB2.out) GCAP.out GO.out GBIG.out).mono ?_); rintro e w3 ⟨rfl, hb3⟩; have HB3 := Lib.hid (HB2.out.trans (hb3.mono HB2.out.size)); clear hb3)
            | (go_at_call 14; (with_reducible refine (ref_yes (HC.out.below HB3.out) HCAP.out HS.out HCH.out).mono ?_); rintro e w4 ⟨rfl, hb4⟩; have HB4 := Lib.hid (HB3.out.trans (hb4.mono HB3.out.size)); clear hb4)
            | (go_at_call 14; (with_reducible refine (ref_yes (GC.out.below HB4.out) GCAP.out GS.out GCH.out).mono ?_); rintro e w5 ⟨rfl, hb5⟩; have HB5 := Lib.hid (HB4.out.trans (hb5.mono HB4.out.size)); clear hb5)
            | (go_at_call 16; (with_reducible refine (same2_q q (HC.out.below HB5.out) HCAP.out HS.out (GC.out.below HB5.out) GCAP.out GS.out HQ.out).mono ?_); rintro e w6 ⟨rfl, hb6⟩; have HB6 := Lib.hid (HB5.out.trans (hb6.mono HB5.out.size)); clear hb6)
            | (go_at_call 17; (with_reducible refine (refOf_c (HC.out.below HB6.out) HCAP.out HS.out HM.out.2.2).mono ?_); rintro e w7 ⟨A7, c7, rfl, k7, hb7⟩; have HB7 := Lib.hid (HB6.out.trans (hb7.mono HB6.out.size)); have K7 := Lib.hid k7; clear hb7 k7)
            | (go_at_call 17; (with_reducible refine (refOf_c (GC.out.below HB7.out) GCAP.out GS.out GM.out.2.2).mono ?_); rintro e w8 ⟨A8, c8, rfl, k8, hb8⟩; have HB8 := Lib.hid (HB7.out.trans (hb8.mono HB7.out.size)); have K8 := Lib.hid k8; have K78 := Lib.hid (K7.out.2.below hb8); clear hb8 k8)
            | (go_at_call 18; (with_reducible refine (eq_q q K78.out K7.out.1 HS.out.canon K8.out.2 K8.out.1 HE.out).mono ?_); rintro e w9 ⟨rfl, hb9⟩; have HB9 := Lib.hid (HB8.out.trans (hb9.mono HB8.out.size)); clear hb9)
            | (go_at_call 16; (with_reducible refine (same2_q q (HC.out.below HB9.out) HCAP.out HS.out (GC.out.below HB9.out) GCAP.out GS.out HQ.out).mono ?_); rintro e wA ⟨rfl, hbA⟩; have HBA := Lib.hid (HB9.out.trans (hbA.mono HB9.out.size)); clear hbA)
            | (go_at_call 16; (with_reducible refine (same2_q q (GC.out.below HBA.out) GCAP.out GS.out (HC.out.below HBA.out) HCAP.out HS.out HQ2.out).mono ?_); rintro e wB ⟨rfl, hbB⟩; have HBB := Lib.hid (HBA.out.trans (hbB.mono HBA.out.size)); clear hbB))
          all_goals (go_ret; exact ⟨by simp, HBB.out⟩)
        · have GCH := Lib.hid gch
          clear gch
          have HQ := Lib.hid (sameF_no2 (a := h) GCH.out)
          have HQ2 := Lib.hid (sameF_no (b := h) GCH.out)
          go_wp2_with (first
            | (go_at_call 12; (with_reducible refine (big_no (HC.out.below HB1.out) HCAP.out HO.out HBIG.out).mono ?_); rintro e w2 ⟨rfl, hb2⟩; have HB2 := Lib.hid (HB1.out.trans (hb2.mono HB1.out.size)); clear hb2)
            | (go_at_call 12; (with_reducible refine (big_no (GC.out.below HB2.out) GCAP.out GO.out GBIG.out).mono ?_); rintro e w3 ⟨rfl, hb3⟩; have HB3 := Lib.hid (HB2.out.trans (hb3.mono HB2.out.size)); clear hb3)
            | (go_at_call 14; (with_reducible refine (ref_yes (HC.out.below HB3.out) HCAP.out HS.out HCH.out).mono ?_); rintro e w4 ⟨rfl, hb4⟩; have HB4 := Lib.hid (HB3.out.trans (hb4.mono HB3.out.size)); clear hb4)
            | (go_at_call 14; (with_reducible refine (ref_no (GC.out.below HB4.out) GCAP.out GS.out GCH.out).mono ?_); rintro e w5 ⟨r5, hr5, rfl, hb5⟩; have HB5 := Lib.hid (HB4.out.trans (hb5.mono HB4.out.size)); have hr6 : (r5 == 0) = false := (by simpa using hr5); clear hb5)
            | (go_at_call 16; (with_reducible refine (same2_q false (HC.out.below HB5.out) HCAP.out HS.out (GC.out.below HB5.out) GCAP.out GS.out HQ.out).mono ?_); rintro e w6 ⟨rfl, hb6⟩; have HB6 := Lib.hid (HB5.out.trans (hb6.mono HB5.out.size)); clear hb6)
            | (go_at_call 16; (with_reducible refine (same2_q false (HC.out.below HB6.out) HCAP.out HS.out (GC.out.below HB6.out) GCAP.out GS.out HQ.out).mono ?_); rintro e wA ⟨rfl, hbA⟩; have HBA := Lib.hid (HB6.out.trans (hbA.mono HB6.out.size)); clear hbA)
            | (go_at_call 16; (with_reducible refine (same2_q false (GC.out.below HBA.out) GCAP.out GS.out (HC.out.below HBA.out) HCAP.out HS.out HQ2.out).mono ?_); rintro e wB ⟨rfl, hbB⟩; have HBB := Lib.hid (HBA.out.trans (hbB.mono HBA.out.size)); clear hbB))
          go_ret
          exact ⟨rfl, HBB.out⟩
      · have HCH := Lib.hid hch
        clear hch
        have HQ := Lib.hid (sameF_no (b := g) HCH.out)
        have HQ2 := Lib.hid (sameF_no2 (a := g) HCH.out)
        go_wp2_with (first
          | (go_at_call 12; (with_reducible refine (big_no (HC.out.below HB1.out) HCAP.out HO.out HBIG.out).mono ?_); rintro e w2 ⟨rfl, hb2⟩; have HB2 := Lib.hid (HB1.out.trans (hb2.mono HB1.out.size)); clear hb2)
          | (go_at_call 12; (with_reducible refine (big_no (GC.out.below HB2.out) GCAP.out GO.out GBIG.out).mono ?_); rintro e w3 ⟨rfl, hb3⟩; have HB3 := Lib.hid (HB2.out.trans (hb3.mono HB2.out.size)); clear hb3)
          | (go_at_call 14; (with_reducible refine (ref_no (HC.out.below HB3.out) HCAP.out HS.out HCH.out).mono ?_); rintro e w5 ⟨r5, hr5, rfl, hb5⟩; have HB5 := Lib.hid (HB3.out.trans (hb5.mono HB3.out.size)); have hr6 : (r5 == 0) = false := (by simpa using hr5); clear hb5)
          | (go_at_call 16; (with_reducible refine (same2_q false (HC.out.below HB5.out) HCAP.out HS.out (GC.out.below HB5.out) GCAP.out GS.out HQ.out).mono ?_); rintro e w6 ⟨rfl, hb6⟩; have HB6 := Lib.hid (HB5.out.trans (hb6.mono HB5.out.size)); clear hb6)
          | (go_at_call 16; (with_reducible refine (same2_q false (HC.out.below HB6.out) HCAP.out HS.out (GC.out.below HB6.out) GCAP.out GS.out HQ.out).mono ?_); rintro e wA ⟨rfl, hbA⟩; have HBA := Lib.hid (HB6.out.trans (hbA.mono HB6.out.size)); clear hbA)
          | (go_at_call 16; (with_reducible refine (same2_q false (GC.out.below HBA.out) GCAP.out GS.out (HC.out.below HBA.out) HCAP.out HS.out HQ2.out).mono ?_); rintro e wB ⟨rfl, hbB⟩; have HBB := Lib.hid (HBA.out.trans (hbB.mono HBA.out.size)); clear hbB))
        go_ret
        exact ⟨rfl, HBB.out⟩
end Go.Proofs.Ytngkneknopenmaa.Hist
end
