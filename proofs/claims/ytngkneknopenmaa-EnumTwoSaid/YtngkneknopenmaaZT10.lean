/- qr3 of this claim, joined by a program of this session: the zS that its theorem uses. -/
import Derived.Test.YtngkneknopenmaaZT8
import Derived.Test.YtngkneknopenmaaZT9
import Derived.Lib.QuietBelow
import Derived.BigQuiet
set_option linter.unusedVariables false
set_option linter.unusedSimpArgs false
section
namespace Go.Proofs.Ytngkneknopenmaa.zM
open Go Go.RowKit Go.Proofs.Ytngkneknopenmaa.qa9 Go.Proofs.Ytngkneknopenmaa.qi7
def zr5 (h : List T4) (w : World) (v : Value) (wr : World) : Prop :=
 ∃ i : Nat, i ≤ h.length ∧ v = .int .i64 ((i : Nat) : Int) ∧ Below w.heap.size w wr ∧ (h.take i).all qd2 = true
def je2 (h : List T4) : Int :=
 match qg1 h with
 | none => 2
 | some f => if !qe9 h (fun _ => false) (fun _ => none) then 2 else if h.all (fun t => t.ops.all (qo1 f)) then 0 else 2
theorem qF7 {h : List T4} (h1 : h.length ≤ 64) (h2 : jL h ≤ 1024) : zT h = if !h.all qd2 then 2 else je2 h := by
 unfold zT
 rw [if_neg (by omega)]
 rfl
theorem qR0 {h : List T4} (h1 : qg1 h = none) : je2 h = 2 := by unfold je2; rw [h1]
theorem qR1 {h : List T4} {f : Int → Option W3} (h1 : qg1 h = some f) : je2 h = if !qe9 h (fun _ => false) (fun _ => none) then 2 else if h.all (fun t => t.ops.all (qo1 f)) then 0 else 2 := by unfold je2; rw [h1]
def zr6 (h : List T4) (w : World) (b s : Nat) (f : Int → Option W3) (v : Value) (wr : World) : Prop :=
 ∃ i : Nat, i ≤ h.length ∧ v = .int .i64 ((i : Nat) : Int) ∧ Below w.heap.size w wr ∧ IM Try.prog 3 wr b (qr0 f) s ∧ (h.take i).all (fun t => t.ops.all (qo1 f)) = true
def Qh3 (ops : List O3) (w : World) (b s : Nat) (f : Int → Option W3) (v : Value) (wr : World) : Prop :=
 ∃ i : Nat, i ≤ ops.length ∧ v = .int .i64 ((i : Nat) : Int) ∧ Below w.heap.size w wr ∧ IM Try.prog 3 wr b (qr0 f) s ∧ (ops.take i).all (qo1 f) = true
theorem qs0 {t : T4} (h : qd2 t = true) : OkT t := by
 unfold qd2 at h
 simp only [Bool.and_eq_true, decide_eq_true_eq] at h
 refine ⟨h.1.2, fun o ho => ?_⟩
 have := List.all_eq_true.1 h.2 o ho
 unfold qo2 at this
 simp only [Bool.and_eq_true, decide_eq_true_eq] at this
 exact ⟨this.1.1.1.1, this.1.1.1.2, this.1.1.2, this.1.2⟩
theorem qF8 {t : T4} (h : qd2 t = true) : OkS t := by
 unfold qd2 at h
 simp only [Bool.and_eq_true, decide_eq_true_eq] at h
 unfold OkS
 omega
set_option maxHeartbeats 8000000 in
set_option maxRecDepth 100000 in
theorem jL2 (A : Option Addr) (cap : Nat) (h : List T4) (hcap : h.length ≤ cap) (hm : h.length ≤ 4611686018427387904) (hcnt : jL h ≤ 4611686018427387904) (w : World) (hr : RdT w A h) :
  Calls Try.prog 32 #[.slice A h.length cap] w fun e w' => e = .returned (.int .i64 (zT h)) ∧ Below w.heap.size w w' := by
 have OC := zl9 A cap h w hr hcap hm hcnt
 obtain ⟨n, hn⟩ : ∃ n, h.length = n := ⟨_, rfl⟩
 have HN := Lib.hid hn
 rw [hn] at hm hcap OC ⊢
 have HR := Lib.hid hr
 have HOC := Lib.hid OC
 clear hn hr OC
 go_enter Try.func32, Try.ntmps32
 by_cases hbig : 64 < n
 ·have hbz : (64 : Int) < (n : Int) := by omega
  have HC := Lib.hid (show zT h = 3 by unfold zT; rw [if_pos (Or.inl (by rw [HN.out]; exact hbig))])
  go_wp2_with fail
  go_ret
  exact ⟨by rw [HC.out]; rfl, Below.refl _ _⟩
 ·have hbz : ¬ (64 : Int) < (n : Int) := by omega
  by_cases hcb : 1024 < jL h
  ·have hcz : (1024 : Int) < (jL h : Int) := by omega
   have HC := Lib.hid (show zT h = 3 by unfold zT; rw [if_pos (Or.inr hcb)])
   go_wp2_with (go_at_call 57; (with_reducible refine HOC.out.mono ?_); rintro e w1 ⟨rfl, k1⟩)
   go_ret
   exact ⟨by rw [HC.out]; rfl, k1⟩
  have hcz : ¬ (1024 : Int) < (jL h : Int) := by omega
  have hc1 := qF7 (h := h) (by rw [HN.out]; omega) (by omega)
  have HC := Lib.hid hc1
  clear hc1
  go_wp2_with (go_at_call 57; (with_reducible refine HOC.out.mono ?_); rintro e w1 ⟨rfl, k1⟩)
  have K1 := Lib.hid k1
  clear HOC k1 hcz hcb hbz
  go_loopw [23] (fun v wr => zr5 h w v wr) (fun v _ => n - (intOf v).toNat)
  case atStart => exact ⟨0, Nat.zero_le _, rfl, K1.out, by simp⟩
  case round =>
   obtain ⟨i, hi, rfl, hb, hall⟩ := hrel
   rw [HN.out] at hi
   by_cases hlt : i < n
   ·have hltz : (i : Int) < (n : Int) := by omega
    have hil : i < h.length := by rw [HN.out]; exact hlt
    obtain ⟨ad, rfl, hc⟩ := HR.out (by omega)
    obtain ⟨t, ht⟩ : ∃ t, h[i]? = some t := ⟨_, List.getElem?_eq_getElem hil⟩
    obtain ⟨A3, c3, t0, t1, t2, t3, hl3, hro⟩ := hc i t ht
    replace t0 := cell_below hb t0
    replace t1 := cell_below hb t1
    replace t2 := cell_below hb t2
    replace t3 := cell_below hb t3
    have RC := jL3 A3 c3 t (wr.alloc (.cells #[.int .i64 t.s, .int .i64 t.b, .int .i64 t.c, .slice A3 t.ops.length c3] 55)) (hro.below (hb.alloc hb.size _)) hl3 (by have := qr5 (List.mem_of_getElem? ht); omega)
    have hto : h.take (i + 1) = h.take i ++ [t] := by rw [List.take_add_one, ht]; rfl
    have HTO := Lib.hid hto
    have HTM := Lib.hid (List.mem_of_getElem? ht)
    obtain ⟨m, hm⟩ : ∃ m, t.ops.length = m := ⟨_, rfl⟩
    rw [hm] at t3 hl3 RC
    have HRC := Lib.hid RC
    have HB := Lib.hid hb
    clear hc ht hro hil hm RC hto hb
    have hsz : w.heap.size ≤ (wr.alloc (.cells #[.int .i64 t.s, .int .i64 t.b, .int .i64 t.c, .slice A3 m c3] 55)).heap.size := (HB.out.alloc HB.out.size _).size
    cases hrt : qd2 t with
    | false =>
     have hfin : zT h = 2 := by
      rw [HC.out, show h.all qd2 = false by rw [List.all_eq_false]; exact ⟨t, HTM.out, by simp [hrt]⟩]
      rfl
     have HF := Lib.hid hfin
     rw [hrt] at HRC
     clear hfin
     go_wp2_with (go_at_call 29; (with_reducible refine HRC.out.mono ?_); rintro e w2 ⟨rfl, k2⟩)
     go_ret
     exact ⟨by rw [HF.out]; rfl, (HB.out.alloc HB.out.size _).trans (k2.mono hsz)⟩
    | true =>
     rw [hrt] at HRC
     have zr7 : (h.take (i + 1)).all qd2 = true := by rw [HTO.out]; simp [hall, hrt]
     go_wp2_with (go_at_call 29; (with_reducible refine HRC.out.mono ?_); rintro e w2 ⟨rfl, k2⟩)
     go_roundw
     case rel => exact ⟨i + 1, by rw [HN.out]; omega, by go_num, (HB.out.alloc HB.out.size _).trans (k2.mono hsz), zr7⟩
     case measure => (simp [intOf]; try omega)
   ·have hin : i = n := by omega
    subst hin
    rw [List.take_of_length_le (by rw [HN.out]; exact Nat.le_refl _)] at hall
    rw [hall] at HC
    have HJ := Lib.hid (show zT h = je2 h from HC.out)
    have HOT : ∀ t ∈ h, OkT t := fun t ht => qs0 (List.all_eq_true.1 hall t ht)
    have HOS : ∀ t ∈ h, OkS t := fun t ht => qF8 (List.all_eq_true.1 hall t ht)
    have WC := jv2 A cap h HOT (by rw [HN.out]; omega) wr (HR.out.below hb)
    have SC := fun w' (k : Below wr.heap.size wr w') => qy6 A cap h HOS (by rw [HN.out]; omega) w' ((HR.out.below hb).below k)
    rw [HN.out] at WC SC
    have HWC := Lib.hid WC
    have HSC := Lib.hid SC
    have HAL := Lib.hid hall
    have HB := Lib.hid hb
    clear hall HOT HOS WC SC HC K1 hb
    cases hwf : qg1 h with
    | none =>
     have HF := Lib.hid (HJ.out.trans (qR0 hwf))
     rw [hwf] at HWC
     clear hwf
     go_wp2_with (go_at_call 28; (with_reducible refine HWC.out.mono ?_); rintro e w2 ⟨b, rfl, hmap, k2⟩)
     go_ret
     exact ⟨by rw [HF.out]; rfl, HB.out.trans (k2.mono HB.out.size)⟩
    | some f =>
     have hjs := qR1 hwf
     rw [hwf] at HWC
     cases hst : qe9 h (fun _ => false) (fun _ => none) with
     | false =>
      rw [hst] at hjs HSC
      have HF := Lib.hid (HJ.out.trans hjs)
      clear hjs hwf
      go_wp2_with (first
       | (go_at_call 28; (with_reducible refine HWC.out.mono ?_); rintro e w2 ⟨b, rfl, hmap, k2⟩)
       | (go_at_call 58; (with_reducible refine (HSC.out _ k2).mono ?_); rintro e w3 ⟨rfl, k3⟩))
      go_ret
      exact ⟨by rw [HF.out]; rfl, (HB.out.trans (k2.mono HB.out.size)).trans (k3.mono (Nat.le_trans HB.out.size k2.size))⟩
     | true =>
      rw [hst] at hjs HSC
      have HF := Lib.hid (HJ.out.trans hjs)
      clear hjs hwf
      go_wp2_with (first
       | (go_at_call 28; (with_reducible refine HWC.out.mono ?_); rintro e w2 ⟨b, rfl, hmap, k2⟩)
       | (go_at_call 58; (with_reducible refine (HSC.out _ k2).mono ?_); rintro e w3 ⟨rfl, k3⟩))
      obtain ⟨s, him⟩ := hmap f rfl
      have zr8 := him.below k3
      have hb3 : Below w.heap.size w w3 := (HB.out.trans (k2.mono HB.out.size)).trans (k3.mono (Nat.le_trans HB.out.size k2.size))
      have HI3 := Lib.hid zr8
      have HB3 := Lib.hid hb3
      clear hmap him k2 k3 zr8 hb3 HWC HSC HJ HB w2
      go_loopw [45] (fun v wr => zr6 h w b s f v wr) (fun v _ => i - (intOf v).toNat)
      case atStart => exact ⟨0, Nat.zero_le _, rfl, HB3.out, HI3.out, by simp⟩
      case round =>
       clear HI3 HB3
       obtain ⟨j, hj, rfl, hb, him, hall⟩ := hrel
       rw [HN.out] at hj
       have HIM := Lib.hid him
       clear him
       by_cases hlt : j < i
       ·have hltz : (j : Int) < (i : Int) := by omega
        have hil : j < h.length := by rw [HN.out]; exact hlt
        obtain ⟨ad, rfl, hc⟩ := HR.out (by omega)
        obtain ⟨t, ht⟩ : ∃ t, h[j]? = some t := ⟨_, List.getElem?_eq_getElem hil⟩
        obtain ⟨A3, c3, t0, t1, t2, t3, hl3, hro⟩ := hc j t ht
        replace t0 := cell_below hb t0
        replace t1 := cell_below hb t1
        replace t2 := cell_below hb t2
        replace t3 := cell_below hb t3
        have hto : h.take (j + 1) = h.take j ++ [t] := by rw [List.take_add_one, ht]; rfl
        have HTO := Lib.hid hto
        have HTM := Lib.hid (List.mem_of_getElem? ht)
        have HRT := Lib.hid (List.all_eq_true.1 HAL.out t HTM.out)
        obtain ⟨m, hm⟩ : ∃ m, t.ops.length = m := ⟨_, rfl⟩
        have HMM := Lib.hid hm
        rw [hm] at t3 hl3
        have gW : Below w.heap.size w (wr.alloc (.cells #[.int .i64 t.s, .int .i64 t.b, .int .i64 t.c, .slice A3 m c3] 55)) := hb.alloc hb.size _
        have qR2 := HIM.out.alloc (.cells #[.int .i64 t.s, .int .i64 t.b, .int .i64 t.c, .slice A3 m c3] 55)
        have HRO := Lib.hid (hro.below gW)
        have GW := Lib.hid gW
        have HI1 := Lib.hid qR2
        have hm64 : m ≤ 64 := by rw [← hm]; exact (qs0 HRT.out).1
        clear hc ht hro hil hm hto hb gW qR2
        go_wp2_with fail
        clear t0 t1 t2 t3
        obtain ⟨W1, hW1⟩ : ∃ W1, wr.alloc (.cells #[.int .i64 t.s, .int .i64 t.b, .int .i64 t.c, .slice A3 m c3] 55) = W1 := ⟨_, rfl⟩
        rw [hW1] at GW HRO HI1 ⊢
        clear hW1
        go_loopw [52] (fun v wr => Qh3 t.ops W1 b s f v wr) (fun v _ => m - (intOf v).toNat)
        case atStart => exact ⟨0, Nat.zero_le _, rfl, Below.refl _ _, HI1.out, by simp⟩
        case round =>
         clear HI1 HIM
         obtain ⟨k, hk, rfl, hb, him, hop⟩ := hrel
         rw [HMM.out] at hk
         have HIM := Lib.hid him
         clear him
         by_cases hkm : k < m
         ·have hkz : (k : Int) < (m : Int) := by omega
          have hkl : k < t.ops.length := by rw [HMM.out]; exact hkm
          obtain ⟨ad3, rfl, hc⟩ := HRO.out (by omega)
          obtain ⟨o, ho⟩ : ∃ o, t.ops[k]? = some o := ⟨_, List.getElem?_eq_getElem hkl⟩
          obtain ⟨x0, x1, x2⟩ := hc k o ho
          have hoo := (qs0 HRT.out).2 o (List.mem_of_getElem? ho)
          have HTP := Lib.hid (show t.ops.take (k + 1) = t.ops.take k ++ [o] by rw [List.take_add_one, ho]; rfl)
          have HOM := Lib.hid (List.mem_of_getElem? ho)
          replace x0 := cell_below hb x0
          replace x1 := cell_below hb x1
          replace x2 := cell_below hb x2
          have HVW := Lib.hid (ji7 (x := o.v) (by have := hoo.2.2.1; omega) (by have := hoo.2.2.2; omega))
          have hb2 : Below W1.heap.size W1 (wr.alloc (.cells #[.bool o.w, .int .i64 o.k, .int .i64 o.v] 51)) := hb.alloc hb.size _
          have HB2 := Lib.hid hb2
          clear hc ho hoo hkl hb hb2
          have hstep : qo1 f o = true → (t.ops.take (k + 1)).all (qo1 f) = true := fun h => by rw [HTP.out]; simp [hop, h]
          have hstop : qo1 f o = false → zT h = 2 := fun h => by
           rw [HF.out, show _ = false from List.all_eq_false.2 ⟨t, HTM.out, by rw [Bool.not_eq_true, List.all_eq_false]; exact ⟨o, HOM.out, by simp [h]⟩⟩]
           rfl
          have qK1 := Lib.hid hstep
          have qL3 := Lib.hid hstop
          clear hstep hstop
          cases hf : f o.v with
          | none =>
           have HV := Lib.hid (show (if true = true then (.tuple #[(qr0 f o.v).getD (.agg #[.int .i64 0, .int .i64 0, .bool false]), .bool (qr0 f o.v).isSome] : Value) else (qr0 f o.v).getD (.agg #[.int .i64 0, .int .i64 0, .bool false])) = .tuple #[.agg #[.int .i64 0, .int .i64 0, .bool false], .bool false] by simp [qr0, hf])
           have HRB := Lib.hid (show qo1 f o = (o.w || decide (o.v = 0) || false) by unfold qo1; rw [hf])
           obtain ⟨ow, ok, ov⟩ := o
           dsimp only at x0 x1 x2 HVW HV HB2 HRB hf
           clear hf
           cases ow with
           | true =>
            go_wp2_with (at_lookup; refine zH (HIM.out.alloc _) rfl _ _ 56 60 true rfl Try.underlying56 Try.underlying3 (.agg #[.int .i64 0, .int .i64 0, .bool false]) (fun _ => by kernel_rfl) rfl ov rfl HVW.out _ HV.out ?_)
            go_roundw
            case rel => exact ⟨k + 1, by rw [HMM.out]; omega, by go_num, HB2.out.alloc HB2.out.size _, (HIM.out.alloc _).alloc _, qK1.out (by rw [HRB.out]; rfl)⟩
            case measure => (simp [intOf]; try omega)
           | false =>
            by_cases hv0 : ov = 0
            ·subst hv0
             go_wp2_with (at_lookup; refine zH (HIM.out.alloc _) rfl _ _ 56 60 true rfl Try.underlying56 Try.underlying3 (.agg #[.int .i64 0, .int .i64 0, .bool false]) (fun _ => by kernel_rfl) rfl 0 rfl HVW.out _ HV.out ?_)
             go_roundw
             case rel => exact ⟨k + 1, by rw [HMM.out]; omega, by go_num, HB2.out.alloc HB2.out.size _, (HIM.out.alloc _).alloc _, qK1.out (by rw [HRB.out]; rfl)⟩
             case measure => (simp [intOf]; try omega)
            ·have hv1 : decide (ov = 0) = false := decide_eq_false hv0
             have jB5 := Lib.hid (qL3.out (by rw [HRB.out, hv1]; rfl))
             go_wp2_with (at_lookup; refine zH (HIM.out.alloc _) rfl _ _ 56 60 true rfl Try.underlying56 Try.underlying3 (.agg #[.int .i64 0, .int .i64 0, .bool false]) (fun _ => by kernel_rfl) rfl ov rfl HVW.out _ HV.out ?_)
             go_ret
             exact ⟨by rw [jB5.out]; rfl, (GW.out.trans ((HB2.out.alloc HB2.out.size _).mono GW.out.size))⟩
          | some x =>
           obtain ⟨x1n, x2n, x3n⟩ := x
           have HV := Lib.hid (show (if true = true then (.tuple #[(qr0 f o.v).getD (.agg #[.int .i64 0, .int .i64 0, .bool false]), .bool (qr0 f o.v).isSome] : Value) else (qr0 f o.v).getD (.agg #[.int .i64 0, .int .i64 0, .bool false])) = .tuple #[.agg #[.int .i64 (x1n : Int), .int .i64 x2n, .bool x3n], .bool true] by simp [qr0, hf, zm0])
           have HRB := Lib.hid (show qo1 f o = (o.w || decide (o.v = 0) || decide (x2n = o.k)) by unfold qo1; rw [hf])
           obtain ⟨ow, ok, ov⟩ := o
           dsimp only at x0 x1 x2 HVW HV HB2 HRB hf
           clear hf
           cases ow with
           | true =>
            go_wp2_with (at_lookup; refine zH (HIM.out.alloc _) rfl _ _ 56 60 true rfl Try.underlying56 Try.underlying3 (.agg #[.int .i64 0, .int .i64 0, .bool false]) (fun _ => by kernel_rfl) rfl ov rfl HVW.out _ HV.out ?_)
            go_roundw
            case rel => exact ⟨k + 1, by rw [HMM.out]; omega, by go_num, HB2.out.alloc HB2.out.size _, (HIM.out.alloc _).alloc _, qK1.out (by rw [HRB.out]; rfl)⟩
            case measure => (simp [intOf]; try omega)
           | false =>
            by_cases hv0 : ov = 0
            ·subst hv0
             go_wp2_with (at_lookup; refine zH (HIM.out.alloc _) rfl _ _ 56 60 true rfl Try.underlying56 Try.underlying3 (.agg #[.int .i64 0, .int .i64 0, .bool false]) (fun _ => by kernel_rfl) rfl 0 rfl HVW.out _ HV.out ?_)
             go_roundw
             case rel => exact ⟨k + 1, by rw [HMM.out]; omega, by go_num, HB2.out.alloc HB2.out.size _, (HIM.out.alloc _).alloc _, qK1.out (by rw [HRB.out]; rfl)⟩
             case measure => (simp [intOf]; try omega)
            ·have hv1 : decide (ov = 0) = false := decide_eq_false hv0
             by_cases hk2 : x2n = ok
             ·subst hk2
              go_wp2_with (at_lookup; refine zH (HIM.out.alloc _) rfl _ _ 56 60 true rfl Try.underlying56 Try.underlying3 (.agg #[.int .i64 0, .int .i64 0, .bool false]) (fun _ => by kernel_rfl) rfl ov rfl HVW.out _ HV.out ?_)
              go_roundw
              case rel => exact ⟨k + 1, by rw [HMM.out]; omega, by go_num, HB2.out.alloc HB2.out.size _, (HIM.out.alloc _).alloc _, qK1.out (by rw [HRB.out]; simp)⟩
              case measure => (simp [intOf]; try omega)
             ·have hk3 : decide (x2n = ok) = false := decide_eq_false hk2
              have hn1 : (ov != 0) = true := by simp [hv0]
              have hn2 : (x2n != ok) = true := by simp [hk2]
              have jB5 := Lib.hid (qL3.out (by rw [HRB.out, hv1, hk3]; rfl))
              go_wp2_with (at_lookup; refine zH (HIM.out.alloc _) rfl _ _ 56 60 true rfl Try.underlying56 Try.underlying3 (.agg #[.int .i64 0, .int .i64 0, .bool false]) (fun _ => by kernel_rfl) rfl ov rfl HVW.out _ HV.out ?_)
              go_ret
              exact ⟨by rw [jB5.out]; rfl, (GW.out.trans ((HB2.out.alloc HB2.out.size _).mono GW.out.size))⟩
         ·have hkm2 : k = m := by omega
          subst hkm2
          rw [List.take_of_length_le (by rw [HMM.out]; exact Nat.le_refl _)] at hop
          have zr7 : ((h.take (j + 1)).all fun t => t.ops.all (qo1 f)) = true := by rw [HTO.out]; simp [hall, hop]
          have HB2 := Lib.hid (GW.out.trans (hb.mono GW.out.size))
          clear hop hall hb
          go_wp2_with fail
          go_roundw
          case rel => exact ⟨j + 1, by rw [HN.out]; omega, by go_num, HB2.out, HIM.out, zr7⟩
          case measure => (simp [intOf]; try omega)
       ·have hji : j = i := by omega
        subst hji
        rw [List.take_of_length_le (by rw [HN.out]; exact Nat.le_refl _)] at hall
        have jB5 := Lib.hid (show zT h = 0 by rw [HF.out, hall]; rfl)
        clear hall
        go_wp2_with fail
        go_ret
        exact ⟨by rw [jB5.out]; rfl, hb⟩
end Go.Proofs.Ytngkneknopenmaa.zM
end
section
namespace Go.Proofs.Ytngkneknopenmaa.zM
open Go Go.RowKit Go.Proofs.Ytngkneknopenmaa.qa9 Go.Proofs.Ytngkneknopenmaa.qi7
def qz6 (u t : T4) : Bool := !(decide (u.b = t.b) || decide (u.b = t.c) || decide (u.c = t.b) || decide (u.c = t.c)) && !(decide (u.s = t.s) && decide (t.b < u.c))
def opB (h : List T4) (o : O3) : Bool := if o.w then decide (qs1 h o.v = 1) else (decide (o.v = 0) || decide (0 ≤ qy7 o.k o.v 0 h))
def qK2 (h : List T4) (i : Nat) (t : T4) : Bool := qd2 t && (h.take i).all (fun u => qz6 u t) && t.ops.all (opB h)
def jL4 (h : List T4) : Nat → List T4 → Bool
 | _, [] => true
 | i, t :: r => qK2 h i t && jL4 h (i + 1) r
def qR3 (h : List T4) : Bool := jL4 h 0 h
def qj9 (h : List T4) : Int := if h.length > 64 ∨ jL h > 1024 then 3 else if !qR3 h then 2 else 0
def Qh4 (h : List T4) (w : World) (v : Value) (wr : World) : Prop :=
 ∃ i : Nat, i ≤ h.length ∧ v = .int .i64 ((i : Nat) : Int) ∧ Below w.heap.size w wr ∧ jL4 h i (h.drop i) = qR3 h
def Qh5 (h : List T4) (i : Nat) (t : T4) (w : World) (v : Value) (wr : World) : Prop :=
 ∃ k : Nat, k ≤ i ∧ v = .int .i64 ((k : Nat) : Int) ∧ Below w.heap.size w wr ∧ (h.take k).all (fun u => qz6 u t) = true
def Qh6 (h : List T4) (t : T4) (w : World) (v : Value) (wr : World) : Prop :=
 ∃ j : Nat, j ≤ t.ops.length ∧ v = .int .i64 ((j : Nat) : Int) ∧ Below w.heap.size w wr ∧ (t.ops.take j).all (opB h) = true
set_option maxHeartbeats 8000000 in
set_option maxRecDepth 100000 in
theorem zm1 (A : Option Addr) (cap : Nat) (h : List T4) (hcap : h.length ≤ cap) (hm : h.length ≤ 4611686018427387904) (hcnt : jL h ≤ 4611686018427387904) (w : World) (hr : RdT w A h) :
  Calls Try.prog 42 #[.slice A h.length cap] w fun e w' => e = .returned (.bool (qR3 h)) ∧ Below w.heap.size w w' := by
 have TC := fun (v : Int) (w' : World) (k : Below w.heap.size w w') => jL5 A cap h v w' (hr.below k) hcap hm hcnt
 have RC := fun (key v : Int) (w' : World) (k : Below w.heap.size w w') => jB6 A cap h key v w' (hr.below k) hcap hm hcnt
 obtain ⟨n, hn⟩ : ∃ n, h.length = n := ⟨_, rfl⟩
 have HN := Lib.hid hn
 rw [hn] at hm hcap TC RC ⊢
 have HR := Lib.hid hr
 have HTC := Lib.hid TC
 have HRC := Lib.hid RC
 clear hn hr TC RC
 go_enter Try.func42, Try.ntmps42
 go_wp2_with fail
 go_loopw [3] (fun v wr => Qh4 h w v wr) (fun v _ => n - (intOf v).toNat)
 case atStart => exact ⟨0, Nat.zero_le _, rfl, Below.refl _ _, rfl⟩
 case round =>
  obtain ⟨i, hi, rfl, hb, hall⟩ := hrel
  rw [HN.out] at hi
  by_cases hlt : i < n
  ·have hltz : (i : Int) < (n : Int) := by omega
   have hil : i < h.length := by rw [HN.out]; exact hlt
   obtain ⟨ad, rfl, hc⟩ := HR.out (by omega)
   obtain ⟨t, ht⟩ : ∃ t, h[i]? = some t := ⟨_, List.getElem?_eq_getElem hil⟩
   obtain ⟨A3, c3, t0, t1, t2, t3, hl3, hro⟩ := hc i t ht
   have hdr : h.drop i = t :: h.drop (i + 1) := by
    rw [List.drop_eq_getElem_cons hil]
    congr 1
    exact Option.some.inj ((List.getElem?_eq_getElem hil).symm.trans ht)
   rw [hdr] at hall
   have HAL := Lib.hid (show (qK2 h i t && jL4 h (i + 1) (h.drop (i + 1))) = qR3 h from hall)
   have T0 := Lib.hid t0
   have T1 := Lib.hid t1
   have T2 := Lib.hid t2
   have T3 := Lib.hid t3
   replace t0 := cell_below hb t0
   replace t1 := cell_below hb t1
   replace t2 := cell_below hb t2
   replace t3 := cell_below hb t3
   have MC := jW3 A3 c3 t wr (hro.below hb) hl3 (by have := qr5 (List.mem_of_getElem? ht); omega)
   have HT := Lib.hid ht
   have HC := Lib.hid hc
   obtain ⟨m, hm⟩ : ∃ m, t.ops.length = m := ⟨_, rfl⟩
   have HMM := Lib.hid hm
   have hm62 : m ≤ 4611686018427387904 := by rw [← hm]; have := qr5 (List.mem_of_getElem? ht); omega
   rw [hm] at t3 hl3 MC T3
   have HMC := Lib.hid MC
   have HB := Lib.hid hb
   have HRO := Lib.hid hro
   clear hc ht hro hil hm MC hb hdr hall
   cases hrt : qd2 t with
   | false =>
    have HF := Lib.hid (show qR3 h = false by rw [← HAL.out]; unfold qK2; rw [hrt]; rfl)
    rw [hrt] at HMC
    go_wp2_with (go_at_call 64; (with_reducible refine HMC.out.mono ?_); rintro e w2 ⟨rfl, k2⟩)
    go_ret
    exact ⟨by rw [HF.out]; rfl, HB.out.trans (k2.mono HB.out.size)⟩
   | true =>
    rw [hrt] at HMC
    go_wp2_with (go_at_call 64; (with_reducible refine HMC.out.mono ?_); rintro e w2 ⟨rfl, k2⟩)
    have hb2 := HB.out.trans (k2.mono HB.out.size)
    have HB2 := Lib.hid hb2
    clear t0 t1 t2 t3 k2 HB hb2 HMC
    go_loopw [4] (fun v wr => Qh5 h i t w v wr) (fun v _ => i - (intOf v).toNat)
    case atStart => exact ⟨0, Nat.zero_le _, rfl, HB2.out, by simp⟩
    case round =>
     clear HB2
     obtain ⟨k, hk, rfl, hb, hpr⟩ := hrel
     by_cases hki : k < i
     ·have hkz : (k : Int) < (i : Int) := by omega
      have hkn : (k : Int) < (n : Int) := by omega
      obtain ⟨u, hu⟩ : ∃ u, h[k]? = some u := ⟨_, List.getElem?_eq_getElem (by rw [HN.out]; omega)⟩
      obtain ⟨A4, c4, u0, u1, u2, u3, _, _⟩ := HC.out k u hu
      have HTK := Lib.hid (show h.take (k + 1) = h.take k ++ [u] by rw [List.take_add_one, hu]; rfl)
      have HUM := Lib.hid (show u ∈ h.take i from List.mem_of_getElem? (show (h.take i)[k]? = some u by rw [List.getElem?_take, if_pos hki]; exact hu))
      have t0 := cell_below hb T0.out
      have t1 := cell_below hb T1.out
      have t2 := cell_below hb T2.out
      have t3 := cell_below hb T3.out
      replace u0 := cell_below hb u0
      replace u1 := cell_below hb u1
      replace u2 := cell_below hb u2
      replace u3 := cell_below hb u3
      obtain ⟨m4, hm4⟩ : ∃ m4, u.ops.length = m4 := ⟨_, rfl⟩
      rw [hm4] at u3
      have hal : ∀ {a v}, wr.cell? a = some v → (wr.alloc (.cells #[.int .i64 u.s, .int .i64 u.b, .int .i64 u.c, .slice A4 m4 c4] 55)).cell? a = some v := fun {a v} e => cell_below ((Below.refl _ _).alloc (Nat.le_refl _) _) e
      replace t0 := hal t0
      replace t1 := hal t1
      replace t2 := hal t2
      replace t3 := hal t3
      have HB := Lib.hid hb
      clear hu hb hal hm4
      have hstop : qz6 u t = false → qR3 h = false := fun e => by
       rw [← HAL.out]
       unfold qK2
       rw [show (h.take i).all (fun u => qz6 u t) = false from List.all_eq_false.2 ⟨u, HUM.out, by simp [e]⟩]
       simp
      have hstep : qz6 u t = true → (h.take (k + 1)).all (fun u => qz6 u t) = true := fun e => by rw [HTK.out]; simp [hpr, e]
      have qL3 := Lib.hid hstop
      have qK1 := Lib.hid hstep
      clear hstop hstep
      obtain ⟨us, ub, uc, zm2⟩ := u
      obtain ⟨ts, tb, tc, zm3⟩ := t
      dsimp only at t0 t1 t2 t3 u0 u1 u2 u3
      by_cases e1 : ub = tb
      ·subst e1
       have HF := Lib.hid (qL3.out (by simp [qz6]))
       go_wp2_with fail
       go_ret
       exact ⟨by rw [HF.out]; rfl, ((HB.out.alloc HB.out.size _).alloc (HB.out.alloc HB.out.size _).size _)⟩
      ·have e1d : decide (ub = tb) = false := decide_eq_false e1
       have e1b : (ub == tb) = false := by simp [e1]
       by_cases e2 : ub = tc
       ·subst e2
        have HF := Lib.hid (qL3.out (by simp [qz6]))
        go_wp2_with fail
        go_ret
        exact ⟨by rw [HF.out]; rfl, ((HB.out.alloc HB.out.size _).alloc (HB.out.alloc HB.out.size _).size _)⟩
       ·have e2d : decide (ub = tc) = false := decide_eq_false e2
        have e2b : (ub == tc) = false := by simp [e2]
        by_cases e3 : uc = tb
        ·subst e3
         have HF := Lib.hid (qL3.out (by simp [qz6]))
         go_wp2_with fail
         go_ret
         exact ⟨by rw [HF.out]; rfl, ((HB.out.alloc HB.out.size _).alloc (HB.out.alloc HB.out.size _).size _)⟩
        ·have e3d : decide (uc = tb) = false := decide_eq_false e3
         have e3b : (uc == tb) = false := by simp [e3]
         by_cases e4 : uc = tc
         ·subst e4
          have HF := Lib.hid (qL3.out (by simp [qz6]))
          go_wp2_with fail
          go_ret
          exact ⟨by rw [HF.out]; rfl, ((HB.out.alloc HB.out.size _).alloc (HB.out.alloc HB.out.size _).size _)⟩
         ·have e4d : decide (uc = tc) = false := decide_eq_false e4
          have e4b : (uc == tc) = false := by simp [e4]
          by_cases e5 : us = ts
          ·subst e5
           by_cases e6 : tb < uc
           ·have HF := Lib.hid (qL3.out (by simp [qz6, e6]))
            go_wp2_with fail
            go_ret
            exact ⟨by rw [HF.out]; rfl, ((HB.out.alloc HB.out.size _).alloc (HB.out.alloc HB.out.size _).size _)⟩
           ·have HF := Lib.hid (qK1.out (by simp [qz6, e1, e2, e3, e4]; omega))
            go_wp2_with fail
            go_roundw
            case rel => exact ⟨k + 1, by omega, by go_num, ((HB.out.alloc HB.out.size _).alloc (HB.out.alloc HB.out.size _).size _), HF.out⟩
            case measure => (simp [intOf]; try omega)
          ·have e5d : decide (us = ts) = false := decide_eq_false e5
           have e5b : (us == ts) = false := by simp [e5]
           have HF := Lib.hid (qK1.out (by simp [qz6, e1, e2, e3, e4, e5]))
           go_wp2_with fail
           go_roundw
           case rel => exact ⟨k + 1, by omega, by go_num, ((HB.out.alloc HB.out.size _).alloc (HB.out.alloc HB.out.size _).size _), HF.out⟩
           case measure => (simp [intOf]; try omega)
     ·have hki2 : k = i := by omega
      subst hki2
      have HPR := Lib.hid hpr
      have HB := Lib.hid hb
      clear hpr hb
      go_wp2_with fail
      go_loopw [7] (fun v wr => Qh6 h t w v wr) (fun v _ => m - (intOf v).toNat)
      case atStart => exact ⟨0, Nat.zero_le _, rfl, HB.out, by simp⟩
      case round =>
       clear HB
       obtain ⟨j, hj, rfl, hb, hop⟩ := hrel
       rw [HMM.out] at hj
       have t3 := cell_below hb T3.out
       by_cases hjm : j < m
       ·have hjz : (j : Int) < (m : Int) := by omega
        have hjl : j < t.ops.length := by rw [HMM.out]; exact hjm
        obtain ⟨ad3, rfl, hc⟩ := HRO.out (by omega)
        obtain ⟨o, ho⟩ : ∃ o, t.ops[j]? = some o := ⟨_, List.getElem?_eq_getElem hjl⟩
        obtain ⟨x0, x1, x2⟩ := hc j o ho
        have HTP := Lib.hid (show t.ops.take (j + 1) = t.ops.take j ++ [o] by rw [List.take_add_one, ho]; rfl)
        have HOM := Lib.hid (List.mem_of_getElem? ho)
        replace x0 := cell_below hb x0
        replace x1 := cell_below hb x1
        replace x2 := cell_below hb x2
        have HB := Lib.hid hb
        clear hc ho hjl hb
        have hstop : opB h o = false → qR3 h = false := fun e => by
         rw [← HAL.out]
         unfold qK2
         rw [show t.ops.all (opB h) = false from List.all_eq_false.2 ⟨o, HOM.out, by simp [e]⟩]
         simp
        have hstep : opB h o = true → (t.ops.take (j + 1)).all (opB h) = true := fun e => by rw [HTP.out]; simp [hop, e]
        have qL3 := Lib.hid hstop
        have qK1 := Lib.hid hstep
        clear hstop hstep
        obtain ⟨ow, ok, ov⟩ := o
        dsimp only at x0 x1 x2
        have hb2 : Below w.heap.size w (wr.alloc (.cells #[.bool ow, .int .i64 ok, .int .i64 ov] 51)) := HB.out.alloc HB.out.size _
        have TC := HTC.out ov _ hb2
        have RC := HRC.out ok ov _ hb2
        have hbx := alloc_at wr (.cells #[.bool ow, .int .i64 ok, .int .i64 ov] 51)
        have z0 := Lib.cell_of_heap hbx 0
        have z1 := Lib.cell_of_heap hbx 1
        have z2 := Lib.cell_of_heap hbx 2
        simp only [List.getElem?_toArray, List.getElem?_cons_zero, List.getElem?_cons_succ] at z0 z1 z2
        have Z0 := Lib.hid z0
        have Z1 := Lib.hid z1
        have Z2 := Lib.hid z2
        have HB2 := Lib.hid hb2
        have TC' := Lib.hid TC
        have RC' := Lib.hid RC
        clear hb2 TC RC HB hbx z0 z1 z2
        cases ow with
        | true =>
         by_cases htm : qs1 h ov = 1
         ·have HF := Lib.hid (qK1.out (by simp [opB, htm]))
          rw [htm] at TC'
          clear htm
          go_wp2_with (go_at_call 65; (with_reducible refine TC'.out.mono ?_); rintro e w5 ⟨rfl, k5⟩; have z0 := cell_below k5 Z0.out; have z1 := cell_below k5 Z1.out; have z2 := cell_below k5 Z2.out)
          go_roundw
          case rel => exact ⟨j + 1, by rw [HMM.out]; omega, by go_num, HB2.out.trans (k5.mono HB2.out.size), HF.out⟩
          case measure => (simp [intOf]; try omega)
         ·have HF := Lib.hid (qL3.out (by simp [opB, htm]))
          have htz : ¬ (qs1 h ov : Int) = 1 := by omega
          have htb : ((qs1 h ov : Int) != 1) = true := by simp [htz]
          go_wp2_with (go_at_call 65; (with_reducible refine TC'.out.mono ?_); rintro e w5 ⟨rfl, k5⟩; have z0 := cell_below k5 Z0.out; have z1 := cell_below k5 Z1.out; have z2 := cell_below k5 Z2.out)
          go_ret
          exact ⟨by rw [HF.out]; rfl, HB2.out.trans (k5.mono HB2.out.size)⟩
        | false =>
         by_cases hv0 : ov = 0
         ·subst hv0
          have HF := Lib.hid (qK1.out (by simp [opB]))
          go_wp2_with fail
          go_roundw
          case rel => exact ⟨j + 1, by rw [HMM.out]; omega, by go_num, HB2.out, HF.out⟩
          case measure => (simp [intOf]; try omega)
         ·have hn1 : (ov != 0) = true := by simp [hv0]
          by_cases hwr : qy7 ok ov 0 h < 0
          ·have HF := Lib.hid (qL3.out (by simp [opB, hv0, hwr]))
           go_wp2_with (go_at_call 31; (with_reducible refine RC'.out.mono ?_); rintro e w5 ⟨rfl, k5⟩; have z0 := cell_below k5 Z0.out; have z1 := cell_below k5 Z1.out; have z2 := cell_below k5 Z2.out)
           go_ret
           exact ⟨by rw [HF.out]; rfl, HB2.out.trans (k5.mono HB2.out.size)⟩
          ·have HF := Lib.hid (qK1.out (by simp [opB, Int.not_lt.1 hwr]))
           go_wp2_with (go_at_call 31; (with_reducible refine RC'.out.mono ?_); rintro e w5 ⟨rfl, k5⟩; have z0 := cell_below k5 Z0.out; have z1 := cell_below k5 Z1.out; have z2 := cell_below k5 Z2.out)
           go_roundw
           case rel => exact ⟨j + 1, by rw [HMM.out]; omega, by go_num, HB2.out.trans (k5.mono HB2.out.size), HF.out⟩
           case measure => (simp [intOf]; try omega)
       ·have zr9 : j = m := by omega
        subst zr9
        rw [List.take_of_length_le (by rw [HMM.out]; exact Nat.le_refl _)] at hop
        have hnx : jL4 h (k + 1) (h.drop (k + 1)) = qR3 h := by
         rw [← HAL.out]
         unfold qK2
         rw [hrt, HPR.out, hop]
         simp
        have HNX := Lib.hid hnx
        have HB := Lib.hid hb
        clear hop hnx hb
        go_wp2_with fail
        go_roundw
        case rel => exact ⟨k + 1, by rw [HN.out]; omega, by go_num, HB.out, HNX.out⟩
        case measure => (simp [intOf]; try omega)
  ·have hin : i = n := by omega
   subst hin
   rw [List.drop_of_length_le (by rw [HN.out]; exact Nat.le_refl _)] at hall
   have HF := Lib.hid (show qR3 h = true from hall.symm)
   go_wp2_with fail
   go_ret
   exact ⟨by rw [HF.out]; rfl, hb⟩
set_option maxHeartbeats 8000000 in
set_option maxRecDepth 100000 in
theorem zm4 (A : Option Addr) (cap : Nat) (h : List T4) (hcap : h.length ≤ cap) (hm : h.length ≤ 4611686018427387904) (hcnt : jL h ≤ 4611686018427387904) (w : World) (hr : RdT w A h) :
  Calls Try.prog 14 #[.slice A h.length cap] w fun e w' => e = .returned (.int .i64 (qj9 h)) ∧ Below w.heap.size w w' := by
 have OC := jL6 A cap h w hr hcap hm hcnt
 have MC := fun (w' : World) (k : Below w.heap.size w w') => zm1 A cap h hcap hm hcnt w' (hr.below k)
 obtain ⟨n, hn⟩ : ∃ n, h.length = n := ⟨_, rfl⟩
 have HN := Lib.hid hn
 rw [hn] at hm hcap OC MC ⊢
 have HOC := Lib.hid OC
 have HMC := Lib.hid MC
 clear hn hr OC MC
 go_enter Try.func14, Try.ntmps14
 by_cases hbig : 64 < n
 ·have hbz : (64 : Int) < (n : Int) := by omega
  have HC := Lib.hid (show qj9 h = 3 by unfold qj9; rw [if_pos (Or.inl (by rw [HN.out]; exact hbig))])
  go_wp2_with fail
  go_ret
  exact ⟨by rw [HC.out]; rfl, Below.refl _ _⟩
 ·have hbz : ¬ (64 : Int) < (n : Int) := by omega
  by_cases hcb : 1024 < jL h
  ·have hcz : (1024 : Int) < (jL h : Int) := by omega
   have HC := Lib.hid (show qj9 h = 3 by unfold qj9; rw [if_pos (Or.inr hcb)])
   go_wp2_with (go_at_call 33; (with_reducible refine HOC.out.mono ?_); rintro e w1 ⟨rfl, k1⟩)
   go_ret
   exact ⟨by rw [HC.out]; rfl, k1⟩
  have hcz : ¬ (1024 : Int) < (jL h : Int) := by omega
  have hc1 : qj9 h = if !qR3 h then 2 else 0 := by
   unfold qj9
   rw [if_neg (by rw [HN.out]; omega)]
  have HC := Lib.hid hc1
  clear hc1
  cases hmf : qR3 h with
  | false =>
   rw [hmf] at HC HMC
   go_wp2_with (first
    | (go_at_call 33; (with_reducible refine HOC.out.mono ?_); rintro e w1 ⟨rfl, k1⟩)
    | (go_at_call 42; (with_reducible refine (HMC.out _ k1).mono ?_); rintro e w2 ⟨rfl, k2⟩))
   go_ret
   exact ⟨by rw [HC.out]; rfl, k1.trans (k2.mono k1.size)⟩
  | true =>
   rw [hmf] at HC HMC
   go_wp2_with (first
    | (go_at_call 33; (with_reducible refine HOC.out.mono ?_); rintro e w1 ⟨rfl, k1⟩)
    | (go_at_call 42; (with_reducible refine (HMC.out _ k1).mono ?_); rintro e w2 ⟨rfl, k2⟩))
   go_ret
   exact ⟨by rw [HC.out]; rfl, k1.trans (k2.mono k1.size)⟩
end Go.Proofs.Ytngkneknopenmaa.zM
end
section
namespace Go.Proofs.Ytngkneknopenmaa.zM
open Go Go.RowKit Go.Proofs.Ytngkneknopenmaa.qa9
def qs2 (u t : T4) : Prop := u.b ≠ t.b ∧ u.b ≠ t.c ∧ u.c ≠ t.b ∧ u.c ≠ t.c ∧ (u.s = t.s → u.c ≤ t.b)
theorem jx5 (u t : T4) : qz6 u t = true ↔ qs2 u t := by
 unfold qz6 qs2
 simp only [Bool.and_eq_true, Bool.not_eq_true', Bool.or_eq_false_iff, decide_eq_false_iff_not, Bool.and_eq_false_imp, decide_eq_true_eq]
 constructor
 ·rintro ⟨⟨⟨⟨a, b⟩, c⟩, d⟩, e⟩
  exact ⟨a, b, c, d, fun h => Int.not_lt.1 (e h)⟩
 ·rintro ⟨a, b, c, d, e⟩
  exact ⟨⟨⟨⟨a, b⟩, c⟩, d⟩, fun h => Int.not_lt.2 (e h)⟩
def zs1 (p : List T4) (seen : Int → Bool) : Prop := ∀ x, seen x = true ↔ ∃ u ∈ p, u.b = x ∨ u.c = x
def zW4 (p : List T4) (last : Int → Option Int) : Prop := (∀ u ∈ p, ∃ e, last u.s = some e ∧ u.c ≤ e) ∧ ∀ s e, last s = some e → ∃ u ∈ p, u.s = s ∧ u.c = e
theorem jm4 {t : T4} (h : qd2 t = true) : t.b < t.c := by
 unfold qd2 at h
 simp only [Bool.and_eq_true, decide_eq_true_eq] at h
 omega
theorem jm5 : ∀ (r p : List T4) (seen : Int → Bool) (last : Int → Option Int), (∀ t ∈ r, qd2 t = true) → zs1 p seen → zW4 p last → p.Pairwise qs2 → (qe9 r seen last = true ↔ (p ++ r).Pairwise qs2)
 | [], p, seen, last, _, _, _, hp => by simpa [qe9] using hp
 | t :: r, p, seen, last, hr, hs, hl, hp => by
  have hlt := jm4 (hr t (by simp))
  have hs2 : zs1 (p ++ [t]) (qg5 (qg5 seen t.b) t.c) := by
   intro x
   unfold qg5
   by_cases h1 : x = t.c
   ·simp only [h1, if_true, true_iff]
    exact ⟨t, by simp, .inr rfl⟩
   ·rw [if_neg h1]
    by_cases h2 : x = t.b
    ·simp only [h2, if_true, true_iff]
     exact ⟨t, by simp, .inl rfl⟩
    ·rw [if_neg h2, hs x]
     constructor
     ·rintro ⟨u, hu, e⟩
      exact ⟨u, by simp [hu], e⟩
     ·rintro ⟨u, hu, e⟩
      rcases List.mem_append.1 hu with hu | hu
      ·exact ⟨u, hu, e⟩
      ·simp at hu
       subst hu
       rcases e with e | e
       ·exact absurd e.symm h2
       ·exact absurd e.symm h1
  have hstep : (seen t.b = false ∧ qg5 seen t.b t.c = false ∧ ∀ e, last t.s = some e → e ≤ t.b) ↔ ∀ u ∈ p, qs2 u t := by
   have hsf : qg5 seen t.b t.c = seen t.c := by unfold qg5; rw [if_neg (by omega)]
   rw [hsf]
   constructor
   ·rintro ⟨a, b, c⟩ u hu
    have ha : ¬ ∃ u ∈ p, u.b = t.b ∨ u.c = t.b := fun h => by rw [(hs t.b).2 h] at a; cases a
    have hb : ¬ ∃ u ∈ p, u.b = t.c ∨ u.c = t.c := fun h => by rw [(hs t.c).2 h] at b; cases b
    refine ⟨fun e => ha ⟨u, hu, .inl e⟩, fun e => hb ⟨u, hu, .inl e⟩, fun e => ha ⟨u, hu, .inr e⟩, fun e => hb ⟨u, hu, .inr e⟩, fun e => ?_⟩
    obtain ⟨x, h1, h2⟩ := hl.1 u hu
    have := c x (e ▸ h1)
    omega
   ·intro h
    refine ⟨?_, ?_, ?_⟩
    ·cases hh : seen t.b with
     | false => rfl
     | true =>
      obtain ⟨u, hu, e⟩ := (hs _).1 hh
      have := h u hu
      rcases e with e | e
      ·exact absurd e this.1
      ·exact absurd e this.2.2.1
    ·cases hh : seen t.c with
     | false => rfl
     | true =>
      obtain ⟨u, hu, e⟩ := (hs _).1 hh
      have := h u hu
      rcases e with e | e
      ·exact absurd e this.2.1
      ·exact absurd e this.2.2.2.1
    ·intro e he
     obtain ⟨u, hu, h1, h2⟩ := hl.2 _ _ he
     have := (h u hu).2.2.2.2 h1
     omega
  have hgo : (∀ u ∈ p, qs2 u t) → (qe9 r (qg5 (qg5 seen t.b) t.c) (lastT last t.s t.c) = true ↔ (p ++ t :: r).Pairwise qs2) := by
   intro hpt
   have h1 := jm5 r (p ++ [t]) (qg5 (qg5 seen t.b) t.c) (lastT last t.s t.c) (fun u hu => hr u (by simp [hu])) hs2 (by
    constructor
    ·intro u hu
     unfold lastT
     rcases List.mem_append.1 hu with hu | hu
     ·by_cases h : u.s = t.s
      ·rw [if_pos h]
       have := (hpt u hu).2.2.2.2 h
       exact ⟨_, rfl, by omega⟩
      ·rw [if_neg h]
       exact hl.1 u hu
     ·simp at hu
      subst hu
      rw [if_pos rfl]
      exact ⟨_, rfl, Int.le_refl _⟩
    ·intro s e he
     unfold lastT at he
     split at he
     ·rename_i h
      cases he
      exact ⟨t, by simp, h.symm, rfl⟩
     ·obtain ⟨u, hu, h1, h2⟩ := hl.2 _ _ he
      exact ⟨u, by simp [hu], h1, h2⟩) (by
    rw [List.pairwise_append]
    exact ⟨hp, by simp, fun a ha b hb => by simp at hb; subst hb; exact hpt a ha⟩)
   rw [h1]
   simp
  have hback : (p ++ t :: r).Pairwise qs2 → ∀ u ∈ p, qs2 u t := fun h u hu => (List.pairwise_append.1 h).2.2 u hu t (by simp)
  unfold qe9
  by_cases h1 : seen t.b = true
  ·rw [if_pos h1]
   simp only [Bool.false_eq_true, false_iff]
   intro h
   have := (hstep.2 (hback h)).1
   rw [h1] at this; cases this
  rw [if_neg h1]
  by_cases h2 : qg5 seen t.b t.c = true
  ·rw [if_pos h2]
   simp only [Bool.false_eq_true, false_iff]
   intro h
   have := (hstep.2 (hback h)).2.1
   rw [h2] at this; cases this
  rw [if_neg h2]
  cases hls : last t.s with
  | none =>
   exact hgo (hstep.1 ⟨eq_false_of_ne_true h1, eq_false_of_ne_true h2, fun e he => by rw [hls] at he; cases he⟩)
  | some e =>
   dsimp only
   by_cases h3 : e > t.b
   ·rw [if_pos h3]
    simp only [Bool.false_eq_true, false_iff]
    intro h
    have := (hstep.2 (hback h)).2.2 e hls
    omega
   ·rw [if_neg h3]
    exact hgo (hstep.1 ⟨eq_false_of_ne_true h1, eq_false_of_ne_true h2, fun x he => by rw [hls] at he; cases he; omega⟩)
theorem jx6 {h : List T4} (hr : ∀ t ∈ h, qd2 t = true) : qe9 h (fun _ => false) (fun _ => none) = true ↔ h.Pairwise qs2 := by
 have := jm5 h [] (fun _ => false) (fun _ => none) hr (by intro x; simp) ⟨by simp, by simp⟩ (by simp)
 simpa using this
def pr (f : Int → Option W3) : Int → Option (Nat × Int) := fun v => (f v).map fun x => (x.1, x.2.1)
def qR4 : List (Int × Nat × Int) → (Int → Option (Nat × Int)) → Option (Int → Option (Nat × Int))
 | [], g => some g
 | (v, p) :: l, g => match g v with | some _ => none | none => qR4 l (fun y => if y = v then some p else g y)
def wrs (i : Nat) (ops : List O3) : List (Int × Nat × Int) := ops.filterMap fun o => if o.w then some (o.v, i, o.k) else none
def qF9 : Nat → List T4 → List (Int × Nat × Int)
 | _, [] => []
 | i, t :: r => wrs i t.ops ++ qF9 (i + 1) r
theorem jg8 : ∀ (l l' : List (Int × Nat × Int)) (g), qR4 (l ++ l') g = (qR4 l g).bind (qR4 l')
 | [], _, _ => rfl
 | (v, p) :: l, l', g => by
  show (match g v with | some _ => none | none => qR4 (l ++ l') _) = _
  show _ = (match g v with | some _ => none | none => qR4 l _).bind _
  cases g v with
  | some _ => rfl
  | none => exact jg8 l l' _
theorem jj8 (i : Nat) : ∀ (ops : List O3) (f : Int → Option W3), (jm6 i ops f).map pr = qR4 (wrs i ops) (pr f)
 | [], f => rfl
 | o :: r, f => by
  unfold jm6 stepW wrs
  by_cases hw : o.w = true
  ·rw [if_pos hw, List.filterMap_cons]
   simp only [hw, if_true]
   show _ = (match pr f o.v with | some _ => none | none => qR4 (wrs i r) _)
   cases hf : f o.v with
   | some x => simp [pr, hf]
   | none =>
    have : pr f o.v = none := by simp [pr, hf]
    rw [this]
    show (jm6 i r _).map pr = _
    rw [jj8 i r]
    congr 1
    funext y
    unfold pr jB7
    by_cases h : y = o.v <;> simp [h]
  ·rw [if_neg hw, List.filterMap_cons]
   simp only [hw]
   exact jj8 i r f
theorem zg0 {i : Nat} {ops : List O3} {x : Int × Nat × Int} : x ∈ wrs i ops ↔ ∃ o ∈ ops, o.w = true ∧ x = (o.v, i, o.k) := by
 unfold wrs
 rw [List.mem_filterMap]
 constructor
 ·rintro ⟨o, ho, h⟩
  split at h
  ·rename_i hw; cases h; exact ⟨o, ho, hw, rfl⟩
  ·cases h
 ·rintro ⟨o, ho, hw, rfl⟩
  exact ⟨o, ho, by rw [if_pos hw]⟩
theorem qN9 : ∀ (l : List (Int × Nat × Int)) (g g' : Int → Option (Nat × Int)), qR4 l g = some g' → ((l.map (·.1)).Nodup ∧ ∀ x ∈ l, g x.1 = none) ∧ ∀ v p, g' v = some p ↔ (v, p) ∈ l ∨ g v = some p
 | [], g, g', h => by cases h; simp
 | (v, p) :: l, g, g', h => by
  unfold qR4 at h
  cases hg : g v with
  | some x => rw [hg] at h; cases h
  | none =>
   rw [hg] at h
   obtain ⟨⟨h1, h2⟩, h3⟩ := qN9 l _ g' h
   have hne : ∀ x ∈ l, x.1 ≠ v := fun x hx e => by have := h2 x hx; simp [e] at this
   refine ⟨⟨?_, ?_⟩, ?_⟩
   ·rw [List.map_cons, List.nodup_cons]
    refine ⟨fun hm => ?_, h1⟩
    obtain ⟨x, hx, e⟩ := List.mem_map.1 hm
    exact hne x hx e
   ·intro x hx
    rcases List.mem_cons.1 hx with rfl | hx
    ·exact hg
    ·have := h2 x hx
     simpa [hne x hx] using this
   ·intro y q
    rw [h3 y q]
    by_cases hy : y = v
    ·subst hy
     simp only [if_true, List.mem_cons, hg]
     constructor
     ·rintro (h | h)
      ·exact .inl (.inr h)
      ·cases h; exact .inl (.inl rfl)
     ·rintro ((h | h) | h)
      ·injection h with _ h; subst h; exact .inr rfl
      ·exact .inl h
      ·cases h
    ·simp only [if_neg hy, List.mem_cons]
     constructor
     ·rintro (h | h)
      ·exact .inl (.inr h)
      ·exact .inr h
     ·rintro ((h | h) | h)
      ·injection h with h _; exact absurd h hy
      ·exact .inl h
      ·exact .inr h
theorem jx7 : ∀ (l : List (Int × Nat × Int)) (g : Int → Option (Nat × Int)), (l.map (·.1)).Nodup → (∀ x ∈ l, g x.1 = none) → (qR4 l g).isSome = true
 | [], g, _, _ => rfl
 | (v, p) :: l, g, h1, h2 => by
  unfold qR4
  rw [h2 (v, p) (by simp)]
  rw [List.map_cons, List.nodup_cons] at h1
  refine jx7 l _ h1.2 (fun x hx => ?_)
  have : x.1 ≠ v := fun e => h1.1 (List.mem_map.2 ⟨x, hx, e⟩)
  simp only [if_neg this]
  exact h2 x (by simp [hx])
theorem zF7 {i : Nat} {ops : List O3} {f g : Int → Option W3} (h : jm6 i ops f = some g) : pr (qL4 ops g) = pr g := by
 funext v
 unfold pr qL4
 split
 ·rename_i hl
  unfold isLast at hl
  rw [List.any_eq_true] at hl
  obtain ⟨o, ho, hv⟩ := hl
  simp only [Bool.and_eq_true, decide_eq_true_eq] at hv
  have hw := (qz7 ops _ _ hv.2).2.1
  have h1 := jj8 i ops f
  rw [h] at h1
  have h2 := (qN9 _ _ _ h1.symm).2 v (i, o.k)
  have h3 : pr g v = some (i, o.k) := h2.2 (.inl (zg0.2 ⟨o, ho, hw, by rw [hv.1]⟩))
  unfold pr at h3
  cases hg : g v with
  | none => rw [hg] at h3; cases h3
  | some x => simp
 ·rfl
theorem qR5 : ∀ (h : List T4) (i : Nat) (f : Int → Option W3), (qv4 i h f).map pr = qR4 (qF9 i h) (pr f)
 | [], i, f => rfl
 | t :: r, i, f => by
  unfold qv4 qF9
  rw [jg8, ← jj8]
  cases ho : jm6 i t.ops f with
  | none => rfl
  | some g =>
   show (qv4 (i + 1) r (qL4 t.ops g)).map pr = qR4 (qF9 (i + 1) r) (pr g)
   rw [qR5 r, zF7 ho]
theorem qL5 : ∀ {h : List T4} {i : Nat} {x : Int × Nat × Int}, x ∈ qF9 i h ↔ ∃ j t o, h[j]? = some t ∧ o ∈ t.ops ∧ o.w = true ∧ x = (o.v, i + j, o.k)
 | [], i, x => by simp [qF9]
 | t :: r, i, x => by
  unfold qF9
  rw [List.mem_append, zg0, qL5]
  constructor
  ·rintro (⟨o, ho, hw, rfl⟩ | ⟨j, u, o, hu, ho, hw, rfl⟩)
   ·exact ⟨0, t, o, rfl, ho, hw, rfl⟩
   ·exact ⟨j + 1, u, o, hu, ho, hw, by rw [show i + 1 + j = i + (j + 1) by omega]⟩
  ·rintro ⟨j, u, o, hu, ho, hw, rfl⟩
   cases j with
   | zero => cases hu; exact .inl ⟨o, ho, hw, rfl⟩
   | succ j => exact .inr ⟨j, u, o, hu, ho, hw, by rw [show i + 1 + j = i + (j + 1) by omega]⟩
theorem jg9 {h : List T4} {f : Int → Option W3} (hf : qg1 h = some f) (v : Int) (i : Nat) (k : Int) : (∃ l, f v = some (i, k, l)) ↔ ∃ t o, h[i]? = some t ∧ o ∈ t.ops ∧ o.w = true ∧ o.v = v ∧ o.k = k := by
 have h1 := qR5 h 0 fun _ => none
 rw [show qv4 0 h (fun _ => none) = some f from hf] at h1
 have h2 := (qN9 _ _ _ h1.symm).2 v (i, k)
 have h3 : (∃ l, f v = some (i, k, l)) ↔ pr f v = some (i, k) := by
  unfold pr
  cases f v with
  | none => simp
  | some x =>
   obtain ⟨a, b, c⟩ := x
   simp
 rw [h3, h2]
 constructor
 ·rintro (h | h)
  ·obtain ⟨j, t, o, hj, ho, hw, e⟩ := qL5.1 h
   injection e with e1 e
   injection e with e2 e3
   subst e1 e3
   rw [Nat.zero_add] at e2
   subst e2
   exact ⟨t, o, hj, ho, hw, rfl, rfl⟩
  ·simp [pr] at h
 ·rintro ⟨t, o, hj, ho, hw, rfl, rfl⟩
  exact .inl (qL5.2 ⟨i, t, o, hj, ho, hw, by rw [Nat.zero_add]⟩)
theorem jh0 {h : List T4} : (qg1 h).isSome = true ↔ ((qF9 0 h).map (·.1)).Nodup := by
 have h1 := qR5 h 0 fun _ => none
 have h2 : (qg1 h).isSome = (qR4 (qF9 0 h) (pr fun _ => none)).isSome := by rw [← h1]; unfold qg1; simp
 rw [h2]
 constructor
 ·intro h
  obtain ⟨g, hg⟩ := Option.isSome_iff_exists.1 h
  exact (qN9 _ _ _ hg).1.1
 ·intro h
  exact jx7 _ _ h (fun x _ => rfl)
theorem jx8 (i : Nat) (v : Int) : ∀ ops : List O3, ((wrs i ops).map (·.1)).count v = ops.countP (isW v)
 | [] => rfl
 | o :: r => by
  have ih := jx8 i v r
  have e : wrs i (o :: r) = (if o.w then [(o.v, i, o.k)] else []) ++ wrs i r := by
   unfold wrs
   rw [List.filterMap_cons]
   by_cases hw : o.w = true <;> simp [hw]
  rw [e, List.countP_cons, List.map_append, List.count_append, ih]
  unfold isW
  by_cases hw : o.w = true
  ·by_cases hv : o.v = v
   ·simp [hw, hv]; omega
   ·simp [hw, hv]
  ·simp [hw]
theorem qz8 (v : Int) : ∀ (h : List T4) (i : Nat), ((qF9 i h).map (·.1)).count v = qs1 h v
 | [], i => rfl
 | t :: r, i => by
  unfold qF9
  rw [List.map_append, List.count_append, jx8, qz8 v r, jh1]
theorem jm7 (k v : Int) : ∀ (h : List T4) (i : Nat), 0 ≤ qy7 k v i h ↔ ∃ t ∈ h, ∃ o ∈ t.ops, o.w = true ∧ o.k = k ∧ o.v = v
 | [], i => by simp [qy7]
 | t :: r, i => by
  unfold qy7
  have ha : t.ops.any (jW4 k v) = true ↔ ∃ o ∈ t.ops, o.w = true ∧ o.k = k ∧ o.v = v := by
   rw [List.any_eq_true]
   simp only [jW4, Bool.and_eq_true, decide_eq_true_eq]
  by_cases hb : t.ops.any (jW4 k v) = true
  ·rw [if_pos hb]
   obtain ⟨o, ho⟩ := ha.1 hb
   exact ⟨fun _ => ⟨t, by simp, o, ho⟩, fun _ => by omega⟩
  ·rw [if_neg hb, jm7 k v r]
   constructor
   ·rintro ⟨u, hu, h⟩
    exact ⟨u, by simp [hu], h⟩
   ·rintro ⟨u, hu, h⟩
    rcases List.mem_cons.1 hu with rfl | hu
    ·exact absurd (ha.2 h) hb
    ·exact ⟨u, hu, h⟩
theorem jL7 (h : List T4) : ∀ (r : List T4) (i : Nat), jL4 h i r = true ↔ ∀ j t, r[j]? = some t → qK2 h (i + j) t = true
 | [], i => by simp [jL4]
 | t :: r, i => by
  unfold jL4
  rw [Bool.and_eq_true, jL7 h r]
  constructor
  ·rintro ⟨h1, h2⟩ j u hu
   cases j with
   | zero => cases hu; exact h1
   | succ j => have := h2 j u hu; rwa [show i + 1 + j = i + (j + 1) by omega] at this
  ·intro hh
   refine ⟨hh 0 t rfl, fun j u hu => ?_⟩
   have := hh (j + 1) u hu
   rwa [show i + (j + 1) = i + 1 + j by omega] at this
def qz9 (h : List T4) : Prop := (∀ t ∈ h, qd2 t = true) ∧ h.Pairwise qs2 ∧ ((qF9 0 h).map (·.1)).Nodup ∧ ∀ t ∈ h, ∀ o ∈ t.ops, o.w = false → o.v ≠ 0 → ∃ u ∈ h, ∃ x ∈ u.ops, x.w = true ∧ x.k = o.k ∧ x.v = o.v
theorem jv3 (R : T4 → T4 → Prop) : ∀ h : List T4, h.Pairwise R ↔ ∀ (i : Nat) (t : T4), h[i]? = some t → ∀ u ∈ h.take i, R u t := by
 intro h
 rw [List.pairwise_iff_getElem]
 constructor
 ·intro hp i t ht u hu
  obtain ⟨hi, rfl⟩ := List.getElem?_eq_some_iff.1 ht
  obtain ⟨j, hj, rfl⟩ := List.mem_iff_getElem.1 hu
  rw [List.length_take] at hj
  rw [List.getElem_take]
  exact hp j i (by omega) hi (by omega)
 ·intro hh i j hi hj hlt
  refine hh j h[j] (List.getElem?_eq_getElem hj) h[i] (List.mem_iff_getElem.2 ⟨i, by rw [List.length_take]; omega, by rw [List.getElem_take]⟩)
theorem jB8 (h : List T4) (o : O3) : opB h o = true ↔ (o.w = true → qs1 h o.v = 1) ∧ (o.w = false → o.v ≠ 0 → ∃ u ∈ h, ∃ x ∈ u.ops, x.w = true ∧ x.k = o.k ∧ x.v = o.v) := by
 unfold opB
 cases hw : o.w with
 | true => simp
 | false =>
  rw [if_neg (by simp), Bool.or_eq_true, decide_eq_true_eq, decide_eq_true_eq, jm7]
  constructor
  ·intro h
   exact ⟨by simp, fun _ hv => h.resolve_left hv⟩
  ·rintro ⟨_, h⟩
   by_cases hv : o.v = 0
   ·exact .inl hv
   ·exact .inr (h rfl hv)
theorem jL8 (h : List T4) : (∀ t ∈ h, ∀ o ∈ t.ops, o.w = true → qs1 h o.v = 1) ↔ ((qF9 0 h).map (·.1)).Nodup := by
 rw [List.nodup_iff_count]
 constructor
 ·intro hh v
  rw [qz8]
  by_cases hv : 0 < qs1 h v
  ·rw [← qz8 v h 0] at hv
   obtain ⟨x, hx, e⟩ := List.mem_map.1 (List.count_pos_iff.1 hv)
   obtain ⟨j, t, o, hj, ho, hw, rfl⟩ := qL5.1 hx
   have := hh t (List.mem_of_getElem? hj) o ho hw
   dsimp only at e
   rw [← e, this]
   exact Nat.le_refl _
  ·omega
 ·intro hh t ht o ho hw
  have h1 := hh o.v
  rw [qz8] at h1
  obtain ⟨j, hj⟩ := List.mem_iff_getElem?.1 ht
  have h2 : 0 < ((qF9 0 h).map (·.1)).count o.v := List.count_pos_iff.2 (List.mem_map.2 ⟨_, qL5.2 ⟨j, t, o, hj, ho, hw, rfl⟩, rfl⟩)
  rw [qz8] at h2
  omega
theorem zs2 (h : List T4) : qR3 h = true ↔ qz9 h := by
 unfold qR3
 rw [jL7]
 have e : (∀ j t, h[j]? = some t → qK2 h (0 + j) t = true) ↔ (∀ t ∈ h, qd2 t = true) ∧ h.Pairwise qs2 ∧ ∀ t ∈ h, ∀ o ∈ t.ops, opB h o = true := by
  rw [jv3]
  constructor
  ·intro hh
   refine ⟨fun t ht => ?_, fun i t ht u hu => ?_, fun t ht o ho => ?_⟩
   ·obtain ⟨j, hj⟩ := List.mem_iff_getElem?.1 ht
    have := hh j t hj
    unfold qK2 at this
    simp only [Bool.and_eq_true] at this
    exact this.1.1
   ·have := hh i t ht
    unfold qK2 at this
    simp only [Bool.and_eq_true, List.all_eq_true] at this
    rw [Nat.zero_add] at this
    exact (jx5 u t).1 (this.1.2 u hu)
   ·obtain ⟨j, hj⟩ := List.mem_iff_getElem?.1 ht
    have := hh j t hj
    unfold qK2 at this
    simp only [Bool.and_eq_true, List.all_eq_true] at this
    exact this.2 o ho
  ·rintro ⟨h1, h2, h3⟩ j t hj
   have ht := List.mem_of_getElem? hj
   unfold qK2
   rw [Nat.zero_add]
   simp only [Bool.and_eq_true, List.all_eq_true]
   exact ⟨⟨h1 t ht, fun u hu => (jx5 u t).2 (h2 j t hj u hu)⟩, h3 t ht⟩
 rw [e]
 unfold qz9
 rw [← jL8]
 constructor
 ·rintro ⟨h1, h2, h3⟩
  exact ⟨h1, h2, fun t ht o ho => ((jB8 h o).1 (h3 t ht o ho)).1, fun t ht o ho => ((jB8 h o).1 (h3 t ht o ho)).2⟩
 ·rintro ⟨h1, h2, h3, h4⟩
  exact ⟨h1, h2, fun t ht o ho => (jB8 h o).2 ⟨h3 t ht o ho, h4 t ht o ho⟩⟩
theorem jW5 {h : List T4} {f : Int → Option W3} (hf : qg1 h = some f) (o : O3) : qo1 f o = true ↔ (o.w = false → o.v ≠ 0 → ∃ u ∈ h, ∃ x ∈ u.ops, x.w = true ∧ x.k = o.k ∧ x.v = o.v) := by
 unfold qo1
 cases hw : o.w with
 | true => simp
 | false =>
  by_cases hv : o.v = 0
  ·simp [hv]
  ·simp only [Bool.false_or, true_implies, ne_eq, hv, not_false_eq_true]
   constructor
   ·intro hh
    cases hfv : f o.v with
    | none => rw [hfv] at hh; cases hh
    | some x =>
     rw [hfv] at hh
     obtain ⟨i, k, l⟩ := x
     have hk : k = o.k := by simpa using hh
     obtain ⟨t, y, hi, hy, hyw, hyv, hyk⟩ := (jg9 hf o.v i k).1 ⟨l, hfv⟩
     exact ⟨t, List.mem_of_getElem? hi, y, hy, hyw, hyk.trans hk, hyv⟩
   ·rintro ⟨u, hu, x, hx, hxw, hxk, hxv⟩
    obtain ⟨i, hi⟩ := List.mem_iff_getElem?.1 hu
    obtain ⟨l, hl⟩ := (jg9 hf o.v i o.k).2 ⟨u, x, hi, hx, hxw, hxv, hxk⟩
    rw [hl]
    simp
theorem qA0 (h : List T4) (h1 : h.length ≤ 64) (h2 : jL h ≤ 1024) : zT h = 0 ↔ qz9 h := by
 rw [qF7 h1 h2]
 unfold qz9
 by_cases hr : h.all qd2 = true
 ·rw [hr]
  have hrt := List.all_eq_true.1 hr
  rw [if_neg (by simp)]
  cases hf : qg1 h with
  | none =>
   rw [qR0 hf]
   have : ¬ ((qF9 0 h).map (·.1)).Nodup := fun hn => by rw [← jh0, hf] at hn; cases hn
   simp [this]
  | some f =>
   rw [qR1 hf]
   have hn : ((qF9 0 h).map (·.1)).Nodup := jh0.1 (by rw [hf]; rfl)
   by_cases hs : qe9 h (fun _ => false) (fun _ => none) = true
   ·rw [hs, if_neg (by simp)]
    have hp := (jx6 hrt).1 hs
    have e : (h.all fun t => t.ops.all (qo1 f)) = true ↔ ∀ t ∈ h, ∀ o ∈ t.ops, o.w = false → o.v ≠ 0 → ∃ u ∈ h, ∃ x ∈ u.ops, x.w = true ∧ x.k = o.k ∧ x.v = o.v := by
     simp only [List.all_eq_true, jW5 hf]
    by_cases ha : (h.all fun t => t.ops.all (qo1 f)) = true
    ·rw [if_pos ha]
     simp only [true_iff]
     exact ⟨hrt, hp, hn, e.1 ha⟩
    ·rw [if_neg ha]
     simp only [show ¬ (2 : Int) = 0 by decide, false_iff]
     exact fun hh => ha (e.2 hh.2.2.2)
   ·rw [eq_false_of_ne_true hs, if_pos (by simp)]
    simp only [show ¬ (2 : Int) = 0 by decide, false_iff]
    exact fun hh => hs ((jx6 hrt).2 hh.2.1)
 ·rw [eq_false_of_ne_true hr, if_pos (by simp)]
  simp only [show ¬ (2 : Int) = 0 by decide, false_iff]
  exact fun hh => hr (List.all_eq_true.2 hh.1)
theorem jW6 (h : List T4) (h1 : h.length ≤ 64) (h2 : jL h ≤ 1024) : zT h = 0 ∨ zT h = 2 := by
 rw [qF7 h1 h2]
 by_cases hr : h.all qd2 = true
 ·rw [hr, if_neg (by simp)]
  cases hf : qg1 h with
  | none => rw [qR0 hf]; exact .inr rfl
  | some f =>
   rw [qR1 hf]
   split
   ·exact .inr rfl
   ·split
    ·exact .inl rfl
    ·exact .inr rfl
 ·rw [eq_false_of_ne_true hr, if_pos (by simp)]
  exact .inr rfl
theorem zm5 (h : List T4) : qj9 h = zT h := by
 by_cases hb : h.length > 64 ∨ jL h > 1024
 ·unfold qj9 zT
  rw [if_pos hb, if_pos hb]
 ·have h1 : h.length ≤ 64 := by omega
  have h2 : jL h ≤ 1024 := by omega
  have e : qj9 h = if !qR3 h then 2 else 0 := by unfold qj9; rw [if_neg hb]
  rw [e]
  have hm := (zs2 h).trans (qA0 h h1 h2).symm
  rcases jW6 h h1 h2 with hc | hc
  ·rw [hc, hm.2 hc]; rfl
  ·have : qR3 h = false := eq_false_of_ne_true (fun hh => by rw [hm.1 hh] at hc; cases hc)
   rw [hc, this]; rfl
end Go.Proofs.Ytngkneknopenmaa.zM
end
section
namespace Go.Proofs.Ytngkneknopenmaa.zM
open Go Go.RowKit Go.Proofs.Ytngkneknopenmaa.qa9
structure TR where
 s : Int
 b : Int
 c : Int
 g : Nat
 n : Nat
 cp : Nat
def TR.cells (r : TR) : List Value := [.int .i64 r.s, .int .i64 r.b, .int .i64 r.c, .slice (some ⟨r.g, 0, none⟩) r.n r.cp]
def qi6 (l : List TR) : List Value := l.flatMap TR.cells
theorem jW7 (l : List TR) (r : TR) : qi6 (l ++ [r]) = qi6 l ++ r.cells := by simp [qi6, List.flatMap_append]
theorem qs3 (l : List TR) : (qi6 l).length = l.length * 4 := by
 induction l with
 | nil => rfl
 | cons r l ih =>
  have : qi6 (r :: l) = r.cells ++ qi6 l := rfl
  rw [this, List.length_append, ih]
  simp [TR.cells]
  omega
theorem je3 (l : List TR) (rest : List Value) : ∀ (i : Nat) (r : TR), l[i]? = some r →
  (qi6 l ++ rest)[i * 4]? = some (.int .i64 r.s) ∧ (qi6 l ++ rest)[i * 4 + 1]? = some (.int .i64 r.b) ∧ (qi6 l ++ rest)[i * 4 + 2]? = some (.int .i64 r.c) ∧ (qi6 l ++ rest)[i * 4 + 3]? = some (.slice (some ⟨r.g, 0, none⟩) r.n r.cp) := by
 induction l with
 | nil => intro i r h; simp at h
 | cons x l ih =>
  intro i r h
  have e : qi6 (x :: l) ++ rest = .int .i64 x.s :: .int .i64 x.b :: .int .i64 x.c :: .slice (some ⟨x.g, 0, none⟩) x.n x.cp :: (qi6 l ++ rest) := rfl
  rw [e]
  cases i with
  | zero => simp at h; subst h; simp
  | succ i =>
   obtain ⟨a, b, c, d⟩ := ih i r (by simpa using h)
   have e1 : (i + 1) * 4 = i * 4 + 1 + 1 + 1 + 1 := by omega
   have e2 : i * 4 + 1 + 1 + 1 + 1 + 1 = (i * 4 + 1) + 1 + 1 + 1 + 1 := by omega
   have e3 : i * 4 + 1 + 1 + 1 + 1 + 2 = (i * 4 + 2) + 1 + 1 + 1 + 1 := by omega
   have e4 : i * 4 + 1 + 1 + 1 + 1 + 3 = (i * 4 + 3) + 1 + 1 + 1 + 1 := by omega
   rw [e1, e2, e3, e4]
   exact ⟨by simpa using a, by simpa using b, by simpa using c, by simpa using d⟩
theorem zm6 (l : List TR) (rest : List Value) : ∀ (i : Nat) (r : TR) (s b c : Int), l[i]? = some r →
  (((qi6 l ++ rest).set (i * 4) (.int .i64 s)).set (i * 4 + 1) (.int .i64 b)).set (i * 4 + 2) (.int .i64 c) = qi6 (l.set i { r with s := s, b := b, c := c }) ++ rest := by
 induction l with
 | nil => intro i r s b c h; simp at h
 | cons x l ih =>
  intro i r s b c h
  have e : qi6 (x :: l) ++ rest = .int .i64 x.s :: .int .i64 x.b :: .int .i64 x.c :: .slice (some ⟨x.g, 0, none⟩) x.n x.cp :: (qi6 l ++ rest) := rfl
  rw [e]
  cases i with
  | zero => simp at h; subst h; rfl
  | succ i =>
   have e1 : (i + 1) * 4 = i * 4 + 1 + 1 + 1 + 1 := by omega
   have e2 : i * 4 + 1 + 1 + 1 + 1 + 1 = (i * 4 + 1) + 1 + 1 + 1 + 1 := by omega
   have e3 : i * 4 + 1 + 1 + 1 + 1 + 2 = (i * 4 + 2) + 1 + 1 + 1 + 1 := by omega
   rw [e1, e2, e3]
   simp only [List.set_cons_succ]
   rw [ih i r s b c (by simpa using h)]
   rfl
def OW (w : World) (g cp : Nat) (ops : List O3) : Prop := ∃ rest, RW g rest ops w ∧ (flat ops ++ rest).length = cp * 3 ∧ cp ≤ maxLen
theorem OW.lt {w : World} {g cp : Nat} {ops : List O3} (h : OW w g cp ops) : g < w.heap.size := by obtain ⟨_, h, _⟩ := h; exact h.lt
theorem OW.move {w w' : World} {g cp : Nat} {ops : List O3} (h : OW w g cp ops) (hb : w'.heap[g]? = w.heap[g]?) : OW w' g cp ops := by obtain ⟨rest, h, k⟩ := h; exact ⟨rest, hb.trans h, k⟩
theorem OW.below {w w' : World} {g cp : Nat} {ops : List O3} (h : OW w g cp ops) (hb : Below w.heap.size w w') : OW w' g cp ops := h.move (hb.block _ h.lt)
theorem OW.rd {w : World} {g cp : Nat} {ops : List O3} (h : OW w g cp ops) : RdO w (some ⟨g, 0, none⟩) ops := by
 obtain ⟨rest, h, _⟩ := h
 refine fun _ => ⟨_, rfl, fun j o ho => ?_⟩
 obtain ⟨y0, y1, y2⟩ := h.cells j o ho
 have e : ∀ k, (⟨g, 0, none⟩ : Addr).add k = ⟨g, k, none⟩ := fun k => by unfold Addr.add; split <;> simp_all
 rw [e]
 exact ⟨y0, y1, y2⟩
theorem OW.zg1 {w : World} {base n g cap : Nat} {ops : List O3} (h : w.ownsRow base 51 3 (.slice (some ⟨g, 0, none⟩) n cap) n (flat ops)) : OW w g cap ops ∧ base ≤ g ∧ n ≤ cap := by
 rcases h.2 with ⟨h1, _⟩ | ⟨g', cp, cur, he, hg, hh, h1, h2, h3, h4⟩
 ·cases h1
 ·cases he
  refine ⟨⟨cur.toList.drop (n * 3), by unfold RW; rw [hh, ← h4, List.take_append_drop], ?_, h2⟩, hg, h1⟩
  rw [← h4, List.take_append_drop]
  simpa using h3
def Says (w : World) (base : Nat) (r : TR) (t : T4) : Prop := r.s = t.s ∧ r.b = t.b ∧ r.c = t.c ∧ r.n = t.ops.length ∧ r.n ≤ r.cp ∧ base ≤ r.g ∧ OW w r.g r.cp t.ops
def qc7 (w : World) (base : Nat) (rows : List TR) (h : List T4) : Prop := rows.length = h.length ∧ (∀ (i : Nat) (r : TR) (t : T4), rows[i]? = some r → h[i]? = some t → Says w base r t) ∧ (rows.map (·.g)).Nodup
theorem Says.below {w w' : World} {base : Nat} {r : TR} {t : T4} (h : Says w base r t) (hb : Below w.heap.size w w') : Says w' base r t := by
 obtain ⟨a, b, c, d, e, f, g⟩ := h
 exact ⟨a, b, c, d, e, f, g.below hb⟩
theorem Says.move {w w' : World} {base : Nat} {r : TR} {t : T4} (h : Says w base r t) (hb : w'.heap[r.g]? = w.heap[r.g]?) : Says w' base r t := by
 obtain ⟨a, b, c, d, e, f, g⟩ := h
 exact ⟨a, b, c, d, e, f, g.move hb⟩
theorem qc7.below {w w' : World} {base : Nat} {rows : List TR} {h : List T4} (hs : qc7 w base rows h) (hb : Below w.heap.size w w') : qc7 w' base rows h :=
 ⟨hs.1, fun i r t hr ht => (hs.2.1 i r t hr ht).below hb, hs.2.2⟩
theorem qc7.nil (w : World) (base : Nat) : qc7 w base [] [] := ⟨rfl, fun i r t h => by simp at h, by simp⟩
theorem qc7.grown {w w' : World} {base : Nat} {rows : List TR} {h : List T4} {row : Option Nat} (hs : qc7 w base rows h) (hg : w.grownBy w' row) (hne : ∀ r ∈ rows, some r.g ≠ row) : qc7 w' base rows h :=
 ⟨hs.1, fun i r t hr ht => (hs.2.1 i r t hr ht).move (hg.block _ (by obtain ⟨_, _, _, _, _, _, h⟩ := hs.2.1 i r t hr ht; exact h.lt) (hne r (List.mem_of_getElem? hr))), hs.2.2⟩
theorem qc7.snoc {w : World} {base : Nat} {rows : List TR} {h : List T4} {r : TR} {t : T4} (hs : qc7 w base rows h) (hr : Says w base r t) (hf : ∀ x ∈ rows, x.g ≠ r.g) : qc7 w base (rows ++ [r]) (h ++ [t]) := by
 obtain ⟨h1, h2, h3⟩ := hs
 refine ⟨by simp [h1], fun i x y hx hy => ?_, ?_⟩
 ·by_cases hi : i < rows.length
  ·rw [List.getElem?_append_left hi] at hx
   rw [List.getElem?_append_left (by omega)] at hy
   exact h2 i x y hx hy
  ·have hi2 : i = rows.length := by
    have := (List.getElem?_eq_some_iff.1 hx).1
    simp at this
    omega
   subst hi2
   rw [List.getElem?_append_right (Nat.le_refl _)] at hx
   rw [List.getElem?_append_right (by omega)] at hy
   simp [h1] at hx hy
   subst hx hy
   exact hr
 ·rw [List.map_append, List.nodup_append]
  refine ⟨h3, by simp, fun a ha b hb => ?_⟩
  obtain ⟨x, hx, rfl⟩ := List.mem_map.1 ha
  simp at hb
  subst hb
  exact hf x hx
theorem qc7.lt {w : World} {base : Nat} {rows : List TR} {h : List T4} (hs : qc7 w base rows h) : ∀ r ∈ rows, base ≤ r.g ∧ r.g < w.heap.size := by
 intro r hr
 obtain ⟨i, hi⟩ := List.mem_iff_getElem?.1 hr
 have hil := (List.getElem?_eq_some_iff.1 hi).1
 obtain ⟨a, b, c, d, e, f, g⟩ := hs.2.1 i r _ hi (List.getElem?_eq_getElem (by rw [← hs.1]; exact hil))
 exact ⟨f, g.lt⟩
theorem qc7.zs3 {w : World} {base n : Nat} {rows : List TR} {h : List T4} {v : Value} {xs : List Value} {b' : Nat} (hs : qc7 w base rows h) (ho : w.ownsRow b' 55 4 v n xs) : ∀ r ∈ rows, some r.g ≠ v.ownBlock := by
 intro r hr e
 obtain ⟨i, hi⟩ := List.mem_iff_getElem?.1 hr
 have hil := (List.getElem?_eq_some_iff.1 hi).1
 obtain ⟨_, _, _, _, _, _, rest, g, _⟩ := hs.2.1 i r _ hi (List.getElem?_eq_getElem (by rw [← hs.1]; exact hil))
 rcases ho.2 with ⟨rfl, _⟩ | ⟨g', cp, cur, rfl, _, hh, _⟩
 ·simp [Value.ownBlock] at e
 ·simp [Value.ownBlock] at e
  subst e
  have g' : w.heap[r.g]? = some (.cells (flat _ ++ rest).toArray 51 (0, 0)) := g
  rw [hh] at g'
  simp at g'
def H2 (w : World) (base : Nat) (v : Value) (rows : List TR) (h : List T4) : Prop := w.ownsRow base 55 4 v rows.length (qi6 rows) ∧ qc7 w base rows h
theorem H2.below {w w' : World} {base : Nat} {v : Value} {rows : List TR} {h : List T4} (hs : H2 w base v rows h) (hb : Below w.heap.size w w') : H2 w' base v rows h :=
 ⟨hs.1.kept (row := none) (below_grown hb) (by cases v.ownBlock with
  | none => exact .inl rfl
  | some k => exact .inr (by simp)), hs.2.below hb⟩
theorem H2.rd {w : World} {base : Nat} {v : Value} {rows : List TR} {h : List T4} (hs : H2 w base v rows h) : ∃ A cp, v = .slice A h.length cp ∧ h.length ≤ cp ∧ RdT w A h := by
 obtain ⟨ho, hl, jL9, _⟩ := hs
 rcases ho.2 with ⟨rfl, h0⟩ | ⟨g, cp, cur, rfl, hg, hh, h1, h2, h3, h4⟩
 ·exact ⟨none, 0, by rw [← hl, h0], by omega, fun hp => by omega⟩
 ·refine ⟨_, cp, by rw [← hl], by omega, fun hp => ⟨_, rfl, fun i t ht => ?_⟩⟩
  have hi : i < rows.length := by rw [hl]; exact (List.getElem?_eq_some_iff.1 ht).1
  obtain ⟨e0, e1, e2, e3, e4, e5, e6⟩ := jL9 i rows[i] t (List.getElem?_eq_getElem hi) ht
  have jW8 : cur.toList = qi6 rows ++ cur.toList.drop (rows.length * 4) := by
   have := List.take_append_drop (rows.length * 4) cur.toList
   rw [h4] at this
   exact this.symm
  obtain ⟨c0, c1, c2, c3⟩ := je3 rows (cur.toList.drop (rows.length * 4)) i rows[i] (List.getElem?_eq_getElem hi)
  rw [← jW8] at c0 c1 c2 c3
  rw [add_zero]
  refine ⟨some ⟨rows[i].g, 0, none⟩, rows[i].cp, ?_, ?_, ?_, ?_, by omega, e6.rd⟩
  ·rw [Lib.cell_of_heap hh, ← Array.getElem?_toList, c0, e0]
  ·rw [Lib.cell_of_heap hh, ← Array.getElem?_toList, c1, e1]
  ·rw [Lib.cell_of_heap hh, ← Array.getElem?_toList, c2, e2]
  ·rw [Lib.cell_of_heap hh, ← Array.getElem?_toList, c3, e3]
end Go.Proofs.Ytngkneknopenmaa.zM
end
section
namespace Go.Proofs.Ytngkneknopenmaa.zM
open Go Go.RowKit Go.Proofs.Ytngkneknopenmaa.qa9 Go.Proofs.Ytngkneknopenmaa.qi7 Go.Proofs.YtngkneknopenmaaW.jH
theorem zg2 : (Try.prog.info? 55).map (fun i => (i.zero, i.size, i.bytes)) = some (some (.agg #[.int .i64 0, .int .i64 0, .int .i64 0, .slice none 0 0]), 4, 48) := by kernel_rfl
def zW5 (h : List T4) (w : World) (x v : Value) (wr : World) : Prop :=
 ∃ (i : Nat) (rows : List TR), i ≤ h.length ∧ v = .int .i64 ((i : Nat) : Int) ∧ H2 wr w.heap.size x rows (h.take i) ∧ x ≠ .slice none 0 0 ∧ Below w.heap.size w wr
theorem zs4 {ops : List O3} : ∀ u ∈ flat ops, u.oneCell' = true := by
 intro u hu
 unfold flat at hu
 rw [List.mem_flatMap] at hu
 obtain ⟨o, _, ho⟩ := hu
 simp [O3.cells] at ho
 rcases ho with rfl | rfl | rfl <;> rfl
theorem zs5 {w : World} {ad : Addr} {ops : List O3} (hc : ∀ i o, ops[i]? = some o → w.cell? (ad.add (i * 3)) = some (.bool o.w) ∧ w.cell? ⟨(ad.add (i * 3)).block, (ad.add (i * 3)).off + 1, none⟩ = some (.int .i64 o.k) ∧ w.cell? ⟨(ad.add (i * 3)).block, (ad.add (i * 3)).off + 2, none⟩ = some (.int .i64 o.v)) :
  ∀ j u, (flat ops)[j]? = some u → w.cell? (ad.add j) = some u := by
 have hf : ∀ (m : Nat) (i : Nat) (o : O3), ops[i]? = some o → ∀ u, o.cells[m]? = some u → w.cell? (ad.add (i * 3 + m)) = some u := by
  intro m i o ho u hu
  obtain ⟨a, b, c⟩ := hc i o ho
  match m, hu with
  | 0, hu => cases hu; exact a
  | 1, hu => cases hu; exact (zO ad (i * 3) 1 (by omega)).symm ▸ b
  | 2, hu => cases hu; exact (zO ad (i * 3) 2 (by omega)).symm ▸ c
  | n + 3, hu => simp [O3.cells] at hu
 intro j u hu
 have hj : j / 3 < ops.length := by
  have := (List.getElem?_eq_some_iff.1 hu).1
  rw [jh2] at this
  omega
 have hjm : j = j / 3 * 3 + j % 3 := by omega
 rw [hjm]
 refine hf (j % 3) (j / 3) ops[j / 3] (List.getElem?_eq_getElem hj) u ?_
 obtain ⟨a, b, c⟩ := flat_get ops [] (j / 3) ops[j / 3] (List.getElem?_eq_getElem hj)
 rw [List.append_nil] at a b c
 have h3 : j % 3 < 3 := Nat.mod_lt _ (by omega)
 generalize hm : j % 3 = m at *
 match m, h3 with
 | 0, _ => rw [hjm, Nat.add_zero, a] at hu; exact hu
 | 1, _ => rw [hjm, b] at hu; exact hu
 | 2, _ => rw [hjm, c] at hu; exact hu
set_option maxHeartbeats 8000000 in
set_option maxRecDepth 100000 in
theorem jW9 (A : Option Addr) (cap : Nat) (h : List T4) (hlen : h.length ≤ 64) (hops : ∀ t ∈ h, 1 ≤ t.ops.length ∧ t.ops.length ≤ 64) (w : World) (hr : RdT w A h) :
  Calls Try.prog 36 #[.slice A h.length cap] w fun e w' => ∃ v rows, e = .returned v ∧ H2 w' w.heap.size v rows h ∧ v ≠ .slice none 0 0 ∧ Below w.heap.size w w' := by
 obtain ⟨n, hn⟩ : ∃ n, h.length = n := ⟨_, rfl⟩
 have HN := Lib.hid hn
 rw [hn] at hlen ⊢
 have HR := Lib.hid hr
 have HOK := Lib.hid hops
 clear hn hr hops
 obtain ⟨i0, hii, hz0, hz1, hz2⟩ := info_parts zg2
 obtain ⟨j0, hjj, hy0, hy1, hy2⟩ := info_parts zs6
 go_enter Try.func36, Try.ntmps36
 go_wp2_with (at_make; refine wpList_make_own _ rfl _ _ 22 rfl w.heap.size 55 i0 (.agg #[.int .i64 0, .int .i64 0, .int .i64 0, .slice none 0 0]) 4 Try.underlying22 hii hz0 hz1 .i64 .i64 (n : Int) n rfl rfl rfl (by rw [hz2]; omega) (by unfold maxLen; omega) (by omega) ?_; intro w3 hown3 hg3)
 go_loopw [3, 11] (fun x v wr => zW5 h w x v wr) (fun _ v _ => n - (intOf v).toNat)
 case atStart => exact ⟨0, [], Nat.zero_le _, rfl, ⟨hown3, qc7.nil _ _⟩, by simp, (Below.refl _ _).grown hg3 (Nat.le_refl _) (by simp)⟩
 case round =>
  clear hown3 hg3
  obtain ⟨i, rows, hi, rfl, ⟨hown, jL9⟩, hnn, hb⟩ := hrel
  rw [HN.out] at hi
  by_cases hlt : i < n
  ·have hltz : (i : Int) < (n : Int) := by omega
   have hil : i < h.length := by rw [HN.out]; exact hlt
   obtain ⟨ad, rfl, hc⟩ := HR.out (by omega)
   obtain ⟨t, ht⟩ : ∃ t, h[i]? = some t := ⟨_, List.getElem?_eq_getElem hil⟩
   obtain ⟨A3, c3, t0, t1, t2, t3, hl3, hro⟩ := hc i t ht
   obtain ⟨hop1, hop2⟩ := HOK.out t (List.mem_of_getElem? ht)
   obtain ⟨ad3, rfl, hc3⟩ := hro (by omega)
   replace t0 := cell_below hb t0
   replace t1 := cell_below hb t1
   replace t2 := cell_below hb t2
   replace t3 := cell_below hb t3
   have hrl : rows.length = i := by rw [jL9.1, List.length_take]; omega
   have hto : h.take (i + 1) = h.take i ++ [t] := by rw [List.take_add_one, ht]; rfl
   have hfl := jh2 t.ops
   obtain ⟨m, hm⟩ : ∃ m, t.ops.length = m := ⟨_, rfl⟩
   have HMM := Lib.hid hm
   rw [hm] at t3 hl3 hop1 hop2 hfl
   have HTO := Lib.hid hto
   have hb2 : Below w.heap.size w (wr.alloc (.cells #[.int .i64 t.s, .int .i64 t.b, .int .i64 t.c, .slice (some ad3) m c3] 55)) := hb.alloc hb.size _
   have hcs := zs5 fun i o ho => by
    obtain ⟨a, b, c⟩ := hc3 i o ho
    exact ⟨cell_below hb2 a, cell_below hb2 b, cell_below hb2 c⟩
   have HCS := Lib.hid hcs
   have HB2 := Lib.hid hb2
   have HB := Lib.hid hb
   have HOWN := Lib.hid hown
   have jM0 := Lib.hid jL9
   have hbz := hb.size
   have hbx := alloc_at wr (.cells #[.int .i64 t.s, .int .i64 t.b, .int .i64 t.c, .slice (some ad3) m c3] 55)
   have HBX := Lib.hid hbx
   clear hc ht hro hc3 hil hm hto hb2 hcs hb hown jL9 hbx
   go_wp2_with (first
    | (at_builtin; refine wpList_append_own_at _ rfl _ _ 53 rfl w.heap.size 51 j0 (.agg #[.bool false, .int .i64 0, .int .i64 0]) 3 24 Try.underlying53 hjj hy0 hy1 hy2 rfl (by decide) (.slice none 0 0) 0 [] rfl (World.ownsRow_nil _ _ _ _) ad3 m c3 (flat t.ops) rfl hfl HCS.out ?c2 (by unfold maxLen; omega) (by omega) (by simp; omega) ?_))
   case c2 => exact zs4
   intro v5 w5 hown5 hgr5 Qh7 hat5
   rcases hown5.2 with ⟨_, h0⟩ | ⟨g, cp, _, rfl, _⟩
   ·omega
   obtain ⟨zW6, hgb5, hcp5⟩ := OW.zg1 hown5
   have hg5 : g = wr.heap.size + 1 := by
    rcases hat5 with e | e
    ·simp [Value.ownBlock] at e
    ·simpa [Value.ownBlock] using e
   subst hg5
   have jX0 := hgr5
   have jX1 : w5.heap[wr.heap.size]? = _ := (hgr5.block wr.heap.size (by simp) (by simp [Value.ownBlock])).trans HBX.out
   have hb5 : Below w.heap.size w w5 := HB2.out.grown hgr5 HB2.out.size (by simp [Value.ownBlock])
   have hown6 : w5.ownsRow w.heap.size 55 4 _ rows.length (qi6 rows) := (HOWN.out.alloc _).kept hgr5 (by cases hu : Value.ownBlock u3 with
    | none => exact .inl rfl
    | some k => exact .inr (by simp [Value.ownBlock]))
   have zR4 : qc7 w5 w.heap.size rows (h.take i) := (jM0.out.below ((Below.refl _ _).alloc (Nat.le_refl _) _)).grown hgr5 (by simp [Value.ownBlock])
   have hsz5 := hgr5.size
   simp only [World.size_alloc] at hsz5
   clear hgr5 jX0 Qh7 hat5 hown5
   have c0 := Lib.cell_of_heap jX1 0
   have c1 := Lib.cell_of_heap jX1 1
   have c2 := Lib.cell_of_heap jX1 2
   have c3' := Lib.cell_of_heap jX1 3
   have f3 := Lib.frozen_of_heap jX1 3
   simp only [List.getElem?_toArray, List.getElem?_cons_zero, List.getElem?_cons_succ] at c0 c1 c2 c3'
   have zm7 := qd9 w5 wr.heap.size 3 _ _ _ (.slice (some ⟨wr.heap.size + 1, 0, none⟩) m cp) jX1
   simp only [List.setIfInBounds_toArray, List.set_cons_zero, List.set_cons_succ] at zm7
   have d0 := Lib.cell_of_heap zm7 0
   have d1 := Lib.cell_of_heap zm7 1
   have d2 := Lib.cell_of_heap zm7 2
   have d3 := Lib.cell_of_heap zm7 3
   simp only [List.getElem?_toArray, List.getElem?_cons_zero, List.getElem?_cons_succ] at d0 d1 d2 d3
   have jX0 := qb7 w5 wr.heap.size 3 (.slice (some ⟨wr.heap.size + 1, 0, none⟩) m cp)
   have hsz6 : (w5.setCell ⟨wr.heap.size, 3, none⟩ (.slice (some ⟨wr.heap.size + 1, 0, none⟩) m cp)).heap.size = w5.heap.size := by simp
   have HOW := Lib.hid (zW6.move (jX0.block _ zW6.lt (by simp)))
   have jm8 := hown6.kept jX0 (by
    have := hown6.lt
    cases hu : Value.ownBlock u3 with
    | none => exact .inl rfl
    | some k => exact .inr (fun e => by
      injection e with e
      have h1 := (HOWN.out.lt k hu).2
      omega))
   have zR5 := zR4.grown jX0 (fun r hr e => by
    injection e with e
    have := (jM0.out.lt r hr).2
    omega)
   have hb7 := hb5.grown jX0 hb5.size (fun j hj => by cases hj; exact hbz)
   have zR6 := Lib.hid jm8
   have zR7 := Lib.hid zR5
   have HB7 := Lib.hid hb7
   clear jX1 zm7 jX0 jm8 zR5 hb7 zW6 hown6 zR4 hb5
   go_wp2_with (at_builtin; refine wpList_append_own_at _ rfl _ _ 22 rfl w.heap.size 55 i0 (.agg #[.int .i64 0, .int .i64 0, .int .i64 0, .slice none 0 0]) 4 48 Try.underlying22 hii hz0 hz1 hz2 rfl (by decide) _ rows.length (qi6 rows) rfl (zR6.out.alloc _) ⟨w5.heap.size, 0, none⟩ 1 1 (TR.cells ⟨t.s, t.b, t.c, wr.heap.size + 1, m, cp⟩) rfl rfl ?c1 ?c2 (by unfold maxLen; omega) (by omega) (by simp; omega) ?_)
   case c1 =>
    intro j u hj
    have h := alloc_at (w5.setCell ⟨wr.heap.size, 3, none⟩ (.slice (some ⟨wr.heap.size + 1, 0, none⟩) m cp)) (.cells #[.int .i64 t.s, .int .i64 t.b, .int .i64 t.c, .slice (some ⟨wr.heap.size + 1, 0, none⟩) m cp] 55)
    rw [hsz6] at h
    rw [add_zero, Lib.cell_of_heap h]
    simpa [TR.cells] using hj
   case c2 =>
    intro u hu
    simp [TR.cells] at hu
    rcases hu with rfl | rfl | rfl | rfl <;> rfl
   intro v8 w8 zg3 jX2 zg4 zW7
   rw [← jW7] at zg3
   have hrne : ∀ r ∈ rows, some r.g ≠ Value.ownBlock u3 := zR7.out.zs3 zR6.out
   have zR8 := (zR7.out.below ((Below.refl _ _).alloc (Nat.le_refl _) (.cells #[.int .i64 t.s, .int .i64 t.b, .int .i64 t.c, .slice (some ⟨wr.heap.size + 1, 0, none⟩) m cp] 55))).grown jX2 hrne
   have hown3 : Value.ownBlock u3 ≠ some (wr.heap.size + 1) := fun e => by
    have := (HOWN.out.lt _ e).2
    omega
   have hsaid : Says w8 w.heap.size ⟨t.s, t.b, t.c, wr.heap.size + 1, m, cp⟩ t := ⟨rfl, rfl, rfl, HMM.out.symm, hcp5, hgb5, (HOW.out.below ((Below.refl _ _).alloc (Nat.le_refl _) (.cells #[.int .i64 t.s, .int .i64 t.b, .int .i64 t.c, .slice (some ⟨wr.heap.size + 1, 0, none⟩) m cp] 55))).move (jX2.block _ (by have := HOW.out.lt; simp at this ⊢; omega) hown3.symm)⟩
   have Qh8 := zR8.snoc hsaid (fun r hr e => by
    have := (jM0.out.lt r hr).2
    dsimp only at e
    omega)
   have hb8 : Below w.heap.size w w8 := (HB7.out.alloc HB7.out.size _).grown jX2 (HB7.out.alloc HB7.out.size _).size (fun j hj => (HOWN.out.lt j hj).1)
   have hnn8 : v8 ≠ .slice none 0 0 := zg4
   clear jX2 zg4 zW7 zR8 hsaid d0 d1 d2 d3 c0 c1 c2 c3' f3 t0 t1 t2 t3
   go_wp2_with fail
   go_roundw
   case rel => exact ⟨i + 1, rows ++ [⟨t.s, t.b, t.c, wr.heap.size + 1, m, cp⟩], by rw [HN.out]; omega, by go_num, ⟨by rw [List.length_append, hrl]; exact zg3, by rw [HTO.out]; exact Qh8⟩, hnn8, hb8⟩
   case measure => (simp [intOf]; try omega)
  ·have hin : i = n := by omega
   subst hin
   rw [List.take_of_length_le (by rw [HN.out]; exact Nat.le_refl _)] at jL9
   have jM0 := Lib.hid jL9
   clear jL9
   go_wp2_with fail
   go_ret
   exact ⟨_, rows, rfl, ⟨hown, jM0.out⟩, hnn, hb⟩
end Go.Proofs.Ytngkneknopenmaa.zM
end
section
namespace Go.Proofs.Ytngkneknopenmaa.zM
open Go Go.RowKit Go.Proofs.Ytngkneknopenmaa.qa9 Go.Proofs.Ytngkneknopenmaa.qi7
def Wf (n : Int) : Prop := (Lit.int .i64 n).wf = true
def WfM (g : Int → Option Int) : Prop := ∀ x y, g x = some y → Wf y
def nI (f : Int → Option Int) : Int → Option Value := fun x => (f x).map (Value.int .i64)
end Go.Proofs.Ytngkneknopenmaa.zM
end
section
namespace Go.Proofs.Ytngkneknopenmaa.zM
open Go Go.RowKit Go.Proofs.Ytngkneknopenmaa.qa9 Go.Proofs.Ytngkneknopenmaa.qi7
def RdP (w : World) (A : Option Addr) (l : List (Int × Int)) : Prop :=
 0 < l.length → ∃ ad : Addr, A = some ad ∧ ∀ i p, l[i]? = some p → w.cell? (ad.add (i * 2)) = some (.int .i64 p.1) ∧ w.cell? ⟨(ad.add (i * 2)).block, (ad.add (i * 2)).off + 1, none⟩ = some (.int .i64 p.2)
theorem RdP.below {w w' : World} {A : Option Addr} {l : List (Int × Int)} (h : RdP w A l) (hb : Below w.heap.size w w') : RdP w' A l := by
 intro hp
 obtain ⟨ad, rfl, hc⟩ := h hp
 exact ⟨ad, rfl, fun i o ho => by obtain ⟨a, b⟩ := hc i o ho; exact ⟨cell_below hb a, cell_below hb b⟩⟩
def RdI (w : World) (A : Option Addr) (l : List Int) : Prop :=
 0 < l.length → ∃ ad : Addr, A = some ad ∧ ∀ i x, l[i]? = some x → w.cell? (ad.add i) = some (.int .i64 x)
theorem RdI.below {w w' : World} {A : Option Addr} {l : List Int} (h : RdI w A l) (hb : Below w.heap.size w w') : RdI w' A l := by
 intro hp
 obtain ⟨ad, rfl, hc⟩ := h hp
 exact ⟨ad, rfl, fun i o ho => cell_below hb (hc i o ho)⟩
def Kept (a b : List Int) : Prop := ∀ (i k : Nat) (x y u v : Int), a[i]? = some x → a[k]? = some y → b[i]? = some u → b[k]? = some v → (x < y ↔ u < v)
end Go.Proofs.Ytngkneknopenmaa.zM
end
section
namespace Go.Proofs.Ytngkneknopenmaa.zM
open Go Go.RowKit Go.Proofs.Ytngkneknopenmaa.qa9 Go.Proofs.Ytngkneknopenmaa.qi7
def InjM (g : Int → Option Int) : Prop := ∀ x y z, Wf x → Wf y → g x = some z → g y = some z → x = y
end Go.Proofs.Ytngkneknopenmaa.zM
end
