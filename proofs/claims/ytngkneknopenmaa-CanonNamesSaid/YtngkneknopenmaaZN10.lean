/- Texts of this claim, joined by a program of this session: the declarations that its theorem uses. -/
import Derived.Test.YtngkneknopenmaaZN7
import Derived.Test.YtngkneknopenmaaZN9
import Derived.Lib.QuietBelow
import Derived.BigQuiet
section
namespace Go.Proofs.Ytngkneknopenmaa.Hist
open Go Go.RowKit Go.Proofs.Ytngkneknopenmaa.Row3 Go.Proofs.Ytngkneknopenmaa.IntMap
def RelK1 (h : List T4) (w : World) (v : Value) (wr : World) : Prop :=
 ∃ i : Nat, i ≤ h.length ∧ v = .int .i64 ((i : Nat) : Int) ∧ Below w.heap.size w wr ∧ (h.take i).all qbj = true
def judgeF (h : List T4) : Int :=
 match qbm h with
 | none => 2
 | some f => if !qbl h (fun _ => false) (fun _ => none) then 2 else if h.all (fun t => t.ops.all (qb7 f)) then 0 else 2
theorem checkF_small {h : List T4} (h1 : h.length ≤ 64) (h2 : qar h ≤ 1024) : qa3 h = if !h.all qbj then 2 else judgeF h := by
 unfold qa3
 rw [if_neg (by omega)]
 rfl
theorem judge_none {h : List T4} (h1 : qbm h = none) : judgeF h = 2 := by unfold judgeF; rw [h1]
theorem judge_some {h : List T4} {f : Int → Option W3} (h1 : qbm h = some f) : judgeF h = if !qbl h (fun _ => false) (fun _ => none) then 2 else if h.all (fun t => t.ops.all (qb7 f)) then 0 else 2 := by unfold judgeF; rw [h1]
def RelK2 (h : List T4) (w : World) (b s : Nat) (f : Int → Option W3) (v : Value) (wr : World) : Prop :=
 ∃ i : Nat, i ≤ h.length ∧ v = .int .i64 ((i : Nat) : Int) ∧ Below w.heap.size w wr ∧ IM Try.prog 3 wr b (wfun f) s ∧ (h.take i).all (fun t => t.ops.all (qb7 f)) = true
def RelK3 (ops : List O3) (w : World) (b s : Nat) (f : Int → Option W3) (v : Value) (wr : World) : Prop :=
 ∃ i : Nat, i ≤ ops.length ∧ v = .int .i64 ((i : Nat) : Int) ∧ Below w.heap.size w wr ∧ IM Try.prog 3 wr b (wfun f) s ∧ (ops.take i).all (qb7 f) = true
theorem OkT_of_right {t : T4} (h : qbj t = true) : OkT t := by
 unfold qbj at h
 simp only [Bool.and_eq_true, decide_eq_true_eq] at h
 refine ⟨h.1.2, fun o ho => ?_⟩
 have := List.all_eq_true.1 h.2 o ho
 unfold qb6 at this
 simp only [Bool.and_eq_true, decide_eq_true_eq] at this
 exact ⟨this.1.1.1.1, this.1.1.1.2, this.1.1.2, this.1.2⟩
theorem OkS_of_right {t : T4} (h : qbj t = true) : OkS t := by
 unfold qbj at h
 simp only [Bool.and_eq_true, decide_eq_true_eq] at h
 unfold OkS
 omega
set_option maxHeartbeats 8000000 in
set_option maxRecDepth 100000 in
theorem check_calls (A : Option Addr) (cap : Nat) (h : List T4) (hcap : h.length ≤ cap) (hm : h.length ≤ 4611686018427387904) (hcnt : qar h ≤ 4611686018427387904) (w : World) (hr : RdT w A h) :
  Calls Try.prog 32 #[.slice A h.length cap] w fun e w' => e = .returned (.int .i64 (qa3 h)) ∧ Below w.heap.size w w' := by
 have OC := ops_calls A cap h w hr hcap hm hcnt
 obtain ⟨n, hn⟩ : ∃ n, h.length = n := ⟨_, rfl⟩
 have HN := Lib.hid hn
 rw [hn] at hm hcap OC ⊢
 have HR := Lib.hid hr
 have HOC := Lib.hid OC
 clear hn hr OC
 go_enter Try.func32, Try.ntmps32
 by_cases hbig : 64 < n
 ·have hbz : (64 : Int) < (n : Int) := by omega
  have HC := Lib.hid (show qa3 h = 3 by unfold qa3; rw [if_pos (Or.inl (by rw [HN.out]; exact hbig))])
  go_wp2_with fail
  go_ret
  exact ⟨by rw [HC.out]; rfl, Below.refl _ _⟩
 ·have hbz : ¬ (64 : Int) < (n : Int) := by omega
  by_cases hcb : 1024 < qar h
  ·have hcz : (1024 : Int) < (qar h : Int) := by omega
   have HC := Lib.hid (show qa3 h = 3 by unfold qa3; rw [if_pos (Or.inr hcb)])
   go_wp2_with (go_at_call 57; (with_reducible refine HOC.out.mono ?_); rintro e w1 ⟨rfl, k1⟩)
   go_ret
   exact ⟨by rw [HC.out]; rfl, k1⟩
  have hcz : ¬ (1024 : Int) < (qar h : Int) := by omega
  have hc1 := checkF_small (h := h) (by rw [HN.out]; omega) (by omega)
  have HC := Lib.hid hc1
  clear hc1
  go_wp2_with (go_at_call 57; (with_reducible refine HOC.out.mono ?_); rintro e w1 ⟨rfl, k1⟩)
  have K1 := Lib.hid k1
  clear HOC k1 hcz hcb hbz
  go_loopw [23] (fun v wr => RelK1 h w v wr) (fun v _ => n - (intOf v).toNat)
  case atStart => exact ⟨0, Nat.zero_le _, rfl, K1.out, by simp⟩
  case round =>
   obtain ⟨i, hi, rfl, hb, hall⟩ := hrel
   rw [HN.out] at hi
   by_cases hlt : i < n
   ·have hltz : (i : Int) < (n : Int) := by omega
    have hil : i < h.length := by rw [HN.out]; exact hlt
    obtain ⟨ad, rfl, hc⟩ := HR.out (by omega)
    obtain ⟨t, ht⟩ : ∃ t, h[i]? = some t := ⟨_, List.getElem?_eq_getElem hil⟩
    obtain ⟨A3, c3, t0, t1, t2, t3, hl3, hro⟩ := hc i t ht
    replace t0 := cell_below hb t0
    replace t1 := cell_below hb t1
    replace t2 := cell_below hb t2
    replace t3 := cell_below hb t3
    have RC := right_calls A3 c3 t (wr.alloc (.cells #[.int .i64 t.s, .int .i64 t.b, .int .i64 t.c, .slice A3 t.ops.length c3] 55)) (hro.below (hb.alloc hb.size _)) hl3 (by have := le_countT (List.mem_of_getElem? ht); omega)
    have hto : h.take (i + 1) = h.take i ++ [t] := by rw [List.take_add_one, ht]; rfl
    have HTO := Lib.hid hto
    have HTM := Lib.hid (List.mem_of_getElem? ht)
    obtain ⟨m, hm⟩ : ∃ m, t.ops.length = m := ⟨_, rfl⟩
    rw [hm] at t3 hl3 RC
    have HRC := Lib.hid RC
    have HB := Lib.hid hb
    clear hc ht hro hil hm RC hto hb
    have hsz : w.heap.size ≤ (wr.alloc (.cells #[.int .i64 t.s, .int .i64 t.b, .int .i64 t.c, .slice A3 m c3] 55)).heap.size := (HB.out.alloc HB.out.size _).size
    cases hrt : qbj t with
    | false =>
     have hfin : qa3 h = 2 := by
      rw [HC.out, show h.all qbj = false by rw [List.all_eq_false]; exact ⟨t, HTM.out, by simp [hrt]⟩]
      rfl
     have HF := Lib.hid hfin
     rw [hrt] at HRC
     clear hfin
     go_wp2_with (go_at_call 29; (with_reducible refine HRC.out.mono ?_); rintro e w2 ⟨rfl, k2⟩)
     go_ret
     exact ⟨by rw [HF.out]; rfl, (HB.out.alloc HB.out.size _).trans (k2.mono hsz)⟩
    | true =>
     rw [hrt] at HRC
     have hall2 : (h.take (i + 1)).all qbj = true := by rw [HTO.out]; simp [hall, hrt]
     go_wp2_with (go_at_call 29; (with_reducible refine HRC.out.mono ?_); rintro e w2 ⟨rfl, k2⟩)
     go_roundw
     case rel => exact ⟨i + 1, by rw [HN.out]; omega, by go_num, (HB.out.alloc HB.out.size _).trans (k2.mono hsz), hall2⟩
     case measure => (simp [intOf]; try omega)
   ·have hin : i = n := by omega
    subst hin
    rw [List.take_of_length_le (by rw [HN.out]; exact Nat.le_refl _)] at hall
    rw [hall] at HC
    have HJ := Lib.hid (show qa3 h = judgeF h from HC.out)
    have HOT : ∀ t ∈ h, OkT t := fun t ht => OkT_of_right (List.all_eq_true.1 hall t ht)
    have HOS : ∀ t ∈ h, OkS t := fun t ht => OkS_of_right (List.all_eq_true.1 hall t ht)
    have WC := hwrites_calls A cap h HOT (by rw [HN.out]; omega) wr (HR.out.below hb)
    have SC := fun w' (k : Below wr.heap.size wr w') => stamps_calls A cap h HOS (by rw [HN.out]; omega) w' ((HR.out.below hb).below k)
    rw [HN.out] at WC SC
    have HWC := Lib.hid WC
    have HSC := Lib.hid SC
    have HAL := Lib.hid hall
    have HB := Lib.hid hb
    clear hall HOT HOS WC SC HC K1 hb
    cases hwf : qbm h with
    | none =>
     have HF := Lib.hid (HJ.out.trans (judge_none hwf))
     rw [hwf] at HWC
     clear hwf
     go_wp2_with (go_at_call 28; (with_reducible refine HWC.out.mono ?_); rintro e w2 ⟨b, rfl, hmap, k2⟩)
     go_ret
     exact ⟨by rw [HF.out]; rfl, HB.out.trans (k2.mono HB.out.size)⟩
    | some f =>
     have hjs := judge_some hwf
     rw [hwf] at HWC
     cases hst : qbl h (fun _ => false) (fun _ => none) with
     | false =>
      rw [hst] at hjs HSC
      have HF := Lib.hid (HJ.out.trans hjs)
      clear hjs hwf
      go_wp2_with (first
       | (go_at_call 28; (with_reducible refine HWC.out.mono ?_); rintro e w2 ⟨b, rfl, hmap, k2⟩)
       | (go_at_call 58; (with_reducible refine (HSC.out _ k2).mono ?_); rintro e w3 ⟨rfl, k3⟩))
      go_ret
      exact ⟨by rw [HF.out]; rfl, (HB.out.trans (k2.mono HB.out.size)).trans (k3.mono (Nat.le_trans HB.out.size k2.size))⟩
     | true =>
      rw [hst] at hjs HSC
      have HF := Lib.hid (HJ.out.trans hjs)
      clear hjs hwf
      go_wp2_with (first
       | (go_at_call 28; (with_reducible refine HWC.out.mono ?_); rintro e w2 ⟨b, rfl, hmap, k2⟩)
       | (go_at_call 58; (with_reducible refine (HSC.out _ k2).mono ?_); rintro e w3 ⟨rfl, k3⟩))
      obtain ⟨s, him⟩ := hmap f rfl
      have him3 := him.below k3
      have hb3 : Below w.heap.size w w3 := (HB.out.trans (k2.mono HB.out.size)).trans (k3.mono (Nat.le_trans HB.out.size k2.size))
      have HI3 := Lib.hid him3
      have HB3 := Lib.hid hb3
      clear hmap him k2 k3 him3 hb3 HWC HSC HJ HB w2
      go_loopw [45] (fun v wr => RelK2 h w b s f v wr) (fun v _ => i - (intOf v).toNat)
      case atStart => exact ⟨0, Nat.zero_le _, rfl, HB3.out, HI3.out, by simp⟩
      case round =>
       clear HI3 HB3
       obtain ⟨j, hj, rfl, hb, him, hall⟩ := hrel
       rw [HN.out] at hj
       have HIM := Lib.hid him
       clear him
       by_cases hlt : j < i
       ·have hltz : (j : Int) < (i : Int) := by omega
        have hil : j < h.length := by rw [HN.out]; exact hlt
        obtain ⟨ad, rfl, hc⟩ := HR.out (by omega)
        obtain ⟨t, ht⟩ : ∃ t, h[j]? = some t := ⟨_, List.getElem?_eq_getElem hil⟩
        obtain ⟨A3, c3, t0, t1, t2, t3, hl3, hro⟩ := hc j t ht
        replace t0 := cell_below hb t0
        replace t1 := cell_below hb t1
        replace t2 := cell_below hb t2
        replace t3 := cell_below hb t3
        have hto : h.take (j + 1) = h.take j ++ [t] := by rw [List.take_add_one, ht]; rfl
        have HTO := Lib.hid hto
        have HTM := Lib.hid (List.mem_of_getElem? ht)
        have HRT := Lib.hid (List.all_eq_true.1 HAL.out t HTM.out)
        obtain ⟨m, hm⟩ : ∃ m, t.ops.length = m := ⟨_, rfl⟩
        have HMM := Lib.hid hm
        rw [hm] at t3 hl3
        have gW : Below w.heap.size w (wr.alloc (.cells #[.int .i64 t.s, .int .i64 t.b, .int .i64 t.c, .slice A3 m c3] 55)) := hb.alloc hb.size _
        have him1 := HIM.out.alloc (.cells #[.int .i64 t.s, .int .i64 t.b, .int .i64 t.c, .slice A3 m c3] 55)
        have HRO := Lib.hid (hro.below gW)
        have GW := Lib.hid gW
        have HI1 := Lib.hid him1
        have hm64 : m ≤ 64 := by rw [← hm]; exact (OkT_of_right HRT.out).1
        clear hc ht hro hil hm hto hb gW him1
        go_wp2_with fail
        clear t0 t1 t2 t3
        obtain ⟨W1, hW1⟩ : ∃ W1, wr.alloc (.cells #[.int .i64 t.s, .int .i64 t.b, .int .i64 t.c, .slice A3 m c3] 55) = W1 := ⟨_, rfl⟩
        rw [hW1] at GW HRO HI1 ⊢
        clear hW1
        go_loopw [52] (fun v wr => RelK3 t.ops W1 b s f v wr) (fun v _ => m - (intOf v).toNat)
        case atStart => exact ⟨0, Nat.zero_le _, rfl, Below.refl _ _, HI1.out, by simp⟩
        case round =>
         clear HI1 HIM
         obtain ⟨k, hk, rfl, hb, him, hop⟩ := hrel
         rw [HMM.out] at hk
         have HIM := Lib.hid him
         clear him
         by_cases hkm : k < m
         ·have hkz : (k : Int) < (m : Int) := by omega
          have hkl : k < t.ops.length := by rw [HMM.out]; exact hkm
          obtain ⟨ad3, rfl, hc⟩ := HRO.out (by omega)
          obtain ⟨o, ho⟩ : ∃ o, t.ops[k]? = some o := ⟨_, List.getElem?_eq_getElem hkl⟩
          obtain ⟨x0, x1, x2⟩ := hc k o ho
          have hoo := (OkT_of_right HRT.out).2 o (List.mem_of_getElem? ho)
          have HTP := Lib.hid (show t.ops.take (k + 1) = t.ops.take k ++ [o] by rw [List.take_add_one, ho]; rfl)
          have HOM := Lib.hid (List.mem_of_getElem? ho)
          replace x0 := cell_below hb x0
          replace x1 := cell_below hb x1
          replace x2 := cell_below hb x2
          have HVW := Lib.hid (wf64 (x := o.v) (by have := hoo.2.2.1; omega) (by have := hoo.2.2.2; omega))
          have hb2 : Below W1.heap.size W1 (wr.alloc (.cells #[.bool o.w, .int .i64 o.k, .int .i64 o.v] 51)) := hb.alloc hb.size _
          have HB2 := Lib.hid hb2
          clear hc ho hoo hkl hb hb2
          have hstep : qb7 f o = true → (t.ops.take (k + 1)).all (qb7 f) = true := fun h => by rw [HTP.out]; simp [hop, h]
          have hstop : qb7 f o = false → qa3 h = 2 := fun h => by
           rw [HF.out, show _ = false from List.all_eq_false.2 ⟨t, HTM.out, by rw [Bool.not_eq_true, List.all_eq_false]; exact ⟨o, HOM.out, by simp [h]⟩⟩]
           rfl
          have HSTEP := Lib.hid hstep
          have HSTOP := Lib.hid hstop
          clear hstep hstop
          cases hf : f o.v with
          | none =>
           have HV := Lib.hid (show (if true = true then (.tuple #[(wfun f o.v).getD (.agg #[.int .i64 0, .int .i64 0, .bool false]), .bool (wfun f o.v).isSome] : Value) else (wfun f o.v).getD (.agg #[.int .i64 0, .int .i64 0, .bool false])) = .tuple #[.agg #[.int .i64 0, .int .i64 0, .bool false], .bool false] by simp [wfun, hf])
           have HRB := Lib.hid (show qb7 f o = (o.w || decide (o.v = 0) || false) by unfold qb7; rw [hf])
           obtain ⟨ow, ok, ov⟩ := o
           dsimp only at x0 x1 x2 HVW HV HB2 HRB hf
           clear hf
           cases ow with
           | true =>
            go_wp2_with (at_lookup; refine qav (HIM.out.alloc _) rfl _ _ 56 60 true rfl Try.underlying56 Try.underlying3 (.agg #[.int .i64 0, .int .i64 0, .bool false]) (fun _ => by kernel_rfl) rfl ov rfl HVW.out _ HV.out ?_)
            go_roundw
            case rel => exact ⟨k + 1, by rw [HMM.out]; omega, by go_num, HB2.out.alloc HB2.out.size _, (HIM.out.alloc _).alloc _, HSTEP.out (by rw [HRB.out]; rfl)⟩
            case measure => (simp [intOf]; try omega)
           | false =>
            by_cases hv0 : ov = 0
            ·subst hv0
             go_wp2_with (at_lookup; refine qav (HIM.out.alloc _) rfl _ _ 56 60 true rfl Try.underlying56 Try.underlying3 (.agg #[.int .i64 0, .int .i64 0, .bool false]) (fun _ => by kernel_rfl) rfl 0 rfl HVW.out _ HV.out ?_)
             go_roundw
             case rel => exact ⟨k + 1, by rw [HMM.out]; omega, by go_num, HB2.out.alloc HB2.out.size _, (HIM.out.alloc _).alloc _, HSTEP.out (by rw [HRB.out]; rfl)⟩
             case measure => (simp [intOf]; try omega)
            ·have hv1 : decide (ov = 0) = false := decide_eq_false hv0
             have HFIN := Lib.hid (HSTOP.out (by rw [HRB.out, hv1]; rfl))
             go_wp2_with (at_lookup; refine qav (HIM.out.alloc _) rfl _ _ 56 60 true rfl Try.underlying56 Try.underlying3 (.agg #[.int .i64 0, .int .i64 0, .bool false]) (fun _ => by kernel_rfl) rfl ov rfl HVW.out _ HV.out ?_)
             go_ret
             exact ⟨by rw [HFIN.out]; rfl, (GW.out.trans ((HB2.out.alloc HB2.out.size _).mono GW.out.size))⟩
          | some x =>
           obtain ⟨x1n, x2n, x3n⟩ := x
           have HV := Lib.hid (show (if true = true then (.tuple #[(wfun f o.v).getD (.agg #[.int .i64 0, .int .i64 0, .bool false]), .bool (wfun f o.v).isSome] : Value) else (wfun f o.v).getD (.agg #[.int .i64 0, .int .i64 0, .bool false])) = .tuple #[.agg #[.int .i64 (x1n : Int), .int .i64 x2n, .bool x3n], .bool true] by simp [wfun, hf, wval])
           have HRB := Lib.hid (show qb7 f o = (o.w || decide (o.v = 0) || decide (x2n = o.k)) by unfold qb7; rw [hf])
           obtain ⟨ow, ok, ov⟩ := o
           dsimp only at x0 x1 x2 HVW HV HB2 HRB hf
           clear hf
           cases ow with
           | true =>
            go_wp2_with (at_lookup; refine qav (HIM.out.alloc _) rfl _ _ 56 60 true rfl Try.underlying56 Try.underlying3 (.agg #[.int .i64 0, .int .i64 0, .bool false]) (fun _ => by kernel_rfl) rfl ov rfl HVW.out _ HV.out ?_)
            go_roundw
            case rel => exact ⟨k + 1, by rw [HMM.out]; omega, by go_num, HB2.out.alloc HB2.out.size _, (HIM.out.alloc _).alloc _, HSTEP.out (by rw [HRB.out]; rfl)⟩
            case measure => (simp [intOf]; try omega)
           | false =>
            by_cases hv0 : ov = 0
            ·subst hv0
             go_wp2_with (at_lookup; refine qav (HIM.out.alloc _) rfl _ _ 56 60 true rfl Try.underlying56 Try.underlying3 (.agg #[.int .i64 0, .int .i64 0, .bool false]) (fun _ => by kernel_rfl) rfl 0 rfl HVW.out _ HV.out ?_)
             go_roundw
             case rel => exact ⟨k + 1, by rw [HMM.out]; omega, by go_num, HB2.out.alloc HB2.out.size _, (HIM.out.alloc _).alloc _, HSTEP.out (by rw [HRB.out]; rfl)⟩
             case measure => (simp [intOf]; try omega)
            ·have hv1 : decide (ov = 0) = false := decide_eq_false hv0
             by_cases hk2 : x2n = ok
             ·subst hk2
              go_wp2_with (at_lookup; refine qav (HIM.out.alloc _) rfl _ _ 56 60 true rfl Try.underlying56 Try.underlying3 (.agg #[.int .i64 0, .int .i64 0, .bool false]) (fun _ => by kernel_rfl) rfl ov rfl HVW.out _ HV.out ?_)
              go_roundw
              case rel => exact ⟨k + 1, by rw [HMM.out]; omega, by go_num, HB2.out.alloc HB2.out.size _, (HIM.out.alloc _).alloc _, HSTEP.out (by rw [HRB.out]; simp)⟩
              case measure => (simp [intOf]; try omega)
             ·have hk3 : decide (x2n = ok) = false := decide_eq_false hk2
              have hn1 : (ov != 0) = true := by simp [hv0]
              have hn2 : (x2n != ok) = true := by simp [hk2]
              have HFIN := Lib.hid (HSTOP.out (by rw [HRB.out, hv1, hk3]; rfl))
              go_wp2_with (at_lookup; refine qav (HIM.out.alloc _) rfl _ _ 56 60 true rfl Try.underlying56 Try.underlying3 (.agg #[.int .i64 0, .int .i64 0, .bool false]) (fun _ => by kernel_rfl) rfl ov rfl HVW.out _ HV.out ?_)
              go_ret
              exact ⟨by rw [HFIN.out]; rfl, (GW.out.trans ((HB2.out.alloc HB2.out.size _).mono GW.out.size))⟩
         ·have hkm2 : k = m := by omega
          subst hkm2
          rw [List.take_of_length_le (by rw [HMM.out]; exact Nat.le_refl _)] at hop
          have hall2 : ((h.take (j + 1)).all fun t => t.ops.all (qb7 f)) = true := by rw [HTO.out]; simp [hall, hop]
          have HB2 := Lib.hid (GW.out.trans (hb.mono GW.out.size))
          clear hop hall hb
          go_wp2_with fail
          go_roundw
          case rel => exact ⟨j + 1, by rw [HN.out]; omega, by go_num, HB2.out, HIM.out, hall2⟩
          case measure => (simp [intOf]; try omega)
       ·have hji : j = i := by omega
        subst hji
        rw [List.take_of_length_le (by rw [HN.out]; exact Nat.le_refl _)] at hall
        have HFIN := Lib.hid (show qa3 h = 0 by rw [HF.out, hall]; rfl)
        clear hall
        go_wp2_with fail
        go_ret
        exact ⟨by rw [HFIN.out]; rfl, hb⟩
end Go.Proofs.Ytngkneknopenmaa.Hist
end
section
namespace Go.Proofs.Ytngkneknopenmaa.Hist
open Go Go.RowKit Go.Proofs.Ytngkneknopenmaa.Row3 Go.Proofs.Ytngkneknopenmaa.IntMap
def qci (u t : T4) : Bool := !(decide (u.b = t.b) || decide (u.b = t.c) || decide (u.c = t.b) || decide (u.c = t.c)) && !(decide (u.s = t.s) && decide (t.b < u.c))
def opB (h : List T4) (o : O3) : Bool := if o.w then decide (qcd h o.v = 1) else (decide (o.v = 0) || decide (0 ≤ writerN o.k o.v 0 h))
def qco (h : List T4) (i : Nat) (t : T4) : Bool := qbj t && (h.take i).all (fun u => qci u t) && t.ops.all (opB h)
def mayL (h : List T4) : Nat → List T4 → Bool
 | _, [] => true
 | i, t :: r => qco h i t && mayL h (i + 1) r
def mayF (h : List T4) : Bool := mayL h 0 h
def qbs (h : List T4) : Int := if h.length > 64 ∨ qar h > 1024 then 3 else if !mayF h then 2 else 0
def RelM1 (h : List T4) (w : World) (v : Value) (wr : World) : Prop :=
 ∃ i : Nat, i ≤ h.length ∧ v = .int .i64 ((i : Nat) : Int) ∧ Below w.heap.size w wr ∧ mayL h i (h.drop i) = mayF h
def RelM2 (h : List T4) (i : Nat) (t : T4) (w : World) (v : Value) (wr : World) : Prop :=
 ∃ k : Nat, k ≤ i ∧ v = .int .i64 ((k : Nat) : Int) ∧ Below w.heap.size w wr ∧ (h.take k).all (fun u => qci u t) = true
def RelM3 (h : List T4) (t : T4) (w : World) (v : Value) (wr : World) : Prop :=
 ∃ j : Nat, j ≤ t.ops.length ∧ v = .int .i64 ((j : Nat) : Int) ∧ Below w.heap.size w wr ∧ (t.ops.take j).all (opB h) = true
set_option maxHeartbeats 8000000 in
set_option maxRecDepth 100000 in
theorem may_calls (A : Option Addr) (cap : Nat) (h : List T4) (hcap : h.length ≤ cap) (hm : h.length ≤ 4611686018427387904) (hcnt : qar h ≤ 4611686018427387904) (w : World) (hr : RdT w A h) :
  Calls Try.prog 42 #[.slice A h.length cap] w fun e w' => e = .returned (.bool (mayF h)) ∧ Below w.heap.size w w' := by
 have TC := fun (v : Int) (w' : World) (k : Below w.heap.size w w') => times_calls A cap h v w' (hr.below k) hcap hm hcnt
 have RC := fun (key v : Int) (w' : World) (k : Below w.heap.size w w') => writer_calls A cap h key v w' (hr.below k) hcap hm hcnt
 obtain ⟨n, hn⟩ : ∃ n, h.length = n := ⟨_, rfl⟩
 have HN := Lib.hid hn
 rw [hn] at hm hcap TC RC ⊢
 have HR := Lib.hid hr
 have HTC := Lib.hid TC
 have HRC := Lib.hid RC
 clear hn hr TC RC
 go_enter Try.func42, Try.ntmps42
 go_wp2_with fail
 go_loopw [3] (fun v wr => RelM1 h w v wr) (fun v _ => n - (intOf v).toNat)
 case atStart => exact ⟨0, Nat.zero_le _, rfl, Below.refl _ _, rfl⟩
 case round =>
  obtain ⟨i, hi, rfl, hb, hall⟩ := hrel
  rw [HN.out] at hi
  by_cases hlt : i < n
  ·have hltz : (i : Int) < (n : Int) := by omega
   have hil : i < h.length := by rw [HN.out]; exact hlt
   obtain ⟨ad, rfl, hc⟩ := HR.out (by omega)
   obtain ⟨t, ht⟩ : ∃ t, h[i]? = some t := ⟨_, List.getElem?_eq_getElem hil⟩
   obtain ⟨A3, c3, t0, t1, t2, t3, hl3, hro⟩ := hc i t ht
   have hdr : h.drop i = t :: h.drop (i + 1) := by
    rw [List.drop_eq_getElem_cons hil]
    congr 1
    exact Option.some.inj ((List.getElem?_eq_getElem hil).symm.trans ht)
   rw [hdr] at hall
   have HAL := Lib.hid (show (qco h i t && mayL h (i + 1) (h.drop (i + 1))) = mayF h from hall)
   have T0 := Lib.hid t0
   have T1 := Lib.hid t1
   have T2 := Lib.hid t2
   have T3 := Lib.hid t3
   replace t0 := cell_below hb t0
   replace t1 := cell_below hb t1
   replace t2 := cell_below hb t2
   replace t3 := cell_below hb t3
   have MC := mayT_calls A3 c3 t wr (hro.below hb) hl3 (by have := le_countT (List.mem_of_getElem? ht); omega)
   have HT := Lib.hid ht
   have HC := Lib.hid hc
   obtain ⟨m, hm⟩ : ∃ m, t.ops.length = m := ⟨_, rfl⟩
   have HMM := Lib.hid hm
   have hm62 : m ≤ 4611686018427387904 := by rw [← hm]; have := le_countT (List.mem_of_getElem? ht); omega
   rw [hm] at t3 hl3 MC T3
   have HMC := Lib.hid MC
   have HB := Lib.hid hb
   have HRO := Lib.hid hro
   clear hc ht hro hil hm MC hb hdr hall
   cases hrt : qbj t with
   | false =>
    have HF := Lib.hid (show mayF h = false by rw [← HAL.out]; unfold qco; rw [hrt]; rfl)
    rw [hrt] at HMC
    go_wp2_with (go_at_call 64; (with_reducible refine HMC.out.mono ?_); rintro e w2 ⟨rfl, k2⟩)
    go_ret
    exact ⟨by rw [HF.out]; rfl, HB.out.trans (k2.mono HB.out.size)⟩
   | true =>
    rw [hrt] at HMC
    go_wp2_with (go_at_call 64; (with_reducible refine HMC.out.mono ?_); rintro e w2 ⟨rfl, k2⟩)
    have hb2 := HB.out.trans (k2.mono HB.out.size)
    have HB2 := Lib.hid hb2
    clear t0 t1 t2 t3 k2 HB hb2 HMC
    go_loopw [4] (fun v wr => RelM2 h i t w v wr) (fun v _ => i - (intOf v).toNat)
    case atStart => exact ⟨0, Nat.zero_le _, rfl, HB2.out, by simp⟩
    case round =>
     clear HB2
     obtain ⟨k, hk, rfl, hb, hpr⟩ := hrel
     by_cases hki : k < i
     ·have hkz : (k : Int) < (i : Int) := by omega
      have hkn : (k : Int) < (n : Int) := by omega
      obtain ⟨u, hu⟩ : ∃ u, h[k]? = some u := ⟨_, List.getElem?_eq_getElem (by rw [HN.out]; omega)⟩
      obtain ⟨A4, c4, u0, u1, u2, u3, _, _⟩ := HC.out k u hu
      have HTK := Lib.hid (show h.take (k + 1) = h.take k ++ [u] by rw [List.take_add_one, hu]; rfl)
      have HUM := Lib.hid (show u ∈ h.take i from List.mem_of_getElem? (show (h.take i)[k]? = some u by rw [List.getElem?_take, if_pos hki]; exact hu))
      have t0 := cell_below hb T0.out
      have t1 := cell_below hb T1.out
      have t2 := cell_below hb T2.out
      have t3 := cell_below hb T3.out
      replace u0 := cell_below hb u0
      replace u1 := cell_below hb u1
      replace u2 := cell_below hb u2
      replace u3 := cell_below hb u3
      obtain ⟨m4, hm4⟩ : ∃ m4, u.ops.length = m4 := ⟨_, rfl⟩
      rw [hm4] at u3
      have hal : ∀ {a v}, wr.cell? a = some v → (wr.alloc (.cells #[.int .i64 u.s, .int .i64 u.b, .int .i64 u.c, .slice A4 m4 c4] 55)).cell? a = some v := fun {a v} e => cell_below ((Below.refl _ _).alloc (Nat.le_refl _) _) e
      replace t0 := hal t0
      replace t1 := hal t1
      replace t2 := hal t2
      replace t3 := hal t3
      have HB := Lib.hid hb
      clear hu hb hal hm4
      have hstop : qci u t = false → mayF h = false := fun e => by
       rw [← HAL.out]
       unfold qco
       rw [show (h.take i).all (fun u => qci u t) = false from List.all_eq_false.2 ⟨u, HUM.out, by simp [e]⟩]
       simp
      have hstep : qci u t = true → (h.take (k + 1)).all (fun u => qci u t) = true := fun e => by rw [HTK.out]; simp [hpr, e]
      have HSTOP := Lib.hid hstop
      have HSTEP := Lib.hid hstep
      clear hstop hstep
      obtain ⟨us, ub, uc, uops⟩ := u
      obtain ⟨ts, tb, tc, tops⟩ := t
      dsimp only at t0 t1 t2 t3 u0 u1 u2 u3
      by_cases e1 : ub = tb
      ·subst e1
       have HF := Lib.hid (HSTOP.out (by simp [qci]))
       go_wp2_with fail
       go_ret
       exact ⟨by rw [HF.out]; rfl, ((HB.out.alloc HB.out.size _).alloc (HB.out.alloc HB.out.size _).size _)⟩
      ·have e1d : decide (ub = tb) = false := decide_eq_false e1
       have e1b : (ub == tb) = false := by simp [e1]
       by_cases e2 : ub = tc
       ·subst e2
        have HF := Lib.hid (HSTOP.out (by simp [qci]))
        go_wp2_with fail
        go_ret
        exact ⟨by rw [HF.out]; rfl, ((HB.out.alloc HB.out.size _).alloc (HB.out.alloc HB.out.size _).size _)⟩
       ·have e2d : decide (ub = tc) = false := decide_eq_false e2
        have e2b : (ub == tc) = false := by simp [e2]
        by_cases e3 : uc = tb
        ·subst e3
         have HF := Lib.hid (HSTOP.out (by simp [qci]))
         go_wp2_with fail
         go_ret
         exact ⟨by rw [HF.out]; rfl, ((HB.out.alloc HB.out.size _).alloc (HB.out.alloc HB.out.size _).size _)⟩
        ·have e3d : decide (uc = tb) = false := decide_eq_false e3
         have e3b : (uc == tb) = false := by simp [e3]
         by_cases e4 : uc = tc
         ·subst e4
          have HF := Lib.hid (HSTOP.out (by simp [qci]))
          go_wp2_with fail
          go_ret
          exact ⟨by rw [HF.out]; rfl, ((HB.out.alloc HB.out.size _).alloc (HB.out.alloc HB.out.size _).size _)⟩
         ·have e4d : decide (uc = tc) = false := decide_eq_false e4
          have e4b : (uc == tc) = false := by simp [e4]
          by_cases e5 : us = ts
          ·subst e5
           by_cases e6 : tb < uc
           ·have HF := Lib.hid (HSTOP.out (by simp [qci, e6]))
            go_wp2_with fail
            go_ret
            exact ⟨by rw [HF.out]; rfl, ((HB.out.alloc HB.out.size _).alloc (HB.out.alloc HB.out.size _).size _)⟩
           ·have HF := Lib.hid (HSTEP.out (by simp [qci, e1, e2, e3, e4]; omega))
            go_wp2_with fail
            go_roundw
            case rel => exact ⟨k + 1, by omega, by go_num, ((HB.out.alloc HB.out.size _).alloc (HB.out.alloc HB.out.size _).size _), HF.out⟩
            case measure => (simp [intOf]; try omega)
          ·have e5d : decide (us = ts) = false := decide_eq_false e5
           have e5b : (us == ts) = false := by simp [e5]
           have HF := Lib.hid (HSTEP.out (by simp [qci, e1, e2, e3, e4, e5]))
           go_wp2_with fail
           go_roundw
           case rel => exact ⟨k + 1, by omega, by go_num, ((HB.out.alloc HB.out.size _).alloc (HB.out.alloc HB.out.size _).size _), HF.out⟩
           case measure => (simp [intOf]; try omega)
     ·have hki2 : k = i := by omega
      subst hki2
      have HPR := Lib.hid hpr
      have HB := Lib.hid hb
      clear hpr hb
      go_wp2_with fail
      go_loopw [7] (fun v wr => RelM3 h t w v wr) (fun v _ => m - (intOf v).toNat)
      case atStart => exact ⟨0, Nat.zero_le _, rfl, HB.out, by simp⟩
      case round =>
       clear HB
       obtain ⟨j, hj, rfl, hb, hop⟩ := hrel
       rw [HMM.out] at hj
       have t3 := cell_below hb T3.out
       by_cases hjm : j < m
       ·have hjz : (j : Int) < (m : Int) := by omega
        have hjl : j < t.ops.length := by rw [HMM.out]; exact hjm
        obtain ⟨ad3, rfl, hc⟩ := HRO.out (by omega)
        obtain ⟨o, ho⟩ : ∃ o, t.ops[j]? = some o := ⟨_, List.getElem?_eq_getElem hjl⟩
        obtain ⟨x0, x1, x2⟩ := hc j o ho
        have HTP := Lib.hid (show t.ops.take (j + 1) = t.ops.take j ++ [o] by rw [List.take_add_one, ho]; rfl)
        have HOM := Lib.hid (List.mem_of_getElem? ho)
        replace x0 := cell_below hb x0
        replace x1 := cell_below hb x1
        replace x2 := cell_below hb x2
        have HB := Lib.hid hb
        clear hc ho hjl hb
        have hstop : opB h o = false → mayF h = false := fun e => by
         rw [← HAL.out]
         unfold qco
         rw [show t.ops.all (opB h) = false from List.all_eq_false.2 ⟨o, HOM.out, by simp [e]⟩]
         simp
        have hstep : opB h o = true → (t.ops.take (j + 1)).all (opB h) = true := fun e => by rw [HTP.out]; simp [hop, e]
        have HSTOP := Lib.hid hstop
        have HSTEP := Lib.hid hstep
        clear hstop hstep
        obtain ⟨ow, ok, ov⟩ := o
        dsimp only at x0 x1 x2
        have hb2 : Below w.heap.size w (wr.alloc (.cells #[.bool ow, .int .i64 ok, .int .i64 ov] 51)) := HB.out.alloc HB.out.size _
        have TC := HTC.out ov _ hb2
        have RC := HRC.out ok ov _ hb2
        have hbx := alloc_at wr (.cells #[.bool ow, .int .i64 ok, .int .i64 ov] 51)
        have z0 := Lib.cell_of_heap hbx 0
        have z1 := Lib.cell_of_heap hbx 1
        have z2 := Lib.cell_of_heap hbx 2
        simp only [List.getElem?_toArray, List.getElem?_cons_zero, List.getElem?_cons_succ] at z0 z1 z2
        have Z0 := Lib.hid z0
        have Z1 := Lib.hid z1
        have Z2 := Lib.hid z2
        have HB2 := Lib.hid hb2
        have TC' := Lib.hid TC
        have RC' := Lib.hid RC
        clear hb2 TC RC HB hbx z0 z1 z2
        cases ow with
        | true =>
         by_cases htm : qcd h ov = 1
         ·have HF := Lib.hid (HSTEP.out (by simp [opB, htm]))
          rw [htm] at TC'
          clear htm
          go_wp2_with (go_at_call 65; (with_reducible refine TC'.out.mono ?_); rintro e w5 ⟨rfl, k5⟩; have z0 := cell_below k5 Z0.out; have z1 := cell_below k5 Z1.out; have z2 := cell_below k5 Z2.out)
          go_roundw
          case rel => exact ⟨j + 1, by rw [HMM.out]; omega, by go_num, HB2.out.trans (k5.mono HB2.out.size), HF.out⟩
          case measure => (simp [intOf]; try omega)
         ·have HF := Lib.hid (HSTOP.out (by simp [opB, htm]))
          have htz : ¬ (qcd h ov : Int) = 1 := by omega
          have htb : ((qcd h ov : Int) != 1) = true := by simp [htz]
          go_wp2_with (go_at_call 65; (with_reducible refine TC'.out.mono ?_); rintro e w5 ⟨rfl, k5⟩; have z0 := cell_below k5 Z0.out; have z1 := cell_below k5 Z1.out; have z2 := cell_below k5 Z2.out)
          go_ret
          exact ⟨by rw [HF.out]; rfl, HB2.out.trans (k5.mono HB2.out.size)⟩
        | false =>
         by_cases hv0 : ov = 0
         ·subst hv0
          have HF := Lib.hid (HSTEP.out (by simp [opB]))
          go_wp2_with fail
          go_roundw
          case rel => exact ⟨j + 1, by rw [HMM.out]; omega, by go_num, HB2.out, HF.out⟩
          case measure => (simp [intOf]; try omega)
         ·have hn1 : (ov != 0) = true := by simp [hv0]
          by_cases hwr : writerN ok ov 0 h < 0
          ·have HF := Lib.hid (HSTOP.out (by simp [opB, hv0, hwr]))
           go_wp2_with (go_at_call 31; (with_reducible refine RC'.out.mono ?_); rintro e w5 ⟨rfl, k5⟩; have z0 := cell_below k5 Z0.out; have z1 := cell_below k5 Z1.out; have z2 := cell_below k5 Z2.out)
           go_ret
           exact ⟨by rw [HF.out]; rfl, HB2.out.trans (k5.mono HB2.out.size)⟩
          ·have HF := Lib.hid (HSTEP.out (by simp [opB, Int.not_lt.1 hwr]))
           go_wp2_with (go_at_call 31; (with_reducible refine RC'.out.mono ?_); rintro e w5 ⟨rfl, k5⟩; have z0 := cell_below k5 Z0.out; have z1 := cell_below k5 Z1.out; have z2 := cell_below k5 Z2.out)
           go_roundw
           case rel => exact ⟨j + 1, by rw [HMM.out]; omega, by go_num, HB2.out.trans (k5.mono HB2.out.size), HF.out⟩
           case measure => (simp [intOf]; try omega)
       ·have hjm2 : j = m := by omega
        subst hjm2
        rw [List.take_of_length_le (by rw [HMM.out]; exact Nat.le_refl _)] at hop
        have hnx : mayL h (k + 1) (h.drop (k + 1)) = mayF h := by
         rw [← HAL.out]
         unfold qco
         rw [hrt, HPR.out, hop]
         simp
        have HNX := Lib.hid hnx
        have HB := Lib.hid hb
        clear hop hnx hb
        go_wp2_with fail
        go_roundw
        case rel => exact ⟨k + 1, by rw [HN.out]; omega, by go_num, HB.out, HNX.out⟩
        case measure => (simp [intOf]; try omega)
  ·have hin : i = n := by omega
   subst hin
   rw [List.drop_of_length_le (by rw [HN.out]; exact Nat.le_refl _)] at hall
   have HF := Lib.hid (show mayF h = true from hall.symm)
   go_wp2_with fail
   go_ret
   exact ⟨by rw [HF.out]; rfl, hb⟩
set_option maxHeartbeats 8000000 in
set_option maxRecDepth 100000 in
theorem ref_calls (A : Option Addr) (cap : Nat) (h : List T4) (hcap : h.length ≤ cap) (hm : h.length ≤ 4611686018427387904) (hcnt : qar h ≤ 4611686018427387904) (w : World) (hr : RdT w A h) :
  Calls Try.prog 14 #[.slice A h.length cap] w fun e w' => e = .returned (.int .i64 (qbs h)) ∧ Below w.heap.size w w' := by
 have OC := count_calls A cap h w hr hcap hm hcnt
 have MC := fun (w' : World) (k : Below w.heap.size w w') => may_calls A cap h hcap hm hcnt w' (hr.below k)
 obtain ⟨n, hn⟩ : ∃ n, h.length = n := ⟨_, rfl⟩
 have HN := Lib.hid hn
 rw [hn] at hm hcap OC MC ⊢
 have HOC := Lib.hid OC
 have HMC := Lib.hid MC
 clear hn hr OC MC
 go_enter Try.func14, Try.ntmps14
 by_cases hbig : 64 < n
 ·have hbz : (64 : Int) < (n : Int) := by omega
  have HC := Lib.hid (show qbs h = 3 by unfold qbs; rw [if_pos (Or.inl (by rw [HN.out]; exact hbig))])
  go_wp2_with fail
  go_ret
  exact ⟨by rw [HC.out]; rfl, Below.refl _ _⟩
 ·have hbz : ¬ (64 : Int) < (n : Int) := by omega
  by_cases hcb : 1024 < qar h
  ·have hcz : (1024 : Int) < (qar h : Int) := by omega
   have HC := Lib.hid (show qbs h = 3 by unfold qbs; rw [if_pos (Or.inr hcb)])
   go_wp2_with (go_at_call 33; (with_reducible refine HOC.out.mono ?_); rintro e w1 ⟨rfl, k1⟩)
   go_ret
   exact ⟨by rw [HC.out]; rfl, k1⟩
  have hcz : ¬ (1024 : Int) < (qar h : Int) := by omega
  have hc1 : qbs h = if !mayF h then 2 else 0 := by
   unfold qbs
   rw [if_neg (by rw [HN.out]; omega)]
  have HC := Lib.hid hc1
  clear hc1
  cases hmf : mayF h with
  | false =>
   rw [hmf] at HC HMC
   go_wp2_with (first
    | (go_at_call 33; (with_reducible refine HOC.out.mono ?_); rintro e w1 ⟨rfl, k1⟩)
    | (go_at_call 42; (with_reducible refine (HMC.out _ k1).mono ?_); rintro e w2 ⟨rfl, k2⟩))
   go_ret
   exact ⟨by rw [HC.out]; rfl, k1.trans (k2.mono k1.size)⟩
  | true =>
   rw [hmf] at HC HMC
   go_wp2_with (first
    | (go_at_call 33; (with_reducible refine HOC.out.mono ?_); rintro e w1 ⟨rfl, k1⟩)
    | (go_at_call 42; (with_reducible refine (HMC.out _ k1).mono ?_); rintro e w2 ⟨rfl, k2⟩))
   go_ret
   exact ⟨by rw [HC.out]; rfl, k1.trans (k2.mono k1.size)⟩
end Go.Proofs.Ytngkneknopenmaa.Hist
end
section
namespace Go.Proofs.Ytngkneknopenmaa.Hist
open Go Go.RowKit Go.Proofs.Ytngkneknopenmaa.Row3
def qcm (u t : T4) : Prop := u.b ≠ t.b ∧ u.b ≠ t.c ∧ u.c ≠ t.b ∧ u.c ≠ t.c ∧ (u.s = t.s → u.c ≤ t.b)
theorem pairB_iff (u t : T4) : qci u t = true ↔ qcm u t := by
 unfold qci qcm
 simp only [Bool.and_eq_true, Bool.not_eq_true', Bool.or_eq_false_iff, decide_eq_false_iff_not, Bool.and_eq_false_imp, decide_eq_true_eq]
 constructor
 ·rintro ⟨⟨⟨⟨a, b⟩, c⟩, d⟩, e⟩
  exact ⟨a, b, c, d, fun h => Int.not_lt.1 (e h)⟩
 ·rintro ⟨a, b, c, d, e⟩
  exact ⟨⟨⟨⟨a, b⟩, c⟩, d⟩, fun h => Int.not_lt.2 (e h)⟩
def SeenOk (p : List T4) (seen : Int → Bool) : Prop := ∀ x, seen x = true ↔ ∃ u ∈ p, u.b = x ∨ u.c = x
def LastOk (p : List T4) (last : Int → Option Int) : Prop := (∀ u ∈ p, ∃ e, last u.s = some e ∧ u.c ≤ e) ∧ ∀ s e, last s = some e → ∃ u ∈ p, u.s = s ∧ u.c = e
theorem right_lt {t : T4} (h : qbj t = true) : t.b < t.c := by
 unfold qbj at h
 simp only [Bool.and_eq_true, decide_eq_true_eq] at h
 omega
theorem stamps_iff : ∀ (r p : List T4) (seen : Int → Bool) (last : Int → Option Int), (∀ t ∈ r, qbj t = true) → SeenOk p seen → LastOk p last → p.Pairwise qcm → (qbl r seen last = true ↔ (p ++ r).Pairwise qcm)
 | [], p, seen, last, _, _, _, hp => by simpa [qbl] using hp
 | t :: r, p, seen, last, hr, hs, hl, hp => by
  have hlt := right_lt (hr t (by simp))
  have hs2 : SeenOk (p ++ [t]) (qbw (qbw seen t.b) t.c) := by
   intro x
   unfold qbw
   by_cases h1 : x = t.c
   ·simp only [h1, if_true, true_iff]
    exact ⟨t, by simp, .inr rfl⟩
   ·rw [if_neg h1]
    by_cases h2 : x = t.b
    ·simp only [h2, if_true, true_iff]
     exact ⟨t, by simp, .inl rfl⟩
    ·rw [if_neg h2, hs x]
     constructor
     ·rintro ⟨u, hu, e⟩
      exact ⟨u, by simp [hu], e⟩
     ·rintro ⟨u, hu, e⟩
      rcases List.mem_append.1 hu with hu | hu
      ·exact ⟨u, hu, e⟩
      ·simp at hu
       subst hu
       rcases e with e | e
       ·exact absurd e.symm h2
       ·exact absurd e.symm h1
  have hstep : (seen t.b = false ∧ qbw seen t.b t.c = false ∧ ∀ e, last t.s = some e → e ≤ t.b) ↔ ∀ u ∈ p, qcm u t := by
   have hsf : qbw seen t.b t.c = seen t.c := by unfold qbw; rw [if_neg (by omega)]
   rw [hsf]
   constructor
   ·rintro ⟨a, b, c⟩ u hu
    have ha : ¬ ∃ u ∈ p, u.b = t.b ∨ u.c = t.b := fun h => by rw [(hs t.b).2 h] at a; cases a
    have hb : ¬ ∃ u ∈ p, u.b = t.c ∨ u.c = t.c := fun h => by rw [(hs t.c).2 h] at b; cases b
    refine ⟨fun e => ha ⟨u, hu, .inl e⟩, fun e => hb ⟨u, hu, .inl e⟩, fun e => ha ⟨u, hu, .inr e⟩, fun e => hb ⟨u, hu, .inr e⟩, fun e => ?_⟩
    obtain ⟨x, h1, h2⟩ := hl.1 u hu
    have := c x (e ▸ h1)
    omega
   ·intro h
    refine ⟨?_, ?_, ?_⟩
    ·cases hh : seen t.b with
     | false => rfl
     | true =>
      obtain ⟨u, hu, e⟩ := (hs _).1 hh
      have := h u hu
      rcases e with e | e
      ·exact absurd e this.1
      ·exact absurd e this.2.2.1
    ·cases hh : seen t.c with
     | false => rfl
     | true =>
      obtain ⟨u, hu, e⟩ := (hs _).1 hh
      have := h u hu
      rcases e with e | e
      ·exact absurd e this.2.1
      ·exact absurd e this.2.2.2.1
    ·intro e he
     obtain ⟨u, hu, h1, h2⟩ := hl.2 _ _ he
     have := (h u hu).2.2.2.2 h1
     omega
  have hgo : (∀ u ∈ p, qcm u t) → (qbl r (qbw (qbw seen t.b) t.c) (lastT last t.s t.c) = true ↔ (p ++ t :: r).Pairwise qcm) := by
   intro hpt
   have h1 := stamps_iff r (p ++ [t]) (qbw (qbw seen t.b) t.c) (lastT last t.s t.c) (fun u hu => hr u (by simp [hu])) hs2 (by
    constructor
    ·intro u hu
     unfold lastT
     rcases List.mem_append.1 hu with hu | hu
     ·by_cases h : u.s = t.s
      ·rw [if_pos h]
       have := (hpt u hu).2.2.2.2 h
       exact ⟨_, rfl, by omega⟩
      ·rw [if_neg h]
       exact hl.1 u hu
     ·simp at hu
      subst hu
      rw [if_pos rfl]
      exact ⟨_, rfl, Int.le_refl _⟩
    ·intro s e he
     unfold lastT at he
     split at he
     ·rename_i h
      cases he
      exact ⟨t, by simp, h.symm, rfl⟩
     ·obtain ⟨u, hu, h1, h2⟩ := hl.2 _ _ he
      exact ⟨u, by simp [hu], h1, h2⟩) (by
    rw [List.pairwise_append]
    exact ⟨hp, by simp, fun a ha b hb => by simp at hb; subst hb; exact hpt a ha⟩)
   rw [h1]
   simp
  have hback : (p ++ t :: r).Pairwise qcm → ∀ u ∈ p, qcm u t := fun h u hu => (List.pairwise_append.1 h).2.2 u hu t (by simp)
  unfold qbl
  by_cases h1 : seen t.b = true
  ·rw [if_pos h1]
   simp only [Bool.false_eq_true, false_iff]
   intro h
   have := (hstep.2 (hback h)).1
   rw [h1] at this; cases this
  rw [if_neg h1]
  by_cases h2 : qbw seen t.b t.c = true
  ·rw [if_pos h2]
   simp only [Bool.false_eq_true, false_iff]
   intro h
   have := (hstep.2 (hback h)).2.1
   rw [h2] at this; cases this
  rw [if_neg h2]
  cases hls : last t.s with
  | none =>
   exact hgo (hstep.1 ⟨eq_false_of_ne_true h1, eq_false_of_ne_true h2, fun e he => by rw [hls] at he; cases he⟩)
  | some e =>
   dsimp only
   by_cases h3 : e > t.b
   ·rw [if_pos h3]
    simp only [Bool.false_eq_true, false_iff]
    intro h
    have := (hstep.2 (hback h)).2.2 e hls
    omega
   ·rw [if_neg h3]
    exact hgo (hstep.1 ⟨eq_false_of_ne_true h1, eq_false_of_ne_true h2, fun x he => by rw [hls] at he; cases he; omega⟩)
theorem stamps_eq {h : List T4} (hr : ∀ t ∈ h, qbj t = true) : qbl h (fun _ => false) (fun _ => none) = true ↔ h.Pairwise qcm := by
 have := stamps_iff h [] (fun _ => false) (fun _ => none) hr (by intro x; simp) ⟨by simp, by simp⟩ (by simp)
 simpa using this
def pr (f : Int → Option W3) : Int → Option (Nat × Int) := fun v => (f v).map fun x => (x.1, x.2.1)
def insW : List (Int × Nat × Int) → (Int → Option (Nat × Int)) → Option (Int → Option (Nat × Int))
 | [], g => some g
 | (v, p) :: l, g => match g v with | some _ => none | none => insW l (fun y => if y = v then some p else g y)
def wrs (i : Nat) (ops : List O3) : List (Int × Nat × Int) := ops.filterMap fun o => if o.w then some (o.v, i, o.k) else none
def wrsT : Nat → List T4 → List (Int × Nat × Int)
 | _, [] => []
 | i, t :: r => wrs i t.ops ++ wrsT (i + 1) r
theorem insW_append : ∀ (l l' : List (Int × Nat × Int)) (g), insW (l ++ l') g = (insW l g).bind (insW l')
 | [], _, _ => rfl
 | (v, p) :: l, l', g => by
  show (match g v with | some _ => none | none => insW (l ++ l') _) = _
  show _ = (match g v with | some _ => none | none => insW l _).bind _
  cases g v with
  | some _ => rfl
  | none => exact insW_append l l' _
theorem opsW_pr (i : Nat) : ∀ (ops : List O3) (f : Int → Option W3), (opsW i ops f).map pr = insW (wrs i ops) (pr f)
 | [], f => rfl
 | o :: r, f => by
  unfold opsW stepW wrs
  by_cases hw : o.w = true
  ·rw [if_pos hw, List.filterMap_cons]
   simp only [hw, if_true]
   show _ = (match pr f o.v with | some _ => none | none => insW (wrs i r) _)
   cases hf : f o.v with
   | some x => simp [pr, hf]
   | none =>
    have : pr f o.v = none := by simp [pr, hf]
    rw [this]
    show (opsW i r _).map pr = _
    rw [opsW_pr i r]
    congr 1
    funext y
    unfold pr updW
    by_cases h : y = o.v <;> simp [h]
  ·rw [if_neg hw, List.filterMap_cons]
   simp only [hw]
   exact opsW_pr i r f
theorem mem_wrs {i : Nat} {ops : List O3} {x : Int × Nat × Int} : x ∈ wrs i ops ↔ ∃ o ∈ ops, o.w = true ∧ x = (o.v, i, o.k) := by
 unfold wrs
 rw [List.mem_filterMap]
 constructor
 ·rintro ⟨o, ho, h⟩
  split at h
  ·rename_i hw; cases h; exact ⟨o, ho, hw, rfl⟩
  ·cases h
 ·rintro ⟨o, ho, hw, rfl⟩
  exact ⟨o, ho, by rw [if_pos hw]⟩
theorem insW_spec : ∀ (l : List (Int × Nat × Int)) (g g' : Int → Option (Nat × Int)), insW l g = some g' → ((l.map (·.1)).Nodup ∧ ∀ x ∈ l, g x.1 = none) ∧ ∀ v p, g' v = some p ↔ (v, p) ∈ l ∨ g v = some p
 | [], g, g', h => by cases h; simp
 | (v, p) :: l, g, g', h => by
  unfold insW at h
  cases hg : g v with
  | some x => rw [hg] at h; cases h
  | none =>
   rw [hg] at h
   obtain ⟨⟨h1, h2⟩, h3⟩ := insW_spec l _ g' h
   have hne : ∀ x ∈ l, x.1 ≠ v := fun x hx e => by have := h2 x hx; simp [e] at this
   refine ⟨⟨?_, ?_⟩, ?_⟩
   ·rw [List.map_cons, List.nodup_cons]
    refine ⟨fun hm => ?_, h1⟩
    obtain ⟨x, hx, e⟩ := List.mem_map.1 hm
    exact hne x hx e
   ·intro x hx
    rcases List.mem_cons.1 hx with rfl | hx
    ·exact hg
    ·have := h2 x hx
     simpa [hne x hx] using this
   ·intro y q
    rw [h3 y q]
    by_cases hy : y = v
    ·subst hy
     simp only [if_true, List.mem_cons, hg]
     constructor
     ·rintro (h | h)
      ·exact .inl (.inr h)
      ·cases h; exact .inl (.inl rfl)
     ·rintro ((h | h) | h)
      ·injection h with _ h; subst h; exact .inr rfl
      ·exact .inl h
      ·cases h
    ·simp only [if_neg hy, List.mem_cons]
     constructor
     ·rintro (h | h)
      ·exact .inl (.inr h)
      ·exact .inr h
     ·rintro ((h | h) | h)
      ·injection h with h _; exact absurd h hy
      ·exact .inl h
      ·exact .inr h
theorem insW_some : ∀ (l : List (Int × Nat × Int)) (g : Int → Option (Nat × Int)), (l.map (·.1)).Nodup → (∀ x ∈ l, g x.1 = none) → (insW l g).isSome = true
 | [], g, _, _ => rfl
 | (v, p) :: l, g, h1, h2 => by
  unfold insW
  rw [h2 (v, p) (by simp)]
  rw [List.map_cons, List.nodup_cons] at h1
  refine insW_some l _ h1.2 (fun x hx => ?_)
  have : x.1 ≠ v := fun e => h1.1 (List.mem_map.2 ⟨x, hx, e⟩)
  simp only [if_neg this]
  exact h2 x (by simp [hx])
theorem mark_pr {i : Nat} {ops : List O3} {f g : Int → Option W3} (h : opsW i ops f = some g) : pr (markF ops g) = pr g := by
 funext v
 unfold pr markF
 split
 ·rename_i hl
  unfold isLast at hl
  rw [List.any_eq_true] at hl
  obtain ⟨o, ho, hv⟩ := hl
  simp only [Bool.and_eq_true, decide_eq_true_eq] at hv
  have hw := (lastO_spec ops _ _ hv.2).2.1
  have h1 := opsW_pr i ops f
  rw [h] at h1
  have h2 := (insW_spec _ _ _ h1.symm).2 v (i, o.k)
  have h3 : pr g v = some (i, o.k) := h2.2 (.inl (mem_wrs.2 ⟨o, ho, hw, by rw [hv.1]⟩))
  unfold pr at h3
  cases hg : g v with
  | none => rw [hg] at h3; cases h3
  | some x => simp
 ·rfl
theorem writesW_pr : ∀ (h : List T4) (i : Nat) (f : Int → Option W3), (writesW i h f).map pr = insW (wrsT i h) (pr f)
 | [], i, f => rfl
 | t :: r, i, f => by
  unfold writesW wrsT
  rw [insW_append, ← opsW_pr]
  cases ho : opsW i t.ops f with
  | none => rfl
  | some g =>
   show (writesW (i + 1) r (markF t.ops g)).map pr = insW (wrsT (i + 1) r) (pr g)
   rw [writesW_pr r, mark_pr ho]
theorem mem_wrsT : ∀ {h : List T4} {i : Nat} {x : Int × Nat × Int}, x ∈ wrsT i h ↔ ∃ j t o, h[j]? = some t ∧ o ∈ t.ops ∧ o.w = true ∧ x = (o.v, i + j, o.k)
 | [], i, x => by simp [wrsT]
 | t :: r, i, x => by
  unfold wrsT
  rw [List.mem_append, mem_wrs, mem_wrsT]
  constructor
  ·rintro (⟨o, ho, hw, rfl⟩ | ⟨j, u, o, hu, ho, hw, rfl⟩)
   ·exact ⟨0, t, o, rfl, ho, hw, rfl⟩
   ·exact ⟨j + 1, u, o, hu, ho, hw, by rw [show i + 1 + j = i + (j + 1) by omega]⟩
  ·rintro ⟨j, u, o, hu, ho, hw, rfl⟩
   cases j with
   | zero => cases hu; exact .inl ⟨o, ho, hw, rfl⟩
   | succ j => exact .inr ⟨j, u, o, hu, ho, hw, by rw [show i + 1 + j = i + (j + 1) by omega]⟩
theorem writes_spec {h : List T4} {f : Int → Option W3} (hf : qbm h = some f) (v : Int) (i : Nat) (k : Int) : (∃ l, f v = some (i, k, l)) ↔ ∃ t o, h[i]? = some t ∧ o ∈ t.ops ∧ o.w = true ∧ o.v = v ∧ o.k = k := by
 have h1 := writesW_pr h 0 fun _ => none
 rw [show writesW 0 h (fun _ => none) = some f from hf] at h1
 have h2 := (insW_spec _ _ _ h1.symm).2 v (i, k)
 have h3 : (∃ l, f v = some (i, k, l)) ↔ pr f v = some (i, k) := by
  unfold pr
  cases f v with
  | none => simp
  | some x =>
   obtain ⟨a, b, c⟩ := x
   simp
 rw [h3, h2]
 constructor
 ·rintro (h | h)
  ·obtain ⟨j, t, o, hj, ho, hw, e⟩ := mem_wrsT.1 h
   injection e with e1 e
   injection e with e2 e3
   subst e1 e3
   rw [Nat.zero_add] at e2
   subst e2
   exact ⟨t, o, hj, ho, hw, rfl, rfl⟩
  ·simp [pr] at h
 ·rintro ⟨t, o, hj, ho, hw, rfl, rfl⟩
  exact .inl (mem_wrsT.2 ⟨i, t, o, hj, ho, hw, by rw [Nat.zero_add]⟩)
theorem writes_some {h : List T4} : (qbm h).isSome = true ↔ ((wrsT 0 h).map (·.1)).Nodup := by
 have h1 := writesW_pr h 0 fun _ => none
 have h2 : (qbm h).isSome = (insW (wrsT 0 h) (pr fun _ => none)).isSome := by rw [← h1]; unfold qbm; simp
 rw [h2]
 constructor
 ·intro h
  obtain ⟨g, hg⟩ := Option.isSome_iff_exists.1 h
  exact (insW_spec _ _ _ hg).1.1
 ·intro h
  exact insW_some _ _ h (fun x _ => rfl)
theorem count_wrs (i : Nat) (v : Int) : ∀ ops : List O3, ((wrs i ops).map (·.1)).count v = ops.countP (isW v)
 | [] => rfl
 | o :: r => by
  have ih := count_wrs i v r
  have e : wrs i (o :: r) = (if o.w then [(o.v, i, o.k)] else []) ++ wrs i r := by
   unfold wrs
   rw [List.filterMap_cons]
   by_cases hw : o.w = true <;> simp [hw]
  rw [e, List.countP_cons, List.map_append, List.count_append, ih]
  unfold isW
  by_cases hw : o.w = true
  ·by_cases hv : o.v = v
   ·simp [hw, hv]; omega
   ·simp [hw, hv]
  ·simp [hw]
theorem count_wrsT (v : Int) : ∀ (h : List T4) (i : Nat), ((wrsT i h).map (·.1)).count v = qcd h v
 | [], i => rfl
 | t :: r, i => by
  unfold wrsT
  rw [List.map_append, List.count_append, count_wrs, count_wrsT v r, timesN_cons]
theorem writer_pos (k v : Int) : ∀ (h : List T4) (i : Nat), 0 ≤ writerN k v i h ↔ ∃ t ∈ h, ∃ o ∈ t.ops, o.w = true ∧ o.k = k ∧ o.v = v
 | [], i => by simp [writerN]
 | t :: r, i => by
  unfold writerN
  have ha : t.ops.any (isKV k v) = true ↔ ∃ o ∈ t.ops, o.w = true ∧ o.k = k ∧ o.v = v := by
   rw [List.any_eq_true]
   simp only [isKV, Bool.and_eq_true, decide_eq_true_eq]
  by_cases hb : t.ops.any (isKV k v) = true
  ·rw [if_pos hb]
   obtain ⟨o, ho⟩ := ha.1 hb
   exact ⟨fun _ => ⟨t, by simp, o, ho⟩, fun _ => by omega⟩
  ·rw [if_neg hb, writer_pos k v r]
   constructor
   ·rintro ⟨u, hu, h⟩
    exact ⟨u, by simp [hu], h⟩
   ·rintro ⟨u, hu, h⟩
    rcases List.mem_cons.1 hu with rfl | hu
    ·exact absurd (ha.2 h) hb
    ·exact ⟨u, hu, h⟩
theorem mayL_iff (h : List T4) : ∀ (r : List T4) (i : Nat), mayL h i r = true ↔ ∀ j t, r[j]? = some t → qco h (i + j) t = true
 | [], i => by simp [mayL]
 | t :: r, i => by
  unfold mayL
  rw [Bool.and_eq_true, mayL_iff h r]
  constructor
  ·rintro ⟨h1, h2⟩ j u hu
   cases j with
   | zero => cases hu; exact h1
   | succ j => have := h2 j u hu; rwa [show i + 1 + j = i + (j + 1) by omega] at this
  ·intro hh
   refine ⟨hh 0 t rfl, fun j u hu => ?_⟩
   have := hh (j + 1) u hu
   rwa [show i + (j + 1) = i + 1 + j by omega] at this
def MayP (h : List T4) : Prop := (∀ t ∈ h, qbj t = true) ∧ h.Pairwise qcm ∧ ((wrsT 0 h).map (·.1)).Nodup ∧ ∀ t ∈ h, ∀ o ∈ t.ops, o.w = false → o.v ≠ 0 → ∃ u ∈ h, ∃ x ∈ u.ops, x.w = true ∧ x.k = o.k ∧ x.v = o.v
theorem pairwise_take (R : T4 → T4 → Prop) : ∀ h : List T4, h.Pairwise R ↔ ∀ (i : Nat) (t : T4), h[i]? = some t → ∀ u ∈ h.take i, R u t := by
 intro h
 rw [List.pairwise_iff_getElem]
 constructor
 ·intro hp i t ht u hu
  obtain ⟨hi, rfl⟩ := List.getElem?_eq_some_iff.1 ht
  obtain ⟨j, hj, rfl⟩ := List.mem_iff_getElem.1 hu
  rw [List.length_take] at hj
  rw [List.getElem_take]
  exact hp j i (by omega) hi (by omega)
 ·intro hh i j hi hj hlt
  refine hh j h[j] (List.getElem?_eq_getElem hj) h[i] (List.mem_iff_getElem.2 ⟨i, by rw [List.length_take]; omega, by rw [List.getElem_take]⟩)
theorem opB_iff (h : List T4) (o : O3) : opB h o = true ↔ (o.w = true → qcd h o.v = 1) ∧ (o.w = false → o.v ≠ 0 → ∃ u ∈ h, ∃ x ∈ u.ops, x.w = true ∧ x.k = o.k ∧ x.v = o.v) := by
 unfold opB
 cases hw : o.w with
 | true => simp
 | false =>
  rw [if_neg (by simp), Bool.or_eq_true, decide_eq_true_eq, decide_eq_true_eq, writer_pos]
  constructor
  ·intro h
   exact ⟨by simp, fun _ hv => h.resolve_left hv⟩
  ·rintro ⟨_, h⟩
   by_cases hv : o.v = 0
   ·exact .inl hv
   ·exact .inr (h rfl hv)
theorem times_nodup (h : List T4) : (∀ t ∈ h, ∀ o ∈ t.ops, o.w = true → qcd h o.v = 1) ↔ ((wrsT 0 h).map (·.1)).Nodup := by
 rw [List.nodup_iff_count]
 constructor
 ·intro hh v
  rw [count_wrsT]
  by_cases hv : 0 < qcd h v
  ·rw [← count_wrsT v h 0] at hv
   obtain ⟨x, hx, e⟩ := List.mem_map.1 (List.count_pos_iff.1 hv)
   obtain ⟨j, t, o, hj, ho, hw, rfl⟩ := mem_wrsT.1 hx
   have := hh t (List.mem_of_getElem? hj) o ho hw
   dsimp only at e
   rw [← e, this]
   exact Nat.le_refl _
  ·omega
 ·intro hh t ht o ho hw
  have h1 := hh o.v
  rw [count_wrsT] at h1
  obtain ⟨j, hj⟩ := List.mem_iff_getElem?.1 ht
  have h2 : 0 < ((wrsT 0 h).map (·.1)).count o.v := List.count_pos_iff.2 (List.mem_map.2 ⟨_, mem_wrsT.2 ⟨j, t, o, hj, ho, hw, rfl⟩, rfl⟩)
  rw [count_wrsT] at h2
  omega
theorem mayF_iff (h : List T4) : mayF h = true ↔ MayP h := by
 unfold mayF
 rw [mayL_iff]
 have e : (∀ j t, h[j]? = some t → qco h (0 + j) t = true) ↔ (∀ t ∈ h, qbj t = true) ∧ h.Pairwise qcm ∧ ∀ t ∈ h, ∀ o ∈ t.ops, opB h o = true := by
  rw [pairwise_take]
  constructor
  ·intro hh
   refine ⟨fun t ht => ?_, fun i t ht u hu => ?_, fun t ht o ho => ?_⟩
   ·obtain ⟨j, hj⟩ := List.mem_iff_getElem?.1 ht
    have := hh j t hj
    unfold qco at this
    simp only [Bool.and_eq_true] at this
    exact this.1.1
   ·have := hh i t ht
    unfold qco at this
    simp only [Bool.and_eq_true, List.all_eq_true] at this
    rw [Nat.zero_add] at this
    exact (pairB_iff u t).1 (this.1.2 u hu)
   ·obtain ⟨j, hj⟩ := List.mem_iff_getElem?.1 ht
    have := hh j t hj
    unfold qco at this
    simp only [Bool.and_eq_true, List.all_eq_true] at this
    exact this.2 o ho
  ·rintro ⟨h1, h2, h3⟩ j t hj
   have ht := List.mem_of_getElem? hj
   unfold qco
   rw [Nat.zero_add]
   simp only [Bool.and_eq_true, List.all_eq_true]
   exact ⟨⟨h1 t ht, fun u hu => (pairB_iff u t).2 (h2 j t hj u hu)⟩, h3 t ht⟩
 rw [e]
 unfold MayP
 rw [← times_nodup]
 constructor
 ·rintro ⟨h1, h2, h3⟩
  exact ⟨h1, h2, fun t ht o ho => ((opB_iff h o).1 (h3 t ht o ho)).1, fun t ht o ho => ((opB_iff h o).1 (h3 t ht o ho)).2⟩
 ·rintro ⟨h1, h2, h3, h4⟩
  exact ⟨h1, h2, fun t ht o ho => (opB_iff h o).2 ⟨h3 t ht o ho, h4 t ht o ho⟩⟩
theorem readsB_iff {h : List T4} {f : Int → Option W3} (hf : qbm h = some f) (o : O3) : qb7 f o = true ↔ (o.w = false → o.v ≠ 0 → ∃ u ∈ h, ∃ x ∈ u.ops, x.w = true ∧ x.k = o.k ∧ x.v = o.v) := by
 unfold qb7
 cases hw : o.w with
 | true => simp
 | false =>
  by_cases hv : o.v = 0
  ·simp [hv]
  ·simp only [Bool.false_or, true_implies, ne_eq, hv, not_false_eq_true]
   constructor
   ·intro hh
    cases hfv : f o.v with
    | none => rw [hfv] at hh; cases hh
    | some x =>
     rw [hfv] at hh
     obtain ⟨i, k, l⟩ := x
     have hk : k = o.k := by simpa using hh
     obtain ⟨t, y, hi, hy, hyw, hyv, hyk⟩ := (writes_spec hf o.v i k).1 ⟨l, hfv⟩
     exact ⟨t, List.mem_of_getElem? hi, y, hy, hyw, hyk.trans hk, hyv⟩
   ·rintro ⟨u, hu, x, hx, hxw, hxk, hxv⟩
    obtain ⟨i, hi⟩ := List.mem_iff_getElem?.1 hu
    obtain ⟨l, hl⟩ := (writes_spec hf o.v i o.k).2 ⟨u, x, hi, hx, hxw, hxv, hxk⟩
    rw [hl]
    simp
theorem checkF_may (h : List T4) (h1 : h.length ≤ 64) (h2 : qar h ≤ 1024) : qa3 h = 0 ↔ MayP h := by
 rw [checkF_small h1 h2]
 unfold MayP
 by_cases hr : h.all qbj = true
 ·rw [hr]
  have hrt := List.all_eq_true.1 hr
  rw [if_neg (by simp)]
  cases hf : qbm h with
  | none =>
   rw [judge_none hf]
   have : ¬ ((wrsT 0 h).map (·.1)).Nodup := fun hn => by rw [← writes_some, hf] at hn; cases hn
   simp [this]
  | some f =>
   rw [judge_some hf]
   have hn : ((wrsT 0 h).map (·.1)).Nodup := writes_some.1 (by rw [hf]; rfl)
   by_cases hs : qbl h (fun _ => false) (fun _ => none) = true
   ·rw [hs, if_neg (by simp)]
    have hp := (stamps_eq hrt).1 hs
    have e : (h.all fun t => t.ops.all (qb7 f)) = true ↔ ∀ t ∈ h, ∀ o ∈ t.ops, o.w = false → o.v ≠ 0 → ∃ u ∈ h, ∃ x ∈ u.ops, x.w = true ∧ x.k = o.k ∧ x.v = o.v := by
     simp only [List.all_eq_true, readsB_iff hf]
    by_cases ha : (h.all fun t => t.ops.all (qb7 f)) = true
    ·rw [if_pos ha]
     simp only [true_iff]
     exact ⟨hrt, hp, hn, e.1 ha⟩
    ·rw [if_neg ha]
     simp only [show ¬ (2 : Int) = 0 by decide, false_iff]
     exact fun hh => ha (e.2 hh.2.2.2)
   ·rw [eq_false_of_ne_true hs, if_pos (by simp)]
    simp only [show ¬ (2 : Int) = 0 by decide, false_iff]
    exact fun hh => hs ((stamps_eq hrt).2 hh.2.1)
 ·rw [eq_false_of_ne_true hr, if_pos (by simp)]
  simp only [show ¬ (2 : Int) = 0 by decide, false_iff]
  exact fun hh => hr (List.all_eq_true.2 hh.1)
theorem checkF_two (h : List T4) (h1 : h.length ≤ 64) (h2 : qar h ≤ 1024) : qa3 h = 0 ∨ qa3 h = 2 := by
 rw [checkF_small h1 h2]
 by_cases hr : h.all qbj = true
 ·rw [hr, if_neg (by simp)]
  cases hf : qbm h with
  | none => rw [judge_none hf]; exact .inr rfl
  | some f =>
   rw [judge_some hf]
   split
   ·exact .inr rfl
   ·split
    ·exact .inl rfl
    ·exact .inr rfl
 ·rw [eq_false_of_ne_true hr, if_pos (by simp)]
  exact .inr rfl
theorem ref_check (h : List T4) : qbs h = qa3 h := by
 by_cases hb : h.length > 64 ∨ qar h > 1024
 ·unfold qbs qa3
  rw [if_pos hb, if_pos hb]
 ·have h1 : h.length ≤ 64 := by omega
  have h2 : qar h ≤ 1024 := by omega
  have e : qbs h = if !mayF h then 2 else 0 := by unfold qbs; rw [if_neg hb]
  rw [e]
  have hm := (mayF_iff h).trans (checkF_may h h1 h2).symm
  rcases checkF_two h h1 h2 with hc | hc
  ·rw [hc, hm.2 hc]; rfl
  ·have : mayF h = false := eq_false_of_ne_true (fun hh => by rw [hm.1 hh] at hc; cases hc)
   rw [hc, this]; rfl
end Go.Proofs.Ytngkneknopenmaa.Hist
end
section
namespace Go.Proofs.Ytngkneknopenmaa.Hist
open Go Go.RowKit Go.Proofs.Ytngkneknopenmaa.Row3
structure TR where
 s : Int
 b : Int
 c : Int
 g : Nat
 n : Nat
 cp : Nat
def TR.cells (r : TR) : List Value := [.int .i64 r.s, .int .i64 r.b, .int .i64 r.c, .slice (some ⟨r.g, 0, none⟩) r.n r.cp]
def qby (l : List TR) : List Value := l.flatMap TR.cells
theorem flatT_snoc (l : List TR) (r : TR) : qby (l ++ [r]) = qby l ++ r.cells := by simp [qby, List.flatMap_append]
theorem flatT_length (l : List TR) : (qby l).length = l.length * 4 := by
 induction l with
 | nil => rfl
 | cons r l ih =>
  have : qby (r :: l) = r.cells ++ qby l := rfl
  rw [this, List.length_append, ih]
  simp [TR.cells]
  omega
theorem flatT_get (l : List TR) (rest : List Value) : ∀ (i : Nat) (r : TR), l[i]? = some r →
  (qby l ++ rest)[i * 4]? = some (.int .i64 r.s) ∧ (qby l ++ rest)[i * 4 + 1]? = some (.int .i64 r.b) ∧ (qby l ++ rest)[i * 4 + 2]? = some (.int .i64 r.c) ∧ (qby l ++ rest)[i * 4 + 3]? = some (.slice (some ⟨r.g, 0, none⟩) r.n r.cp) := by
 induction l with
 | nil => intro i r h; simp at h
 | cons x l ih =>
  intro i r h
  have e : qby (x :: l) ++ rest = .int .i64 x.s :: .int .i64 x.b :: .int .i64 x.c :: .slice (some ⟨x.g, 0, none⟩) x.n x.cp :: (qby l ++ rest) := rfl
  rw [e]
  cases i with
  | zero => simp at h; subst h; simp
  | succ i =>
   obtain ⟨a, b, c, d⟩ := ih i r (by simpa using h)
   have e1 : (i + 1) * 4 = i * 4 + 1 + 1 + 1 + 1 := by omega
   have e2 : i * 4 + 1 + 1 + 1 + 1 + 1 = (i * 4 + 1) + 1 + 1 + 1 + 1 := by omega
   have e3 : i * 4 + 1 + 1 + 1 + 1 + 2 = (i * 4 + 2) + 1 + 1 + 1 + 1 := by omega
   have e4 : i * 4 + 1 + 1 + 1 + 1 + 3 = (i * 4 + 3) + 1 + 1 + 1 + 1 := by omega
   rw [e1, e2, e3, e4]
   exact ⟨by simpa using a, by simpa using b, by simpa using c, by simpa using d⟩
theorem flatT_set (l : List TR) (rest : List Value) : ∀ (i : Nat) (r : TR) (s b c : Int), l[i]? = some r →
  (((qby l ++ rest).set (i * 4) (.int .i64 s)).set (i * 4 + 1) (.int .i64 b)).set (i * 4 + 2) (.int .i64 c) = qby (l.set i { r with s := s, b := b, c := c }) ++ rest := by
 induction l with
 | nil => intro i r s b c h; simp at h
 | cons x l ih =>
  intro i r s b c h
  have e : qby (x :: l) ++ rest = .int .i64 x.s :: .int .i64 x.b :: .int .i64 x.c :: .slice (some ⟨x.g, 0, none⟩) x.n x.cp :: (qby l ++ rest) := rfl
  rw [e]
  cases i with
  | zero => simp at h; subst h; rfl
  | succ i =>
   have e1 : (i + 1) * 4 = i * 4 + 1 + 1 + 1 + 1 := by omega
   have e2 : i * 4 + 1 + 1 + 1 + 1 + 1 = (i * 4 + 1) + 1 + 1 + 1 + 1 := by omega
   have e3 : i * 4 + 1 + 1 + 1 + 1 + 2 = (i * 4 + 2) + 1 + 1 + 1 + 1 := by omega
   rw [e1, e2, e3]
   simp only [List.set_cons_succ]
   rw [ih i r s b c (by simpa using h)]
   rfl
def OW (w : World) (g cp : Nat) (ops : List O3) : Prop := ∃ rest, RW g rest ops w ∧ (flat ops ++ rest).length = cp * 3 ∧ cp ≤ maxLen
theorem OW.lt {w : World} {g cp : Nat} {ops : List O3} (h : OW w g cp ops) : g < w.heap.size := by obtain ⟨_, h, _⟩ := h; exact h.lt
theorem OW.move {w w' : World} {g cp : Nat} {ops : List O3} (h : OW w g cp ops) (hb : w'.heap[g]? = w.heap[g]?) : OW w' g cp ops := by obtain ⟨rest, h, k⟩ := h; exact ⟨rest, hb.trans h, k⟩
theorem OW.below {w w' : World} {g cp : Nat} {ops : List O3} (h : OW w g cp ops) (hb : Below w.heap.size w w') : OW w' g cp ops := h.move (hb.block _ h.lt)
theorem OW.rd {w : World} {g cp : Nat} {ops : List O3} (h : OW w g cp ops) : RdO w (some ⟨g, 0, none⟩) ops := by
 obtain ⟨rest, h, _⟩ := h
 refine fun _ => ⟨_, rfl, fun j o ho => ?_⟩
 obtain ⟨y0, y1, y2⟩ := h.cells j o ho
 have e : ∀ k, (⟨g, 0, none⟩ : Addr).add k = ⟨g, k, none⟩ := fun k => by unfold Addr.add; split <;> simp_all
 rw [e]
 exact ⟨y0, y1, y2⟩
theorem OW.of_owns {w : World} {base n g cap : Nat} {ops : List O3} (h : w.ownsRow base 51 3 (.slice (some ⟨g, 0, none⟩) n cap) n (flat ops)) : OW w g cap ops ∧ base ≤ g ∧ n ≤ cap := by
 rcases h.2 with ⟨h1, _⟩ | ⟨g', cp, cur, he, hg, hh, h1, h2, h3, h4⟩
 ·cases h1
 ·cases he
  refine ⟨⟨cur.toList.drop (n * 3), by unfold RW; rw [hh, ← h4, List.take_append_drop], ?_, h2⟩, hg, h1⟩
  rw [← h4, List.take_append_drop]
  simpa using h3
theorem OW.owns {w : World} {base g cp : Nat} {ops : List O3} (h : OW w g cp ops) (hb : base ≤ g) (hn : ops.length ≤ cp) : w.ownsRow base 51 3 (.slice (some ⟨g, 0, none⟩) ops.length cp) ops.length (flat ops) := by
 obtain ⟨rest, h1, h2, h3⟩ := h
 refine ⟨flat_length ops, .inr ⟨g, cp, _, rfl, hb, h1, hn, h3, by simpa using h2, ?_⟩⟩
 rw [← flat_length ops]
 simp
def Says (w : World) (base : Nat) (r : TR) (t : T4) : Prop := r.s = t.s ∧ r.b = t.b ∧ r.c = t.c ∧ r.n = t.ops.length ∧ r.n ≤ r.cp ∧ base ≤ r.g ∧ OW w r.g r.cp t.ops
def SaysAll (w : World) (base : Nat) (rows : List TR) (h : List T4) : Prop := rows.length = h.length ∧ (∀ (i : Nat) (r : TR) (t : T4), rows[i]? = some r → h[i]? = some t → Says w base r t) ∧ (rows.map (·.g)).Nodup
theorem Says.below {w w' : World} {base : Nat} {r : TR} {t : T4} (h : Says w base r t) (hb : Below w.heap.size w w') : Says w' base r t := by
 obtain ⟨a, b, c, d, e, f, g⟩ := h
 exact ⟨a, b, c, d, e, f, g.below hb⟩
theorem Says.move {w w' : World} {base : Nat} {r : TR} {t : T4} (h : Says w base r t) (hb : w'.heap[r.g]? = w.heap[r.g]?) : Says w' base r t := by
 obtain ⟨a, b, c, d, e, f, g⟩ := h
 exact ⟨a, b, c, d, e, f, g.move hb⟩
theorem SaysAll.below {w w' : World} {base : Nat} {rows : List TR} {h : List T4} (hs : SaysAll w base rows h) (hb : Below w.heap.size w w') : SaysAll w' base rows h :=
 ⟨hs.1, fun i r t hr ht => (hs.2.1 i r t hr ht).below hb, hs.2.2⟩
theorem SaysAll.nil (w : World) (base : Nat) : SaysAll w base [] [] := ⟨rfl, fun i r t h => by simp at h, by simp⟩
theorem SaysAll.grown {w w' : World} {base : Nat} {rows : List TR} {h : List T4} {row : Option Nat} (hs : SaysAll w base rows h) (hg : w.grownBy w' row) (hne : ∀ r ∈ rows, some r.g ≠ row) : SaysAll w' base rows h :=
 ⟨hs.1, fun i r t hr ht => (hs.2.1 i r t hr ht).move (hg.block _ (by obtain ⟨_, _, _, _, _, _, h⟩ := hs.2.1 i r t hr ht; exact h.lt) (hne r (List.mem_of_getElem? hr))), hs.2.2⟩
theorem SaysAll.snoc {w : World} {base : Nat} {rows : List TR} {h : List T4} {r : TR} {t : T4} (hs : SaysAll w base rows h) (hr : Says w base r t) (hf : ∀ x ∈ rows, x.g ≠ r.g) : SaysAll w base (rows ++ [r]) (h ++ [t]) := by
 obtain ⟨h1, h2, h3⟩ := hs
 refine ⟨by simp [h1], fun i x y hx hy => ?_, ?_⟩
 ·by_cases hi : i < rows.length
  ·rw [List.getElem?_append_left hi] at hx
   rw [List.getElem?_append_left (by omega)] at hy
   exact h2 i x y hx hy
  ·have hi2 : i = rows.length := by
    have := (List.getElem?_eq_some_iff.1 hx).1
    simp at this
    omega
   subst hi2
   rw [List.getElem?_append_right (Nat.le_refl _)] at hx
   rw [List.getElem?_append_right (by omega)] at hy
   simp [h1] at hx hy
   subst hx hy
   exact hr
 ·rw [List.map_append, List.nodup_append]
  refine ⟨h3, by simp, fun a ha b hb => ?_⟩
  obtain ⟨x, hx, rfl⟩ := List.mem_map.1 ha
  simp at hb
  subst hb
  exact hf x hx
theorem SaysAll.lt {w : World} {base : Nat} {rows : List TR} {h : List T4} (hs : SaysAll w base rows h) : ∀ r ∈ rows, base ≤ r.g ∧ r.g < w.heap.size := by
 intro r hr
 obtain ⟨i, hi⟩ := List.mem_iff_getElem?.1 hr
 have hil := (List.getElem?_eq_some_iff.1 hi).1
 obtain ⟨a, b, c, d, e, f, g⟩ := hs.2.1 i r _ hi (List.getElem?_eq_getElem (by rw [← hs.1]; exact hil))
 exact ⟨f, g.lt⟩
theorem SaysAll.row_ne {w : World} {base n : Nat} {rows : List TR} {h : List T4} {v : Value} {xs : List Value} {b' : Nat} (hs : SaysAll w base rows h) (ho : w.ownsRow b' 55 4 v n xs) : ∀ r ∈ rows, some r.g ≠ v.ownBlock := by
 intro r hr e
 obtain ⟨i, hi⟩ := List.mem_iff_getElem?.1 hr
 have hil := (List.getElem?_eq_some_iff.1 hi).1
 obtain ⟨_, _, _, _, _, _, rest, g, _⟩ := hs.2.1 i r _ hi (List.getElem?_eq_getElem (by rw [← hs.1]; exact hil))
 rcases ho.2 with ⟨rfl, _⟩ | ⟨g', cp, cur, rfl, _, hh, _⟩
 ·simp [Value.ownBlock] at e
 ·simp [Value.ownBlock] at e
  subst e
  have g' : w.heap[r.g]? = some (.cells (flat _ ++ rest).toArray 51 (0, 0)) := g
  rw [hh] at g'
  simp at g'
def H2 (w : World) (base : Nat) (v : Value) (rows : List TR) (h : List T4) : Prop := w.ownsRow base 55 4 v rows.length (qby rows) ∧ SaysAll w base rows h
theorem H2.below {w w' : World} {base : Nat} {v : Value} {rows : List TR} {h : List T4} (hs : H2 w base v rows h) (hb : Below w.heap.size w w') : H2 w' base v rows h :=
 ⟨hs.1.kept (row := none) (below_grown hb) (by cases v.ownBlock with
  | none => exact .inl rfl
  | some k => exact .inr (by simp)), hs.2.below hb⟩
theorem H2.rd {w : World} {base : Nat} {v : Value} {rows : List TR} {h : List T4} (hs : H2 w base v rows h) : ∃ A cp, v = .slice A h.length cp ∧ h.length ≤ cp ∧ RdT w A h := by
 obtain ⟨ho, hl, hsay, _⟩ := hs
 rcases ho.2 with ⟨rfl, h0⟩ | ⟨g, cp, cur, rfl, hg, hh, h1, h2, h3, h4⟩
 ·exact ⟨none, 0, by rw [← hl, h0], by omega, fun hp => by omega⟩
 ·refine ⟨_, cp, by rw [← hl], by omega, fun hp => ⟨_, rfl, fun i t ht => ?_⟩⟩
  have hi : i < rows.length := by rw [hl]; exact (List.getElem?_eq_some_iff.1 ht).1
  obtain ⟨e0, e1, e2, e3, e4, e5, e6⟩ := hsay i rows[i] t (List.getElem?_eq_getElem hi) ht
  have hcur : cur.toList = qby rows ++ cur.toList.drop (rows.length * 4) := by
   have := List.take_append_drop (rows.length * 4) cur.toList
   rw [h4] at this
   exact this.symm
  obtain ⟨c0, c1, c2, c3⟩ := flatT_get rows (cur.toList.drop (rows.length * 4)) i rows[i] (List.getElem?_eq_getElem hi)
  rw [← hcur] at c0 c1 c2 c3
  rw [add_zero]
  refine ⟨some ⟨rows[i].g, 0, none⟩, rows[i].cp, ?_, ?_, ?_, ?_, by omega, e6.rd⟩
  ·rw [Lib.cell_of_heap hh, ← Array.getElem?_toList, c0, e0]
  ·rw [Lib.cell_of_heap hh, ← Array.getElem?_toList, c1, e1]
  ·rw [Lib.cell_of_heap hh, ← Array.getElem?_toList, c2, e2]
  ·rw [Lib.cell_of_heap hh, ← Array.getElem?_toList, c3, e3]
end Go.Proofs.Ytngkneknopenmaa.Hist
end
section
namespace Go.Proofs.Ytngkneknopenmaa.Hist
open Go Go.RowKit Go.Proofs.Ytngkneknopenmaa.Row3 Go.Proofs.Ytngkneknopenmaa.IntMap Go.Proofs.YtngkneknopenmaaW.PrintWords
theorem txninfo : (Try.prog.info? 55).map (fun i => (i.zero, i.size, i.bytes)) = some (some (.agg #[.int .i64 0, .int .i64 0, .int .i64 0, .slice none 0 0]), 4, 48) := by kernel_rfl
def RelC (h : List T4) (w : World) (x v : Value) (wr : World) : Prop :=
 ∃ (i : Nat) (rows : List TR), i ≤ h.length ∧ v = .int .i64 ((i : Nat) : Int) ∧ H2 wr w.heap.size x rows (h.take i) ∧ x ≠ .slice none 0 0 ∧ Below w.heap.size w wr
theorem flat_one {ops : List O3} : ∀ u ∈ flat ops, u.oneCell' = true := by
 intro u hu
 unfold flat at hu
 rw [List.mem_flatMap] at hu
 obtain ⟨o, _, ho⟩ := hu
 simp [O3.cells] at ho
 rcases ho with rfl | rfl | rfl <;> rfl
theorem rd_cells {w : World} {ad : Addr} {ops : List O3} (hc : ∀ i o, ops[i]? = some o → w.cell? (ad.add (i * 3)) = some (.bool o.w) ∧ w.cell? ⟨(ad.add (i * 3)).block, (ad.add (i * 3)).off + 1, none⟩ = some (.int .i64 o.k) ∧ w.cell? ⟨(ad.add (i * 3)).block, (ad.add (i * 3)).off + 2, none⟩ = some (.int .i64 o.v)) :
  ∀ j u, (flat ops)[j]? = some u → w.cell? (ad.add j) = some u := by
 have hf : ∀ (m : Nat) (i : Nat) (o : O3), ops[i]? = some o → ∀ u, o.cells[m]? = some u → w.cell? (ad.add (i * 3 + m)) = some u := by
  intro m i o ho u hu
  obtain ⟨a, b, c⟩ := hc i o ho
  match m, hu with
  | 0, hu => cases hu; exact a
  | 1, hu => cases hu; exact (qax ad (i * 3) 1 (by omega)).symm ▸ b
  | 2, hu => cases hu; exact (qax ad (i * 3) 2 (by omega)).symm ▸ c
  | n + 3, hu => simp [O3.cells] at hu
 intro j u hu
 have hj : j / 3 < ops.length := by
  have := (List.getElem?_eq_some_iff.1 hu).1
  rw [flat_length] at this
  omega
 have hjm : j = j / 3 * 3 + j % 3 := by omega
 rw [hjm]
 refine hf (j % 3) (j / 3) ops[j / 3] (List.getElem?_eq_getElem hj) u ?_
 obtain ⟨a, b, c⟩ := flat_get ops [] (j / 3) ops[j / 3] (List.getElem?_eq_getElem hj)
 rw [List.append_nil] at a b c
 have h3 : j % 3 < 3 := Nat.mod_lt _ (by omega)
 generalize hm : j % 3 = m at *
 match m, h3 with
 | 0, _ => rw [hjm, Nat.add_zero, a] at hu; exact hu
 | 1, _ => rw [hjm, b] at hu; exact hu
 | 2, _ => rw [hjm, c] at hu; exact hu
set_option maxHeartbeats 8000000 in
set_option maxRecDepth 100000 in
theorem copy_calls (A : Option Addr) (cap : Nat) (h : List T4) (hlen : h.length ≤ 64) (hops : ∀ t ∈ h, 1 ≤ t.ops.length ∧ t.ops.length ≤ 64) (w : World) (hr : RdT w A h) :
  Calls Try.prog 36 #[.slice A h.length cap] w fun e w' => ∃ v rows, e = .returned v ∧ H2 w' w.heap.size v rows h ∧ v ≠ .slice none 0 0 ∧ Below w.heap.size w w' := by
 obtain ⟨n, hn⟩ : ∃ n, h.length = n := ⟨_, rfl⟩
 have HN := Lib.hid hn
 rw [hn] at hlen ⊢
 have HR := Lib.hid hr
 have HOK := Lib.hid hops
 clear hn hr hops
 obtain ⟨i0, hii, hz0, hz1, hz2⟩ := info_parts txninfo
 obtain ⟨j0, hjj, hy0, hy1, hy2⟩ := info_parts opinfo
 go_enter Try.func36, Try.ntmps36
 go_wp2_with (at_make; refine wpList_make_own _ rfl _ _ 22 rfl w.heap.size 55 i0 (.agg #[.int .i64 0, .int .i64 0, .int .i64 0, .slice none 0 0]) 4 Try.underlying22 hii hz0 hz1 .i64 .i64 (n : Int) n rfl rfl rfl (by rw [hz2]; omega) (by unfold maxLen; omega) (by omega) ?_; intro w3 hown3 hg3)
 go_loopw [3, 11] (fun x v wr => RelC h w x v wr) (fun _ v _ => n - (intOf v).toNat)
 case atStart => exact ⟨0, [], Nat.zero_le _, rfl, ⟨hown3, SaysAll.nil _ _⟩, by simp, (Below.refl _ _).grown hg3 (Nat.le_refl _) (by simp)⟩
 case round =>
  clear hown3 hg3
  obtain ⟨i, rows, hi, rfl, ⟨hown, hsay⟩, hnn, hb⟩ := hrel
  rw [HN.out] at hi
  by_cases hlt : i < n
  ·have hltz : (i : Int) < (n : Int) := by omega
   have hil : i < h.length := by rw [HN.out]; exact hlt
   obtain ⟨ad, rfl, hc⟩ := HR.out (by omega)
   obtain ⟨t, ht⟩ : ∃ t, h[i]? = some t := ⟨_, List.getElem?_eq_getElem hil⟩
   obtain ⟨A3, c3, t0, t1, t2, t3, hl3, hro⟩ := hc i t ht
   obtain ⟨hop1, hop2⟩ := HOK.out t (List.mem_of_getElem? ht)
   obtain ⟨ad3, rfl, hc3⟩ := hro (by omega)
   replace t0 := cell_below hb t0
   replace t1 := cell_below hb t1
   replace t2 := cell_below hb t2
   replace t3 := cell_below hb t3
   have hrl : rows.length = i := by rw [hsay.1, List.length_take]; omega
   have hto : h.take (i + 1) = h.take i ++ [t] := by rw [List.take_add_one, ht]; rfl
   have hfl := flat_length t.ops
   obtain ⟨m, hm⟩ : ∃ m, t.ops.length = m := ⟨_, rfl⟩
   have HMM := Lib.hid hm
   rw [hm] at t3 hl3 hop1 hop2 hfl
   have HTO := Lib.hid hto
   have hb2 : Below w.heap.size w (wr.alloc (.cells #[.int .i64 t.s, .int .i64 t.b, .int .i64 t.c, .slice (some ad3) m c3] 55)) := hb.alloc hb.size _
   have hcs := rd_cells fun i o ho => by
    obtain ⟨a, b, c⟩ := hc3 i o ho
    exact ⟨cell_below hb2 a, cell_below hb2 b, cell_below hb2 c⟩
   have HCS := Lib.hid hcs
   have HB2 := Lib.hid hb2
   have HB := Lib.hid hb
   have HOWN := Lib.hid hown
   have HSAY := Lib.hid hsay
   have hbz := hb.size
   have hbx := alloc_at wr (.cells #[.int .i64 t.s, .int .i64 t.b, .int .i64 t.c, .slice (some ad3) m c3] 55)
   have HBX := Lib.hid hbx
   clear hc ht hro hc3 hil hm hto hb2 hcs hb hown hsay hbx
   go_wp2_with (first
    | (at_builtin; refine wpList_append_own_at _ rfl _ _ 53 rfl w.heap.size 51 j0 (.agg #[.bool false, .int .i64 0, .int .i64 0]) 3 24 Try.underlying53 hjj hy0 hy1 hy2 rfl (by decide) (.slice none 0 0) 0 [] rfl (World.ownsRow_nil _ _ _ _) ad3 m c3 (flat t.ops) rfl hfl HCS.out ?c2 (by unfold maxLen; omega) (by omega) (by simp; omega) ?_))
   case c2 => exact flat_one
   intro v5 w5 hown5 hgr5 hnil5 hat5
   rcases hown5.2 with ⟨_, h0⟩ | ⟨g, cp, _, rfl, _⟩
   ·omega
   obtain ⟨how5, hgb5, hcp5⟩ := OW.of_owns hown5
   have hg5 : g = wr.heap.size + 1 := by
    rcases hat5 with e | e
    ·simp [Value.ownBlock] at e
    ·simpa [Value.ownBlock] using e
   subst hg5
   have hgr6 := hgr5
   have hbx5 : w5.heap[wr.heap.size]? = _ := (hgr5.block wr.heap.size (by simp) (by simp [Value.ownBlock])).trans HBX.out
   have hb5 : Below w.heap.size w w5 := HB2.out.grown hgr5 HB2.out.size (by simp [Value.ownBlock])
   have hown6 : w5.ownsRow w.heap.size 55 4 _ rows.length (qby rows) := (HOWN.out.alloc _).kept hgr5 (by cases hu : Value.ownBlock u3 with
    | none => exact .inl rfl
    | some k => exact .inr (by simp [Value.ownBlock]))
   have hsay5 : SaysAll w5 w.heap.size rows (h.take i) := (HSAY.out.below ((Below.refl _ _).alloc (Nat.le_refl _) _)).grown hgr5 (by simp [Value.ownBlock])
   have hsz5 := hgr5.size
   simp only [World.size_alloc] at hsz5
   clear hgr5 hgr6 hnil5 hat5 hown5
   have c0 := Lib.cell_of_heap hbx5 0
   have c1 := Lib.cell_of_heap hbx5 1
   have c2 := Lib.cell_of_heap hbx5 2
   have c3' := Lib.cell_of_heap hbx5 3
   have f3 := Lib.frozen_of_heap hbx5 3
   simp only [List.getElem?_toArray, List.getElem?_cons_zero, List.getElem?_cons_succ] at c0 c1 c2 c3'
   have hbx6 := qay w5 wr.heap.size 3 _ _ _ (.slice (some ⟨wr.heap.size + 1, 0, none⟩) m cp) hbx5
   simp only [List.setIfInBounds_toArray, List.set_cons_zero, List.set_cons_succ] at hbx6
   have d0 := Lib.cell_of_heap hbx6 0
   have d1 := Lib.cell_of_heap hbx6 1
   have d2 := Lib.cell_of_heap hbx6 2
   have d3 := Lib.cell_of_heap hbx6 3
   simp only [List.getElem?_toArray, List.getElem?_cons_zero, List.getElem?_cons_succ] at d0 d1 d2 d3
   have hgr6 := qas w5 wr.heap.size 3 (.slice (some ⟨wr.heap.size + 1, 0, none⟩) m cp)
   have hsz6 : (w5.setCell ⟨wr.heap.size, 3, none⟩ (.slice (some ⟨wr.heap.size + 1, 0, none⟩) m cp)).heap.size = w5.heap.size := by simp
   have HOW := Lib.hid (how5.move (hgr6.block _ how5.lt (by simp)))
   have hown7 := hown6.kept hgr6 (by
    have := hown6.lt
    cases hu : Value.ownBlock u3 with
    | none => exact .inl rfl
    | some k => exact .inr (fun e => by
      injection e with e
      have h1 := (HOWN.out.lt k hu).2
      omega))
   have hsay7 := hsay5.grown hgr6 (fun r hr e => by
    injection e with e
    have := (HSAY.out.lt r hr).2
    omega)
   have hb7 := hb5.grown hgr6 hb5.size (fun j hj => by cases hj; exact hbz)
   have HOWN7 := Lib.hid hown7
   have HSAY7 := Lib.hid hsay7
   have HB7 := Lib.hid hb7
   clear hbx5 hbx6 hgr6 hown7 hsay7 hb7 how5 hown6 hsay5 hb5
   go_wp2_with (at_builtin; refine wpList_append_own_at _ rfl _ _ 22 rfl w.heap.size 55 i0 (.agg #[.int .i64 0, .int .i64 0, .int .i64 0, .slice none 0 0]) 4 48 Try.underlying22 hii hz0 hz1 hz2 rfl (by decide) _ rows.length (qby rows) rfl (HOWN7.out.alloc _) ⟨w5.heap.size, 0, none⟩ 1 1 (TR.cells ⟨t.s, t.b, t.c, wr.heap.size + 1, m, cp⟩) rfl rfl ?c1 ?c2 (by unfold maxLen; omega) (by omega) (by simp; omega) ?_)
   case c1 =>
    intro j u hj
    have h := alloc_at (w5.setCell ⟨wr.heap.size, 3, none⟩ (.slice (some ⟨wr.heap.size + 1, 0, none⟩) m cp)) (.cells #[.int .i64 t.s, .int .i64 t.b, .int .i64 t.c, .slice (some ⟨wr.heap.size + 1, 0, none⟩) m cp] 55)
    rw [hsz6] at h
    rw [add_zero, Lib.cell_of_heap h]
    simpa [TR.cells] using hj
   case c2 =>
    intro u hu
    simp [TR.cells] at hu
    rcases hu with rfl | rfl | rfl | rfl <;> rfl
   intro v8 w8 hown8 hgr8 hnil8 hat8
   rw [← flatT_snoc] at hown8
   have hrne : ∀ r ∈ rows, some r.g ≠ Value.ownBlock u3 := HSAY7.out.row_ne HOWN7.out
   have hsay8 := (HSAY7.out.below ((Below.refl _ _).alloc (Nat.le_refl _) (.cells #[.int .i64 t.s, .int .i64 t.b, .int .i64 t.c, .slice (some ⟨wr.heap.size + 1, 0, none⟩) m cp] 55))).grown hgr8 hrne
   have hown3 : Value.ownBlock u3 ≠ some (wr.heap.size + 1) := fun e => by
    have := (HOWN.out.lt _ e).2
    omega
   have hsaid : Says w8 w.heap.size ⟨t.s, t.b, t.c, wr.heap.size + 1, m, cp⟩ t := ⟨rfl, rfl, rfl, HMM.out.symm, hcp5, hgb5, (HOW.out.below ((Below.refl _ _).alloc (Nat.le_refl _) (.cells #[.int .i64 t.s, .int .i64 t.b, .int .i64 t.c, .slice (some ⟨wr.heap.size + 1, 0, none⟩) m cp] 55))).move (hgr8.block _ (by have := HOW.out.lt; simp at this ⊢; omega) hown3.symm)⟩
   have hsay9 := hsay8.snoc hsaid (fun r hr e => by
    have := (HSAY.out.lt r hr).2
    dsimp only at e
    omega)
   have hb8 : Below w.heap.size w w8 := (HB7.out.alloc HB7.out.size _).grown hgr8 (HB7.out.alloc HB7.out.size _).size (fun j hj => (HOWN.out.lt j hj).1)
   have hnn8 : v8 ≠ .slice none 0 0 := hnil8
   clear hgr8 hnil8 hat8 hsay8 hsaid d0 d1 d2 d3 c0 c1 c2 c3' f3 t0 t1 t2 t3
   go_wp2_with fail
   go_roundw
   case rel => exact ⟨i + 1, rows ++ [⟨t.s, t.b, t.c, wr.heap.size + 1, m, cp⟩], by rw [HN.out]; omega, by go_num, ⟨by rw [List.length_append, hrl]; exact hown8, by rw [HTO.out]; exact hsay9⟩, hnn8, hb8⟩
   case measure => (simp [intOf]; try omega)
  ·have hin : i = n := by omega
   subst hin
   rw [List.take_of_length_le (by rw [HN.out]; exact Nat.le_refl _)] at hsay
   have HSAY := Lib.hid hsay
   clear hsay
   go_wp2_with fail
   go_ret
   exact ⟨_, rows, rfl, ⟨hown, HSAY.out⟩, hnn, hb⟩
end Go.Proofs.Ytngkneknopenmaa.Hist
end
section
namespace Go.Proofs.Ytngkneknopenmaa.Hist
open Go Go.RowKit Go.Proofs.Ytngkneknopenmaa.Row3 Go.Proofs.Ytngkneknopenmaa.IntMap
def toF (g : Int → Option Int) (n : Int) : Int := (g n).getD n
def Wf (n : Int) : Prop := (Lit.int .i64 n).wf = true
def WfM (g : Int → Option Int) : Prop := ∀ x y, g x = some y → Wf y
theorem toF_wf {g : Int → Option Int} (hg : WfM g) {n : Int} (hn : Wf n) : Wf (toF g n) := by
 unfold toF
 cases h : g n with
 | none => exact hn
 | some y => exact hg n y h
def nI (f : Int → Option Int) : Int → Option Value := fun x => (f x).map (Value.int .i64)
theorem nI_upd (f : Int → Option Int) (x i : Int) : nI (fun y => if y = x then some i else f y) = upd (nI f) x (.int .i64 i) := by
 funext y
 unfold nI upd
 by_cases h : y = x <;> simp [h]
set_option maxHeartbeats 2000000 in
set_option maxRecDepth 100000 in
theorem to_calls {b s : Nat} {g : Int → Option Int} {n : Int} {w : World} (hn : Wf n) (h : IM Try.prog 3 w b (nI g) s) :
  Calls Try.prog 66 #[.map (some b), .int .i64 n] w fun e w' => e = .returned (.int .i64 (toF g n)) ∧ w' = w := by
 have HIM := Lib.hid h
 have HW := Lib.hid (show (Lit.int .i64 n).wf = true from hn)
 clear h hn
 cases hg : g n with
 | none =>
  have HV := Lib.hid (show (if true = true then (.tuple #[(nI g n).getD (.int .i64 0), .bool (nI g n).isSome] : Value) else (nI g n).getD (.int .i64 0)) = .tuple #[.int .i64 0, .bool false] by simp [nI, hg])
  have HR := Lib.hid (show toF g n = n by simp [toF, hg])
  clear hg
  go_enter Try.func66, Try.ntmps66
  go_wp2_with (at_lookup; refine qav HIM.out rfl _ _ 34 3 true rfl Try.underlying34 Try.underlying3 (.int .i64 0) (fun _ => by kernel_rfl) rfl n rfl HW.out _ HV.out ?_)
  go_ret
  exact ⟨by rw [HR.out]; rfl, rfl⟩
 | some y =>
  have HV := Lib.hid (show (if true = true then (.tuple #[(nI g n).getD (.int .i64 0), .bool (nI g n).isSome] : Value) else (nI g n).getD (.int .i64 0)) = .tuple #[.int .i64 y, .bool true] by simp [nI, hg])
  have HR := Lib.hid (show toF g n = y by simp [toF, hg])
  clear hg
  go_enter Try.func66, Try.ntmps66
  go_wp2_with (at_lookup; refine qav HIM.out rfl _ _ 34 3 true rfl Try.underlying34 Try.underlying3 (.int .i64 0) (fun _ => by kernel_rfl) rfl n rfl HW.out _ HV.out ?_)
  go_ret
  exact ⟨by rw [HR.out]; rfl, rfl⟩
def valF (g : Int → Option Int) (n : Int) : Int := if n = 0 then 0 else toF g n
theorem valF_wf {g : Int → Option Int} (hg : WfM g) {n : Int} (hn : Wf n) : Wf (valF g n) := by
 unfold valF
 split
 ·exact (by decide : (Lit.int .i64 0).wf = true)
 ·exact toF_wf hg hn
set_option maxHeartbeats 2000000 in
set_option maxRecDepth 100000 in
theorem value_calls {bK bS bV bR s : Nat} {sl : Value} {g : Int → Option Int} {n : Int} {w : World} (hn : Wf n) (h : IM Try.prog 3 w bV (nI g) s) :
  Calls Try.prog 67 #[.agg #[.map (some bK), .map (some bS), .map (some bV), .map (some bR), sl], .int .i64 n] w fun e w' => e = .returned (.int .i64 (valF g n)) ∧ Below w.heap.size w w' := by
 have hbe := (Below.refl w.heap.size w).alloc (Nat.le_refl _) (.cells #[.map (some bK), .map (some bS), .map (some bV), .map (some bR), sl] 36)
 have HB := Lib.hid hbe
 have HC := Lib.hid (to_calls hn (h.below hbe))
 clear h hn hbe
 by_cases h0 : n = 0
 ·subst h0
  go_enter Try.func67, Try.ntmps67
  go_wp2_with fail
  go_ret
  exact ⟨rfl, HB.out⟩
 ·have HR := Lib.hid (show valF g n = toF g n by simp [valF, h0])
  go_enter Try.func67, Try.ntmps67
  go_wp2_with (go_at_call 66; (with_reducible refine HC.out.mono ?_); rintro e w1 ⟨rfl, rfl⟩)
  go_ret
  exact ⟨by rw [HR.out]; rfl, HB.out⟩
end Go.Proofs.Ytngkneknopenmaa.Hist
end
section
namespace Go.Proofs.Ytngkneknopenmaa.Hist
open Go Go.RowKit Go.Proofs.Ytngkneknopenmaa.Row3 Go.Proofs.Ytngkneknopenmaa.IntMap
theorem belowN {B : Nat} {w w' : World} (h : Below B w w') (n : Nat) : Below B w (w'.drewN n) := ⟨h.os, h.tape, h.output, h.size, h.block⟩
def RdP (w : World) (A : Option Addr) (l : List (Int × Int)) : Prop :=
 0 < l.length → ∃ ad : Addr, A = some ad ∧ ∀ i p, l[i]? = some p → w.cell? (ad.add (i * 2)) = some (.int .i64 p.1) ∧ w.cell? ⟨(ad.add (i * 2)).block, (ad.add (i * 2)).off + 1, none⟩ = some (.int .i64 p.2)
theorem RdP.below {w w' : World} {A : Option Addr} {l : List (Int × Int)} (h : RdP w A l) (hb : Below w.heap.size w w') : RdP w' A l := by
 intro hp
 obtain ⟨ad, rfl, hc⟩ := h hp
 exact ⟨ad, rfl, fun i o ho => by obtain ⟨a, b⟩ := hc i o ho; exact ⟨cell_below hb a, cell_below hb b⟩⟩
def RdI (w : World) (A : Option Addr) (l : List Int) : Prop :=
 0 < l.length → ∃ ad : Addr, A = some ad ∧ ∀ i x, l[i]? = some x → w.cell? (ad.add i) = some (.int .i64 x)
theorem RdI.below {w w' : World} {A : Option Addr} {l : List Int} (h : RdI w A l) (hb : Below w.heap.size w w') : RdI w' A l := by
 intro hp
 obtain ⟨ad, rfl, hc⟩ := h hp
 exact ⟨ad, rfl, fun i o ho => cell_below hb (hc i o ho)⟩
set_option maxHeartbeats 4000000 in
set_option maxRecDepth 100000 in
theorem ofp_calls (A : Option Addr) (cap : Nat) (l : List (Int × Int)) (hlen : l.length ≤ 1000) (hw : ∀ p ∈ l, Wf p.1 ∧ Wf p.2) (w : World) (hr : RdP w A l) :
  Calls Try.prog 50 #[.slice A l.length cap] w fun e w' => ∃ b s g, e = .returned (.map (some b)) ∧ IM Try.prog 3 w' b (nI g) s ∧ s ≤ 1000 ∧ WfM g ∧ w.heap.size ≤ b ∧ Below w.heap.size w w' := by
 obtain ⟨n, hn⟩ : ∃ n, l.length = n := ⟨_, rfl⟩
 have HN := Lib.hid hn
 rw [hn] at hlen ⊢
 have HR := Lib.hid hr
 have HW := Lib.hid hw
 clear hn hr hw
 have hmm := @run_makeMap Try.prog
 have him := IM.made w Try.prog 3
 have hb0 := (Below.refl w.heap.size w).alloc (Nat.le_refl _) (.map #[] 0)
 go_enter Try.func50, Try.ntmps50
 go_wp2_with fail
 clear hmm
 go_loopw [9] (fun v wr => ∃ (i s : Nat) (g : Int → Option Int), i ≤ n ∧ v = .int .i64 ((i : Nat) : Int) ∧ s ≤ i ∧ IM Try.prog 3 wr w.heap.size (nI g) s ∧ WfM g ∧ Below w.heap.size w wr) (fun v _ => n - (intOf v).toNat)
 case atStart => exact ⟨0, 0, fun _ => none, Nat.zero_le _, rfl, Nat.zero_le _, him, fun x y h => by simp at h, hb0⟩
 case round =>
  clear him hb0
  obtain ⟨i, s, g, hi, rfl, hs, him, hg, hb⟩ := hrel
  by_cases hlt : i < n
  ·have hltz : (i : Int) < (n : Int) := by omega
   have hil : i < l.length := by rw [HN.out]; exact hlt
   obtain ⟨ad, rfl, hc⟩ := HR.out (by omega)
   obtain ⟨p, hp⟩ : ∃ p, l[i]? = some p := ⟨_, List.getElem?_eq_getElem hil⟩
   obtain ⟨c0, c1⟩ := hc i p hp
   obtain ⟨w0, w1⟩ := HW.out p (List.mem_of_getElem? hp)
   replace c0 := cell_below hb c0
   replace c1 := cell_below hb c1
   have HIM := Lib.hid (him.alloc (.cells #[.int .i64 p.1, .int .i64 p.2] 111))
   have HB := Lib.hid (hb.alloc hb.size (.cells #[.int .i64 p.1, .int .i64 p.2] 111))
   have HG := Lib.hid hg
   have H0 := Lib.hid (show (Lit.int .i64 p.1).wf = true from w0)
   have H1 := Lib.hid w1
   have hbz := hb.size
   clear hc hp hil him hb hg w0 w1
   go_wp2_with (at_mapUpdate; refine wpList_store HIM.out rfl _ _ _ 34 3 rfl Try.underlying34 Try.underlying3 (by unfold maxLen; omega) rfl p.1 (.int .i64 p.2) rfl rfl H0.out ?_; intro w7 him7 hg7)
   rw [← nI_upd] at him7
   have hb7 := HB.out.grown hg7 HB.out.size (fun k hk => by cases hk; exact Nat.le_refl _)
   clear hg7 c0 c1 HIM
   go_wp2_with fail
   go_roundw
   case rel => exact ⟨i + 1, _, _, by omega, by go_num, by split <;> omega, him7, fun x y h => by
     dsimp only at h
     by_cases e : x = p.1
     ·rw [if_pos e] at h; cases h; exact H1.out
     ·rw [if_neg e] at h; exact HG.out x y h, hb7⟩
   case measure => (simp [intOf]; try omega)
  ·have hin : i = n := by omega
   subst hin
   have HIM := Lib.hid him
   have HB := Lib.hid hb
   clear him hb
   go_wp2_with fail
   go_ret
   exact ⟨_, s, g, rfl, HIM.out, by omega, hg, Nat.le_refl _, HB.out⟩
def Kept (a b : List Int) : Prop := ∀ (i k : Nat) (x y u v : Int), a[i]? = some x → a[k]? = some y → b[i]? = some u → b[k]? = some v → (x < y ↔ u < v)
set_option maxHeartbeats 4000000 in
set_option maxRecDepth 100000 in
theorem stamps_law (A B : Option Addr) (c d : Nat) (a b : List Int) (hl : b.length = a.length) (hlen : a.length ≤ 100000) (w : World) (ha : RdI w A a) (hb : RdI w B b) :
  Calls Try.prog 49 #[.slice A a.length c, .slice B b.length d] w fun e w' => (∃ r : Bool, e = .returned (.bool r) ∧ (r = true → Kept a b)) ∧ Below w.heap.size w w' := by
 obtain ⟨n, hn⟩ : ∃ n, a.length = n := ⟨_, rfl⟩
 rw [hn] at hl hlen
 rw [hl, hn]
 have HN := Lib.hid hn
 have HL := Lib.hid hl
 have HA := Lib.hid ha
 have HB := Lib.hid hb
 clear hn hl ha hb
 go_enter Try.func49, Try.ntmps49
 go_wp2_with fail
 go_loopw [9] (fun v wr => ∃ i : Nat, i ≤ n ∧ v = .int .i64 ((i : Nat) : Int) ∧ Below w.heap.size w wr ∧ ∀ (j k : Nat) (x y u v : Int), j < i → a[j]? = some x → a[k]? = some y → b[j]? = some u → b[k]? = some v → (x < y ↔ u < v)) (fun v _ => n - (intOf v).toNat)
 case atStart => exact ⟨0, Nat.zero_le _, rfl, Below.refl _ _, fun j k x y u v h => by omega⟩
 case round =>
  obtain ⟨i, hi, rfl, hbe, hk⟩ := hrel
  have HK := Lib.hid hk
  have HE := Lib.hid hbe
  clear hk hbe
  by_cases hlt : i < n
  ·have hltz : (i : Int) < (n : Int) := by omega
   go_wp2_with fail
   go_loopw [14] (fun v ws => ∃ k : Nat, k ≤ n ∧ v = .int .i64 ((k : Nat) : Int) ∧ Below w.heap.size w ws ∧ ∀ (l : Nat) (x y u v : Int), l < k → a[i]? = some x → a[l]? = some y → b[i]? = some u → b[l]? = some v → (x < y ↔ u < v)) (fun v _ => n - (intOf v).toNat)
   case atStart => exact ⟨0, Nat.zero_le _, rfl, HE.out, fun l x y u v h => by omega⟩
   case round =>
    obtain ⟨k, hkn, rfl, hbe, hk⟩ := hrel
    have HK2 := Lib.hid hk
    have HE2 := Lib.hid hbe
    clear hk
    by_cases hkt : k < n
    ·have hktz : (k : Int) < (n : Int) := by omega
     obtain ⟨ad, rfl, ca⟩ := HA.out (by rw [HN.out]; omega)
     obtain ⟨bd, rfl, cb⟩ := HB.out (by rw [HL.out]; omega)
     obtain ⟨x, hx⟩ : ∃ x, a[i]? = some x := ⟨_, List.getElem?_eq_getElem (by rw [HN.out]; exact hlt)⟩
     obtain ⟨y, hy⟩ : ∃ x, a[k]? = some x := ⟨_, List.getElem?_eq_getElem (by rw [HN.out]; exact hkt)⟩
     obtain ⟨u, hu⟩ : ∃ x, b[i]? = some x := ⟨_, List.getElem?_eq_getElem (by rw [HL.out]; exact hlt)⟩
     obtain ⟨v, hv⟩ : ∃ x, b[k]? = some x := ⟨_, List.getElem?_eq_getElem (by rw [HL.out]; exact hkt)⟩
     have e1 := cell_below hbe (ca i x hx)
     have e2 := cell_below hbe (ca k y hy)
     have e3 := cell_below hbe (cb i u hu)
     have e4 := cell_below hbe (cb k v hv)
     have HX := Lib.hid hx
     have HY := Lib.hid hy
     have HU := Lib.hid hu
     have HV := Lib.hid hv
     clear hx hy hu hv ca cb hbe HA HB
     have hres : (!(decide (x < y) == decide (u < v))) = true ∨ (!(decide (x < y) == decide (u < v))) = false := by cases (!(decide (x < y) == decide (u < v))) <;> simp
     rcases hres with hres | hres
     ·go_upto_region 7 with fail
      go_quiet (fail)
      clear e1 e2 e3 e4
      go_wp2_with fail
      go_ret
      exact ⟨⟨false, rfl, fun h => by cases h⟩, belowN HE2.out _⟩
     ·have hiff : (x < y ↔ u < v) := by
       by_cases h1 : x < y <;> by_cases h2 : u < v <;> simp [h1, h2] at hres ⊢
      have HI := Lib.hid hiff
      clear hiff
      go_upto_region 7 with fail
      go_quiet (fail)
      clear e1 e2 e3 e4
      go_wp2_with fail
      go_roundw
      case rel => exact ⟨k + 1, by omega, by go_num, belowN HE2.out _, fun l x' y' u' v' hl h1 h2 h3 h4 => by
        by_cases e : l = k
        ·subst e
         rw [HX.out] at h1
         rw [HY.out] at h2
         rw [HU.out] at h3
         rw [HV.out] at h4
         cases h1; cases h2; cases h3; cases h4
         exact HI.out
        ·exact HK2.out l x' y' u' v' (by omega) h1 h2 h3 h4⟩
      case measure => (simp [intOf]; try omega)
    ·have hkk : k = n := by omega
     subst hkk
     go_wp2_with fail
     go_roundw
     case rel => exact ⟨i + 1, by omega, by go_num, hbe, fun j l x y u v hj h1 h2 h3 h4 => by
       by_cases e : j = i
       ·subst e
        exact HK2.out l x y u v (by have := (List.getElem?_eq_some_iff.1 h2).1; rw [HN.out] at this; exact this) h1 h2 h3 h4
       ·exact HK.out j l x y u v (by omega) h1 h2 h3 h4⟩
     case measure => (simp [intOf]; try omega)
  ·have hin : i = n := by omega
   subst hin
   go_wp2_with fail
   go_ret
   exact ⟨⟨true, rfl, fun _ j k x y u v h1 h2 h3 h4 => HK.out j k x y u v (by have := (List.getElem?_eq_some_iff.1 h1).1; rw [HN.out] at this; exact this) h1 h2 h3 h4⟩, HE.out⟩
end Go.Proofs.Ytngkneknopenmaa.Hist
end
section
namespace Go.Proofs.Ytngkneknopenmaa.Hist
open Go Go.RowKit Go.Proofs.Ytngkneknopenmaa.Row3 Go.Proofs.Ytngkneknopenmaa.IntMap
def InjM (g : Int → Option Int) : Prop := ∀ x y z, Wf x → Wf y → g x = some z → g y = some z → x = y
def RelN (g : Int → Option Int) (b r s : Nat) (w : World) (wr : World) : Prop :=
 ∃ (cnt ss : Nat) (left seen : Int → Bool), RG Try.prog 3 wr b r (nI g) s left cnt ∧ IM Try.prog 3 wr w.heap.size (qb4 seen) ss ∧ ss + cnt ≤ s ∧ Below w.heap.size w wr ∧
  (∀ x z, Wf x → g x = some z → left x = false → seen z = true) ∧ (∀ x y z, Wf x → Wf y → left x = false → left y = false → g x = some z → g y = some z → x = y)
set_option maxHeartbeats 4000000 in
set_option maxRecDepth 100000 in
theorem names_calls {b s : Nat} {g : Int → Option Int} {w : World} (hg : WfM g) (hs : s ≤ 10000) (h : IM Try.prog 3 w b (nI g) s) :
  Calls Try.prog 48 #[.map (some b)] w fun e w' => (∃ r : Bool, e = .returned (.bool r) ∧ (r = true → InjM g)) ∧ Below w.heap.size w w' := by
 have hbw := h.lt
 have hb0 := (Below.refl w.heap.size w).alloc (Nat.le_refl _) (.map #[] 0)
 have him := IM.made w Try.prog 3
 have HIM := Lib.hid (h.alloc (.map #[] 0))
 have HWM := Lib.hid hg
 have hmm := @run_makeMap Try.prog
 clear h hg
 go_enter Try.func48, Try.ntmps48
 go_wp2_with (at_range; refine wpList_range HIM.out rfl _ 34 3 rfl Try.underlying34 Try.underlying3 rfl ?_; intro w4 hrg4 hg4 hs4)
 clear hmm
 have hb4 := hb0.grown hg4 hb0.size (by simp)
 have him4 := him.kept hg4 (by simp)
 rw [show (w.alloc (.map #[] 0)).heap.size = w.heap.size + 1 by simp] at hrg4 hs4 ⊢
 have HSZ := Lib.hid hs4
 clear hg4 hb0 him HIM hs4
 go_frame
 go_loopw [5] (fun _ wr => RelN g b (w.heap.size + 1) s w wr) (fun _ wr => wr.rangeLeft b (w.heap.size + 1))
 case atStart =>
  refine ⟨s, 0, _, fun _ => false, hrg4, him4, by omega, hb4, fun x z hx hz hl => ?_, fun x y z hx hy hl => ?_⟩
  ·simp [nI, hz] at hl
  ·intro _ hz; simp [nI, hz] at hl
 case round =>
  clear hrg4 him4 hb4
  obtain ⟨cnt, ss, left, seen, hrg, him, hsc, hb, hse, hin⟩ := hrel
  have HRG := Lib.hid hrg
  have HIM := Lib.hid him
  have HB := Lib.hid hb
  have HSE := Lib.hid hse
  have HIN := Lib.hid hin
  have HCNT := Lib.hid hrg.left
  clear hrg him hb hse hin
  go_wp2_with (at_next; refine wpList_next HRG.out rfl _ rfl Try.underlying3 rfl ?_ ?_)
  ·intro h0 hl0
   have HL := Lib.hid hl0
   clear hl0 h0
   go_wp2_with fail
   go_ret
   exact ⟨⟨true, rfl, fun _ x y z hx hy h1 h2 => HIN.out x y z hx hy (HL.out x hx) (HL.out y hy) h1 h2⟩, HB.out⟩
  ·intro x c w5 cnt' hwx hlx hfx hrg5 hlt5 hg5 hs5 hen
   obtain ⟨z, hz, rfl⟩ : ∃ z, g x = some z ∧ c = .int .i64 z := by
    unfold nI at hfx
    cases h : g x with
    | none => rw [h] at hfx; simp at hfx
    | some z => rw [h] at hfx; exact ⟨z, rfl, by simpa using hfx.symm⟩
   have HWZ := Lib.hid (show (Lit.int .i64 z).wf = true from HWM.out x z hz)
   have him5 := HIM.out.kept hg5 (by simp)
   have hb5 : Below w.heap.size w w5 := HB.out.grown hg5 HB.out.size (fun j hj => by cases hj; exact Nat.le_succ _)
   have HIM5 := Lib.hid him5
   have HB5 := Lib.hid hb5
   have HRG5 := Lib.hid hrg5
   have HZ := Lib.hid hz
   have HLX := Lib.hid hlx
   have hsz := hb5.size
   have HWX := Lib.hid hwx
   clear him5 hb5 hrg5 hz hlx hfx hg5 hs5 hwx
   cases hsx : seen z with
   | true =>
    have HV := Lib.hid (show (if true = true then (.tuple #[(qb4 seen z).getD (.agg #[]), .bool (qb4 seen z).isSome] : Value) else (qb4 seen z).getD (.agg #[])) = .tuple #[.agg #[], .bool true] by simp [qb4, hsx])
    clear hsx
    go_wp2_with (at_lookup; refine qav HIM5.out rfl _ _ 97 98 true rfl Try.underlying97 Try.underlying3 (.agg #[]) (fun _ => by kernel_rfl) rfl z rfl HWZ.out _ HV.out ?_)
    go_ret
    exact ⟨.inl rfl, HB5.out.alloc HB5.out.size _⟩
   | false =>
    have HSX := Lib.hid hsx
    have HV := Lib.hid (show (if true = true then (.tuple #[(qb4 seen z).getD (.agg #[]), .bool (qb4 seen z).isSome] : Value) else (qb4 seen z).getD (.agg #[])) = .tuple #[.agg #[], .bool false] by simp [qb4, hsx])
    clear hsx
    go_wp2_with (first
     | (at_lookup; refine qav HIM5.out rfl _ _ 97 98 true rfl Try.underlying97 Try.underlying3 (.agg #[]) (fun _ => by kernel_rfl) rfl z rfl HWZ.out _ HV.out ?_)
     | (at_mapUpdate; refine wpList_store (HIM5.out.alloc _) rfl _ _ _ 97 98 rfl Try.underlying97 Try.underlying3 (by unfold maxLen; omega) rfl z (.agg #[]) rfl rfl HWZ.out ?_; intro w6 him6 hg6))
    rw [← seenV_upd] at him6
    have hrg6 := (HRG5.out.below ((Below.refl _ _).alloc (Nat.le_refl _) _)).kept hg6 (by intro e; injection e; omega) (by intro e; injection e; omega)
    have hb6 : Below w.heap.size w w6 := (HB5.out.alloc HB5.out.size _).grown hg6 (by simp; omega) (fun j hj => by cases hj; exact Nat.le_refl _)
    have HM6 := Lib.hid hrg6.left
    have HM0 := HCNT.out
    clear hg6 hen
    go_wp2_with fail
    go_roundw
    case rel =>
     refine ⟨cnt', _, _, qbw seen z, hrg6, him6, by split <;> omega, hb6, fun x1 z1 hx1 hz1 hl1 => ?_, fun x1 y1 z1 hx1 hy1 hl1 hl2 h1 h2 => ?_⟩
     ·unfold qbw
      by_cases e : x1 = x
      ·subst e
       rw [HZ.out] at hz1
       cases hz1
       rw [if_pos rfl]
      ·have hl : left x1 = false := by simpa [e] using hl1
       have := HSE.out x1 z1 hx1 hz1 hl
       split
       ·rfl
       ·exact this
     ·by_cases e1 : x1 = x
      ·by_cases e2 : y1 = x
       ·rw [e1, e2]
       ·have hl : left y1 = false := by simpa [e2] using hl2
        have h3 := HSE.out y1 z1 hy1 h2 hl
        rw [e1, HZ.out] at h1
        cases h1
        rw [HSX.out] at h3
        cases h3
      ·have hl : left x1 = false := by simpa [e1] using hl1
       by_cases e2 : y1 = x
       ·have h3 := HSE.out x1 z1 hx1 h1 hl
        rw [e2, HZ.out] at h2
        cases h2
        rw [HSX.out] at h3
        cases h3
       ·exact HIN.out x1 y1 z1 hx1 hy1 hl (by simpa [e2] using hl2) h1 h2
    case measure => (have := HM6.out; omega)
end Go.Proofs.Ytngkneknopenmaa.Hist
end
section
namespace Go.Proofs.Ytngkneknopenmaa.Hist
open Go Go.RowKit Go.Proofs.Ytngkneknopenmaa.Row3 Go.Proofs.Ytngkneknopenmaa.IntMap
def castL (ix : List Nat) : List Int := ix.map fun i : Nat => (i : Int)
def upV (i n : Nat) : List Value := ((List.range i).map fun k : Nat => Value.int .i64 (k : Int)) ++ List.replicate (n - i) (.int .i64 0)
theorem upV_length {i n : Nat} (h : i ≤ n) : (upV i n).length = n := by simp [upV]; omega
theorem upV_set {i n : Nat} (h : i < n) : (upV i n).set i (.int .i64 (i : Int)) = upV (i + 1) n := by
 unfold upV
 have e : n - i = n - (i + 1) + 1 := by omega
 rw [List.set_append_right _ _ (by simp), e, List.replicate_succ, List.range_succ]
 simp
theorem upV_get {i n : Nat} (h : i < n) : ∃ v, (upV i n)[i]? = some v := ⟨_, List.getElem?_eq_getElem (by rw [upV_length (by omega)]; exact h)⟩
theorem upV_full (n : Nat) : upV n n = (castL (List.range n)).map (Value.int .i64) := by simp [upV, castL]
theorem castL_toNat {n : Int} : ∀ {l : List Int}, (∀ x ∈ l, 0 ≤ x ∧ x < n) → castL (l.map Int.toNat) = l
 | [], _ => rfl
 | x :: l, h => by
  have h1 := h x (by simp)
  have h2 := castL_toNat (l := l) fun y hy => h y (by simp [hy])
  unfold castL at h2 ⊢
  simp only [List.map_cons]
  rw [h2]
  congr 1
  omega
theorem intinfoN : (Try.prog.info? 3).map (fun i => (i.zero, i.size, i.bytes)) = some (some (.int .i64 0), 1, 8) := by kernel_rfl
theorem boolinfo : (Try.prog.info? 4).map (fun i => (i.zero, i.size, i.bytes)) = some (some (.bool false), 1, 1) := by kernel_rfl
def markL (l : List Int) (n : Nat) : List Value := (List.range n).map fun k : Nat => Value.bool (decide ((k : Int) ∈ l))
theorem markL_nil (n : Nat) : markL [] n = List.replicate n (.bool false) := by
 apply List.ext_getElem?
 intro i
 unfold markL
 by_cases h : i < n
 ·simp [h]
 ·simp [h]
theorem markL_set (l : List Int) (n x : Nat) : (markL l n).set x (.bool true) = markL (l ++ [(x : Int)]) n := by
 apply List.ext_getElem?
 intro i
 unfold markL
 rw [List.getElem?_set]
 by_cases h : i < n
 ·by_cases e : x = i
  ·subst e; simp [h]
  ·have : ¬ ((i : Int) = (x : Int)) := fun e2 => e (by omega)
   simp [h, e, this]
 ·by_cases e : x = i
  ·subst e; simp [h]
  ·simp [h, e]
theorem markL_get {l : List Int} {n x : Nat} (h : x < n) : (markL l n)[x]? = some (.bool (decide ((x : Int) ∈ l))) := by simp [markL, h]
def Ordered (n : Nat) (w' : World) (v : Value) : Prop := ∃ (ix : List Nat) (A' : Option Addr) (c' : Nat), v = .slice A' ix.length c' ∧ ix.length ≤ c' ∧ RdI w' A' (castL ix) ∧ ix.Nodup ∧ (∀ i ∈ ix, i < n) ∧ ix.length = n
def PostO (n : Nat) (e : Ending) (w' : World) : Prop := ∃ (v : Value) (r : Bool), e = .returned (.tuple #[v, .bool r]) ∧ (r = true → Ordered n w' v)
set_option maxHeartbeats 8000000 in
set_option maxRecDepth 100000 in
theorem order_calls {bK bS bV bR m cap n : Nat} {A : Option Addr} {l : List Int} {w : World} (hm : l.length = m) (hmc : m ≤ cap) (hm2 : m ≤ 100000) (hn : n ≤ 64) (ha : RdI w A l) :
  Calls Try.prog 46 #[.agg #[.map (some bK), .map (some bS), .map (some bV), .map (some bR), .slice A m cap], .int .i64 (n : Int)] w fun e w' => PostO n e w' ∧ Below w.heap.size w w' := by
 have HL := Lib.hid hm
 have hbx := alloc_at w (.cells #[.map (some bK), .map (some bS), .map (some bV), .map (some bR), .slice A m cap] 36)
 have hb0 := (Below.refl w.heap.size w).alloc (Nat.le_refl _) (.cells #[.map (some bK), .map (some bS), .map (some bV), .map (some bR), .slice A m cap] 36)
 obtain ⟨W, hW⟩ : ∃ W, w.alloc (.cells #[.map (some bK), .map (some bS), .map (some bV), .map (some bR), .slice A m cap] 36) = W := ⟨_, rfl⟩
 have hsz : W.heap.size = w.heap.size + 1 := by rw [← hW]; simp
 rw [hW] at hbx hb0
 have HBX := Lib.hid hbx
 have HB := Lib.hid hb0
 have HA := Lib.hid ha
 have HSZ := Lib.hid hsz
 clear hm hbx hb0 ha hsz
 go_enter Try.func46, Try.ntmps46
 by_cases h0 : m = 0
 ·subst h0
  obtain ⟨i0, hii, hz0, hz1, hz2⟩ := info_parts intinfoN
  obtain ⟨W1, hrun, hown, hgr⟩ := run_makeSlice_full (P := Try.prog) (w := W) (W.heap.size) 29 3 i0 (.int .i64 0) 1 Try.underlying29 hii hz0 hz1 .i64 .i64 n (by omega) (by rw [hz2]; omega) (by unfold maxLen; omega) (Nat.le_refl _)
  have c4 := Lib.cell_of_heap HBX.out 4
  simp only [List.getElem?_toArray, List.getElem?_cons_zero, List.getElem?_cons_succ] at c4
  have hb1 := HB.out.grown hgr HB.out.size (by simp)
  obtain ⟨g, hg⟩ : ∃ g, W.heap.size = g := ⟨_, rfl⟩
  rw [hg] at hrun hown
  have hgl : w.heap.size < g := by have := HSZ.out; omega
  have hown2 : W1.ownsRow g 3 1 (.slice (some ⟨g, 0, none⟩) n n) n (upV 0 n) := by
   have e : (madeCells (Value.int .i64 0).cells (n * 1)).toList = upV 0 n := by
    rw [Nat.mul_one]
    exact (toList_madeCells_one _ _).trans (by simp [upV])
   rw [← e]; exact hown
  have HO := Lib.hid hown2
  have HB1 := Lib.hid hb1
  clear hown hgr hown2 hb1 hii hz0 hz1 hz2
  go_wp2_with fail
  clear hrun c4
  go_loopw [19] (fun v wr => ∃ i : Nat, i ≤ n ∧ v = .int .i64 ((i : Nat) : Int) ∧ wr.ownsRow g 3 1 (.slice (some ⟨g, 0, none⟩) n n) n (upV i n) ∧ Below w.heap.size w wr) (fun v _ => n - (intOf v).toNat)
  case atStart => exact ⟨0, Nat.zero_le _, rfl, HO.out, HB1.out⟩
  case round =>
   obtain ⟨i, hi, rfl, hown, hbe⟩ := hrel
   have HO2 := Lib.hid hown
   have HB2 := Lib.hid hbe
   by_cases hlt : i < n
   ·have hltz : (i : Int) < (n : Int) := by omega
    obtain ⟨v, hv⟩ := upV_get hlt
    have c0 : wr.cell? ⟨g, i, none⟩ = some v := (hown.cellAt i (by omega)).trans hv
    have f0 := hown.frozenAt i
    have hst := hown.stored i (.int .i64 (i : Int))
    rw [upV_set hlt] at hst
    have HST := Lib.hid hst
    clear hown hbe hst hv
    go_wp2_with fail
    go_roundw
    case rel => exact ⟨i + 1, by omega, by go_num, HST.out.1, HB2.out.grown HST.out.2 HB2.out.size (fun k hk => by cases hk; omega)⟩
    case measure => (simp [intOf]; try omega)
   ·have hin : i = n := by omega
    subst hin
    clear hown hbe
    go_wp2_with fail
    go_ret2
    refine ⟨⟨_, true, rfl, fun _ => ⟨List.range i, some ⟨g, 0, none⟩, i, by simp, by simp, fun _ => ⟨_, rfl, fun j x hj => ?_⟩, List.nodup_range, fun k hk => List.mem_range.1 hk, by simp⟩⟩, HB2.out⟩
    have hj1 : j < i := by have := (List.getElem?_eq_some_iff.1 hj).1; simpa [castL] using this
    have e : (⟨g, 0, none⟩ : Addr).add j = ⟨g, j, none⟩ := by unfold Addr.add; split <;> simp_all
    rw [e, HO2.out.cellAt j (by omega), upV_full, List.getElem?_map, hj]
    rfl
 ·obtain ⟨i0, hii, hz0, hz1, hz2⟩ := info_parts boolinfo
  obtain ⟨W1, hrun, hown, hgr⟩ := run_makeSlice_full (P := Try.prog) (w := W) (W.heap.size) 108 4 i0 (.bool false) 1 Try.underlying108 hii hz0 hz1 .i64 .i64 n (by omega) (by rw [hz2]; omega) (by unfold maxLen; omega) (Nat.le_refl _)
  have c4 := Lib.cell_of_heap HBX.out 4
  simp only [List.getElem?_toArray, List.getElem?_cons_zero, List.getElem?_cons_succ] at c4
  have hb1 := HB.out.grown hgr HB.out.size (by simp)
  have hbx1 := (hgr.block w.heap.size (by have := HSZ.out; omega) (by simp)).trans HBX.out
  have c41 := Lib.cell_of_heap hbx1 4
  simp only [List.getElem?_toArray, List.getElem?_cons_zero, List.getElem?_cons_succ] at c41
  obtain ⟨g, hg⟩ : ∃ g, W.heap.size = g := ⟨_, rfl⟩
  rw [hg] at hrun hown
  have hgl : w.heap.size < g := by have := HSZ.out; omega
  have hown2 : W1.ownsRow g 4 1 (.slice (some ⟨g, 0, none⟩) n n) n (markL [] n) := by
   have e : (madeCells (Value.bool false).cells (n * 1)).toList = markL [] n := by
    rw [Nat.mul_one]
    exact (toList_madeCells_one _ _).trans (markL_nil n).symm
   rw [← e]; exact hown
  have HO := Lib.hid hown2
  have HB1 := Lib.hid hb1
  have HBX1 := Lib.hid hbx1
  have hmz : ((m : Int) == 0) = false := by simp; omega
  clear hown hgr hown2 hb1 hii hz0 hz1 hz2 hbx1
  go_wp2_with fail
  clear hrun c4 c41
  go_loopw [33] (fun v wr => ∃ i : Nat, i ≤ m ∧ v = .int .i64 ((i : Nat) : Int) ∧ wr.ownsRow g 4 1 (.slice (some ⟨g, 0, none⟩) n n) n (markL (l.take i) n) ∧ Below w.heap.size w wr ∧ wr.heap[w.heap.size]? = some (.cells #[.map (some bK), .map (some bS), .map (some bV), .map (some bR), .slice A m cap] 36 (0, 0)) ∧ (l.take i).Nodup ∧ ∀ x ∈ l.take i, 0 ≤ x ∧ x < (n : Int)) (fun v _ => m - (intOf v).toNat)
  case atStart => exact ⟨0, Nat.zero_le _, rfl, HO.out, HB1.out, HBX1.out, by simp, by simp⟩
  case round =>
   clear HO HB1 HBX1
   obtain ⟨i, hi, rfl, hown, hbe, hbx, hnd, hin⟩ := hrel
   have HO2 := Lib.hid hown
   have HB2 := Lib.hid hbe
   have HBX2 := Lib.hid hbx
   have HND := Lib.hid hnd
   have HIN := Lib.hid hin
   clear hbx hnd hin
   by_cases hlt : i < m
   ·have hltz : (i : Int) < (m : Int) := by omega
    obtain ⟨ad, rfl, hc⟩ := HA.out (by rw [HL.out]; omega)
    obtain ⟨x, hx⟩ : ∃ x, l[i]? = some x := ⟨_, List.getElem?_eq_getElem (by rw [HL.out]; exact hlt)⟩
    have cx := cell_below hbe (hc i x hx)
    have HX := Lib.hid hx
    clear hc hx hbe
    by_cases hx0 : x < 0
    ·clear hown
     go_wp2_with fail
     go_ret2
     exact ⟨⟨_, false, rfl, fun h => by cases h⟩, HB2.out⟩
    ·by_cases hxn : x < (n : Int)
     ·obtain ⟨k, rfl⟩ : ∃ k : Nat, x = (k : Int) := ⟨x.toNat, by omega⟩
      have hkn : k < n := by omega
      have hge : ((k : Int) ≥ (n : Int)) = False := by simp; omega
      have hlt0 : ((k : Int) < 0) = False := by simp
      have c0 : wr.cell? ⟨g, k, none⟩ = some (.bool (decide ((k : Int) ∈ l.take i))) := (hown.cellAt k (by omega)).trans (markL_get hkn)
      have f0 := hown.frozenAt k
      by_cases hmem : (k : Int) ∈ l.take i
      ·rw [decide_eq_true hmem] at c0
       clear hmem hown
       go_wp2_with fail
       go_ret2
       exact ⟨⟨_, false, rfl, fun h => by cases h⟩, HB2.out⟩
      ·rw [decide_eq_false hmem] at c0
       have hst := hown.stored k (.bool true)
       have hto : l.take (i + 1) = l.take i ++ [(k : Int)] := by rw [List.take_add_one, HX.out]; rfl
       rw [markL_set, ← hto] at hst
       have HST := Lib.hid hst
       have HTO := Lib.hid hto
       have HM := Lib.hid hmem
       clear hst hto hmem hown
       go_wp2_with fail
       go_roundw
       case rel =>
        refine ⟨i + 1, by omega, by go_num, HST.out.1, HB2.out.grown HST.out.2 HB2.out.size (fun k hk => by cases hk; omega), (HST.out.2.block w.heap.size (by have := (Array.getElem?_eq_some_iff.1 HBX2.out).1; exact this) (by intro e; injection e; omega)).trans HBX2.out, ?_, ?_⟩
        ·rw [HTO.out, List.nodup_append]
         refine ⟨HND.out, by simp, fun a ha b hb => ?_⟩
         simp at hb
         subst hb
         exact fun e => HM.out (e ▸ ha)
        ·rw [HTO.out]
         intro x hx
         rcases List.mem_append.1 hx with hx | hx
         ·exact HIN.out x hx
         ·simp at hx; omega
       case measure => (simp [intOf]; try omega)
     ·have hge : x ≥ (n : Int) := by omega
      clear hown
      go_wp2_with fail
      go_ret2
      exact ⟨⟨_, false, rfl, fun h => by cases h⟩, HB2.out⟩
   ·have hin : i = m := by omega
    subst hin
    have c42 := Lib.cell_of_heap HBX2.out 4
    simp only [List.getElem?_toArray, List.getElem?_cons_zero, List.getElem?_cons_succ] at c42
    have hnd := HND.out
    have hin := HIN.out
    rw [List.take_of_length_le (by rw [HL.out]; exact Nat.le_refl _)] at hnd hin
    have HN2 := Lib.hid hnd
    have HI2 := Lib.hid hin
    clear hown hbe hnd hin HND HIN
    by_cases hmn : i = n
    ·subst hmn
     go_upto_region 17 with fail
     go_quiet (fail)
     go_wp2_with fail
     go_ret2
     have hcl := castL_toNat HI2.out
     refine ⟨⟨_, true, rfl, fun _ => ⟨l.map Int.toNat, A, cap, by rw [List.length_map, HL.out]; rfl, by rw [List.length_map, HL.out]; exact hmc, ?_, ?_, ?_, by rw [List.length_map, HL.out]⟩⟩, belowN HB2.out _⟩
     ·rw [hcl]
      exact (HA.out.below HB2.out).below (belowN (Below.refl _ _) _)
     ·unfold List.Nodup
      rw [List.pairwise_map]
      refine HN2.out.imp_of_mem fun {a b} ha hb hab e => hab ?_
      have := HI2.out a ha
      have := HI2.out b hb
      omega
     ·intro j hj
      obtain ⟨x, hx, rfl⟩ := List.mem_map.1 hj
      have := HI2.out x hx
      omega
    ·have hmz2 : ((i : Int) == (n : Int)) = false := by simp; omega
     go_upto_region 17 with fail
     go_quiet (fail)
     go_wp2_with fail
     go_ret2
     exact ⟨⟨_, false, rfl, fun h => by cases h⟩, belowN HB2.out _⟩
end Go.Proofs.Ytngkneknopenmaa.Hist
end
