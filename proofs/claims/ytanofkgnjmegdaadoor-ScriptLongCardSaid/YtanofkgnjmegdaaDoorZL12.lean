/- Texts of this claim, joined by a program of this session: the declarations that its theorem uses. -/
import Derived.Test.YtanofkgnjmegdaaDoorZL10
import Derived.Test.YtanofkgnjmegdaaDoorZL11
import Derived.Lib.QuietBelow
section
namespace Go.Proofs.YtanofkgnjmegdaaDoor.Hist
open Go Go.RowKit Go.Proofs.YtanofkgnjmegdaaDoor.Row3 Go.Proofs.YtanofkgnjmegdaaDoor.IntMap
def RelK1 (h : List T4) (w : World) (v : Value) (wr : World) : Prop :=
  ∃ i : Nat, i ≤ h.length ∧ v = .int .i64 ((i : Nat) : Int) ∧ Below w.heap.size w wr ∧ (h.take i).all rightT = true
def judgeF (h : List T4) : Int :=
  match writesF h with
  | none => 2
  | some f => if !stampsF h (fun _ => false) (fun _ => none) then 2 else if h.all (fun t => t.ops.all (readsB f)) then 0 else 2
theorem checkF_small {h : List T4} (h1 : h.length ≤ 64) (h2 : countT h ≤ 1024) : checkF h = if !h.all rightT then 2 else judgeF h := by
  unfold checkF
  rw [if_neg (by omega)]
  rfl
theorem judge_none {h : List T4} (h1 : writesF h = none) : judgeF h = 2 := by unfold judgeF; rw [h1]
theorem judge_some {h : List T4} {f : Int → Option W3} (h1 : writesF h = some f) : judgeF h = if !stampsF h (fun _ => false) (fun _ => none) then 2 else if h.all (fun t => t.ops.all (readsB f)) then 0 else 2 := by unfold judgeF; rw [h1]
def RelK2 (h : List T4) (w : World) (b s : Nat) (f : Int → Option W3) (v : Value) (wr : World) : Prop :=
  ∃ i : Nat, i ≤ h.length ∧ v = .int .i64 ((i : Nat) : Int) ∧ Below w.heap.size w wr ∧ IM Tryd.prog 3 wr b (wfun f) s ∧ (h.take i).all (fun t => t.ops.all (readsB f)) = true
def RelK3 (ops : List O3) (w : World) (b s : Nat) (f : Int → Option W3) (v : Value) (wr : World) : Prop :=
  ∃ i : Nat, i ≤ ops.length ∧ v = .int .i64 ((i : Nat) : Int) ∧ Below w.heap.size w wr ∧ IM Tryd.prog 3 wr b (wfun f) s ∧ (ops.take i).all (readsB f) = true
theorem OkT_of_right {t : T4} (h : rightT t = true) : OkT t := by
  unfold rightT at h
  simp only [Bool.and_eq_true, decide_eq_true_eq] at h
  refine ⟨h.1.2, fun o ho => ?_⟩
  have := List.all_eq_true.1 h.2 o ho
  unfold rightO at this
  simp only [Bool.and_eq_true, decide_eq_true_eq] at this
  exact ⟨this.1.1.1.1, this.1.1.1.2, this.1.1.2, this.1.2⟩
theorem OkS_of_right {t : T4} (h : rightT t = true) : OkS t := by
  unfold rightT at h
  simp only [Bool.and_eq_true, decide_eq_true_eq] at h
  unfold OkS
  omega
set_option maxHeartbeats 8000000 in
set_option maxRecDepth 100000 in
theorem check_calls (A : Option Addr) (cap : Nat) (h : List T4) (hcap : h.length ≤ cap) (hm : h.length ≤ 4611686018427387904) (hcnt : countT h ≤ 4611686018427387904) (w : World) (hr : RdT w A h) :
    Calls Tryd.prog 16 #[.slice A h.length cap] w fun e w' => e = .returned (.int .i64 (checkF h)) ∧ Below w.heap.size w w' := by
  have OC := ops_calls A cap h w hr hcap hm hcnt
  obtain ⟨n, hn⟩ : ∃ n, h.length = n := ⟨_, rfl⟩
  have HN := Lib.hid hn
  rw [hn] at hm hcap OC ⊢
  have HR := Lib.hid hr
  have HOC := Lib.hid OC
  clear hn hr OC
  go_enter Tryd.func16, Tryd.ntmps16
  by_cases hbig : 64 < n
  · have hbz : (64 : Int) < (n : Int) := by omega
    have HC := Lib.hid (show checkF h = 3 by unfold checkF; rw [if_pos (Or.inl (by rw [HN.out]; exact hbig))])
    go_wp2_with fail
    go_ret
    exact ⟨by rw [HC.out]; rfl, Below.refl _ _⟩
  · have hbz : ¬ (64 : Int) < (n : Int) := by omega
    by_cases hcb : 1024 < countT h
    · have hcz : (1024 : Int) < (countT h : Int) := by omega
      have HC := Lib.hid (show checkF h = 3 by unfold checkF; rw [if_pos (Or.inr hcb)])
      go_wp2_with (go_at_call 31; (with_reducible refine HOC.out.mono ?_); rintro e w1 ⟨rfl, k1⟩)
      go_ret
      exact ⟨by rw [HC.out]; rfl, k1⟩
    have hcz : ¬ (1024 : Int) < (countT h : Int) := by omega
    have hc1 := checkF_small (h := h) (by rw [HN.out]; omega) (by omega)
    have HC := Lib.hid hc1
    clear hc1
    go_wp2_with (go_at_call 31; (with_reducible refine HOC.out.mono ?_); rintro e w1 ⟨rfl, k1⟩)
    have K1 := Lib.hid k1
    clear HOC k1 hcz hcb hbz
    go_loopw [23] (fun v wr => RelK1 h w v wr) (fun v _ => n - (intOf v).toNat)
    case atStart => exact ⟨0, Nat.zero_le _, rfl, K1.out, by simp⟩
    case round =>
      obtain ⟨i, hi, rfl, hb, hall⟩ := hrel
      rw [HN.out] at hi
      by_cases hlt : i < n
      · have hltz : (i : Int) < (n : Int) := by omega
        have hil : i < h.length := by rw [HN.out]; exact hlt
        obtain ⟨ad, rfl, hc⟩ := HR.out (by omega)
        obtain ⟨t, ht⟩ : ∃ t, h[i]? = some t := ⟨_, List.getElem?_eq_getElem hil⟩
        obtain ⟨A3, c3, t0, t1, t2, t3, hl3, hro⟩ := hc i t ht
        replace t0 := cell_below hb t0
        replace t1 := cell_below hb t1
        replace t2 := cell_below hb t2
        replace t3 := cell_below hb t3
        have RC := right_calls A3 c3 t (wr.alloc (.cells #[.int .i64 t.s, .int .i64 t.b, .int .i64 t.c, .slice A3 t.ops.length c3] 38)) (hro.below (hb.alloc hb.size _)) hl3 (by have := le_countT (List.mem_of_getElem? ht); omega)
        have hto : h.take (i + 1) = h.take i ++ [t] := by rw [List.take_add_one, ht]; rfl
        have HTO := Lib.hid hto
        have HTM := Lib.hid (List.mem_of_getElem? ht)
        obtain ⟨m, hm⟩ : ∃ m, t.ops.length = m := ⟨_, rfl⟩
        rw [hm] at t3 hl3 RC
        have HRC := Lib.hid RC
        have HB := Lib.hid hb
        clear hc ht hro hil hm RC hto hb
        have hsz : w.heap.size ≤ (wr.alloc (.cells #[.int .i64 t.s, .int .i64 t.b, .int .i64 t.c, .slice A3 m c3] 38)).heap.size := (HB.out.alloc HB.out.size _).size
        cases hrt : rightT t with
        | false =>
          have hfin : checkF h = 2 := by
            rw [HC.out, show h.all rightT = false by rw [List.all_eq_false]; exact ⟨t, HTM.out, by simp [hrt]⟩]
            rfl
          have HF := Lib.hid hfin
          rw [hrt] at HRC
          clear hfin
          go_wp2_with (go_at_call 32; (with_reducible refine HRC.out.mono ?_); rintro e w2 ⟨rfl, k2⟩)
          go_ret
          exact ⟨by rw [HF.out]; rfl, (HB.out.alloc HB.out.size _).trans (k2.mono hsz)⟩
        | true =>
          rw [hrt] at HRC
          have hall2 : (h.take (i + 1)).all rightT = true := by rw [HTO.out]; simp [hall, hrt]
          go_wp2_with (go_at_call 32; (with_reducible refine HRC.out.mono ?_); rintro e w2 ⟨rfl, k2⟩)
          go_roundw
          case rel => exact ⟨i + 1, by rw [HN.out]; omega, by go_num, (HB.out.alloc HB.out.size _).trans (k2.mono hsz), hall2⟩
          case measure => (simp [intOf]; try omega)
      · have hin : i = n := by omega
        subst hin
        rw [List.take_of_length_le (by rw [HN.out]; exact Nat.le_refl _)] at hall
        rw [hall] at HC
        have HJ := Lib.hid (show checkF h = judgeF h from HC.out)
        have HOT : ∀ t ∈ h, OkT t := fun t ht => OkT_of_right (List.all_eq_true.1 hall t ht)
        have HOS : ∀ t ∈ h, OkS t := fun t ht => OkS_of_right (List.all_eq_true.1 hall t ht)
        have WC := hwrites_calls A cap h HOT (by rw [HN.out]; omega) wr (HR.out.below hb)
        have SC := fun w' (k : Below wr.heap.size wr w') => stamps_calls A cap h HOS (by rw [HN.out]; omega) w' ((HR.out.below hb).below k)
        rw [HN.out] at WC SC
        have HWC := Lib.hid WC
        have HSC := Lib.hid SC
        have HAL := Lib.hid hall
        have HB := Lib.hid hb
        clear hall HOT HOS WC SC HC K1 hb
        cases hwf : writesF h with
        | none =>
          have HF := Lib.hid (HJ.out.trans (judge_none hwf))
          rw [hwf] at HWC
          clear hwf
          go_wp2_with (go_at_call 33; (with_reducible refine HWC.out.mono ?_); rintro e w2 ⟨b, rfl, hmap, k2⟩)
          go_ret
          exact ⟨by rw [HF.out]; rfl, HB.out.trans (k2.mono HB.out.size)⟩
        | some f =>
          have hjs := judge_some hwf
          rw [hwf] at HWC
          cases hst : stampsF h (fun _ => false) (fun _ => none) with
          | false =>
            rw [hst] at hjs HSC
            have HF := Lib.hid (HJ.out.trans hjs)
            clear hjs hwf
            go_wp2_with (first
              | (go_at_call 33; (with_reducible refine HWC.out.mono ?_); rintro e w2 ⟨b, rfl, hmap, k2⟩)
              | (go_at_call 34; (with_reducible refine (HSC.out _ k2).mono ?_); rintro e w3 ⟨rfl, k3⟩))
            go_ret
            exact ⟨by rw [HF.out]; rfl, (HB.out.trans (k2.mono HB.out.size)).trans (k3.mono (Nat.le_trans HB.out.size k2.size))⟩
          | true =>
            rw [hst] at hjs HSC
            have HF := Lib.hid (HJ.out.trans hjs)
            clear hjs hwf
            go_wp2_with (first
              | (go_at_call 33; (with_reducible refine HWC.out.mono ?_); rintro e w2 ⟨b, rfl, hmap, k2⟩)
              | (go_at_call 34; (with_reducible refine (HSC.out _ k2).mono ?_); rintro e w3 ⟨rfl, k3⟩))
            obtain ⟨s, him⟩ := hmap f rfl
            have him3 := him.below k3
            have hb3 : Below w.heap.size w w3 := (HB.out.trans (k2.mono HB.out.size)).trans (k3.mono (Nat.le_trans HB.out.size k2.size))
            have HI3 := Lib.hid him3
            have HB3 := Lib.hid hb3
            clear hmap him k2 k3 him3 hb3 HWC HSC HJ HB w2
            go_loopw [45] (fun v wr => RelK2 h w b s f v wr) (fun v _ => i - (intOf v).toNat)
            case atStart => exact ⟨0, Nat.zero_le _, rfl, HB3.out, HI3.out, by simp⟩
            case round =>
              clear HI3 HB3
              obtain ⟨j, hj, rfl, hb, him, hall⟩ := hrel
              rw [HN.out] at hj
              have HIM := Lib.hid him
              clear him
              by_cases hlt : j < i
              · have hltz : (j : Int) < (i : Int) := by omega
                have hil : j < h.length := by rw [HN.out]; exact hlt
                obtain ⟨ad, rfl, hc⟩ := HR.out (by omega)
                obtain ⟨t, ht⟩ : ∃ t, h[j]? = some t := ⟨_, List.getElem?_eq_getElem hil⟩
                obtain ⟨A3, c3, t0, t1, t2, t3, hl3, hro⟩ := hc j t ht
                replace t0 := cell_below hb t0
                replace t1 := cell_below hb t1
                replace t2 := cell_below hb t2
                replace t3 := cell_below hb t3
                have hto : h.take (j + 1) = h.take j ++ [t] := by rw [List.take_add_one, ht]; rfl
                have HTO := Lib.hid hto
                have HTM := Lib.hid (List.mem_of_getElem? ht)
                have HRT := Lib.hid (List.all_eq_true.1 HAL.out t HTM.out)
                obtain ⟨m, hm⟩ : ∃ m, t.ops.length = m := ⟨_, rfl⟩
                have HMM := Lib.hid hm
                rw [hm] at t3 hl3
                have gW : Below w.heap.size w (wr.alloc (.cells #[.int .i64 t.s, .int .i64 t.b, .int .i64 t.c, .slice A3 m c3] 38)) := hb.alloc hb.size _
                have him1 := HIM.out.alloc (.cells #[.int .i64 t.s, .int .i64 t.b, .int .i64 t.c, .slice A3 m c3] 38)
                have HRO := Lib.hid (hro.below gW)
                have GW := Lib.hid gW
                have HI1 := Lib.hid him1
                have hm64 : m ≤ 64 := by rw [← hm]; exact (OkT_of_right HRT.out).1
                clear hc ht hro hil hm hto hb gW him1
                go_wp2_with fail
                clear t0 t1 t2 t3
                obtain ⟨W1, hW1⟩ : ∃ W1, wr.alloc (.cells #[.int .i64 t.s, .int .i64 t.b, .int .i64 t.c, .slice A3 m c3] 38) = W1 := ⟨_, rfl⟩
                rw [hW1] at GW HRO HI1 ⊢
                clear hW1
                go_loopw [52] (fun v wr => RelK3 t.ops W1 b s f v wr) (fun v _ => m - (intOf v).toNat)
                case atStart => exact ⟨0, Nat.zero_le _, rfl, Below.refl _ _, HI1.out, by simp⟩
                case round =>
                  clear HI1 HIM
                  obtain ⟨k, hk, rfl, hb, him, hop⟩ := hrel
                  rw [HMM.out] at hk
                  have HIM := Lib.hid him
                  clear him
                  by_cases hkm : k < m
                  · have hkz : (k : Int) < (m : Int) := by omega
                    have hkl : k < t.ops.length := by rw [HMM.out]; exact hkm
                    obtain ⟨ad3, rfl, hc⟩ := HRO.out (by omega)
                    obtain ⟨o, ho⟩ : ∃ o, t.ops[k]? = some o := ⟨_, List.getElem?_eq_getElem hkl⟩
                    obtain ⟨x0, x1, x2⟩ := hc k o ho
                    have hoo := (OkT_of_right HRT.out).2 o (List.mem_of_getElem? ho)
                    have HTP := Lib.hid (show t.ops.take (k + 1) = t.ops.take k ++ [o] by rw [List.take_add_one, ho]; rfl)
                    have HOM := Lib.hid (List.mem_of_getElem? ho)
                    replace x0 := cell_below hb x0
                    replace x1 := cell_below hb x1
                    replace x2 := cell_below hb x2
                    have HVW := Lib.hid (wf64 (x := o.v) (by have := hoo.2.2.1; omega) (by have := hoo.2.2.2; omega))
                    have hb2 : Below W1.heap.size W1 (wr.alloc (.cells #[.bool o.w, .int .i64 o.k, .int .i64 o.v] 48)) := hb.alloc hb.size _
                    have HB2 := Lib.hid hb2
                    clear hc ho hoo hkl hb hb2
                    have hstep : readsB f o = true → (t.ops.take (k + 1)).all (readsB f) = true := fun h => by rw [HTP.out]; simp [hop, h]
                    have hstop : readsB f o = false → checkF h = 2 := fun h => by
                      rw [HF.out, show _ = false from List.all_eq_false.2 ⟨t, HTM.out, by rw [Bool.not_eq_true, List.all_eq_false]; exact ⟨o, HOM.out, by simp [h]⟩⟩]
                      rfl
                    have HSTEP := Lib.hid hstep
                    have HSTOP := Lib.hid hstop
                    clear hstep hstop
                    cases hf : f o.v with
                    | none =>
                      have HV := Lib.hid (show (if true = true then (.tuple #[(wfun f o.v).getD (.agg #[.int .i64 0, .int .i64 0, .bool false]), .bool (wfun f o.v).isSome] : Value) else (wfun f o.v).getD (.agg #[.int .i64 0, .int .i64 0, .bool false])) = .tuple #[.agg #[.int .i64 0, .int .i64 0, .bool false], .bool false] by simp [wfun, hf])
                      have HRB := Lib.hid (show readsB f o = (o.w || decide (o.v = 0) || false) by unfold readsB; rw [hf])
                      obtain ⟨ow, ok, ov⟩ := o
                      dsimp only at x0 x1 x2 HVW HV HB2 HRB hf
                      clear hf
                      cases ow with
                      | true =>
                        go_wp2_with (at_lookup; refine wpList_look (HIM.out.alloc _) rfl _ _ 72 76 true rfl Tryd.underlying72 Tryd.underlying3 (.agg #[.int .i64 0, .int .i64 0, .bool false]) (fun _ => by kernel_rfl) rfl ov rfl HVW.out _ HV.out ?_)
                        go_roundw
                        case rel => exact ⟨k + 1, by rw [HMM.out]; omega, by go_num, HB2.out.alloc HB2.out.size _, (HIM.out.alloc _).alloc _, HSTEP.out (by rw [HRB.out]; rfl)⟩
                        case measure => (simp [intOf]; try omega)
                      | false =>
                        by_cases hv0 : ov = 0
                        · subst hv0
                          go_wp2_with (at_lookup; refine wpList_look (HIM.out.alloc _) rfl _ _ 72 76 true rfl Tryd.underlying72 Tryd.underlying3 (.agg #[.int .i64 0, .int .i64 0, .bool false]) (fun _ => by kernel_rfl) rfl 0 rfl HVW.out _ HV.out ?_)
                          go_roundw
                          case rel => exact ⟨k + 1, by rw [HMM.out]; omega, by go_num, HB2.out.alloc HB2.out.size _, (HIM.out.alloc _).alloc _, HSTEP.out (by rw [HRB.out]; rfl)⟩
                          case measure => (simp [intOf]; try omega)
                        · have hv1 : decide (ov = 0) = false := decide_eq_false hv0
                          have HFIN := Lib.hid (HSTOP.out (by rw [HRB.out, hv1]; rfl))
                          go_wp2_with (at_lookup; refine wpList_look (HIM.out.alloc _) rfl _ _ 72 76 true rfl Tryd.underlying72 Tryd.underlying3 (.agg #[.int .i64 0, .int .i64 0, .bool false]) (fun _ => by kernel_rfl) rfl ov rfl HVW.out _ HV.out ?_)
                          go_ret
                          exact ⟨by rw [HFIN.out]; rfl, (GW.out.trans ((HB2.out.alloc HB2.out.size _).mono GW.out.size))⟩
                    | some x =>
                      obtain ⟨x1n, x2n, x3n⟩ := x
                      have HV := Lib.hid (show (if true = true then (.tuple #[(wfun f o.v).getD (.agg #[.int .i64 0, .int .i64 0, .bool false]), .bool (wfun f o.v).isSome] : Value) else (wfun f o.v).getD (.agg #[.int .i64 0, .int .i64 0, .bool false])) = .tuple #[.agg #[.int .i64 (x1n : Int), .int .i64 x2n, .bool x3n], .bool true] by simp [wfun, hf, wval])
                      have HRB := Lib.hid (show readsB f o = (o.w || decide (o.v = 0) || decide (x2n = o.k)) by unfold readsB; rw [hf])
                      obtain ⟨ow, ok, ov⟩ := o
                      dsimp only at x0 x1 x2 HVW HV HB2 HRB hf
                      clear hf
                      cases ow with
                      | true =>
                        go_wp2_with (at_lookup; refine wpList_look (HIM.out.alloc _) rfl _ _ 72 76 true rfl Tryd.underlying72 Tryd.underlying3 (.agg #[.int .i64 0, .int .i64 0, .bool false]) (fun _ => by kernel_rfl) rfl ov rfl HVW.out _ HV.out ?_)
                        go_roundw
                        case rel => exact ⟨k + 1, by rw [HMM.out]; omega, by go_num, HB2.out.alloc HB2.out.size _, (HIM.out.alloc _).alloc _, HSTEP.out (by rw [HRB.out]; rfl)⟩
                        case measure => (simp [intOf]; try omega)
                      | false =>
                        by_cases hv0 : ov = 0
                        · subst hv0
                          go_wp2_with (at_lookup; refine wpList_look (HIM.out.alloc _) rfl _ _ 72 76 true rfl Tryd.underlying72 Tryd.underlying3 (.agg #[.int .i64 0, .int .i64 0, .bool false]) (fun _ => by kernel_rfl) rfl 0 rfl HVW.out _ HV.out ?_)
                          go_roundw
                          case rel => exact ⟨k + 1, by rw [HMM.out]; omega, by go_num, HB2.out.alloc HB2.out.size _, (HIM.out.alloc _).alloc _, HSTEP.out (by rw [HRB.out]; rfl)⟩
                          case measure => (simp [intOf]; try omega)
                        · have hv1 : decide (ov = 0) = false := decide_eq_false hv0
                          by_cases hk2 : x2n = ok
                          · subst hk2
                            go_wp2_with (at_lookup; refine wpList_look (HIM.out.alloc _) rfl _ _ 72 76 true rfl Tryd.underlying72 Tryd.underlying3 (.agg #[.int .i64 0, .int .i64 0, .bool false]) (fun _ => by kernel_rfl) rfl ov rfl HVW.out _ HV.out ?_)
                            go_roundw
                            case rel => exact ⟨k + 1, by rw [HMM.out]; omega, by go_num, HB2.out.alloc HB2.out.size _, (HIM.out.alloc _).alloc _, HSTEP.out (by rw [HRB.out]; simp)⟩
                            case measure => (simp [intOf]; try omega)
                          · have hk3 : decide (x2n = ok) = false := decide_eq_false hk2
                            have hn1 : (ov != 0) = true := by simp [hv0]
                            have hn2 : (x2n != ok) = true := by simp [hk2]
                            have HFIN := Lib.hid (HSTOP.out (by rw [HRB.out, hv1, hk3]; rfl))
                            go_wp2_with (at_lookup; refine wpList_look (HIM.out.alloc _) rfl _ _ 72 76 true rfl Tryd.underlying72 Tryd.underlying3 (.agg #[.int .i64 0, .int .i64 0, .bool false]) (fun _ => by kernel_rfl) rfl ov rfl HVW.out _ HV.out ?_)
                            go_ret
                            exact ⟨by rw [HFIN.out]; rfl, (GW.out.trans ((HB2.out.alloc HB2.out.size _).mono GW.out.size))⟩
                  · have hkm2 : k = m := by omega
                    subst hkm2
                    rw [List.take_of_length_le (by rw [HMM.out]; exact Nat.le_refl _)] at hop
                    have hall2 : ((h.take (j + 1)).all fun t => t.ops.all (readsB f)) = true := by rw [HTO.out]; simp [hall, hop]
                    have HB2 := Lib.hid (GW.out.trans (hb.mono GW.out.size))
                    clear hop hall hb
                    go_wp2_with fail
                    go_roundw
                    case rel => exact ⟨j + 1, by rw [HN.out]; omega, by go_num, HB2.out, HIM.out, hall2⟩
                    case measure => (simp [intOf]; try omega)
              · have hji : j = i := by omega
                subst hji
                rw [List.take_of_length_le (by rw [HN.out]; exact Nat.le_refl _)] at hall
                have HFIN := Lib.hid (show checkF h = 0 by rw [HF.out, hall]; rfl)
                clear hall
                go_wp2_with fail
                go_ret
                exact ⟨by rw [HFIN.out]; rfl, hb⟩
end Go.Proofs.YtanofkgnjmegdaaDoor.Hist
end
section
namespace Go.Proofs.YtanofkgnjmegdaaDoor.Hist
open Go Go.RowKit Go.Proofs.YtanofkgnjmegdaaDoor.Row3 Go.Proofs.YtanofkgnjmegdaaDoor.IntMap
def pairB (u t : T4) : Bool := !(decide (u.b = t.b) || decide (u.b = t.c) || decide (u.c = t.b) || decide (u.c = t.c)) && !(decide (u.s = t.s) && decide (t.b < u.c))
def opB (h : List T4) (o : O3) : Bool := if o.w then decide (timesN h o.v = 1) else (decide (o.v = 0) || decide (0 ≤ writerN o.k o.v 0 h))
def mayAt (h : List T4) (i : Nat) (t : T4) : Bool := rightT t && (h.take i).all (fun u => pairB u t) && t.ops.all (opB h)
def mayL (h : List T4) : Nat → List T4 → Bool
  | _, [] => true
  | i, t :: r => mayAt h i t && mayL h (i + 1) r
def mayF (h : List T4) : Bool := mayL h 0 h
def refCheckF (h : List T4) : Int := if h.length > 64 ∨ countT h > 1024 then 3 else if !mayF h then 2 else 0
end Go.Proofs.YtanofkgnjmegdaaDoor.Hist
end
