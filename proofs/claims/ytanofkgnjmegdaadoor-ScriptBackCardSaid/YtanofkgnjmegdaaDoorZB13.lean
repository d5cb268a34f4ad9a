/- Texts of this claim, joined by a program of this session: the declarations that its theorem uses. -/
import Derived.Test.YtanofkgnjmegdaaDoorZB10
import Derived.Test.YtanofkgnjmegdaaDoorZB12
import Derived.Lib.QuietBelow
section
namespace Go.Proofs.YtanofkgnjmegdaaDoor.Hist
open Go Go.RowKit Go.Proofs.YtanofkgnjmegdaaDoor.Row3 Go.Proofs.YtanofkgnjmegdaaDoor.IntMap
def RelK1 (h : List T4) (w : World) (v : Value) (wr : World) : Prop :=
  ∃ i : Nat, i ≤ h.length ∧ v = .int .i64 ((i : Nat) : Int) ∧ Below w.heap.size w wr ∧ (h.take i).all rightT = true
def judgeF (h : List T4) : Int :=
  match writesF h with
  | none => 2
  | some f => if !stampsF h (fun _ => false) (fun _ => none) then 2 else if h.all (fun t => t.ops.all (readsB f)) then 0 else 2
theorem checkF_small {h : List T4} (h1 : h.length ≤ 64) (h2 : countT h ≤ 1024) : checkF h = if !h.all rightT then 2 else judgeF h := by
  unfold checkF
  rw [if_neg (by omega)]
  rfl
theorem judge_none {h : List T4} (h1 : writesF h = none) : judgeF h = 2 := by unfold judgeF; rw [h1]
theorem judge_some {h : List T4} {f : Int → Option W3} (h1 : writesF h = some f) : judgeF h = if !stampsF h (fun _ => false) (fun _ => none) then 2 else if h.all (fun t => t.ops.all (readsB f)) then 0 else 2 := by unfold judgeF; rw [h1]
def RelK2 (h : List T4) (w : World) (b s : Nat) (f : Int → Option W3) (v : Value) (wr : World) : Prop :=
  ∃ i : Nat, i ≤ h.length ∧ v = .int .i64 ((i : Nat) : Int) ∧ Below w.heap.size w wr ∧ IM Tryd.prog 3 wr b (wfun f) s ∧ (h.take i).all (fun t => t.ops.all (readsB f)) = true
def RelK3 (ops : List O3) (w : World) (b s : Nat) (f : Int → Option W3) (v : Value) (wr : World) : Prop :=
  ∃ i : Nat, i ≤ ops.length ∧ v = .int .i64 ((i : Nat) : Int) ∧ Below w.heap.size w wr ∧ IM Tryd.prog 3 wr b (wfun f) s ∧ (ops.take i).all (readsB f) = true
theorem OkT_of_right {t : T4} (h : rightT t = true) : OkT t := by
  unfold rightT at h
  simp only [Bool.and_eq_true, decide_eq_true_eq] at h
  refine ⟨h.1.2, fun o ho => ?_⟩
  have := List.all_eq_true.1 h.2 o ho
  unfold rightO at this
  simp only [Bool.and_eq_true, decide_eq_true_eq] at this
  exact ⟨this.1.1.1.1, this.1.1.1.2, this.1.1.2, this.1.2⟩
theorem OkS_of_right {t : T4} (h : rightT t = true) : OkS t := by
  unfold rightT at h
  simp only [Bool.and_eq_true, decide_eq_true_eq] at h
  unfold OkS
  omega
set_option maxHeartbeats 8000000 in
set_option maxRecDepth 100000 in
theorem check_calls (A : Option Addr) (cap : Nat) (h : List T4) (hcap : h.length ≤ cap) (hm : h.length ≤ 4611686018427387904) (hcnt : countT h ≤ 4611686018427387904) (w : World) (hr : RdT w A h) :
    Calls Tryd.prog 16 #[.slice A h.length cap] w fun e w' => e = .returned (.int .i64 (checkF h)) ∧ Below w.heap.size w w' := by
  have OC := ops_calls A cap h w hr hcap hm hcnt
  obtain ⟨n, hn⟩ : ∃ n, h.length = n := ⟨_, rfl⟩
  have HN := Lib.hid hn
  rw [hn] at hm hcap OC ⊢
  have HR := Lib.hid hr
  have HOC := Lib.hid OC
  clear hn hr OC
  go_enter Tryd.func16, Tryd.ntmps16
  by_cases hbig : 64 < n
  · have hbz : (64 : Int) < (n : Int) := by omega
    have HC := Lib.hid (show checkF h = 3 by unfold checkF; rw [if_pos (Or.inl (by rw [HN.out]; exact hbig))])
    go_wp2_with fail
    go_ret
    exact ⟨by rw [HC.out]; rfl, Below.refl _ _⟩
  · have hbz : ¬ (64 : Int) < (n : Int) := by omega
    by_cases hcb : 1024 < countT h
    · have hcz : (1024 : Int) < (countT h : Int) := by omega
      have HC := Lib.hid (show checkF h = 3 by unfold checkF; rw [if_pos (Or.inr hcb)])
      go_wp2_with (go_at_call 31; (with_reducible refine HOC.out.mono ?_); rintro e w1 ⟨rfl, k1⟩)
      go_ret
      exact ⟨by rw [HC.out]; rfl, k1⟩
    have hcz : ¬ (1024 : Int) < (countT h : Int) := by omega
    have hc1 := checkF_small (h := h) (by rw [HN.out]; omega) (by omega)
    have HC := Lib.hid hc1
    clear hc1
    go_wp2_with (go_at_call 31; (with_reducible refine HOC.out.mono ?_); rintro e w1 ⟨rfl, k1⟩)
    have K1 := Lib.hid k1
    clear HOC k1 hcz hcb hbz
    go_loopw [23] (fun v wr => RelK1 h w v wr) (fun v _ => n - (intOf v).toNat)
    case atStart => exact ⟨0, Nat.zero_le _, rfl, K1.out, by simp⟩
    case round =>
      obtain ⟨i, hi, rfl, hb, hall⟩ := hrel
      rw [HN.out] at hi
      by_cases hlt : i < n
      · have hltz : (i : Int) < (n : Int) := by omega
        have hil : i < h.length := by rw [HN.out]; exact hlt
        obtain ⟨ad, rfl, hc⟩ := HR.out (by omega)
        obtain ⟨t, ht⟩ : ∃ t, h[i]? = some t := ⟨_, List.getElem?_eq_getElem hil⟩
        obtain ⟨A3, c3, t0, t1, t2, t3, hl3, hro⟩ := hc i t ht
        replace t0 := cell_below hb t0
        replace t1 := cell_below hb t1
        replace t2 := cell_below hb t2
        replace t3 := cell_below hb t3
        have RC := right_calls A3 c3 t (wr.alloc (.cells #[.int .i64 t.s, .int .i64 t.b, .int .i64 t.c, .slice A3 t.ops.length c3] 38)) (hro.below (hb.alloc hb.size _)) hl3 (by have := le_countT (List.mem_of_getElem? ht); omega)
        have hto : h.take (i + 1) = h.take i ++ [t] := by rw [List.take_add_one, ht]; rfl
        have HTO := Lib.hid hto
        have HTM := Lib.hid (List.mem_of_getElem? ht)
        obtain ⟨m, hm⟩ : ∃ m, t.ops.length = m := ⟨_, rfl⟩
        rw [hm] at t3 hl3 RC
        have HRC := Lib.hid RC
        have HB := Lib.hid hb
        clear hc ht hro hil hm RC hto hb
        have hsz : w.heap.size ≤ (wr.alloc (.cells #[.int .i64 t.s, .int .i64 t.b, .int .i64 t.c, .slice A3 m c3] 38)).heap.size := (HB.out.alloc HB.out.size _).size
        cases hrt : rightT t with
        | false =>
          have hfin : checkF h = 2 := by
            rw [HC.out, show h.all rightT = false by rw [List.all_eq_false]; exact ⟨t, HTM.out, by simp [hrt]⟩]
            rfl
          have HF := Lib.hid hfin
          rw [hrt] at HRC
          clear hfin
          go_wp2_with (go_at_call 32; (with_reducible refine HRC.out.mono ?_); rintro e w2 ⟨rfl, k2⟩)
          go_ret
          exact ⟨by rw [HF.out]; rfl, (HB.out.alloc HB.out.size _).trans (k2.mono hsz)⟩
        | true =>
          rw [hrt] at HRC
          have hall2 : (h.take (i + 1)).all rightT = true := by rw [HTO.out]; simp [hall, hrt]
          go_wp2_with (go_at_call 32; (with_reducible refine HRC.out.mono ?_); rintro e w2 ⟨rfl, k2⟩)
          go_roundw
          case rel => exact ⟨i + 1, by rw [HN.out]; omega, by go_num, (HB.out.alloc HB.out.size _).trans (k2.mono hsz), hall2⟩
          case measure => (simp [intOf]; try omega)
      · have hin : i = n := by omega
        subst hin
        rw [List.take_of_length_le (by rw [HN.out]; exact Nat.le_refl _)] at hall
        rw [hall] at HC
        have HJ := Lib.hid (show checkF h = judgeF h from HC.out)
        have HOT : ∀ t ∈ h, OkT t := fun t ht => OkT_of_right (List.all_eq_true.1 hall t ht)
        have HOS : ∀ t ∈ h, OkS t := fun t ht => OkS_of_right (List.all_eq_true.1 hall t ht)
        have WC := hwrites_calls A cap h HOT (by rw [HN.out]; omega) wr (HR.out.below hb)
        have SC := fun w' (k : Below wr.heap.size wr w') => stamps_calls A cap h HOS (by rw [HN.out]; omega) w' ((HR.out.below hb).below k)
        rw [HN.out] at WC SC
        have HWC := Lib.hid WC
        have HSC := Lib.hid SC
        have HAL := Lib.hid hall
        have HB := Lib.hid hb
        clear hall HOT HOS WC SC HC K1 hb
        cases hwf : writesF h with
        | none =>
          have HF := Lib.hid (HJ.out.trans (judge_none hwf))
          rw [hwf] at HWC
          clear hwf
          go_wp2_with (go_at_call 33; (with_reducible refine HWC.out.mono ?_); rintro e w2 ⟨b, rfl, hmap, k2⟩)
          go_ret
          exact ⟨by rw [HF.out]; rfl, HB.out.trans (k2.mono HB.out.size)⟩
        | some f =>
          have hjs := judge_some hwf
          rw [hwf] at HWC
          cases hst : stampsF h (fun _ => false) (fun _ => none) with
          | false =>
            rw [hst] at hjs HSC
            have HF := Lib.hid (HJ.out.trans hjs)
            clear hjs hwf
            go_wp2_with (first
              | (go_at_call 33; (with_reducible refine HWC.out.mono ?_); rintro e w2 ⟨b, rfl, hmap, k2⟩)
              | (go_at_call 34; (with_reducible refine (HSC.out _ k2).mono ?_); rintro e w3 ⟨rfl, k3⟩))
            go_ret
            exact ⟨by rw [HF.out]; rfl, (HB.out.trans (k2.mono HB.out.size)).trans (k3.mono (Nat.le_trans HB.out.size k2.size))⟩
          | true =>
            rw [hst] at hjs HSC
            have HF := Lib.hid (HJ.out.trans hjs)
            clear hjs hwf
            go_wp2_with (first
              | (go_at_call 33; (with_reducible refine HWC.out.mono ?_); rintro e w2 ⟨b, rfl, hmap, k2⟩)
              | (go_at_call 34; (with_reducible refine (HSC.out _ k2).mono ?_); rintro e w3 ⟨rfl, k3⟩))
            obtain ⟨s, him⟩ := hmap f rfl
            have him3 := him.below k3
            have hb3 : Below w.heap.size w w3 := (HB.out.trans (k2.mono HB.out.size)).trans (k3.mono (Nat.le_trans HB.out.size k2.size))
            have HI3 := Lib.hid him3
            have HB3 := Lib.hid hb3
            clear hmap him k2 k3 him3 hb3 HWC HSC HJ HB w2
            go_loopw [45] (fun v wr => RelK2 h w b s f v wr) (fun v _ => i - (intOf v).toNat)
            case atStart => exact ⟨0, Nat.zero_le _, rfl, HB3.out, HI3.out, by simp⟩
            case round =>
              clear HI3 HB3
              obtain ⟨j, hj, rfl, hb, him, hall⟩ := hrel
              rw [HN.out] at hj
              have HIM := Lib.hid him
              clear him
              by_cases hlt : j < i
              · have hltz : (j : Int) < (i : Int) := by omega
                have hil : j < h.length := by rw [HN.out]; exact hlt
                obtain ⟨ad, rfl, hc⟩ := HR.out (by omega)
                obtain ⟨t, ht⟩ : ∃ t, h[j]? = some t := ⟨_, List.getElem?_eq_getElem hil⟩
                obtain ⟨A3, c3, t0, t1, t2, t3, hl3, hro⟩ := hc j t ht
                replace t0 := cell_below hb t0
                replace t1 := cell_below hb t1
                replace t2 := cell_below hb t2
                replace t3 := cell_below hb t3
                have hto : h.take (j + 1) = h.take j ++ [t] := by rw [List.take_add_one, ht]; rfl
                have HTO := Lib.hid hto
                have HTM := Lib.hid (List.mem_of_getElem? ht)
                have HRT := Lib.hid (List.all_eq_true.1 HAL.out t HTM.out)
                obtain ⟨m, hm⟩ : ∃ m, t.ops.length = m := ⟨_, rfl⟩
                have HMM := Lib.hid hm
                rw [hm] at t3 hl3
                have gW : Below w.heap.size w (wr.alloc (.cells #[.int .i64 t.s, .int .i64 t.b, .int .i64 t.c, .slice A3 m c3] 38)) := hb.alloc hb.size _
                have him1 := HIM.out.alloc (.cells #[.int .i64 t.s, .int .i64 t.b, .int .i64 t.c, .slice A3 m c3] 38)
                have HRO := Lib.hid (hro.below gW)
                have GW := Lib.hid gW
                have HI1 := Lib.hid him1
                have hm64 : m ≤ 64 := by rw [← hm]; exact (OkT_of_right HRT.out).1
                clear hc ht hro hil hm hto hb gW him1
                go_wp2_with fail
                clear t0 t1 t2 t3
                obtain ⟨W1, hW1⟩ : ∃ W1, wr.alloc (.cells #[.int .i64 t.s, .int .i64 t.b, .int .i64 t.c, .slice A3 m c3] 38) = W1 := ⟨_, rfl⟩
                rw [hW1] at GW HRO HI1 ⊢
                clear hW1
                go_loopw [52] (fun v wr => RelK3 t.ops W1 b s f v wr) (fun v _ => m - (intOf v).toNat)
                case atStart => exact ⟨0, Nat.zero_le _, rfl, Below.refl _ _, HI1.out, by simp⟩
                case round =>
                  clear HI1 HIM
                  obtain ⟨k, hk, rfl, hb, him, hop⟩ := hrel
                  rw [HMM.out] at hk
                  have HIM := Lib.hid him
                  clear him
                  by_cases hkm : k < m
                  · have hkz : (k : Int) < (m : Int) := by omega
                    have hkl : k < t.ops.length := by rw [HMM.out]; exact hkm
                    obtain ⟨ad3, rfl, hc⟩ := HRO.out (by omega)
                    obtain ⟨o, ho⟩ : ∃ o, t.ops[k]? = some o := ⟨_, List.getElem?_eq_getElem hkl⟩
                    obtain ⟨x0, x1, x2⟩ := hc k o ho
                    have hoo := (OkT_of_right HRT.out).2 o (List.mem_of_getElem? ho)
                    have HTP := Lib.hid (show t.ops.take (k + 1) = t.ops.take k ++ [o] by rw [List.take_add_one, ho]; rfl)
                    have HOM := Lib.hid (List.mem_of_getElem? ho)
                    replace x0 := cell_below hb x0
                    replace x1 := cell_below hb x1
                    replace x2 := cell_below hb x2
                    have HVW := Lib.hid (wf64 (x := o.v) (by have := hoo.2.2.1; omega) (by have := hoo.2.2.2; omega))
                    have hb2 : Below W1.heap.size W1 (wr.alloc (.cells #[.bool o.w, .int .i64 o.k, .int .i64 o.v] 48)) := hb.alloc hb.size _
                    have HB2 := Lib.hid hb2
                    clear hc ho hoo hkl hb hb2
                    have hstep : readsB f o = true → (t.ops.take (k + 1)).all (readsB f) = true := fun h => by rw [HTP.out]; simp [hop, h]
                    have hstop : readsB f o = false → checkF h = 2 := fun h => by
                      rw [HF.out, show _ = false from List.all_eq_false.2 ⟨t, HTM.out, by rw [Bool.not_eq_true, List.all_eq_false]; exact ⟨o, HOM.out, by simp [h]⟩⟩]
                      rfl
                    have HSTEP := Lib.hid hstep
                    have HSTOP := Lib.hid hstop
                    clear hstep hstop
                    cases hf : f o.v with
                    | none =>
                      have HV := Lib.hid (show (if true = true then (.tuple #[(wfun f o.v).getD (.agg #[.int .i64 0, .int .i64 0, .bool false]), .bool (wfun f o.v).isSome] : Value) else (wfun f o.v).getD (.agg #[.int .i64 0, .int .i64 0, .bool false])) = .tuple #[.agg #[.int .i64 0, .int .i64 0, .bool false], .bool false] by simp [wfun, hf])
                      have HRB := Lib.hid (show readsB f o = (o.w || decide (o.v = 0) || false) by unfold readsB; rw [hf])
                      obtain ⟨ow, ok, ov⟩ := o
                      dsimp only at x0 x1 x2 HVW HV HB2 HRB hf
                      clear hf
                      cases ow with
                      | true =>
                        go_wp2_with (at_lookup; refine wpList_look (HIM.out.alloc _) rfl _ _ 72 76 true rfl Tryd.underlying72 Tryd.underlying3 (.agg #[.int .i64 0, .int .i64 0, .bool false]) (fun _ => by kernel_rfl) rfl ov rfl HVW.out _ HV.out ?_)
                        go_roundw
                        case rel => exact ⟨k + 1, by rw [HMM.out]; omega, by go_num, HB2.out.alloc HB2.out.size _, (HIM.out.alloc _).alloc _, HSTEP.out (by rw [HRB.out]; rfl)⟩
                        case measure => (simp [intOf]; try omega)
                      | false =>
                        by_cases hv0 : ov = 0
                        · subst hv0
                          go_wp2_with (at_lookup; refine wpList_look (HIM.out.alloc _) rfl _ _ 72 76 true rfl Tryd.underlying72 Tryd.underlying3 (.agg #[.int .i64 0, .int .i64 0, .bool false]) (fun _ => by kernel_rfl) rfl 0 rfl HVW.out _ HV.out ?_)
                          go_roundw
                          case rel => exact ⟨k + 1, by rw [HMM.out]; omega, by go_num, HB2.out.alloc HB2.out.size _, (HIM.out.alloc _).alloc _, HSTEP.out (by rw [HRB.out]; rfl)⟩
                          case measure => (simp [intOf]; try omega)
                        · have hv1 : decide (ov = 0) = false := decide_eq_false hv0
                          have HFIN := Lib.hid (HSTOP.out (by rw [HRB.out, hv1]; rfl))
                          go_wp2_with (at_lookup; refine wpList_look (HIM.out.alloc _) rfl _ _ 72 76 true rfl Tryd.underlying72 Tryd.underlying3 (.agg #[.int .i64 0, .int .i64 0, .bool false]) (fun _ => by kernel_rfl) rfl ov rfl HVW.out _ HV.out ?_)
                          go_ret
                          exact ⟨by rw [HFIN.out]; rfl, (GW.out.trans ((HB2.out.alloc HB2.out.size _).mono GW.out.size))⟩
                    | some x =>
                      obtain ⟨x1n, x2n, x3n⟩ := x
                      have HV := Lib.hid (show (if true = true then (.tuple #[(wfun f o.v).getD (.agg #[.int .i64 0, .int .i64 0, .bool false]), .bool (wfun f o.v).isSome] : Value) else (wfun f o.v).getD (.agg #[.int .i64 0, .int .i64 0, .bool false])) = .tuple #[.agg #[.int .i64 (x1n : Int), .int .i64 x2n, .bool x3n], .bool true] by simp [wfun, hf, wval])
                      have HRB := Lib.hid (show readsB f o = (o.w || decide (o.v = 0) || decide (x2n = o.k)) by unfold readsB; rw [hf])
                      obtain ⟨ow, ok, ov⟩ := o
                      dsimp only at x0 x1 x2 HVW HV HB2 HRB hf
                      clear hf
                      cases ow with
                      | true =>
                        go_wp2_with (at_lookup; refine wpList_look (HIM.out.alloc _) rfl _ _ 72 76 true rfl Tryd.underlying72 Tryd.underlying3 (.agg #[.int .i64 0, .int .i64 0, .bool false]) (fun _ => by kernel_rfl) rfl ov rfl HVW.out _ HV.out ?_)
                        go_roundw
                        case rel => exact ⟨k + 1, by rw [HMM.out]; omega, by go_num, HB2.out.alloc HB2.out.size _, (HIM.out.alloc _).alloc _, HSTEP.out (by rw [HRB.out]; rfl)⟩
                        case measure => (simp [intOf]; try omega)
                      | false =>
                        by_cases hv0 : ov = 0
                        · subst hv0
                          go_wp2_with (at_lookup; refine wpList_look (HIM.out.alloc _) rfl _ _ 72 76 true rfl Tryd.underlying72 Tryd.underlying3 (.agg #[.int .i64 0, .int .i64 0, .bool false]) (fun _ => by kernel_rfl) rfl 0 rfl HVW.out _ HV.out ?_)
                          go_roundw
                          case rel => exact ⟨k + 1, by rw [HMM.out]; omega, by go_num, HB2.out.alloc HB2.out.size _, (HIM.out.alloc _).alloc _, HSTEP.out (by rw [HRB.out]; rfl)⟩
                          case measure => (simp [intOf]; try omega)
                        · have hv1 : decide (ov = 0) = false := decide_eq_false hv0
                          by_cases hk2 : x2n = ok
                          · subst hk2
                            go_wp2_with (at_lookup; refine wpList_look (HIM.out.alloc _) rfl _ _ 72 76 true rfl Tryd.underlying72 Tryd.underlying3 (.agg #[.int .i64 0, .int .i64 0, .bool false]) (fun _ => by kernel_rfl) rfl ov rfl HVW.out _ HV.out ?_)
                            go_roundw
                            case rel => exact ⟨k + 1, by rw [HMM.out]; omega, by go_num, HB2.out.alloc HB2.out.size _, (HIM.out.alloc _).alloc _, HSTEP.out (by rw [HRB.out]; simp)⟩
                            case measure => (simp [intOf]; try omega)
                          · have hk3 : decide (x2n = ok) = false := decide_eq_false hk2
                            have hn1 : (ov != 0) = true := by simp [hv0]
                            have hn2 : (x2n != ok) = true := by simp [hk2]
                            have HFIN := Lib.hid (HSTOP.out (by rw [HRB.out, hv1, hk3]; rfl))
                            go_wp2_with (at_lookup; refine wpList_look (HIM.out.alloc _) rfl _ _ 72 76 true rfl Tryd.underlying72 Tryd.underlying3 (.agg #[.int .i64 0, .int .i64 0, .bool false]) (fun _ => by kernel_rfl) rfl ov rfl HVW.out _ HV.out ?_)
                            go_ret
                            exact ⟨by rw [HFIN.out]; rfl, (GW.out.trans ((HB2.out.alloc HB2.out.size _).mono GW.out.size))⟩
                  · have hkm2 : k = m := by omega
                    subst hkm2
                    rw [List.take_of_length_le (by rw [HMM.out]; exact Nat.le_refl _)] at hop
                    have hall2 : ((h.take (j + 1)).all fun t => t.ops.all (readsB f)) = true := by rw [HTO.out]; simp [hall, hop]
                    have HB2 := Lib.hid (GW.out.trans (hb.mono GW.out.size))
                    clear hop hall hb
                    go_wp2_with fail
                    go_roundw
                    case rel => exact ⟨j + 1, by rw [HN.out]; omega, by go_num, HB2.out, HIM.out, hall2⟩
                    case measure => (simp [intOf]; try omega)
              · have hji : j = i := by omega
                subst hji
                rw [List.take_of_length_le (by rw [HN.out]; exact Nat.le_refl _)] at hall
                have HFIN := Lib.hid (show checkF h = 0 by rw [HF.out, hall]; rfl)
                clear hall
                go_wp2_with fail
                go_ret
                exact ⟨by rw [HFIN.out]; rfl, hb⟩
end Go.Proofs.YtanofkgnjmegdaaDoor.Hist
end
section
namespace Go.Proofs.YtanofkgnjmegdaaDoor.Hist
open Go Go.RowKit Go.Proofs.YtanofkgnjmegdaaDoor.Row3 Go.Proofs.YtanofkgnjmegdaaDoor.IntMap
def pairB (u t : T4) : Bool := !(decide (u.b = t.b) || decide (u.b = t.c) || decide (u.c = t.b) || decide (u.c = t.c)) && !(decide (u.s = t.s) && decide (t.b < u.c))
def opB (h : List T4) (o : O3) : Bool := if o.w then decide (timesN h o.v = 1) else (decide (o.v = 0) || decide (0 ≤ writerN o.k o.v 0 h))
def mayAt (h : List T4) (i : Nat) (t : T4) : Bool := rightT t && (h.take i).all (fun u => pairB u t) && t.ops.all (opB h)
def mayL (h : List T4) : Nat → List T4 → Bool
  | _, [] => true
  | i, t :: r => mayAt h i t && mayL h (i + 1) r
def mayF (h : List T4) : Bool := mayL h 0 h
def refCheckF (h : List T4) : Int := if h.length > 64 ∨ countT h > 1024 then 3 else if !mayF h then 2 else 0
def RelM1 (h : List T4) (w : World) (v : Value) (wr : World) : Prop :=
  ∃ i : Nat, i ≤ h.length ∧ v = .int .i64 ((i : Nat) : Int) ∧ Below w.heap.size w wr ∧ mayL h i (h.drop i) = mayF h
def RelM2 (h : List T4) (i : Nat) (t : T4) (w : World) (v : Value) (wr : World) : Prop :=
  ∃ k : Nat, k ≤ i ∧ v = .int .i64 ((k : Nat) : Int) ∧ Below w.heap.size w wr ∧ (h.take k).all (fun u => pairB u t) = true
def RelM3 (h : List T4) (t : T4) (w : World) (v : Value) (wr : World) : Prop :=
  ∃ j : Nat, j ≤ t.ops.length ∧ v = .int .i64 ((j : Nat) : Int) ∧ Below w.heap.size w wr ∧ (t.ops.take j).all (opB h) = true
set_option maxHeartbeats 8000000 in
set_option maxRecDepth 100000 in
theorem may_calls (A : Option Addr) (cap : Nat) (h : List T4) (hcap : h.length ≤ cap) (hm : h.length ≤ 4611686018427387904) (hcnt : countT h ≤ 4611686018427387904) (w : World) (hr : RdT w A h) :
    Calls Tryd.prog 21 #[.slice A h.length cap] w fun e w' => e = .returned (.bool (mayF h)) ∧ Below w.heap.size w w' := by
  have TC := fun (v : Int) (w' : World) (k : Below w.heap.size w w') => times_calls A cap h v w' (hr.below k) hcap hm hcnt
  have RC := fun (key v : Int) (w' : World) (k : Below w.heap.size w w') => writer_calls A cap h key v w' (hr.below k) hcap hm hcnt
  obtain ⟨n, hn⟩ : ∃ n, h.length = n := ⟨_, rfl⟩
  have HN := Lib.hid hn
  rw [hn] at hm hcap TC RC ⊢
  have HR := Lib.hid hr
  have HTC := Lib.hid TC
  have HRC := Lib.hid RC
  clear hn hr TC RC
  go_enter Tryd.func21, Tryd.ntmps21
  go_wp2_with fail
  go_loopw [3] (fun v wr => RelM1 h w v wr) (fun v _ => n - (intOf v).toNat)
  case atStart => exact ⟨0, Nat.zero_le _, rfl, Below.refl _ _, rfl⟩
  case round =>
    obtain ⟨i, hi, rfl, hb, hall⟩ := hrel
    rw [HN.out] at hi
    by_cases hlt : i < n
    · have hltz : (i : Int) < (n : Int) := by omega
      have hil : i < h.length := by rw [HN.out]; exact hlt
      obtain ⟨ad, rfl, hc⟩ := HR.out (by omega)
      obtain ⟨t, ht⟩ : ∃ t, h[i]? = some t := ⟨_, List.getElem?_eq_getElem hil⟩
      obtain ⟨A3, c3, t0, t1, t2, t3, hl3, hro⟩ := hc i t ht
      have hdr : h.drop i = t :: h.drop (i + 1) := by
        rw [List.drop_eq_getElem_cons hil]
        congr 1
        exact Option.some.inj ((List.getElem?_eq_getElem hil).symm.trans ht)
      rw [hdr] at hall
      have HAL := Lib.hid (show (mayAt h i t && mayL h (i + 1) (h.drop (i + 1))) = mayF h from hall)
      have T0 := Lib.hid t0
      have T1 := Lib.hid t1
      have T2 := Lib.hid t2
      have T3 := Lib.hid t3
      replace t0 := cell_below hb t0
      replace t1 := cell_below hb t1
      replace t2 := cell_below hb t2
      replace t3 := cell_below hb t3
      have MC := mayT_calls A3 c3 t wr (hro.below hb) hl3 (by have := le_countT (List.mem_of_getElem? ht); omega)
      have HT := Lib.hid ht
      have HC := Lib.hid hc
      obtain ⟨m, hm⟩ : ∃ m, t.ops.length = m := ⟨_, rfl⟩
      have HMM := Lib.hid hm
      have hm62 : m ≤ 4611686018427387904 := by rw [← hm]; have := le_countT (List.mem_of_getElem? ht); omega
      rw [hm] at t3 hl3 MC T3
      have HMC := Lib.hid MC
      have HB := Lib.hid hb
      have HRO := Lib.hid hro
      clear hc ht hro hil hm MC hb hdr hall
      cases hrt : rightT t with
      | false =>
        have HF := Lib.hid (show mayF h = false by rw [← HAL.out]; unfold mayAt; rw [hrt]; rfl)
        rw [hrt] at HMC
        go_wp2_with (go_at_call 39; (with_reducible refine HMC.out.mono ?_); rintro e w2 ⟨rfl, k2⟩)
        go_ret
        exact ⟨by rw [HF.out]; rfl, HB.out.trans (k2.mono HB.out.size)⟩
      | true =>
        rw [hrt] at HMC
        go_wp2_with (go_at_call 39; (with_reducible refine HMC.out.mono ?_); rintro e w2 ⟨rfl, k2⟩)
        have hb2 := HB.out.trans (k2.mono HB.out.size)
        have HB2 := Lib.hid hb2
        clear t0 t1 t2 t3 k2 HB hb2 HMC
        go_loopw [4] (fun v wr => RelM2 h i t w v wr) (fun v _ => i - (intOf v).toNat)
        case atStart => exact ⟨0, Nat.zero_le _, rfl, HB2.out, by simp⟩
        case round =>
          clear HB2
          obtain ⟨k, hk, rfl, hb, hpr⟩ := hrel
          by_cases hki : k < i
          · have hkz : (k : Int) < (i : Int) := by omega
            have hkn : (k : Int) < (n : Int) := by omega
            obtain ⟨u, hu⟩ : ∃ u, h[k]? = some u := ⟨_, List.getElem?_eq_getElem (by rw [HN.out]; omega)⟩
            obtain ⟨A4, c4, u0, u1, u2, u3, _, _⟩ := HC.out k u hu
            have HTK := Lib.hid (show h.take (k + 1) = h.take k ++ [u] by rw [List.take_add_one, hu]; rfl)
            have HUM := Lib.hid (show u ∈ h.take i from List.mem_of_getElem? (show (h.take i)[k]? = some u by rw [List.getElem?_take, if_pos hki]; exact hu))
            have t0 := cell_below hb T0.out
            have t1 := cell_below hb T1.out
            have t2 := cell_below hb T2.out
            have t3 := cell_below hb T3.out
            replace u0 := cell_below hb u0
            replace u1 := cell_below hb u1
            replace u2 := cell_below hb u2
            replace u3 := cell_below hb u3
            obtain ⟨m4, hm4⟩ : ∃ m4, u.ops.length = m4 := ⟨_, rfl⟩
            rw [hm4] at u3
            have hal : ∀ {a v}, wr.cell? a = some v → (wr.alloc (.cells #[.int .i64 u.s, .int .i64 u.b, .int .i64 u.c, .slice A4 m4 c4] 38)).cell? a = some v := fun {a v} e => cell_below ((Below.refl _ _).alloc (Nat.le_refl _) _) e
            replace t0 := hal t0
            replace t1 := hal t1
            replace t2 := hal t2
            replace t3 := hal t3
            have HB := Lib.hid hb
            clear hu hb hal hm4
            have hstop : pairB u t = false → mayF h = false := fun e => by
              rw [← HAL.out]
              unfold mayAt
              rw [show (h.take i).all (fun u => pairB u t) = false from List.all_eq_false.2 ⟨u, HUM.out, by simp [e]⟩]
              simp
            have hstep : pairB u t = true → (h.take (k + 1)).all (fun u => pairB u t) = true := fun e => by rw [HTK.out]; simp [hpr, e]
            have HSTOP := Lib.hid hstop
            have HSTEP := Lib.hid hstep
            clear hstop hstep
            obtain ⟨us, ub, uc, uops⟩ := u
            obtain ⟨ts, tb, tc, tops⟩ := t
            dsimp only at t0 t1 t2 t3 u0 u1 u2 u3
            by_cases e1 : ub = tb
            · subst e1
              have HF := Lib.hid (HSTOP.out (by simp [pairB]))
              go_wp2_with fail
              go_ret
              exact ⟨by rw [HF.out]; rfl, ((HB.out.alloc HB.out.size _).alloc (HB.out.alloc HB.out.size _).size _)⟩
            · have e1d : decide (ub = tb) = false := decide_eq_false e1
              have e1b : (ub == tb) = false := by simp [e1]
              by_cases e2 : ub = tc
              · subst e2
                have HF := Lib.hid (HSTOP.out (by simp [pairB]))
                go_wp2_with fail
                go_ret
                exact ⟨by rw [HF.out]; rfl, ((HB.out.alloc HB.out.size _).alloc (HB.out.alloc HB.out.size _).size _)⟩
              · have e2d : decide (ub = tc) = false := decide_eq_false e2
                have e2b : (ub == tc) = false := by simp [e2]
                by_cases e3 : uc = tb
                · subst e3
                  have HF := Lib.hid (HSTOP.out (by simp [pairB]))
                  go_wp2_with fail
                  go_ret
                  exact ⟨by rw [HF.out]; rfl, ((HB.out.alloc HB.out.size _).alloc (HB.out.alloc HB.out.size _).size _)⟩
                · have e3d : decide (uc = tb) = false := decide_eq_false e3
                  have e3b : (uc == tb) = false := by simp [e3]
                  by_cases e4 : uc = tc
                  · subst e4
                    have HF := Lib.hid (HSTOP.out (by simp [pairB]))
                    go_wp2_with fail
                    go_ret
                    exact ⟨by rw [HF.out]; rfl, ((HB.out.alloc HB.out.size _).alloc (HB.out.alloc HB.out.size _).size _)⟩
                  · have e4d : decide (uc = tc) = false := decide_eq_false e4
                    have e4b : (uc == tc) = false := by simp [e4]
                    by_cases e5 : us = ts
                    · subst e5
                      by_cases e6 : tb < uc
                      · have HF := Lib.hid (HSTOP.out (by simp [pairB, e6]))
                        go_wp2_with fail
                        go_ret
                        exact ⟨by rw [HF.out]; rfl, ((HB.out.alloc HB.out.size _).alloc (HB.out.alloc HB.out.size _).size _)⟩
                      · have HF := Lib.hid (HSTEP.out (by simp [pairB, e1, e2, e3, e4]; omega))
                        go_wp2_with fail
                        go_roundw
                        case rel => exact ⟨k + 1, by omega, by go_num, ((HB.out.alloc HB.out.size _).alloc (HB.out.alloc HB.out.size _).size _), HF.out⟩
                        case measure => (simp [intOf]; try omega)
                    · have e5d : decide (us = ts) = false := decide_eq_false e5
                      have e5b : (us == ts) = false := by simp [e5]
                      have HF := Lib.hid (HSTEP.out (by simp [pairB, e1, e2, e3, e4, e5]))
                      go_wp2_with fail
                      go_roundw
                      case rel => exact ⟨k + 1, by omega, by go_num, ((HB.out.alloc HB.out.size _).alloc (HB.out.alloc HB.out.size _).size _), HF.out⟩
                      case measure => (simp [intOf]; try omega)
          · have hki2 : k = i := by omega
            subst hki2
            have HPR := Lib.hid hpr
            have HB := Lib.hid hb
            clear hpr hb
            go_wp2_with fail
            go_loopw [7] (fun v wr => RelM3 h t w v wr) (fun v _ => m - (intOf v).toNat)
            case atStart => exact ⟨0, Nat.zero_le _, rfl, HB.out, by simp⟩
            case round =>
              clear HB
              obtain ⟨j, hj, rfl, hb, hop⟩ := hrel
              rw [HMM.out] at hj
              have t3 := cell_below hb T3.out
              by_cases hjm : j < m
              · have hjz : (j : Int) < (m : Int) := by omega
                have hjl : j < t.ops.length := by rw [HMM.out]; exact hjm
                obtain ⟨ad3, rfl, hc⟩ := HRO.out (by omega)
                obtain ⟨o, ho⟩ : ∃ o, t.ops[j]? = some o := ⟨_, List.getElem?_eq_getElem hjl⟩
                obtain ⟨x0, x1, x2⟩ := hc j o ho
                have HTP := Lib.hid (show t.ops.take (j + 1) = t.ops.take j ++ [o] by rw [List.take_add_one, ho]; rfl)
                have HOM := Lib.hid (List.mem_of_getElem? ho)
                replace x0 := cell_below hb x0
                replace x1 := cell_below hb x1
                replace x2 := cell_below hb x2
                have HB := Lib.hid hb
                clear hc ho hjl hb
                have hstop : opB h o = false → mayF h = false := fun e => by
                  rw [← HAL.out]
                  unfold mayAt
                  rw [show t.ops.all (opB h) = false from List.all_eq_false.2 ⟨o, HOM.out, by simp [e]⟩]
                  simp
                have hstep : opB h o = true → (t.ops.take (j + 1)).all (opB h) = true := fun e => by rw [HTP.out]; simp [hop, e]
                have HSTOP := Lib.hid hstop
                have HSTEP := Lib.hid hstep
                clear hstop hstep
                obtain ⟨ow, ok, ov⟩ := o
                dsimp only at x0 x1 x2
                have hb2 : Below w.heap.size w (wr.alloc (.cells #[.bool ow, .int .i64 ok, .int .i64 ov] 48)) := HB.out.alloc HB.out.size _
                have TC := HTC.out ov _ hb2
                have RC := HRC.out ok ov _ hb2
                have hbx := alloc_at wr (.cells #[.bool ow, .int .i64 ok, .int .i64 ov] 48)
                have z0 := Lib.cell_of_heap hbx 0
                have z1 := Lib.cell_of_heap hbx 1
                have z2 := Lib.cell_of_heap hbx 2
                simp only [List.getElem?_toArray, List.getElem?_cons_zero, List.getElem?_cons_succ] at z0 z1 z2
                have Z0 := Lib.hid z0
                have Z1 := Lib.hid z1
                have Z2 := Lib.hid z2
                have HB2 := Lib.hid hb2
                have TC' := Lib.hid TC
                have RC' := Lib.hid RC
                clear hb2 TC RC HB hbx z0 z1 z2
                cases ow with
                | true =>
                  by_cases htm : timesN h ov = 1
                  · have HF := Lib.hid (HSTEP.out (by simp [opB, htm]))
                    rw [htm] at TC'
                    clear htm
                    go_wp2_with (go_at_call 40; (with_reducible refine TC'.out.mono ?_); rintro e w5 ⟨rfl, k5⟩; have z0 := cell_below k5 Z0.out; have z1 := cell_below k5 Z1.out; have z2 := cell_below k5 Z2.out)
                    go_roundw
                    case rel => exact ⟨j + 1, by rw [HMM.out]; omega, by go_num, HB2.out.trans (k5.mono HB2.out.size), HF.out⟩
                    case measure => (simp [intOf]; try omega)
                  · have HF := Lib.hid (HSTOP.out (by simp [opB, htm]))
                    have htz : ¬ (timesN h ov : Int) = 1 := by omega
                    have htb : ((timesN h ov : Int) != 1) = true := by simp [htz]
                    go_wp2_with (go_at_call 40; (with_reducible refine TC'.out.mono ?_); rintro e w5 ⟨rfl, k5⟩; have z0 := cell_below k5 Z0.out; have z1 := cell_below k5 Z1.out; have z2 := cell_below k5 Z2.out)
                    go_ret
                    exact ⟨by rw [HF.out]; rfl, HB2.out.trans (k5.mono HB2.out.size)⟩
                | false =>
                  by_cases hv0 : ov = 0
                  · subst hv0
                    have HF := Lib.hid (HSTEP.out (by simp [opB]))
                    go_wp2_with fail
                    go_roundw
                    case rel => exact ⟨j + 1, by rw [HMM.out]; omega, by go_num, HB2.out, HF.out⟩
                    case measure => (simp [intOf]; try omega)
                  · have hn1 : (ov != 0) = true := by simp [hv0]
                    by_cases hwr : writerN ok ov 0 h < 0
                    · have HF := Lib.hid (HSTOP.out (by simp [opB, hv0, hwr]))
                      go_wp2_with (go_at_call 41; (with_reducible refine RC'.out.mono ?_); rintro e w5 ⟨rfl, k5⟩; have z0 := cell_below k5 Z0.out; have z1 := cell_below k5 Z1.out; have z2 := cell_below k5 Z2.out)
                      go_ret
                      exact ⟨by rw [HF.out]; rfl, HB2.out.trans (k5.mono HB2.out.size)⟩
                    · have HF := Lib.hid (HSTEP.out (by simp [opB, Int.not_lt.1 hwr]))
                      go_wp2_with (go_at_call 41; (with_reducible refine RC'.out.mono ?_); rintro e w5 ⟨rfl, k5⟩; have z0 := cell_below k5 Z0.out; have z1 := cell_below k5 Z1.out; have z2 := cell_below k5 Z2.out)
                      go_roundw
                      case rel => exact ⟨j + 1, by rw [HMM.out]; omega, by go_num, HB2.out.trans (k5.mono HB2.out.size), HF.out⟩
                      case measure => (simp [intOf]; try omega)
              · have hjm2 : j = m := by omega
                subst hjm2
                rw [List.take_of_length_le (by rw [HMM.out]; exact Nat.le_refl _)] at hop
                have hnx : mayL h (k + 1) (h.drop (k + 1)) = mayF h := by
                  rw [← HAL.out]
                  unfold mayAt
                  rw [hrt, HPR.out, hop]
                  simp
                have HNX := Lib.hid hnx
                have HB := Lib.hid hb
                clear hop hnx hb
                go_wp2_with fail
                go_roundw
                case rel => exact ⟨k + 1, by rw [HN.out]; omega, by go_num, HB.out, HNX.out⟩
                case measure => (simp [intOf]; try omega)
    · have hin : i = n := by omega
      subst hin
      rw [List.drop_of_length_le (by rw [HN.out]; exact Nat.le_refl _)] at hall
      have HF := Lib.hid (show mayF h = true from hall.symm)
      go_wp2_with fail
      go_ret
      exact ⟨by rw [HF.out]; rfl, hb⟩
set_option maxHeartbeats 8000000 in
set_option maxRecDepth 100000 in
theorem ref_calls (A : Option Addr) (cap : Nat) (h : List T4) (hcap : h.length ≤ cap) (hm : h.length ≤ 4611686018427387904) (hcnt : countT h ≤ 4611686018427387904) (w : World) (hr : RdT w A h) :
    Calls Tryd.prog 12 #[.slice A h.length cap] w fun e w' => e = .returned (.int .i64 (refCheckF h)) ∧ Below w.heap.size w w' := by
  have OC := count_calls A cap h w hr hcap hm hcnt
  have MC := fun (w' : World) (k : Below w.heap.size w w') => may_calls A cap h hcap hm hcnt w' (hr.below k)
  obtain ⟨n, hn⟩ : ∃ n, h.length = n := ⟨_, rfl⟩
  have HN := Lib.hid hn
  rw [hn] at hm hcap OC MC ⊢
  have HOC := Lib.hid OC
  have HMC := Lib.hid MC
  clear hn hr OC MC
  go_enter Tryd.func12, Tryd.ntmps12
  by_cases hbig : 64 < n
  · have hbz : (64 : Int) < (n : Int) := by omega
    have HC := Lib.hid (show refCheckF h = 3 by unfold refCheckF; rw [if_pos (Or.inl (by rw [HN.out]; exact hbig))])
    go_wp2_with fail
    go_ret
    exact ⟨by rw [HC.out]; rfl, Below.refl _ _⟩
  · have hbz : ¬ (64 : Int) < (n : Int) := by omega
    by_cases hcb : 1024 < countT h
    · have hcz : (1024 : Int) < (countT h : Int) := by omega
      have HC := Lib.hid (show refCheckF h = 3 by unfold refCheckF; rw [if_pos (Or.inr hcb)])
      go_wp2_with (go_at_call 20; (with_reducible refine HOC.out.mono ?_); rintro e w1 ⟨rfl, k1⟩)
      go_ret
      exact ⟨by rw [HC.out]; rfl, k1⟩
    have hcz : ¬ (1024 : Int) < (countT h : Int) := by omega
    have hc1 : refCheckF h = if !mayF h then 2 else 0 := by
      unfold refCheckF
      rw [if_neg (by rw [HN.out]; omega)]
    have HC := Lib.hid hc1
    clear hc1
    cases hmf : mayF h with
    | false =>
      rw [hmf] at HC HMC
      go_wp2_with (first
        | (go_at_call 20; (with_reducible refine HOC.out.mono ?_); rintro e w1 ⟨rfl, k1⟩)
        | (go_at_call 21; (with_reducible refine (HMC.out _ k1).mono ?_); rintro e w2 ⟨rfl, k2⟩))
      go_ret
      exact ⟨by rw [HC.out]; rfl, k1.trans (k2.mono k1.size)⟩
    | true =>
      rw [hmf] at HC HMC
      go_wp2_with (first
        | (go_at_call 20; (with_reducible refine HOC.out.mono ?_); rintro e w1 ⟨rfl, k1⟩)
        | (go_at_call 21; (with_reducible refine (HMC.out _ k1).mono ?_); rintro e w2 ⟨rfl, k2⟩))
      go_ret
      exact ⟨by rw [HC.out]; rfl, k1.trans (k2.mono k1.size)⟩
end Go.Proofs.YtanofkgnjmegdaaDoor.Hist
end
section
namespace Go.Proofs.YtanofkgnjmegdaaDoor.Hist
open Go Go.RowKit Go.Proofs.YtanofkgnjmegdaaDoor.Row3
def PairP (u t : T4) : Prop := u.b ≠ t.b ∧ u.b ≠ t.c ∧ u.c ≠ t.b ∧ u.c ≠ t.c ∧ (u.s = t.s → u.c ≤ t.b)
theorem pairB_iff (u t : T4) : pairB u t = true ↔ PairP u t := by
  unfold pairB PairP
  simp only [Bool.and_eq_true, Bool.not_eq_true', Bool.or_eq_false_iff, decide_eq_false_iff_not, Bool.and_eq_false_imp, decide_eq_true_eq]
  constructor
  · rintro ⟨⟨⟨⟨a, b⟩, c⟩, d⟩, e⟩
    exact ⟨a, b, c, d, fun h => Int.not_lt.1 (e h)⟩
  · rintro ⟨a, b, c, d, e⟩
    exact ⟨⟨⟨⟨a, b⟩, c⟩, d⟩, fun h => Int.not_lt.2 (e h)⟩
def SeenOk (p : List T4) (seen : Int → Bool) : Prop := ∀ x, seen x = true ↔ ∃ u ∈ p, u.b = x ∨ u.c = x
def LastOk (p : List T4) (last : Int → Option Int) : Prop := (∀ u ∈ p, ∃ e, last u.s = some e ∧ u.c ≤ e) ∧ ∀ s e, last s = some e → ∃ u ∈ p, u.s = s ∧ u.c = e
theorem right_lt {t : T4} (h : rightT t = true) : t.b < t.c := by
  unfold rightT at h
  simp only [Bool.and_eq_true, decide_eq_true_eq] at h
  omega
theorem stamps_iff : ∀ (r p : List T4) (seen : Int → Bool) (last : Int → Option Int), (∀ t ∈ r, rightT t = true) → SeenOk p seen → LastOk p last → p.Pairwise PairP → (stampsF r seen last = true ↔ (p ++ r).Pairwise PairP)
  | [], p, seen, last, _, _, _, hp => by simpa [stampsF] using hp
  | t :: r, p, seen, last, hr, hs, hl, hp => by
    have hlt := right_lt (hr t (by simp))
    have hs2 : SeenOk (p ++ [t]) (seenF (seenF seen t.b) t.c) := by
      intro x
      unfold seenF
      by_cases h1 : x = t.c
      · simp only [h1, if_true, true_iff]
        exact ⟨t, by simp, .inr rfl⟩
      · rw [if_neg h1]
        by_cases h2 : x = t.b
        · simp only [h2, if_true, true_iff]
          exact ⟨t, by simp, .inl rfl⟩
        · rw [if_neg h2, hs x]
          constructor
          · rintro ⟨u, hu, e⟩
            exact ⟨u, by simp [hu], e⟩
          · rintro ⟨u, hu, e⟩
            rcases List.mem_append.1 hu with hu | hu
            · exact ⟨u, hu, e⟩
            · simp at hu
              subst hu
              rcases e with e | e
              · exact absurd e.symm h2
              · exact absurd e.symm h1
    have hstep : (seen t.b = false ∧ seenF seen t.b t.c = false ∧ ∀ e, last t.s = some e → e ≤ t.b) ↔ ∀ u ∈ p, PairP u t := by
      have hsf : seenF seen t.b t.c = seen t.c := by unfold seenF; rw [if_neg (by omega)]
      rw [hsf]
      constructor
      · rintro ⟨a, b, c⟩ u hu
        have ha : ¬ ∃ u ∈ p, u.b = t.b ∨ u.c = t.b := fun h => by rw [(hs t.b).2 h] at a; cases a
        have hb : ¬ ∃ u ∈ p, u.b = t.c ∨ u.c = t.c := fun h => by rw [(hs t.c).2 h] at b; cases b
        refine ⟨fun e => ha ⟨u, hu, .inl e⟩, fun e => hb ⟨u, hu, .inl e⟩, fun e => ha ⟨u, hu, .inr e⟩, fun e => hb ⟨u, hu, .inr e⟩, fun e => ?_⟩
        obtain ⟨x, h1, h2⟩ := hl.1 u hu
        have := c x (e ▸ h1)
        omega
      · intro h
        refine ⟨?_, ?_, ?_⟩
        · cases hh : seen t.b with
          | false => rfl
          | true =>
            obtain ⟨u, hu, e⟩ := (hs _).1 hh
            have := h u hu
            rcases e with e | e
            · exact absurd e this.1
            · exact absurd e this.2.2.1
        · cases hh : seen t.c with
          | false => rfl
          | true =>
            obtain ⟨u, hu, e⟩ := (hs _).1 hh
            have := h u hu
            rcases e with e | e
            · exact absurd e this.2.1
            · exact absurd e this.2.2.2.1
        · intro e he
          obtain ⟨u, hu, h1, h2⟩ := hl.2 _ _ he
          have := (h u hu).2.2.2.2 h1
          omega
    have hgo : (∀ u ∈ p, PairP u t) → (stampsF r (seenF (seenF seen t.b) t.c) (lastT last t.s t.c) = true ↔ (p ++ t :: r).Pairwise PairP) := by
      intro hpt
      have h1 := stamps_iff r (p ++ [t]) (seenF (seenF seen t.b) t.c) (lastT last t.s t.c) (fun u hu => hr u (by simp [hu])) hs2 (by
        constructor
        · intro u hu
          unfold lastT
          rcases List.mem_append.1 hu with hu | hu
          · by_cases h : u.s = t.s
            · rw [if_pos h]
              have := (hpt u hu).2.2.2.2 h
              exact ⟨_, rfl, by omega⟩
            · rw [if_neg h]
              exact hl.1 u hu
          · simp at hu
            subst hu
            rw [if_pos rfl]
            exact ⟨_, rfl, Int.le_refl _⟩
        · intro s e he
          unfold lastT at he
          split at he
          · rename_i h
            cases he
            exact ⟨t, by simp, h.symm, rfl⟩
          · obtain ⟨u, hu, h1, h2⟩ := hl.2 _ _ he
            exact ⟨u, by simp [hu], h1, h2⟩) (by
        rw [List.pairwise_append]
        exact ⟨hp, by simp, fun a ha b hb => by simp at hb; subst hb; exact hpt a ha⟩)
      rw [h1]
      simp
    have hback : (p ++ t :: r).Pairwise PairP → ∀ u ∈ p, PairP u t := fun h u hu => (List.pairwise_append.1 h).2.2 u hu t (by simp)
    unfold stampsF
    by_cases h1 : seen t.b = true
    · rw [if_pos h1]
      simp only [Bool.false_eq_true, false_iff]
      intro h
      have := (hstep.2 (hback h)).1
      rw [h1] at this; cases this
    rw [if_neg h1]
    by_cases h2 : seenF seen t.b t.c = true
    · rw [if_pos h2]
      simp only [Bool.false_eq_true, false_iff]
      intro h
      have := (hstep.2 (hback h)).2.1
      rw [h2] at this; cases this
    rw [if_neg h2]
    cases hls : last t.s with
    | none =>
      exact hgo (hstep.1 ⟨eq_false_of_ne_true h1, eq_false_of_ne_true h2, fun e he => by rw [hls] at he; cases he⟩)
    | some e =>
      dsimp only
      by_cases h3 : e > t.b
      · rw [if_pos h3]
        simp only [Bool.false_eq_true, false_iff]
        intro h
        have := (hstep.2 (hback h)).2.2 e hls
        omega
      · rw [if_neg h3]
        exact hgo (hstep.1 ⟨eq_false_of_ne_true h1, eq_false_of_ne_true h2, fun x he => by rw [hls] at he; cases he; omega⟩)
theorem stamps_eq {h : List T4} (hr : ∀ t ∈ h, rightT t = true) : stampsF h (fun _ => false) (fun _ => none) = true ↔ h.Pairwise PairP := by
  have := stamps_iff h [] (fun _ => false) (fun _ => none) hr (by intro x; simp) ⟨by simp, by simp⟩ (by simp)
  simpa using this
def pr (f : Int → Option W3) : Int → Option (Nat × Int) := fun v => (f v).map fun x => (x.1, x.2.1)
def insW : List (Int × Nat × Int) → (Int → Option (Nat × Int)) → Option (Int → Option (Nat × Int))
  | [], g => some g
  | (v, p) :: l, g => match g v with | some _ => none | none => insW l (fun y => if y = v then some p else g y)
def wrs (i : Nat) (ops : List O3) : List (Int × Nat × Int) := ops.filterMap fun o => if o.w then some (o.v, i, o.k) else none
def wrsT : Nat → List T4 → List (Int × Nat × Int)
  | _, [] => []
  | i, t :: r => wrs i t.ops ++ wrsT (i + 1) r
theorem insW_append : ∀ (l l' : List (Int × Nat × Int)) (g), insW (l ++ l') g = (insW l g).bind (insW l')
  | [], _, _ => rfl
  | (v, p) :: l, l', g => by
    show (match g v with | some _ => none | none => insW (l ++ l') _) = _
    show _ = (match g v with | some _ => none | none => insW l _).bind _
    cases g v with
    | some _ => rfl
    | none => exact insW_append l l' _
theorem opsW_pr (i : Nat) : ∀ (ops : List O3) (f : Int → Option W3), (opsW i ops f).map pr = insW (wrs i ops) (pr f)
  | [], f => rfl
  | o :: r, f => by
    unfold opsW stepW wrs
    by_cases hw : o.w = true
    · rw [if_pos hw, List.filterMap_cons]
      simp only [hw, if_true]
      show _ = (match pr f o.v with | some _ => none | none => insW (wrs i r) _)
      cases hf : f o.v with
      | some x => simp [pr, hf]
      | none =>
        have : pr f o.v = none := by simp [pr, hf]
        rw [this]
        show (opsW i r _).map pr = _
        rw [opsW_pr i r]
        congr 1
        funext y
        unfold pr updW
        by_cases h : y = o.v <;> simp [h]
    · rw [if_neg hw, List.filterMap_cons]
      simp only [hw]
      exact opsW_pr i r f
theorem mem_wrs {i : Nat} {ops : List O3} {x : Int × Nat × Int} : x ∈ wrs i ops ↔ ∃ o ∈ ops, o.w = true ∧ x = (o.v, i, o.k) := by
  unfold wrs
  rw [List.mem_filterMap]
  constructor
  · rintro ⟨o, ho, h⟩
    split at h
    · rename_i hw; cases h; exact ⟨o, ho, hw, rfl⟩
    · cases h
  · rintro ⟨o, ho, hw, rfl⟩
    exact ⟨o, ho, by rw [if_pos hw]⟩
theorem insW_spec : ∀ (l : List (Int × Nat × Int)) (g g' : Int → Option (Nat × Int)), insW l g = some g' → ((l.map (·.1)).Nodup ∧ ∀ x ∈ l, g x.1 = none) ∧ ∀ v p, g' v = some p ↔ (v, p) ∈ l ∨ g v = some p
  | [], g, g', h => by cases h; simp
  | (v, p) :: l, g, g', h => by
    unfold insW at h
    cases hg : g v with
    | some x => rw [hg] at h; cases h
    | none =>
      rw [hg] at h
      obtain ⟨⟨h1, h2⟩, h3⟩ := insW_spec l _ g' h
      have hne : ∀ x ∈ l, x.1 ≠ v := fun x hx e => by have := h2 x hx; simp [e] at this
      refine ⟨⟨?_, ?_⟩, ?_⟩
      · rw [List.map_cons, List.nodup_cons]
        refine ⟨fun hm => ?_, h1⟩
        obtain ⟨x, hx, e⟩ := List.mem_map.1 hm
        exact hne x hx e
      · intro x hx
        rcases List.mem_cons.1 hx with rfl | hx
        · exact hg
        · have := h2 x hx
          simpa [hne x hx] using this
      · intro y q
        rw [h3 y q]
        by_cases hy : y = v
        · subst hy
          simp only [if_true, List.mem_cons, hg]
          constructor
          · rintro (h | h)
            · exact .inl (.inr h)
            · cases h; exact .inl (.inl rfl)
          · rintro ((h | h) | h)
            · injection h with _ h; subst h; exact .inr rfl
            · exact .inl h
            · cases h
        · simp only [if_neg hy, List.mem_cons]
          constructor
          · rintro (h | h)
            · exact .inl (.inr h)
            · exact .inr h
          · rintro ((h | h) | h)
            · injection h with h _; exact absurd h hy
            · exact .inl h
            · exact .inr h
theorem insW_some : ∀ (l : List (Int × Nat × Int)) (g : Int → Option (Nat × Int)), (l.map (·.1)).Nodup → (∀ x ∈ l, g x.1 = none) → (insW l g).isSome = true
  | [], g, _, _ => rfl
  | (v, p) :: l, g, h1, h2 => by
    unfold insW
    rw [h2 (v, p) (by simp)]
    rw [List.map_cons, List.nodup_cons] at h1
    refine insW_some l _ h1.2 (fun x hx => ?_)
    have : x.1 ≠ v := fun e => h1.1 (List.mem_map.2 ⟨x, hx, e⟩)
    simp only [if_neg this]
    exact h2 x (by simp [hx])
theorem mark_pr {i : Nat} {ops : List O3} {f g : Int → Option W3} (h : opsW i ops f = some g) : pr (markF ops g) = pr g := by
  funext v
  unfold pr markF
  split
  · rename_i hl
    unfold isLast at hl
    rw [List.any_eq_true] at hl
    obtain ⟨o, ho, hv⟩ := hl
    simp only [Bool.and_eq_true, decide_eq_true_eq] at hv
    have hw := (lastO_spec ops _ _ hv.2).2.1
    have h1 := opsW_pr i ops f
    rw [h] at h1
    have h2 := (insW_spec _ _ _ h1.symm).2 v (i, o.k)
    have h3 : pr g v = some (i, o.k) := h2.2 (.inl (mem_wrs.2 ⟨o, ho, hw, by rw [hv.1]⟩))
    unfold pr at h3
    cases hg : g v with
    | none => rw [hg] at h3; cases h3
    | some x => simp
  · rfl
theorem writesW_pr : ∀ (h : List T4) (i : Nat) (f : Int → Option W3), (writesW i h f).map pr = insW (wrsT i h) (pr f)
  | [], i, f => rfl
  | t :: r, i, f => by
    unfold writesW wrsT
    rw [insW_append, ← opsW_pr]
    cases ho : opsW i t.ops f with
    | none => rfl
    | some g =>
      show (writesW (i + 1) r (markF t.ops g)).map pr = insW (wrsT (i + 1) r) (pr g)
      rw [writesW_pr r, mark_pr ho]
theorem mem_wrsT : ∀ {h : List T4} {i : Nat} {x : Int × Nat × Int}, x ∈ wrsT i h ↔ ∃ j t o, h[j]? = some t ∧ o ∈ t.ops ∧ o.w = true ∧ x = (o.v, i + j, o.k)
  | [], i, x => by simp [wrsT]
  | t :: r, i, x => by
    unfold wrsT
    rw [List.mem_append, mem_wrs, mem_wrsT]
    constructor
    · rintro (⟨o, ho, hw, rfl⟩ | ⟨j, u, o, hu, ho, hw, rfl⟩)
      · exact ⟨0, t, o, rfl, ho, hw, rfl⟩
      · exact ⟨j + 1, u, o, hu, ho, hw, by rw [show i + 1 + j = i + (j + 1) by omega]⟩
    · rintro ⟨j, u, o, hu, ho, hw, rfl⟩
      cases j with
      | zero => cases hu; exact .inl ⟨o, ho, hw, rfl⟩
      | succ j => exact .inr ⟨j, u, o, hu, ho, hw, by rw [show i + 1 + j = i + (j + 1) by omega]⟩
theorem writes_spec {h : List T4} {f : Int → Option W3} (hf : writesF h = some f) (v : Int) (i : Nat) (k : Int) : (∃ l, f v = some (i, k, l)) ↔ ∃ t o, h[i]? = some t ∧ o ∈ t.ops ∧ o.w = true ∧ o.v = v ∧ o.k = k := by
  have h1 := writesW_pr h 0 fun _ => none
  rw [show writesW 0 h (fun _ => none) = some f from hf] at h1
  have h2 := (insW_spec _ _ _ h1.symm).2 v (i, k)
  have h3 : (∃ l, f v = some (i, k, l)) ↔ pr f v = some (i, k) := by
    unfold pr
    cases f v with
    | none => simp
    | some x =>
      obtain ⟨a, b, c⟩ := x
      simp
  rw [h3, h2]
  constructor
  · rintro (h | h)
    · obtain ⟨j, t, o, hj, ho, hw, e⟩ := mem_wrsT.1 h
      injection e with e1 e
      injection e with e2 e3
      subst e1 e3
      rw [Nat.zero_add] at e2
      subst e2
      exact ⟨t, o, hj, ho, hw, rfl, rfl⟩
    · simp [pr] at h
  · rintro ⟨t, o, hj, ho, hw, rfl, rfl⟩
    exact .inl (mem_wrsT.2 ⟨i, t, o, hj, ho, hw, by rw [Nat.zero_add]⟩)
theorem writes_some {h : List T4} : (writesF h).isSome = true ↔ ((wrsT 0 h).map (·.1)).Nodup := by
  have h1 := writesW_pr h 0 fun _ => none
  have h2 : (writesF h).isSome = (insW (wrsT 0 h) (pr fun _ => none)).isSome := by rw [← h1]; unfold writesF; simp
  rw [h2]
  constructor
  · intro h
    obtain ⟨g, hg⟩ := Option.isSome_iff_exists.1 h
    exact (insW_spec _ _ _ hg).1.1
  · intro h
    exact insW_some _ _ h (fun x _ => rfl)
theorem count_wrs (i : Nat) (v : Int) : ∀ ops : List O3, ((wrs i ops).map (·.1)).count v = ops.countP (isW v)
  | [] => rfl
  | o :: r => by
    have ih := count_wrs i v r
    have e : wrs i (o :: r) = (if o.w then [(o.v, i, o.k)] else []) ++ wrs i r := by
      unfold wrs
      rw [List.filterMap_cons]
      by_cases hw : o.w = true <;> simp [hw]
    rw [e, List.countP_cons, List.map_append, List.count_append, ih]
    unfold isW
    by_cases hw : o.w = true
    · by_cases hv : o.v = v
      · simp [hw, hv]; omega
      · simp [hw, hv]
    · simp [hw]
theorem count_wrsT (v : Int) : ∀ (h : List T4) (i : Nat), ((wrsT i h).map (·.1)).count v = timesN h v
  | [], i => rfl
  | t :: r, i => by
    unfold wrsT
    rw [List.map_append, List.count_append, count_wrs, count_wrsT v r, timesN_cons]
theorem writer_pos (k v : Int) : ∀ (h : List T4) (i : Nat), 0 ≤ writerN k v i h ↔ ∃ t ∈ h, ∃ o ∈ t.ops, o.w = true ∧ o.k = k ∧ o.v = v
  | [], i => by simp [writerN]
  | t :: r, i => by
    unfold writerN
    have ha : t.ops.any (isKV k v) = true ↔ ∃ o ∈ t.ops, o.w = true ∧ o.k = k ∧ o.v = v := by
      rw [List.any_eq_true]
      simp only [isKV, Bool.and_eq_true, decide_eq_true_eq]
    by_cases hb : t.ops.any (isKV k v) = true
    · rw [if_pos hb]
      obtain ⟨o, ho⟩ := ha.1 hb
      exact ⟨fun _ => ⟨t, by simp, o, ho⟩, fun _ => by omega⟩
    · rw [if_neg hb, writer_pos k v r]
      constructor
      · rintro ⟨u, hu, h⟩
        exact ⟨u, by simp [hu], h⟩
      · rintro ⟨u, hu, h⟩
        rcases List.mem_cons.1 hu with rfl | hu
        · exact absurd (ha.2 h) hb
        · exact ⟨u, hu, h⟩
theorem mayL_iff (h : List T4) : ∀ (r : List T4) (i : Nat), mayL h i r = true ↔ ∀ j t, r[j]? = some t → mayAt h (i + j) t = true
  | [], i => by simp [mayL]
  | t :: r, i => by
    unfold mayL
    rw [Bool.and_eq_true, mayL_iff h r]
    constructor
    · rintro ⟨h1, h2⟩ j u hu
      cases j with
      | zero => cases hu; exact h1
      | succ j => have := h2 j u hu; rwa [show i + 1 + j = i + (j + 1) by omega] at this
    · intro hh
      refine ⟨hh 0 t rfl, fun j u hu => ?_⟩
      have := hh (j + 1) u hu
      rwa [show i + (j + 1) = i + 1 + j by omega] at this
def MayP (h : List T4) : Prop := (∀ t ∈ h, rightT t = true) ∧ h.Pairwise PairP ∧ ((wrsT 0 h).map (·.1)).Nodup ∧ ∀ t ∈ h, ∀ o ∈ t.ops, o.w = false → o.v ≠ 0 → ∃ u ∈ h, ∃ x ∈ u.ops, x.w = true ∧ x.k = o.k ∧ x.v = o.v
theorem pairwise_take (R : T4 → T4 → Prop) : ∀ h : List T4, h.Pairwise R ↔ ∀ (i : Nat) (t : T4), h[i]? = some t → ∀ u ∈ h.take i, R u t := by
  intro h
  rw [List.pairwise_iff_getElem]
  constructor
  · intro hp i t ht u hu
    obtain ⟨hi, rfl⟩ := List.getElem?_eq_some_iff.1 ht
    obtain ⟨j, hj, rfl⟩ := List.mem_iff_getElem.1 hu
    rw [List.length_take] at hj
    rw [List.getElem_take]
    exact hp j i (by omega) hi (by omega)
  · intro hh i j hi hj hlt
    refine hh j h[j] (List.getElem?_eq_getElem hj) h[i] (List.mem_iff_getElem.2 ⟨i, by rw [List.length_take]; omega, by rw [List.getElem_take]⟩)
theorem opB_iff (h : List T4) (o : O3) : opB h o = true ↔ (o.w = true → timesN h o.v = 1) ∧ (o.w = false → o.v ≠ 0 → ∃ u ∈ h, ∃ x ∈ u.ops, x.w = true ∧ x.k = o.k ∧ x.v = o.v) := by
  unfold opB
  cases hw : o.w with
  | true => simp
  | false =>
    rw [if_neg (by simp), Bool.or_eq_true, decide_eq_true_eq, decide_eq_true_eq, writer_pos]
    constructor
    · intro h
      exact ⟨by simp, fun _ hv => h.resolve_left hv⟩
    · rintro ⟨_, h⟩
      by_cases hv : o.v = 0
      · exact .inl hv
      · exact .inr (h rfl hv)
theorem times_nodup (h : List T4) : (∀ t ∈ h, ∀ o ∈ t.ops, o.w = true → timesN h o.v = 1) ↔ ((wrsT 0 h).map (·.1)).Nodup := by
  rw [List.nodup_iff_count]
  constructor
  · intro hh v
    rw [count_wrsT]
    by_cases hv : 0 < timesN h v
    · rw [← count_wrsT v h 0] at hv
      obtain ⟨x, hx, e⟩ := List.mem_map.1 (List.count_pos_iff.1 hv)
      obtain ⟨j, t, o, hj, ho, hw, rfl⟩ := mem_wrsT.1 hx
      have := hh t (List.mem_of_getElem? hj) o ho hw
      dsimp only at e
      rw [← e, this]
      exact Nat.le_refl _
    · omega
  · intro hh t ht o ho hw
    have h1 := hh o.v
    rw [count_wrsT] at h1
    obtain ⟨j, hj⟩ := List.mem_iff_getElem?.1 ht
    have h2 : 0 < ((wrsT 0 h).map (·.1)).count o.v := List.count_pos_iff.2 (List.mem_map.2 ⟨_, mem_wrsT.2 ⟨j, t, o, hj, ho, hw, rfl⟩, rfl⟩)
    rw [count_wrsT] at h2
    omega
theorem mayF_iff (h : List T4) : mayF h = true ↔ MayP h := by
  unfold mayF
  rw [mayL_iff]
  have e : (∀ j t, h[j]? = some t → mayAt h (0 + j) t = true) ↔ (∀ t ∈ h, rightT t = true) ∧ h.Pairwise PairP ∧ ∀ t ∈ h, ∀ o ∈ t.ops, opB h o = true := by
    rw [pairwise_take]
    constructor
    · intro hh
      refine ⟨fun t ht => ?_, fun i t ht u hu => ?_, fun t ht o ho => ?_⟩
      · obtain ⟨j, hj⟩ := List.mem_iff_getElem?.1 ht
        have := hh j t hj
        unfold mayAt at this
        simp only [Bool.and_eq_true] at this
        exact this.1.1
      · have := hh i t ht
        unfold mayAt at this
        simp only [Bool.and_eq_true, List.all_eq_true] at this
        rw [Nat.zero_add] at this
        exact (pairB_iff u t).1 (this.1.2 u hu)
      · obtain ⟨j, hj⟩ := List.mem_iff_getElem?.1 ht
        have := hh j t hj
        unfold mayAt at this
        simp only [Bool.and_eq_true, List.all_eq_true] at this
        exact this.2 o ho
    · rintro ⟨h1, h2, h3⟩ j t hj
      have ht := List.mem_of_getElem? hj
      unfold mayAt
      rw [Nat.zero_add]
      simp only [Bool.and_eq_true, List.all_eq_true]
      exact ⟨⟨h1 t ht, fun u hu => (pairB_iff u t).2 (h2 j t hj u hu)⟩, h3 t ht⟩
  rw [e]
  unfold MayP
  rw [← times_nodup]
  constructor
  · rintro ⟨h1, h2, h3⟩
    exact ⟨h1, h2, fun t ht o ho => ((opB_iff h o).1 (h3 t ht o ho)).1, fun t ht o ho => ((opB_iff h o).1 (h3 t ht o ho)).2⟩
  · rintro ⟨h1, h2, h3, h4⟩
    exact ⟨h1, h2, fun t ht o ho => (opB_iff h o).2 ⟨h3 t ht o ho, h4 t ht o ho⟩⟩
theorem readsB_iff {h : List T4} {f : Int → Option W3} (hf : writesF h = some f) (o : O3) : readsB f o = true ↔ (o.w = false → o.v ≠ 0 → ∃ u ∈ h, ∃ x ∈ u.ops, x.w = true ∧ x.k = o.k ∧ x.v = o.v) := by
  unfold readsB
  cases hw : o.w with
  | true => simp
  | false =>
    by_cases hv : o.v = 0
    · simp [hv]
    · simp only [Bool.false_or, true_implies, ne_eq, hv, not_false_eq_true]
      constructor
      · intro hh
        cases hfv : f o.v with
        | none => rw [hfv] at hh; cases hh
        | some x =>
          rw [hfv] at hh
          obtain ⟨i, k, l⟩ := x
          have hk : k = o.k := by simpa using hh
          obtain ⟨t, y, hi, hy, hyw, hyv, hyk⟩ := (writes_spec hf o.v i k).1 ⟨l, hfv⟩
          exact ⟨t, List.mem_of_getElem? hi, y, hy, hyw, hyk.trans hk, hyv⟩
      · rintro ⟨u, hu, x, hx, hxw, hxk, hxv⟩
        obtain ⟨i, hi⟩ := List.mem_iff_getElem?.1 hu
        obtain ⟨l, hl⟩ := (writes_spec hf o.v i o.k).2 ⟨u, x, hi, hx, hxw, hxv, hxk⟩
        rw [hl]
        simp
theorem checkF_may (h : List T4) (h1 : h.length ≤ 64) (h2 : countT h ≤ 1024) : checkF h = 0 ↔ MayP h := by
  rw [checkF_small h1 h2]
  unfold MayP
  by_cases hr : h.all rightT = true
  · rw [hr]
    have hrt := List.all_eq_true.1 hr
    rw [if_neg (by simp)]
    cases hf : writesF h with
    | none =>
      rw [judge_none hf]
      have : ¬ ((wrsT 0 h).map (·.1)).Nodup := fun hn => by rw [← writes_some, hf] at hn; cases hn
      simp [this]
    | some f =>
      rw [judge_some hf]
      have hn : ((wrsT 0 h).map (·.1)).Nodup := writes_some.1 (by rw [hf]; rfl)
      by_cases hs : stampsF h (fun _ => false) (fun _ => none) = true
      · rw [hs, if_neg (by simp)]
        have hp := (stamps_eq hrt).1 hs
        have e : (h.all fun t => t.ops.all (readsB f)) = true ↔ ∀ t ∈ h, ∀ o ∈ t.ops, o.w = false → o.v ≠ 0 → ∃ u ∈ h, ∃ x ∈ u.ops, x.w = true ∧ x.k = o.k ∧ x.v = o.v := by
          simp only [List.all_eq_true, readsB_iff hf]
        by_cases ha : (h.all fun t => t.ops.all (readsB f)) = true
        · rw [if_pos ha]
          simp only [true_iff]
          exact ⟨hrt, hp, hn, e.1 ha⟩
        · rw [if_neg ha]
          simp only [show ¬ (2 : Int) = 0 by decide, false_iff]
          exact fun hh => ha (e.2 hh.2.2.2)
      · rw [eq_false_of_ne_true hs, if_pos (by simp)]
        simp only [show ¬ (2 : Int) = 0 by decide, false_iff]
        exact fun hh => hs ((stamps_eq hrt).2 hh.2.1)
  · rw [eq_false_of_ne_true hr, if_pos (by simp)]
    simp only [show ¬ (2 : Int) = 0 by decide, false_iff]
    exact fun hh => hr (List.all_eq_true.2 hh.1)
theorem checkF_two (h : List T4) (h1 : h.length ≤ 64) (h2 : countT h ≤ 1024) : checkF h = 0 ∨ checkF h = 2 := by
  rw [checkF_small h1 h2]
  by_cases hr : h.all rightT = true
  · rw [hr, if_neg (by simp)]
    cases hf : writesF h with
    | none => rw [judge_none hf]; exact .inr rfl
    | some f =>
      rw [judge_some hf]
      split
      · exact .inr rfl
      · split
        · exact .inl rfl
        · exact .inr rfl
  · rw [eq_false_of_ne_true hr, if_pos (by simp)]
    exact .inr rfl
theorem ref_check (h : List T4) : refCheckF h = checkF h := by
  by_cases hb : h.length > 64 ∨ countT h > 1024
  · unfold refCheckF checkF
    rw [if_pos hb, if_pos hb]
  · have h1 : h.length ≤ 64 := by omega
    have h2 : countT h ≤ 1024 := by omega
    have e : refCheckF h = if !mayF h then 2 else 0 := by unfold refCheckF; rw [if_neg hb]
    rw [e]
    have hm := (mayF_iff h).trans (checkF_may h h1 h2).symm
    rcases checkF_two h h1 h2 with hc | hc
    · rw [hc, hm.2 hc]; rfl
    · have : mayF h = false := eq_false_of_ne_true (fun hh => by rw [hm.1 hh] at hc; cases hc)
      rw [hc, this]; rfl
end Go.Proofs.YtanofkgnjmegdaaDoor.Hist
end
