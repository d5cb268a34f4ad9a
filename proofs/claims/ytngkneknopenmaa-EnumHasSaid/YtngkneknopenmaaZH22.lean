/- qr7 of this claim, joined by a program of this session: the zP that its theorem uses. -/
import Derived.Test.YtngkneknopenmaaZH16
import Derived.Test.YtngkneknopenmaaZH20
import Derived.Test.YtngkneknopenmaaZH21
section
namespace Go.Proofs.Ytngkneknopenmaa.Enum
open Go.qY (pu ta sa sz ss zT qU7)
open Go Go.Lib Go.RowKit Go.Shelf Go.Proofs.Ytngkneknopenmaa Go.Proofs.Ytngkneknopenmaa.Hist Go.Proofs.Ytngkneknopenmaa.qb9 Go.Proofs.Ytngkneknopenmaa.qe4
theorem jX7 {w : World} {A : Option Addr} {h : List T4} (k : CT w A h) : RdT w A h := by have := zD8 k; rwa [jX8] at this
def TH (p : Nat) (a b c d : Int) (W : World) : Prop := W.cell? ⟨p, 0, none⟩ = some (.int .i8 a) ∧ W.cell? ⟨p, 1, none⟩ = some (.int .i8 b) ∧ W.cell? ⟨p, 2, none⟩ = some (.int .i8 c) ∧ W.cell? ⟨p, 3, none⟩ = some (.int .i8 d)
theorem zP4 (a : Int) : ∃ b : Int, a.tmod 2 = b ∧ (-1 ≤ b ∧ b ≤ 1) := ⟨_, rfl, by have h1 := Int.tmod_lt_of_pos a (b := 2) (by omega); have h2 := Int.lt_tmod_of_pos a (b := 2) (by omega); omega⟩
theorem wf8 {a : Int} (h : (Lit.int .i8 a).wf = true) : -128 ≤ a ∧ a ≤ 127 := by simpa [Lit.wf, IntKind.min, IntKind.max, IntKind.signed, IntKind.bits] using h
set_option linter.unusedSimpArgs false
theorem w64 {x : Int} (h0 : -1000 ≤ x) (h1 : x ≤ 1000) : IntKind.i64.wrap x = x := by simp [IntKind.wrap, IntKind.signed, IntKind.bits]; omega
theorem jt7 {ty : TypeId} {w : World} {q : Nat} {x0 x1 x2 x3 : Value} (h : w.heap[q]? = some (.cells #[x0, x1, x2, x3] ty (0, 0))) (s b c : Int) (v : Value) : (zb8 w q s b c v).heap[q]? = some (.cells #[.int .i64 s, .int .i64 b, .int .i64 c, v] ty (0, 0)) := by
 have h1 := qa5 w q 0 _ _ _ (.int .i64 s) h
 have h2 := qa5 _ q 1 _ _ _ (.int .i64 b) h1
 have h3 := qa5 _ q 2 _ _ _ (.int .i64 c) h2
 have h4 := qa5 _ q 3 _ _ _ v h3
 unfold zb8
 simpa using h4
def TQ (q : Nat) (S T O K : Int) (W : World) : Prop := W.cell? ⟨q, 0, none⟩ = some (.int .i64 S) ∧ W.cell? ⟨q, 1, none⟩ = some (.int .i64 T) ∧ W.cell? ⟨q, 2, none⟩ = some (.int .i64 O) ∧ W.cell? ⟨q, 3, none⟩ = some (.int .i64 K)
theorem TQ.of {q : Nat} {S T O K : Int} {W : World} (h : W.heap[q]? = some (.cells #[.int .i64 S, .int .i64 T, .int .i64 O, .int .i64 K] 41 (0, 0))) : TQ q S T O K W := by
 have x0 := Lib.cell_of_heap h 0
 have x1 := Lib.cell_of_heap h 1
 have x2 := Lib.cell_of_heap h 2
 have x3 := Lib.cell_of_heap h 3
 simp only [List.getElem?_toArray, List.getElem?_cons_zero, List.getElem?_cons_succ] at x0 x1 x2 x3
 exact ⟨x0, x1, x2, x3⟩
theorem LS.zero {base : Nat} {v : Value} {its : List IT} {C : Nat → Prop} {W : World} (s : LS base v its C W) : LS 0 v its C W :=
 ⟨⟨s.row.1, by rcases s.row.2 with h | ⟨g, cp, cur, h1, _, h2, h3⟩; exact .inl h; exact .inr ⟨g, cp, cur, h1, Nat.zero_le _, h2, h3⟩⟩, s.h2, fun x hx => ⟨Nat.zero_le _, (s.lo x hx).2⟩, s.sep, s.own⟩
theorem LS.reads {base c : Nat} {A : Option Addr} {its : List IT} {C : Nat → Prop} {W : World} (s : LS base (.slice A its.length c) its C W) (hp : 0 < its.length) : ∃ ad, A = some ad ∧ ∀ i x, its[i]? = some x → W.cell? (ad.add i) = some x.v := by
 rcases s.row.2 with ⟨_, h0⟩ | ⟨g, cp, cur, e, _, h2, _⟩
 ·omega
 ·injection e with e1 e2 e3
  subst e1
  refine ⟨_, rfl, fun i x hx => s.row.cells (g := g) rfl i x.v (by rw [List.getElem?_map, hx]; rfl)⟩
set_option maxHeartbeats 16000000 in
set_option maxRecDepth 100000 in
theorem enumHas_walk (A : Option Addr) (cap : Nat) (h : List T4) (a b c d : Int) (w : World) (hr : RdT w A h) (hcap : h.length ≤ cap) (hl : h.length ≤ 2932031007317) (hw : ∀ t ∈ h, WfT t)
  (wa : (Lit.int .i8 a).wf = true) (wb : (Lit.int .i8 b).wf = true) (wc : (Lit.int .i8 c).wf = true) (wd : (Lit.int .i8 d).wf = true) :
  Calls Try.prog 9 #[.slice A h.length cap, .agg #[.int .i8 a, .int .i8 b, .int .i8 c, .int .i8 d]] w fun e w' => e = .returned (.bool true) ∧ Below w.heap.size w w' := by
 obtain ⟨n, hn⟩ : ∃ n, h.length = n := ⟨_, rfl⟩
 have HO := Lib.hid (fun t ht => (hw t ht).2.2.2.1 : ∀ t ∈ h, t.ops.length ≤ 5864062014634)
 have HN := Lib.hid hn
 have HR := Lib.hid hr
 have HCAP := Lib.hid hcap
 have hbe := (Below.refl w.heap.size w).alloc (Nat.le_refl _) (.cells #[.int .i8 a, .int .i8 b, .int .i8 c, .int .i8 d] 67)
 have hbx := alloc_at w (.cells #[.int .i8 a, .int .i8 b, .int .i8 c, .int .i8 d] 67)
 obtain ⟨W, hW⟩ : ∃ W, w.alloc (.cells #[.int .i8 a, .int .i8 b, .int .i8 c, .int .i8 d] 67) = W := ⟨_, rfl⟩
 rw [hW] at hbe hbx
 have HB := Lib.hid hbe
 have HBX := Lib.hid hbx
 have HSP := Lib.hid (jt5 W)
 have hl' : n ≤ 2932031007317 := by rw [← hn]; exact hl
 have HW8 := Lib.hid (show _ ∧ _ ∧ _ ∧ _ from ⟨wa, wb, wc, wd⟩)
 rw [hn]
 clear hr hcap hl hw hn hbe hbx wa wb wc wd
 go_enter Try.func9, Try.ntmps9
 go_upto_region 3 with (go_at_call 21; (with_reducible refine HSP.out.mono ?_); rintro e v1 ⟨rfl, hb1⟩)
 have HB1 := Lib.hid (HB.out.trans (hb1.mono HB.out.size))
 have hbx1 := (hb1.block _ (Array.getElem?_eq_some_iff.1 HBX.out).1).trans HBX.out
 have Qe9 := Lib.hid hbx1
 clear hb1 hbx1 HSP HBX hW
 by_cases h3 : (3 : Int) < (n : Int)
 ·go_wp2_with fail
  go_ret
  exact ⟨rfl, HB1.out⟩
 ·have hn3 : n ≤ 3 := by omega
  have hrf := zp8 A cap h HCAP.out (by rw [HN.out]; omega) (by have := count_le HO.out; rw [HN.out] at this; omega) v1 (HR.out.below HB1.out)
  rw [zp9, HN.out] at hrf
  obtain ⟨cz, hcz⟩ : ∃ c, zW h = c := ⟨_, rfl⟩
  rw [hcz] at hrf
  have HRF := Lib.hid hrf
  have HCZ := Lib.hid hcz
  clear hrf hcz
  by_cases hc : cz = 0
  ·subst hc
   obtain ⟨m, hm⟩ : ∃ m, jG h = m := ⟨_, rfl⟩
   have hcn := fun v hb => qP3 A cap h v (HR.out.below (w' := v) hb) HCAP.out (by rw [HN.out]; omega) (by have := (qe5 HCZ.out).2.1; omega)
   rw [HN.out, hm] at hcn
   have HCN := Lib.hid hcn
   have HM := Lib.hid hm
   clear hcn hm
   by_cases h4 : (4 : Int) < (m : Int)
   ·go_wp2_with (first
     | (go_at_call 14; (with_reducible refine HRF.out.mono ?_); rintro e v2 ⟨rfl, hb2⟩; have HB2 := Lib.hid (HB1.out.trans (hb2.mono HB1.out.size)); clear hb2)
     | (go_at_call 33; (with_reducible refine (HCN.out _ HB2.out).mono ?_); rintro e v3 ⟨rfl, hb3⟩; have HB3 := Lib.hid (HB2.out.trans (hb3.mono HB2.out.size)); clear hb3))
    go_ret
    exact ⟨rfl, HB3.out⟩
   ·have hm4 : m ≤ 4 := by omega
    have HC5 := Lib.hid (Classical.em (n = 3))
    by_cases h6 : n = 3 ∧ (3 : Int) < (m : Int)
    ·obtain ⟨rfl, h6⟩ := h6
     go_wp2_with (first
      | (go_at_call 14; (with_reducible refine HRF.out.mono ?_); rintro e v2 ⟨rfl, hb2⟩; have HB2 := Lib.hid (HB1.out.trans (hb2.mono HB1.out.size)); clear hb2)
      | (go_at_call 33; (with_reducible refine (HCN.out _ HB3.out).mono ?_); rintro e v4 ⟨rfl, hb4⟩; have HB4 := Lib.hid (HB3.out.trans (hb4.mono HB3.out.size)); clear hb4)
      | (go_at_call 33; (with_reducible refine (HCN.out _ HB2.out).mono ?_); rintro e v3 ⟨rfl, hb3⟩; have HB3 := Lib.hid (HB2.out.trans (hb3.mono HB2.out.size)); clear hb3))
     go_ret
     exact ⟨rfl, HB4.out⟩
    go_cut [40] (fun v40 wx => v40 = .bool false ∧ Below v1.heap.size v1 wx)
    case first =>
     by_cases h5 : n = 3
     ·subst h5
      have h7 : ¬ (3 : Int) < (m : Int) := fun h => h6 ⟨rfl, h⟩
      go_wp2_with (first
       | (go_at_call 14; (with_reducible refine HRF.out.mono ?_); rintro e v2 ⟨rfl, hb2⟩; have HB2 := Lib.hid hb2; clear hb2)
       | (go_at_call 33; (with_reducible refine (HCN.out _ (HB1.out.trans (HB3.out.mono HB1.out.size))).mono ?_); rintro e v4 ⟨rfl, hb4⟩; have HB4 := Lib.hid (HB3.out.trans (hb4.mono HB3.out.size)); clear hb4)
       | (go_at_call 33; (with_reducible refine (HCN.out _ (HB1.out.trans (HB2.out.mono HB1.out.size))).mono ?_); rintro e v3 ⟨rfl, hb3⟩; have HB3 := Lib.hid (HB2.out.trans (hb3.mono HB2.out.size)); clear hb3))
      go_meet
      exact ⟨by congr 1; simp; omega, HB4.out⟩
     ·have h5z : ((n : Int) == 3) = false := by simp; omega
      go_wp2_with (first
       | (go_at_call 14; (with_reducible refine HRF.out.mono ?_); rintro e v2 ⟨rfl, hb2⟩; have HB2 := Lib.hid hb2; clear hb2)
       | (go_at_call 33; (with_reducible refine (HCN.out _ (HB1.out.trans (HB2.out.mono HB1.out.size))).mono ?_); rintro e v3 ⟨rfl, hb3⟩; have HB3 := Lib.hid (HB2.out.trans (hb3.mono HB2.out.size)); clear hb3))
      go_meet
      exact ⟨by congr 1; simp; omega, HB3.out⟩
    case rest =>
     obtain ⟨rfl, hb2⟩ := hcut
     have HB2 := Lib.hid (HB1.out.trans (hb2.mono HB1.out.size))
     have hbx2 := (hb2.block _ (Array.getElem?_eq_some_iff.1 Qe9.out).1).trans Qe9.out
     have Qf0 := Lib.hid hbx2
     have hrf := zN4 (Qp9 (HR.out.below HB2.out) HCZ.out) HCAP.out (Qq0 HCZ.out) (qe5 HCZ.out).2.2
     obtain ⟨x, hx⟩ : ∃ x, jW h = x := ⟨_, rfl⟩
     have hxl : x.length = n := by rw [← hx, qx9, HN.out]
     rw [hx, HN.out, hxl] at hrf
     have HX := Lib.hid (show jW h = x ∧ x.length = n from ⟨hx, hxl⟩)
     have HRF := Lib.hid hrf
     clear hb2 hbx2 hrf hx hxl Qe9
     go_wp2_with (go_at_call 17; (with_reducible refine HRF.out.mono ?_); rintro e v3 ⟨A3, c3, rfl, ⟨hc3, hk3⟩, hb3⟩)
     have HB3 := Lib.hid (HB2.out.trans (hb3.mono HB2.out.size))
     have Qf1 := Lib.hid ((hb3.block _ (Array.getElem?_eq_some_iff.1 Qf0.out).1).trans Qf0.out)
     have HK3 := Lib.hid (show n ≤ c3 ∧ CT v3 A3 x from ⟨hc3, hk3⟩)
     clear hb3 hc3 hk3 HRF Qf0
     have hcx := qy9 HCZ.out
     rw [HX.out.1] at hcx
     have HMX := Lib.hid (qe5 hcx).2.2
     have HRX := Lib.hid (jX7 HK3.out.2)
     clear hcx
     go_loopw [5, 6, 45] (fun v5 v6 v wr => ∃ i : Nat, i ≤ n ∧ v = .int .i64 ((i : Nat) : Int) ∧ v5 = .int .i64 (jt0 (zI (x.take i))) ∧ v6 = .int .i64 (jt0 (jL (x.take i))) ∧ Below v3.heap.size v3 wr) (fun _ _ v _ => n - (intOf v).toNat)
     case atStart => exact ⟨0, Nat.zero_le _, rfl, rfl, rfl, Below.refl _ _⟩
     case round =>
      obtain ⟨i, hi, rfl, rfl, rfl, hb⟩ := hrel
      by_cases hlt : i < n
      ·have hltz : (i : Int) < (n : Int) := by omega
       obtain ⟨ad, rfl, hch⟩ := HRX.out (by rw [HX.out.2]; omega)
       obtain ⟨t, ht⟩ : ∃ t, x[i]? = some t := ⟨_, List.getElem?_eq_getElem (by rw [HX.out.2]; exact hlt)⟩
       obtain ⟨A4, c4, y0, y1, y2, y3, hl3, hro⟩ := hch i t ht
       replace y0 := cell_below hb y0
       replace y1 := cell_below hb y1
       replace y2 := cell_below hb y2
       replace y3 := cell_below hb y3
       obtain ⟨no, hno⟩ : ∃ no, t.ops.length = no := ⟨_, rfl⟩
       rw [hno] at y3 hl3
       have htm : t ∈ x := List.mem_of_getElem? ht
       obtain ⟨a1, a2, _, _, _, Qd3, Qd4, hop⟩ := (qh1 t).1 (HMX.out.1 t htm)
       have Qo8 : no ≤ 64 := by omega
       have HNO := Lib.hid hno
       have HRO := Lib.hid hro
       have HTK := Lib.hid (show x.take (i + 1) = x.take i ++ [t] by rw [List.take_add_one, ht]; rfl)
       have HOP := Lib.hid hop
       have HTX := Lib.hid (alloc_at wr (.cells #[.int .i64 t.s, .int .i64 t.b, .int .i64 t.c, .slice A4 no c4] 55))
       have HBr := Lib.hid hb
       have HTS := Lib.hid (show jt0 (zI (x.take (i + 1))) = max (jt0 (zI (x.take i))) (t.s + 1) from by rw [HTK.out, ← jD3]; unfold zI; rw [List.map_append]; rfl)
       clear hch ht hro hop htm hno Qd3 Qd4 hb
       go_wp2_with fail
       have HB4 := Lib.hid (HBr.out.alloc HBr.out.size (.cells #[.int .i64 t.s, .int .i64 t.b, .int .i64 t.c, .slice A4 no c4] 55))
       have HKT := Lib.hid (show jL (x.take (i + 1)) = jL (x.take i) ++ t.ops.map (·.k) from by rw [HTK.out]; simp [jL, qk1])
       go_loopw [6, 57] (fun v6 v ws => ∃ j : Nat, j ≤ no ∧ v = .int .i64 ((j : Nat) : Int) ∧ v6 = .int .i64 (jt0 (jL (x.take i) ++ (t.ops.take j).map (·.k))) ∧ Below v3.heap.size v3 ws) (fun _ v _ => no - (intOf v).toNat)
       case atStart => exact ⟨0, Nat.zero_le _, rfl, by simp, HB4.out⟩
       case round =>
        clear HB4 y0 y1 y2 y3 HTX
        obtain ⟨j, hj, rfl, rfl, hb⟩ := hrel
        by_cases hjt : j < no
        ·have hjz : (j : Int) < (no : Int) := by omega
         obtain ⟨ao, rfl, hco⟩ := HRO.out (by rw [HNO.out]; omega)
         obtain ⟨o, ho⟩ : ∃ o, t.ops[j]? = some o := ⟨_, List.getElem?_eq_getElem (by rw [HNO.out]; exact hjt)⟩
         obtain ⟨y0, y1, y2⟩ := hco j o ho
         replace y0 := cell_below hb y0
         replace y1 := cell_below hb y1
         replace y2 := cell_below hb y2
         obtain ⟨k1, k2, _, _, _⟩ := (qi8 o).1 (HOP.out o (List.mem_of_getElem? ho))
         have HTO := Lib.hid (show jt0 (jL (x.take i) ++ (t.ops.take (j + 1)).map (·.k)) = max (jt0 (jL (x.take i) ++ (t.ops.take j).map (·.k))) (o.k + 1) from by rw [List.take_add_one, ho, ← jD3, List.append_assoc]; simp)
         have HB5 := Lib.hid (hb.alloc hb.size (.cells #[.bool o.w, .int .i64 o.k, .int .i64 o.v] 51))
         clear hco ho hb
         go_wp2_with fail
         go_roundw
         case rel => exact ⟨j + 1, by omega, by go_num, by rw [HTO.out]; simp only [List.map_take], HB5.out⟩
         case measure => (simp [intOf]; try omega)
        ·have hjn : j = no := by omega
         subst hjn
         rw [List.take_of_length_le (l := t.ops) (i := j) (by rw [HNO.out]; exact Nat.le_refl _), ← HKT.out]
         have HB5 := Lib.hid hb
         clear hb
         go_wp2_with fail
         go_roundw
         case rel => exact ⟨i + 1, by omega, by go_num, by rw [HTS.out], rfl, HB5.out⟩
         case measure => (simp [intOf]; try omega)
      ·have hin : i = n := by omega
       subst hin
       rw [List.take_of_length_le (l := x) (i := i) (by rw [HX.out.2]; exact Nat.le_refl _)]
       have hcx := qy9 HCZ.out
       have zP5 := zD2 HCZ.out
       rw [HX.out.1] at zP5
       have hts := jX3 zP5.zw5
       have htk := jX3 zP5.keys
       obtain ⟨sn, hsn⟩ : ∃ sn, (names (zI x)).length = sn := ⟨_, rfl⟩
       obtain ⟨kn, hkn⟩ : ∃ kn, (names (jL x)).length = kn := ⟨_, rfl⟩
       have hsn3 : sn ≤ 3 := by
        have := qg2 (zI x)
        rw [hsn] at this
        have h2 : (zI x).length = i := by unfold zI; rw [List.length_map, HX.out.2]
        omega
       have hkn4 : kn ≤ 4 := by
        have := qg2 (jL x)
        rw [hkn] at this
        have h2 : (jL x).length = m := by rw [qq2, List.length_map, ← qk2, ← HX.out.1, qC1, HM.out]
        omega
       rw [hts, htk, hsn, hkn]
       have HBr := Lib.hid hb
       have HBXr := Lib.hid ((hb.block _ (Array.getElem?_eq_some_iff.1 Qf1.out).1).trans Qf1.out)
       clear hts htk hsn hkn hcx zP5 hb Qf1 HRX
       go_upto_region 17 with fail
       have HAB := Lib.hid (fun (X : World) (hb : Below wr.heap.size wr X) => (by
        have x4 := (hb.block _ (Array.getElem?_eq_some_iff.1 HBXr.out).1).trans HBXr.out
        have x0 := Lib.cell_of_heap x4 0
        have x1 := Lib.cell_of_heap x4 1
        have x2 := Lib.cell_of_heap x4 2
        have x3 := Lib.cell_of_heap x4 3
        simp only [List.getElem?_toArray, List.getElem?_cons_zero, List.getElem?_cons_succ] at x0 x1 x2 x3
        exact ⟨x0, x1, x2, x3⟩ : TH w.heap.size a b c d X))
       obtain ⟨a2, ha2, ha3⟩ := zP4 a
       obtain ⟨b2, hb2, hb3⟩ := zP4 b
       obtain ⟨c2, hc2, hc3'⟩ := zP4 c
       obtain ⟨d2, hd2, hd3⟩ := zP4 d
       have HTa := Lib.hid ha2
       have HTb := Lib.hid hb2
       have HTc := Lib.hid hc2
       have HTd := Lib.hid hd2
       obtain ⟨va, vb, vc, vd⟩ := HW8.out
       have va2 := wf8 va
       have vb2 := wf8 vb
       have vc2 := wf8 vc
       have vd2 := wf8 vd
       clear ha2 hb2 hc2 hd2 va vb vc vd
       have HBW := Lib.hid (HB3.out.trans (HBr.out.mono HB3.out.size))
       go_cut [12] (fun v12 wx => ∃ q, v12 = .pointer (some ⟨q, 0, none⟩) ∧ wx.heap[q]? = some (.cells #[.int .i64 ((sn : Int) + a2), .int .i64 ((i : Int) + b2), .int .i64 ((m : Int) + c2), .int .i64 ((kn : Int) + d2)] 41 (0, 0)) ∧ wr.heap.size ≤ q ∧ Below wr.heap.size wr wx)
       case first =>
        refine qY.qu5 [] (TH w.heap.size a b c d) (by kernel_rfl) ?_
        have hV0 : Below wr.heap.size wr wr.drew := (Below.refl _ _).drew
        obtain ⟨V0, hV⟩ : ∃ V0, wr.drew = V0 := ⟨_, rfl⟩
        rw [hV] at hV0 ⊢
        have HV0 := Lib.hid hV0
        have hAA : TH w.heap.size a b c d V0 := HAB.out _ hV0
        clear hV hV0
        refine pu (i := 0) (v := .int .i64 (sn : Int)) rfl (fun _ => by go_simp) ?_
        simp only [Act.put, sa, sz, ss]
        refine pu (i := 1) (v := .pointer (some ⟨w.heap.size, 0, none⟩)) rfl (fun _ => by go_simp) ?_
        simp only [Act.put, sa, sz, ss]
        refine ta (i := 2) (v := .int .i8 a) rfl (fun _ hW => by obtain ⟨q0, q1, q2, q3⟩ := hW; go_simp) hAA ?_
        simp only [Act.put, sa, sz, ss]
        refine pu (i := 3) (v := .int .i64 a) rfl (fun _ => by go_simp; exact w64 (by omega) (by omega)) ?_
        simp only [Act.put, sa, sz, ss]
        refine pu (i := 4) (v := .int .i64 a2) rfl (fun _ => by go_simp; exact HTa.out) ?_
        simp only [Act.put, sa, sz, ss]
        refine pu (i := 5) (v := .int .i64 ((sn : Int) + a2)) rfl (fun _ => by go_simp; exact w64 (by omega) (by omega)) ?_
        simp only [Act.put, sa, sz, ss]
        refine pu (i := 6) (v := .slice A i cap) rfl (fun _ => by go_simp) ?_
        simp only [Act.put, sa, sz, ss]
        refine pu (i := 7) (v := .int .i64 (i : Int)) rfl (fun _ => by go_simp) ?_
        simp only [Act.put, sa, sz, ss]
        refine pu (i := 8) (v := .pointer (some ⟨w.heap.size, 1, none⟩)) rfl (fun _ => by go_simp) ?_
        simp only [Act.put, sa, sz, ss]
        refine ta (i := 9) (v := .int .i8 b) rfl (fun _ hW => by obtain ⟨q0, q1, q2, q3⟩ := hW; go_simp) hAA ?_
        simp only [Act.put, sa, sz, ss]
        refine pu (i := 10) (v := .int .i64 b) rfl (fun _ => by go_simp; exact w64 (by omega) (by omega)) ?_
        simp only [Act.put, sa, sz, ss]
        refine pu (i := 11) (v := .int .i64 b2) rfl (fun _ => by go_simp; exact HTb.out) ?_
        simp only [Act.put, sa, sz, ss]
        refine pu (i := 12) (v := .int .i64 ((i : Int) + b2)) rfl (fun _ => by go_simp; exact w64 (by omega) (by omega)) ?_
        simp only [Act.put, sa, sz, ss]
        refine pu (i := 13) (v := .slice A i cap) rfl (fun _ => by go_simp) ?_
        simp only [Act.put, sa, sz, ss]
        refine pu (i := 15) (v := .pointer (some ⟨w.heap.size, 2, none⟩)) rfl (fun _ => by go_simp) ?_
        simp only [Act.put, sa, sz, ss]
        refine ta (i := 16) (v := .int .i8 c) rfl (fun _ hW => by obtain ⟨q0, q1, q2, q3⟩ := hW; go_simp) hAA ?_
        simp only [Act.put, sa, sz, ss]
        refine pu (i := 17) (v := .int .i64 c) rfl (fun _ => by go_simp; exact w64 (by omega) (by omega)) ?_
        simp only [Act.put, sa, sz, ss]
        refine pu (i := 18) (v := .int .i64 c2) rfl (fun _ => by go_simp; exact HTc.out) ?_
        simp only [Act.put, sa, sz, ss]
        refine pu (i := 20) (v := .int .i64 (kn : Int)) rfl (fun _ => by go_simp) ?_
        simp only [Act.put, sa, sz, ss]
        refine pu (i := 21) (v := .pointer (some ⟨w.heap.size, 3, none⟩)) rfl (fun _ => by go_simp) ?_
        simp only [Act.put, sa, sz, ss]
        refine ta (i := 22) (v := .int .i8 d) rfl (fun _ hW => by obtain ⟨q0, q1, q2, q3⟩ := hW; go_simp) hAA ?_
        simp only [Act.put, sa, sz, ss]
        refine pu (i := 23) (v := .int .i64 d) rfl (fun _ => by go_simp; exact w64 (by omega) (by omega)) ?_
        simp only [Act.put, sa, sz, ss]
        refine pu (i := 24) (v := .int .i64 d2) rfl (fun _ => by go_simp; exact HTd.out) ?_
        simp only [Act.put, sa, sz, ss]
        refine pu (i := 25) (v := .int .i64 ((kn : Int) + d2)) rfl (fun _ => by go_simp; exact w64 (by omega) (by omega)) ?_
        simp only [Act.put, sa, sz, ss]
        refine qU7 (l := [14, 27]) (by kernel_rfl) (by simp) ?_
        intro i7 hi7 K7 hK7
        simp only [List.mem_cons, List.not_mem_nil, or_false] at hi7
        rcases hi7 with rfl | rfl
        ·skip
         have HK7 := Lib.hid hK7
         clear hK7
         refine qY.zj2 rfl rfl ?_
         (try simp only [List.getElem_toArray, List.getElem_cons_succ, List.getElem_cons_zero])
         unfold Oper.wp
         go_simp
         go_at_call 33
         refine (HCN.out _ (HBW.out.trans (HV0.out.mono HBW.out.size))).mono ?_
         rintro e V1 ⟨rfl, hbC⟩
         have HV1 := Lib.hid (HV0.out.trans (hbC.mono HV0.out.size))
         refine HK7.out _ _ ⟨fun _ _ => HAB.out _ HV1.out, ?_⟩
         clear HK7 K7 hbC
         (try simp only [Act.put, sa, sz, ss])
         refine pu (i := 19) (v := .int .i64 ((m : Int) + c2)) rfl (fun _ => by go_simp; exact w64 (by omega) (by omega)) ?_
         simp only [Act.put, sa, sz, ss]
         refine pu (i := 26) (v := .agg #[.int .i64 ((sn : Int) + a2), .int .i64 ((i : Int) + b2), .int .i64 ((m : Int) + c2), .int .i64 ((kn : Int) + d2)]) rfl (fun _ => by go_simp) ?_
         simp only [Act.put, sa, sz, ss]
         refine zT (i := 27) rfl (by kernel_rfl) rfl ?_
         intro K7 hK7
         have HK7 := Lib.hid hK7
         clear hK7
         (try simp only [List.getElem_toArray, List.getElem_cons_succ, List.getElem_cons_zero])
         unfold Oper.wp
         go_simp
         obtain ⟨q, hq⟩ : ∃ q, V1.heap.size = q := ⟨_, rfl⟩
         obtain ⟨V2, hN⟩ : ∃ N, V1.alloc (.cells #[.int .i64 0, .int .i64 0, .int .i64 0, .int .i64 0] 41) = N := ⟨_, rfl⟩
         have hz : V2.heap[q]? = some (.cells #[.int .i64 0, .int .i64 0, .int .i64 0, .int .i64 0] 41 (0, 0)) := by rw [← hN, ← hq]; exact alloc_at _ _
         have hbA : Below V1.heap.size V1 V2 := by rw [← hN]; exact (Below.refl _ _).alloc (Nat.le_refl _) _
         have HV2 := Lib.hid (HV1.out.trans (hbA.mono HV1.out.size))
         rw [hN]
         rw [hq]
         have HQ := Lib.hid hz
         have HLO := Lib.hid (show wr.heap.size ≤ q from by rw [← hq]; exact HV1.out.size)
         refine HK7.out _ _ ⟨fun _ _ => HAB.out _ HV2.out, ?_⟩
         clear HK7 K7 hz hbA hN hq
         (try simp only [Act.put, sa, sz, ss])
         have cc0 := Lib.cell_of_heap HQ.out 0
         have cc1 := Lib.cell_of_heap HQ.out 1
         have cc2 := Lib.cell_of_heap HQ.out 2
         have cc3 := Lib.cell_of_heap HQ.out 3
         have f0 := Lib.frozen_of_heap HQ.out 0
         have f1 := Lib.frozen_of_heap HQ.out 1
         have f2 := Lib.frozen_of_heap HQ.out 2
         have f3 := Lib.frozen_of_heap HQ.out 3
         simp only [List.getElem?_toArray, List.getElem?_cons_zero, List.getElem?_cons_succ] at cc0 cc1 cc2 cc3
         refine zT (i := 28) rfl (by kernel_rfl) rfl ?_
         intro K7 hK7
         have HK7 := Lib.hid hK7
         clear hK7
         (try simp only [List.getElem_toArray, List.getElem_cons_succ, List.getElem_cons_zero])
         unfold Oper.wp
         go_simp
         have hq := jt7 HQ.out ((sn : Int) + a2) ((i : Int) + b2) ((m : Int) + c2) (.int .i64 ((kn : Int) + d2))
         have hg := jq5 V2 q ((sn : Int) + a2) ((i : Int) + b2) ((m : Int) + c2) (.int .i64 ((kn : Int) + d2))
         obtain ⟨X1, hX1⟩ : ∃ X, zb8 V2 q ((sn : Int) + a2) ((i : Int) + b2) ((m : Int) + c2) (.int .i64 ((kn : Int) + d2)) = X := ⟨_, rfl⟩
         have zg2 := hX1
         unfold zb8 at zg2
         rw [zg2]
         rw [hX1] at hq hg
         have HX1 := Lib.hid (HV2.out.grown hg HV2.out.size (fun j hj => by cases hj; exact HLO.out))
         refine HK7.out _ _ ⟨fun _ _ => HAB.out _ HX1.out, ?_⟩
         clear HK7 K7 cc0 cc1 cc2 cc3 f0 f1 f2 f3 hg hX1 zg2
         (try simp only [Act.put, sa, sz, ss])
         refine qY.qy5 (by kernel_rfl) ?_ _
         go_wp2_with fail
         go_meet
         exact ⟨q, rfl, hq, HLO.out, HX1.out⟩
        ·skip
         have HK7 := Lib.hid hK7
         clear hK7
         refine qY.zj2 rfl rfl ?_
         (try simp only [List.getElem_toArray, List.getElem_cons_succ, List.getElem_cons_zero])
         unfold Oper.wp
         go_simp
         obtain ⟨q, hq⟩ : ∃ q, V0.heap.size = q := ⟨_, rfl⟩
         obtain ⟨V1, hN⟩ : ∃ N, V0.alloc (.cells #[.int .i64 0, .int .i64 0, .int .i64 0, .int .i64 0] 41) = N := ⟨_, rfl⟩
         have hz : V1.heap[q]? = some (.cells #[.int .i64 0, .int .i64 0, .int .i64 0, .int .i64 0] 41 (0, 0)) := by rw [← hN, ← hq]; exact alloc_at _ _
         have hbA : Below V0.heap.size V0 V1 := by rw [← hN]; exact (Below.refl _ _).alloc (Nat.le_refl _) _
         have HV1 := Lib.hid (HV0.out.trans (hbA.mono HV0.out.size))
         rw [hN]
         rw [hq]
         have HQ := Lib.hid hz
         have HLO := Lib.hid (show wr.heap.size ≤ q from by rw [← hq]; exact HV0.out.size)
         refine HK7.out _ _ ⟨fun _ _ => HAB.out _ HV1.out, ?_⟩
         clear HK7 K7 hz hbA hN hq
         (try simp only [Act.put, sa, sz, ss])
         refine zT (i := 14) rfl (by kernel_rfl) rfl ?_
         intro K7 hK7
         have HK7 := Lib.hid hK7
         clear hK7
         (try simp only [List.getElem_toArray, List.getElem_cons_succ, List.getElem_cons_zero])
         unfold Oper.wp
         go_simp
         go_at_call 33
         refine (HCN.out _ (HBW.out.trans (HV1.out.mono HBW.out.size))).mono ?_
         rintro e V2 ⟨rfl, hbC⟩
         have HV2 := Lib.hid (HV1.out.trans (hbC.mono HV1.out.size))
         replace HQ := Lib.hid ((hbC.block _ (Array.getElem?_eq_some_iff.1 HQ.out).1).trans HQ.out)
         refine HK7.out _ _ ⟨fun _ _ => HAB.out _ HV2.out, ?_⟩
         clear HK7 K7 hbC
         (try simp only [Act.put, sa, sz, ss])
         refine pu (i := 19) (v := .int .i64 ((m : Int) + c2)) rfl (fun _ => by go_simp; exact w64 (by omega) (by omega)) ?_
         simp only [Act.put, sa, sz, ss]
         refine pu (i := 26) (v := .agg #[.int .i64 ((sn : Int) + a2), .int .i64 ((i : Int) + b2), .int .i64 ((m : Int) + c2), .int .i64 ((kn : Int) + d2)]) rfl (fun _ => by go_simp) ?_
         simp only [Act.put, sa, sz, ss]
         have cc0 := Lib.cell_of_heap HQ.out 0
         have cc1 := Lib.cell_of_heap HQ.out 1
         have cc2 := Lib.cell_of_heap HQ.out 2
         have cc3 := Lib.cell_of_heap HQ.out 3
         have f0 := Lib.frozen_of_heap HQ.out 0
         have f1 := Lib.frozen_of_heap HQ.out 1
         have f2 := Lib.frozen_of_heap HQ.out 2
         have f3 := Lib.frozen_of_heap HQ.out 3
         simp only [List.getElem?_toArray, List.getElem?_cons_zero, List.getElem?_cons_succ] at cc0 cc1 cc2 cc3
         refine zT (i := 28) rfl (by kernel_rfl) rfl ?_
         intro K7 hK7
         have HK7 := Lib.hid hK7
         clear hK7
         (try simp only [List.getElem_toArray, List.getElem_cons_succ, List.getElem_cons_zero])
         unfold Oper.wp
         go_simp
         have hq := jt7 HQ.out ((sn : Int) + a2) ((i : Int) + b2) ((m : Int) + c2) (.int .i64 ((kn : Int) + d2))
         have hg := jq5 V2 q ((sn : Int) + a2) ((i : Int) + b2) ((m : Int) + c2) (.int .i64 ((kn : Int) + d2))
         obtain ⟨X1, hX1⟩ : ∃ X, zb8 V2 q ((sn : Int) + a2) ((i : Int) + b2) ((m : Int) + c2) (.int .i64 ((kn : Int) + d2)) = X := ⟨_, rfl⟩
         have zg2 := hX1
         unfold zb8 at zg2
         rw [zg2]
         rw [hX1] at hq hg
         have HX1 := Lib.hid (HV2.out.grown hg HV2.out.size (fun j hj => by cases hj; exact HLO.out))
         refine HK7.out _ _ ⟨fun _ _ => HAB.out _ HX1.out, ?_⟩
         clear HK7 K7 cc0 cc1 cc2 cc3 f0 f1 f2 f3 hg hX1 zg2
         (try simp only [Act.put, sa, sz, ss])
         refine qY.qy5 (by kernel_rfl) ?_ _
         go_wp2_with fail
         go_meet
         exact ⟨q, rfl, hq, HLO.out, HX1.out⟩
       case rest =>
        rename World => w5
        obtain ⟨q, rfl, hq, hlo, hb⟩ := hcut
        have HB45 := Lib.hid hb
        have HQ := Lib.hid hq
        have HB5 := Lib.hid (HBW.out.trans (hb.mono HBW.out.size))
        obtain ⟨S, hS⟩ : ∃ S : Int, (sn : Int) + a2 = S := ⟨_, rfl⟩
        obtain ⟨T, hT⟩ : ∃ S : Int, (i : Int) + b2 = S := ⟨_, rfl⟩
        obtain ⟨O, hOO⟩ : ∃ S : Int, (m : Int) + c2 = S := ⟨_, rfl⟩
        obtain ⟨K, hK⟩ : ∃ S : Int, (kn : Int) + d2 = S := ⟨_, rfl⟩
        rw [hS, hT, hOO, hK] at HQ
        obtain ⟨L, hL⟩ : ∃ L, qr8 S T O K i m = L := ⟨_, rfl⟩
        have hLn : L.length ≤ 60000 := by rw [← hL]; exact zD4 (by omega) (by omega) (by omega) (by omega)
        have Qf2 := zP0 HCZ.out (by rw [HN.out]; omega) (by rw [HM.out]; omega) S T O K
        rw [HN.out, HM.out, hL, HX.out.1] at Qf2
        have HLAW := Lib.hid Qf2
        have HLL := Lib.hid hL
        have HCHK := Lib.hid (fun y (hy : y ∈ L) => (jD2 (S := S) (T := T) (O := O) (K := K) (n := i) (m := m) (by omega) (by omega)).1 (HLL.out.symm ▸ hy))
        have hli := fun V => jt4 (S := S) (T := T) (O := O) (K := K) (n := i) (m := m) (most := 1000000) (L := L) (by omega) (by omega) HLL.out (by omega) (js4 (by omega) (by omega)) V
        rw [show L.take (max (1000000 : Int) 1).toNat = L from List.take_of_length_le (by omega)] at hli
        have HLI := Lib.hid hli
        clear hq hb Qf2 hL hli hS hT hOO hK ha3 hb3 hc3' hd3 hlo
        go_upto_region 19 with fail
        go_cut [100, 101, 102] (fun v100 v101 v102 wx => ∃ A5 c5 its C, v100 = .slice A5 L.length c5 ∧ v101 = .int .i64 (L.length : Int) ∧ v102 = .int .i64 0 ∧ LS (0 : Nat) (.slice A5 L.length c5) its C wx ∧ its.map IT.h = L ∧ Below w5.heap.size w5 wx)
        case first =>
         have HQV := Lib.hid (((Below.refl w5.heap.size w5).drew.block q (Array.getElem?_eq_some_iff.1 HQ.out).1).trans HQ.out)
         have hV0 : Below w5.heap.size w5 w5.drew := (Below.refl _ _).drew
         obtain ⟨V0, hV⟩ : ∃ V0, w5.drew = V0 := ⟨_, rfl⟩
         refine qY.qu5 [] (TQ q S T O K) (by kernel_rfl) ?_
         rw [hV] at hV0 HQV ⊢
         have HV0 := Lib.hid hV0
         have hAA := TQ.of HQV.out
         clear hV hV0
         refine ta (i := 0) (v := .agg #[.int .i64 S, .int .i64 T, .int .i64 O, .int .i64 K]) rfl (fun _ hW => by obtain ⟨q0, q1, q2, q3⟩ := hW; go_simp) hAA ?_
         simp only [Act.put, sa, sz, ss]
         refine pu (i := 1) (v := .slice A i cap) rfl (fun _ => by go_simp) ?_
         simp only [Act.put, sa, sz, ss]
         refine pu (i := 2) (v := .int .i64 (i : Int)) rfl (fun _ => by go_simp) ?_
         simp only [Act.put, sa, sz, ss]
         refine pu (i := 3) (v := .slice A i cap) rfl (fun _ => by go_simp) ?_
         simp only [Act.put, sa, sz, ss]
         refine pu (i := 7) (v := .int .i64 0) rfl (fun _ => by go_simp) ?_
         simp only [Act.put, sa, sz, ss]
         have HTQ := Lib.hid (fun X (hb : Below V0.heap.size V0 X) => TQ.of ((hb.block q (Array.getElem?_eq_some_iff.1 HQV.out).1).trans HQV.out))
         refine zT (i := 4) rfl (by kernel_rfl) rfl ?_
         intro K7 hK7
         have HK7 := Lib.hid hK7
         clear hK7
         (try simp only [List.getElem_toArray, List.getElem_cons_succ, List.getElem_cons_zero])
         unfold Oper.wp
         go_simp
         go_at_call 33
         refine (HCN.out _ (HB5.out.trans (HV0.out.mono HB5.out.size))).mono ?_
         rintro e V1 ⟨rfl, hbC⟩
         have HV1 := Lib.hid hbC
         refine HK7.out _ _ ⟨fun _ _ => HTQ.out _ HV1.out, ?_⟩
         clear HK7 K7 hbC hAA
         (try simp only [Act.put, sa, sz, ss])
         refine zT (i := 5) rfl (by kernel_rfl) rfl ?_
         intro K7 hK7
         have HK7 := Lib.hid hK7
         clear hK7
         (try simp only [List.getElem_toArray, List.getElem_cons_succ, List.getElem_cons_zero])
         unfold Oper.wp
         go_simp
         go_at_call 24
         refine (HLI.out V1).mono ?_
         rintro e V2 ⟨⟨v5, its, C5, rfl, hls, hmp⟩, hbC⟩
         have HV2 := Lib.hid (HV1.out.trans (hbC.mono HV1.out.size))
         obtain ⟨A5, c5, rfl, hc5⟩ := LS.slice hls
         have hil : its.length = L.length := by rw [← hmp, List.length_map]
         rw [hil] at hls ⊢
         have HLS := Lib.hid (LS.zero hls)
         have HMP := Lib.hid hmp
         refine HK7.out _ _ ⟨fun _ _ => HTQ.out _ HV2.out, ?_⟩
         clear HK7 K7 hbC hls hmp hil
         (try simp only [Act.put, sa, sz, ss])
         refine pu (i := 6) (v := .int .i64 (L.length : Int)) rfl (fun _ => by go_simp) ?_
         simp only [Act.put, sa, sz, ss]
         (try simp only [List.getElem_toArray, List.getElem_cons_succ, List.getElem_cons_zero, Act.put, sa, sz, ss])
         refine qY.qy5 (by kernel_rfl) ?_ _
         go_wp2_with fail
         go_meet
         exact ⟨A5, c5, its, C5, rfl, rfl, rfl, HLS.out, HMP.out, HV0.out.trans (HV2.out.mono HV0.out.size)⟩
        case rest =>
         rename World => w6
         obtain ⟨A5, c5, its, C5, rfl, rfl, rfl, hls, hmp, hb6⟩ := hcut
         have hil : its.length = L.length := by rw [← hmp, List.length_map]
         have HB6 := Lib.hid (HB5.out.trans (hb6.mono HB5.out.size))
         have HQ6 := Lib.hid ((hb6.block q (Array.getElem?_eq_some_iff.1 HQ.out).1).trans HQ.out)
         have HK6 := Lib.hid (HK3.out.2.below ((HBr.out.trans (HB45.out.mono HBr.out.size)).trans (hb6.mono (Nat.le_trans HBr.out.size HB45.out.size))))
         obtain ⟨nl, hnl⟩ : ∃ nl, L.length = nl := ⟨_, rfl⟩
         rw [hnl] at hls hil ⊢
         have HNL := Lib.hid hnl
         have HMP := Lib.hid hmp
         have HIL := Lib.hid hil
         have HLS := Lib.hid hls
         have hnl6 : nl ≤ 60000 := by omega
         clear hls hmp hil hnl hb6
         go_wp2_with fail
         go_loopw [13, 102] (fun v13 v wr => ∃ j : Nat, j ≤ nl ∧ v = .int .i64 ((j : Nat) : Int) ∧ v13 = .int .i64 (((L.take j).count x : Nat) : Int) ∧ Below w6.heap.size w6 wr) (fun _ v _ => nl - (intOf v).toNat)
         case atStart => exact ⟨0, Nat.zero_le _, rfl, by simp, Below.refl _ _⟩
         case round =>
          rename World => w7
          obtain ⟨j, hj, rfl, rfl, hb7⟩ := hrel
          by_cases hjt : j < nl
          ·have hjz : (j : Int) < (nl : Int) := by omega
           have Qf3 : LS 0 (.slice A5 its.length c5) its C5 w6 := by rw [HIL.out]; exact HLS.out
           obtain ⟨ad, rfl, hch⟩ := Qf3.reads (by rw [HIL.out]; omega)
           obtain ⟨it, hit⟩ : ∃ it, its[j]? = some it := ⟨_, List.getElem?_eq_getElem (by rw [HIL.out]; exact hjt)⟩
           have y0 := cell_below hb7 (hch j it hit)
           have hyl : L[j]? = some it.h := by rw [← HMP.out, List.getElem?_map, hit]; rfl
           obtain ⟨y, hy⟩ : ∃ y, it.h = y := ⟨_, rfl⟩
           obtain ⟨A7, c7, hv7, hc7, hr7⟩ := ((Qf3.h2 it (List.mem_of_getElem? hit)).below hb7).rd
           rw [hy] at hyl hc7 hr7 hv7
           rw [hv7] at y0
           obtain ⟨_, Qq1, zn0, _⟩ := HCHK.out y (List.mem_of_getElem? hyl)
           rw [Int.toNat_natCast] at zn0
           have HTL := Lib.hid (show L.take (j + 1) = L.take j ++ [y] by rw [List.take_add_one, hyl]; rfl)
           have Qf4 := qy9 HCZ.out
           rw [HX.out.1] at Qf4
           obtain ⟨p, hp⟩ : ∃ p, decide (x = y) = p := ⟨_, rfl⟩
           have hsm := jV0 (jX7 (HK6.out.below hb7)) (by rw [HX.out.2]; exact HK3.out.1) (by rw [HX.out.2]; omega) (fun t ht => Nat.le_trans (zY0 Qf4 t ht) (by omega)) hr7 hc7
           rw [hp] at hsm
           rw [HX.out.2, zn0] at hsm
           rw [zn0] at y0
           have HSM := Lib.hid hsm
           have HB7 := Lib.hid hb7
           have HP := Lib.hid hp
           clear hsm hch hit hyl hy hv7 hc7 hr7 Qq1 zn0 Qf4 hb7 Qf3 hp
           have hcl := List.count_le_length (a := x) (l := L.take j)
           rw [List.length_take] at hcl
           obtain ⟨ct, hct⟩ : ∃ ct, (L.take j).count x = ct := ⟨_, rfl⟩
           rw [hct] at hcl ⊢
           have hct6 : ct ≤ 60000 := by omega
           have HCT := Lib.hid hct
           clear hct hcl
           cases p with
           | true =>
            have hxy : x = y := of_decide_eq_true HP.out
            have HC1 := Lib.hid (show (L.take (j + 1)).count x = ct + 1 by rw [HTL.out, List.count_append, HCT.out, ← hxy]; simp)
            clear hxy
            go_wp2_with (go_at_call 18; (with_reducible refine HSM.out.mono ?_); rintro e w8 ⟨rfl, hb8⟩; have HB8 := Lib.hid (HB7.out.trans (hb8.mono HB7.out.size)); clear hb8)
            go_roundw
            case rel => exact ⟨j + 1, by omega, by go_num, by rw [HC1.out]; go_num, HB8.out⟩
            case measure => (simp [intOf]; try omega)
           | false =>
            have hxy : ¬ x = y := of_decide_eq_false HP.out
            have HC1 := Lib.hid (show (L.take (j + 1)).count x = ct by rw [HTL.out, List.count_append, HCT.out, List.count_eq_zero_of_not_mem (l := [y]) (by simp [hxy])]; rfl)
            clear hxy
            go_wp2_with (go_at_call 18; (with_reducible refine HSM.out.mono ?_); rintro e w8 ⟨rfl, hb8⟩; have HB8 := Lib.hid (HB7.out.trans (hb8.mono HB7.out.size)); clear hb8)
            go_roundw
            case rel => exact ⟨j + 1, by omega, by go_num, by rw [HC1.out], HB8.out⟩
            case measure => (simp [intOf]; try omega)
          ·have hjn : j = nl := by omega
           subst hjn
           rw [List.take_of_length_le (l := L) (i := j) (by rw [HNL.out]; exact Nat.le_refl _), HLAW.out]
           have HB7 := Lib.hid (HB6.out.trans (hb7.mono HB6.out.size))
           have hq7 := TQ.of ((hb7.block q (Array.getElem?_eq_some_iff.1 HQ6.out).1).trans HQ6.out)
           obtain ⟨q0, q1, q2, q3⟩ := hq7
           have hwi := jK4 (S := S) (T := T) (O := O) (K := K) HCAP.out HCZ.out (HR.out.below HB7.out)
           rw [HN.out] at hwi
           have HWI := Lib.hid hwi
           clear hwi hb7
           go_wp2_with (go_at_call 34; (with_reducible refine HWI.out.mono ?_); rintro e w8 ⟨rfl, hb8⟩; have HB8 := Lib.hid (HB7.out.trans (hb8.mono HB7.out.size)); clear hb8)
           go_ret
           exact ⟨by simp, HB8.out⟩
  ·have hq : (cz == 0) = false := by simp [hc]
   go_wp2_with (go_at_call 14; (with_reducible refine HRF.out.mono ?_); rintro e v2 ⟨rfl, hb2⟩; have HB2 := Lib.hid (HB1.out.trans (hb2.mono HB1.out.size)); clear hb2)
   go_ret
   exact ⟨rfl, HB2.out⟩
end Go.Proofs.Ytngkneknopenmaa.Enum
end
