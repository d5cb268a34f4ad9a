/- Texts of this claim, joined by a program of this session: the declarations that its theorem uses. -/
import Derived.Test.YtanofkgnjmegdaaDoorZP18
set_option linter.unusedVariables false
set_option linter.unusedSimpArgs false
section
namespace Go.Proofs.YtanofkgnjmegdaaDoor.Q
open Go.Proofs.YtanofkgnjmegdaaDoor Go.Proofs.YtanofkgnjmegdaaDoor.Hand Go.Proofs.YtanofkgnjmegdaaDoor.Give Go.Proofs.YtanofkgnjmegdaaDoor.K
open Go.RowKit Go.Proofs.YtanofkgnjmegdaaDoorW.PrintWords Go.Proofs.YtanofkgnjmegdaaDoorW.PrintLast Go.Proofs.YtanofkgnjmegdaaDoorW.PrintMore
attribute [local go_sem] qbv qbt qb3 qb2 qbl qbk qbu qbs   -- for this text's walks alone
set_option linter.unusedVariables false
set_option linter.unusedSimpArgs false
def burgageref07_opOf.f (k : Nat) (a0 : ByteArray) : Option (Bool × Int × Int × Bool) := (burgageref03_Words.f k a0 2).bind fun bt174 => (if bt174.2.2 = true then (if bt174.1.toList = ([114] : List UInt8) then (if 0 < (bt174.2.1.length : Int) then (if (rd bt174.2.1 0) > 63 then (some (false, 0, 0, false)) else (if bt174.1.toList = ([119] : List UInt8) then (if 1 < (bt174.2.1.length : Int) then (if (rd bt174.2.1 1) = 0 then (some (false, 0, 0, false)) else (some ((bt174.1.toList == ([119] : List UInt8)), rd bt174.2.1 0, rd bt174.2.1 1, true))) else (none)) else (if 1 < (bt174.2.1.length : Int) then (some ((bt174.1.toList == ([119] : List UInt8)), rd bt174.2.1 0, rd bt174.2.1 1, true)) else (none)))) else (none)) else (if bt174.1.toList = ([119] : List UInt8) then (if 0 < (bt174.2.1.length : Int) then (if (rd bt174.2.1 0) > 63 then (some (false, 0, 0, false)) else (if 1 < (bt174.2.1.length : Int) then (if (rd bt174.2.1 1) = 0 then (some (false, 0, 0, false)) else (some ((bt174.1.toList == ([119] : List UInt8)), rd bt174.2.1 0, rd bt174.2.1 1, true))) else (none))) else (none)) else (some (false, 0, 0, false)))) else (some (false, 0, 0, false)))
theorem burgageref07_opOf.mono : ∀ a0 k, LeO (burgageref07_opOf.f k a0) (burgageref07_opOf.f (k + 1) a0) := by
 intro a0 k
 unfold burgageref07_opOf.f
 repeat' first
   | (with_reducible exact burgageref03_Words.mono _ _ _)
   | (with_reducible exact LeO.refl _)
   | (with_reducible exact LeO.none _)
   | (with_reducible refine LeO.ite ?_ ?_)
   | (with_reducible refine LeO.bind ?_ (fun _ => ?_))
   | exact burgageref03_Words.mono _ _ _
   | exact LeO.none _
   | refine LeO.ite ?_ ?_
   | refine LeO.bind ?_ (fun _ => ?_)
def burgageref07_opOf.T4 : Bool × List (List Nat × List Nat) := (true, [([], []), ([0], [0]), ([], []), ([2], [2]), ([3], [3]), ([], []), ([5], [5]), ([6], [6]), ([1, 4, 7], [1, 4, 7]), ([8, 0, 1, 2, 3, 4, 5, 6, 7, 8], [8]), ([9, 0, 1, 2, 3, 4, 5, 6, 7, 8, 9], [])])
def burgageref07_opOf.B4 : List Nat := [0, 1, 0, 4, 12, 0, 32, 96, 255, 511, 1023]
theorem burgageref07_opOf.tab4 : rtab .any (opsOf Tryd.f36 4) = burgageref07_opOf.T4 := by kernel_rfl
theorem burgageref07_opOf.bits4 : waitsOk burgageref07_opOf.T4.2 burgageref07_opOf.B4 = true := by kernel_rfl
set_option maxHeartbeats 8000000 in
set_option maxRecDepth 100000 in
theorem burgageref07_opOf.calls (k : Nat) (a0 : ByteArray) (r1 : Bool) (r2 : Int) (r3 : Int) (r4 : Bool) (w : World) (h : burgageref07_opOf.f k a0 = some (r1, r2, r3, r4)) (HY : Laid w) :
  Calls Tryd.prog 36 #[.string a0] w fun e w' => e = .returned (.tuple #[.agg #[.bool r1, .int .i64 r2, .int .i64 r3], .bool r4]) ∧ Below w.heap.size w w' := by
 have hu48 := Tryd.underlying48
 have HB := Aside0.mk (Below.refl w.heap.size w)
 have H : ((burgageref03_Words.f k a0 2).bind fun bt174 => (if bt174.2.2 = true then (if bt174.1.toList = ([114] : List UInt8) then (if 0 < (bt174.2.1.length : Int) then (if (rd bt174.2.1 0) > 63 then (some (false, 0, 0, false)) else (if bt174.1.toList = ([119] : List UInt8) then (if 1 < (bt174.2.1.length : Int) then (if (rd bt174.2.1 1) = 0 then (some (false, 0, 0, false)) else (some ((bt174.1.toList == ([119] : List UInt8)), rd bt174.2.1 0, rd bt174.2.1 1, true))) else (none)) else (if 1 < (bt174.2.1.length : Int) then (some ((bt174.1.toList == ([119] : List UInt8)), rd bt174.2.1 0, rd bt174.2.1 1, true)) else (none)))) else (none)) else (if bt174.1.toList = ([119] : List UInt8) then (if 0 < (bt174.2.1.length : Int) then (if (rd bt174.2.1 0) > 63 then (some (false, 0, 0, false)) else (if 1 < (bt174.2.1.length : Int) then (if (rd bt174.2.1 1) = 0 then (some (false, 0, 0, false)) else (some ((bt174.1.toList == ([119] : List UInt8)), rd bt174.2.1 0, rd bt174.2.1 1, true))) else (none))) else (none)) else (some (false, 0, 0, false)))) else (some (false, 0, 0, false)))) = some (r1, r2, r3, r4) := h
 clear h
 replace H := Option.bind_eq_some_iff.mp H
 obtain ⟨⟨t174, t175, t176⟩, A20, H⟩ := H
 replace H : (if t176 = true then (if t174.toList = ([114] : List UInt8) then (if 0 < (t175.length : Int) then (if (rd t175 0) > 63 then (some (false, 0, 0, false)) else (if t174.toList = ([119] : List UInt8) then (if 1 < (t175.length : Int) then (if (rd t175 1) = 0 then (some (false, 0, 0, false)) else (some ((t174.toList == ([119] : List UInt8)), rd t175 0, rd t175 1, true))) else (none)) else (if 1 < (t175.length : Int) then (some ((t174.toList == ([119] : List UInt8)), rd t175 0, rd t175 1, true)) else (none)))) else (none)) else (if t174.toList = ([119] : List UInt8) then (if 0 < (t175.length : Int) then (if (rd t175 0) > 63 then (some (false, 0, 0, false)) else (if 1 < (t175.length : Int) then (if (rd t175 1) = 0 then (some (false, 0, 0, false)) else (some ((t174.toList == ([119] : List UInt8)), rd t175 0, rd t175 1, true))) else (none))) else (none)) else (some (false, 0, 0, false)))) else (some (false, 0, 0, false))) = some (r1, r2, r3, r4) := H
 have A2 := Aside0.mk A20
 clear A20
 by_cases c3 : t176 = true
 ·subst c3
  have H1 : (if t174.toList = ([114] : List UInt8) then (if 0 < (t175.length : Int) then (if (rd t175 0) > 63 then (some (false, 0, 0, false)) else (if t174.toList = ([119] : List UInt8) then (if 1 < (t175.length : Int) then (if (rd t175 1) = 0 then (some (false, 0, 0, false)) else (some ((t174.toList == ([119] : List UInt8)), rd t175 0, rd t175 1, true))) else (none)) else (if 1 < (t175.length : Int) then (some ((t174.toList == ([119] : List UInt8)), rd t175 0, rd t175 1, true)) else (none)))) else (none)) else (if t174.toList = ([119] : List UInt8) then (if 0 < (t175.length : Int) then (if (rd t175 0) > 63 then (some (false, 0, 0, false)) else (if 1 < (t175.length : Int) then (if (rd t175 1) = 0 then (some (false, 0, 0, false)) else (some ((t174.toList == ([119] : List UInt8)), rd t175 0, rd t175 1, true))) else (none))) else (none)) else (some (false, 0, 0, false)))) = some (r1, r2, r3, r4) := by rw [if_pos rfl] at H; exact H
  clear H
  have H := H1
  clear H1
  by_cases c4 : t174.toList = ([114] : List UInt8)
  ·rw [if_pos c4] at H
   have c4b0 : (t174.toList == ([114] : List UInt8)) = true := beq_iff_eq.mpr c4
   have c4b1 : (t174.toList != ([114] : List UInt8)) = false := bne_eq_false_iff_eq.mpr c4
   clear c4
   by_cases c5 : 0 < (t175.length : Int)
   ·rw [if_pos c5] at H
    have c5b0 : decide (0 < (t175.length : Int)) = true := decide_eq_true c5
    have c5b1 : decide (0 < t175.length) = true := decide_eq_true (by omega)
    clear c5
    by_cases c6 : (rd t175 0) > 63
    ·rw [if_pos c6] at H
     have c6b0 : decide (63 < (rd t175 0)) = true := decide_eq_true c6
     clear c6
     simp only [Option.some.injEq, Prod.mk.injEq] at H
     obtain ⟨rfl, rfl, rfl, rfl⟩ := H
     go_enter Tryd.func36, Tryd.ntmps36
     go_wp2_with (first | ((with_reducible refine qat (N := 2) rfl ?_); refine qas ?hg (N := 2) ?hd (cs := #[.bool false, .int .i64 0, .int .i64 0]) (t := 48) ?hr ?_; (case hd => rfl); (case hg => rfl); (case hr => first | (go_simp; done) | (go_simp; rfl)); intro gb173 hg w7 hbox hb; have n0_ := Aside0.mk (qal (by repeat (first | (with_reducible first | exact HB.out | apply qab | apply qaa | apply qac) | exact HB.out)) hb); have n1_ := Aside0.mk (hbox); have n2_ := Aside0.mk ((by rw [hg]; exact (qak (by repeat (first | (with_reducible first | exact HB.out | apply qab | apply qaa | apply qac) | exact HB.out))) : w.heap.size ≤ gb173)); have n3_ := Aside0.mk ((by rw [hg]; exact (qak (by repeat (first | (with_reducible first | exact HB.out | apply qab | apply qaa | apply qac) | exact HB.out))) : w.heap.size ≤ gb173)); clear HB; have HB := n0_; have BK173 := n1_; have GW173 := n2_; have GE173 := n3_; clear n0_ n1_ n2_ n3_; clear hb hbox hg) | ((with_reducible refine qao (f := 35) rfl ?_); refine qav (some 9) rfl rfl Tryd.func35 (by kernel_rfl) rfl #[.string a0, .int .i64 2] rfl (by (try simp only [List.map_toArray, List.map_cons, List.map_nil]); first | done | rfl | (simp only [List.length_drop, List.length_take]; rfl)) ?_; (with_reducible refine (burgageref03_Words.calls k a0 2 t174 t175 true _ A2.out (Laid.below HY (by repeat (first | (with_reducible first | exact HB.out | apply qab | apply qaa | apply qac | refine qai ?_ GE173.out) | exact HB.out)))).mono ?_); rintro e w8 ⟨v177, rfl, ho0, hb⟩; refine ⟨_, rfl, ?_⟩; have n0_ := Aside0.mk (Kd.R_lower ho0 (qak (by repeat (first | (with_reducible first | exact HB.out | apply qab | apply qaa | apply qac | refine qai ?_ GE173.out) | exact HB.out)))); have n1_ := Aside0.mk (qar (g := gb173) (o := .cells #[.bool false, .int .i64 0, .int .i64 0] 48 (0, 0)) (by (with_reducible repeat (first | refine qaf ?_ _ | refine qaj ?_ | refine qag ?_ _)); exact BK173.out) hb); have n2_ := Aside0.mk (qal (by repeat (first | (with_reducible first | exact HB.out | apply qab | apply qaa | apply qac | refine qai ?_ GE173.out) | exact HB.out)) hb); clear BK173; clear HB; have HO178 := n0_; have BK173 := n1_; have HB := n2_; clear n0_ n1_ n2_; (try clear hb); (try clear hb2); (try clear hk); (try clear hi); (try clear ho0); obtain ⟨Ao9, co9, eo9⟩ := Kd.R_slice HO178.out; subst eo9; have p179 : 0 ≤ (0 : Int) := (by omega); have q179 : 0 < (t175.length : Int) := of_decide_eq_true (by first | (with_reducible assumption) | assumption); obtain ⟨ad179, e179, hx179_0⟩ := Kd.at_int (Kd.qau HO178.out).2.2 0 p179 q179; cases e179; have qi179 : (0 < t175.length) = True := eq_true (by omega); (try rw [show ((0 : Int)).toNat = 0 from rfl] at hx179_0); (try rw [Addr.add_zero'] at hx179_0); replace p179 := eq_true p179; replace q179 := eq_true q179; have hcz10_0 : w8.cell? ⟨gb173, 0, none⟩ = some (.bool false) := (qah BK173.out 0).trans rfl; have hcz10_1 : w8.cell? ⟨gb173, 1, none⟩ = some (.int .i64 0) := (qah BK173.out 1).trans rfl; have hcz10_2 : w8.cell? ⟨gb173, 2, none⟩ = some (.int .i64 0) := (qah BK173.out 2).trans rfl; have hfz10_0 := qae BK173.out 0; have hfz10_1 := qae BK173.out 1; have hfz10_2 := qae BK173.out 2))
     refine bodyPost_ret (qbd rfl _ _ gb173 48 #[.bool false, .int .i64 0, .int .i64 0] (0, 0) _ rfl (by (with_reducible repeat (first | refine qaf ?_ _ | refine qaj ?_ | refine qag ?_ _)); refine qaq (cs := #[.bool false, .int .i64 0, .int .i64 0]) ?_ 2 _ rfl; (with_reducible repeat (first | refine qaf ?_ _ | refine qaj ?_ | refine qag ?_ _)); refine qaq (cs := #[.bool false, .int .i64 0, .int .i64 0]) ?_ 1 _ rfl; (with_reducible repeat (first | refine qaf ?_ _ | refine qaj ?_ | refine qag ?_ _)); refine qaq (cs := #[.bool false, .int .i64 0, .int .i64 0]) ?_ 0 _ rfl; (with_reducible repeat (first | refine qaf ?_ _ | refine qaj ?_ | refine qag ?_ _)); exact BK173.out) Tryd.underlying48 rfl (by kernel_rfl)) rfl ?_
     exact ⟨by first | rfl | (simp [qan, qam] <;> rfl) | (simp [*, qan, qam] <;> rfl), by repeat (first | (with_reducible first | exact HB.out | apply qab | apply qaa | apply qac | refine qai ?_ GE173.out) | exact HB.out)⟩
    ·rw [if_neg c6] at H
     have c6b0 : decide (63 < (rd t175 0)) = false := decide_eq_false c6
     clear c6
     by_cases c11 : t174.toList = ([119] : List UInt8)
     ·rw [if_pos c11] at H
      have c11b0 : (t174.toList == ([119] : List UInt8)) = true := beq_iff_eq.mpr c11
      have c11b1 : (t174.toList != ([119] : List UInt8)) = false := bne_eq_false_iff_eq.mpr c11
      clear c11
      by_cases c12 : 1 < (t175.length : Int)
      ·rw [if_pos c12] at H
       have c12b0 : decide (1 < (t175.length : Int)) = true := decide_eq_true c12
       have c12b1 : decide (1 < t175.length) = true := decide_eq_true (by omega)
       clear c12
       by_cases c13 : (rd t175 1) = 0
       ·rw [if_pos c13] at H
        have c13b0 : ((rd t175 1) == 0) = true := beq_iff_eq.mpr c13
        have c13b1 : ((rd t175 1) != 0) = false := bne_eq_false_iff_eq.mpr c13
        clear c13
        simp only [Option.some.injEq, Prod.mk.injEq] at H
        obtain ⟨rfl, rfl, rfl, rfl⟩ := H
        go_enter Tryd.func36, Tryd.ntmps36
        go_wp2_with (first | ((with_reducible refine qat (N := 2) rfl ?_); refine qas ?hg (N := 2) ?hd (cs := #[.bool false, .int .i64 0, .int .i64 0]) (t := 48) ?hr ?_; (case hd => rfl); (case hg => rfl); (case hr => first | (go_simp; done) | (go_simp; rfl)); intro gb173 hg w14 hbox hb; have n0_ := Aside0.mk (qal (by repeat (first | (with_reducible first | exact HB.out | apply qab | apply qaa | apply qac) | exact HB.out)) hb); have n1_ := Aside0.mk (hbox); have n2_ := Aside0.mk ((by rw [hg]; exact (qak (by repeat (first | (with_reducible first | exact HB.out | apply qab | apply qaa | apply qac) | exact HB.out))) : w.heap.size ≤ gb173)); have n3_ := Aside0.mk ((by rw [hg]; exact (qak (by repeat (first | (with_reducible first | exact HB.out | apply qab | apply qaa | apply qac) | exact HB.out))) : w.heap.size ≤ gb173)); clear HB; have HB := n0_; have BK173 := n1_; have GW173 := n2_; have GE173 := n3_; clear n0_ n1_ n2_ n3_; clear hb hbox hg) | ((with_reducible refine qao (f := 35) rfl ?_); refine qav (some 9) rfl rfl Tryd.func35 (by kernel_rfl) rfl #[.string a0, .int .i64 2] rfl (by (try simp only [List.map_toArray, List.map_cons, List.map_nil]); first | done | rfl | (simp only [List.length_drop, List.length_take]; rfl)) ?_; (with_reducible refine (burgageref03_Words.calls k a0 2 t174 t175 true _ A2.out (Laid.below HY (by repeat (first | (with_reducible first | exact HB.out | apply qab | apply qaa | apply qac | refine qai ?_ GE173.out) | exact HB.out)))).mono ?_); rintro e w15 ⟨v177, rfl, ho0, hb⟩; refine ⟨_, rfl, ?_⟩; have n0_ := Aside0.mk (Kd.R_lower ho0 (qak (by repeat (first | (with_reducible first | exact HB.out | apply qab | apply qaa | apply qac | refine qai ?_ GE173.out) | exact HB.out)))); have n1_ := Aside0.mk (qar (g := gb173) (o := .cells #[.bool false, .int .i64 0, .int .i64 0] 48 (0, 0)) (by (with_reducible repeat (first | refine qaf ?_ _ | refine qaj ?_ | refine qag ?_ _)); exact BK173.out) hb); have n2_ := Aside0.mk (qal (by repeat (first | (with_reducible first | exact HB.out | apply qab | apply qaa | apply qac | refine qai ?_ GE173.out) | exact HB.out)) hb); clear BK173; clear HB; have HO178 := n0_; have BK173 := n1_; have HB := n2_; clear n0_ n1_ n2_; (try clear hb); (try clear hb2); (try clear hk); (try clear hi); (try clear ho0); obtain ⟨Ao16, co16, eo16⟩ := Kd.R_slice HO178.out; subst eo16; have p179 : 0 ≤ (0 : Int) := (by omega); have q179 : 0 < (t175.length : Int) := of_decide_eq_true (by first | (with_reducible assumption) | assumption); obtain ⟨ad179, e179, hx179_0⟩ := Kd.at_int (Kd.qau HO178.out).2.2 0 p179 q179; cases e179; have qi179 : (0 < t175.length) = True := eq_true (by omega); (try rw [show ((0 : Int)).toNat = 0 from rfl] at hx179_0); (try rw [Addr.add_zero'] at hx179_0); replace p179 := eq_true p179; replace q179 := eq_true q179; have p180 : 0 ≤ (1 : Int) := (by omega); have q180 : 1 < (t175.length : Int) := of_decide_eq_true (by first | (with_reducible assumption) | assumption); obtain ⟨ad180, e180, hx180_0⟩ := Kd.at_int (Kd.qau HO178.out).2.2 1 p180 q180; obtain rfl : ad179 = ad180 := (by injection e180); (try simp only [show (1 : Int).toNat = 1 from rfl, Nat.reduceMul, Nat.reduceEqDiff, Go.Addr.add, ↓reduceIte] at hx180_0); have qi180 : (1 < t175.length) = True := eq_true (by omega); (try rw [show ((1 : Int)).toNat = 1 from rfl] at hx180_0); replace p180 := eq_true p180; replace q180 := eq_true q180; have hcz17_0 : w15.cell? ⟨gb173, 0, none⟩ = some (.bool false) := (qah BK173.out 0).trans rfl; have hcz17_1 : w15.cell? ⟨gb173, 1, none⟩ = some (.int .i64 0) := (qah BK173.out 1).trans rfl; have hcz17_2 : w15.cell? ⟨gb173, 2, none⟩ = some (.int .i64 0) := (qah BK173.out 2).trans rfl; have hfz17_0 := qae BK173.out 0; have hfz17_1 := qae BK173.out 1; have hfz17_2 := qae BK173.out 2))
        refine bodyPost_ret (qbd rfl _ _ gb173 48 #[.bool false, .int .i64 0, .int .i64 0] (0, 0) _ rfl (by (with_reducible repeat (first | refine qaf ?_ _ | refine qaj ?_ | refine qag ?_ _)); refine qaq (cs := #[.bool false, .int .i64 0, .int .i64 0]) ?_ 2 _ rfl; (with_reducible repeat (first | refine qaf ?_ _ | refine qaj ?_ | refine qag ?_ _)); refine qaq (cs := #[.bool false, .int .i64 0, .int .i64 0]) ?_ 1 _ rfl; (with_reducible repeat (first | refine qaf ?_ _ | refine qaj ?_ | refine qag ?_ _)); refine qaq (cs := #[.bool false, .int .i64 0, .int .i64 0]) ?_ 0 _ rfl; (with_reducible repeat (first | refine qaf ?_ _ | refine qaj ?_ | refine qag ?_ _)); exact BK173.out) Tryd.underlying48 rfl (by kernel_rfl)) rfl ?_
        exact ⟨by first | rfl | (simp [qan, qam] <;> rfl) | (simp [*, qan, qam] <;> rfl), by repeat (first | (with_reducible first | exact HB.out | apply qab | apply qaa | apply qac | refine qai ?_ GE173.out) | exact HB.out)⟩
       ·rw [if_neg c13] at H
        have c13b0 : ((rd t175 1) == 0) = false := beq_eq_false_iff_ne.mpr c13
        have c13b1 : ((rd t175 1) != 0) = true := bne_iff_ne.mpr c13
        simp only [Option.some.injEq, Prod.mk.injEq] at H
        obtain ⟨rfl, rfl, rfl, rfl⟩ := H
        go_enter Tryd.func36, Tryd.ntmps36
        try go_wp2_with (first | ((with_reducible refine qat (N := 2) rfl ?_); refine qas ?hg (N := 2) ?hd (cs := #[.bool false, .int .i64 0, .int .i64 0]) (t := 48) ?hr ?_; (case hd => rfl); (case hg => rfl); (case hr => first | (go_simp; done) | (go_simp; rfl)); intro gb173 hg w18 hbox hb; have n0_ := Aside0.mk (qal (by repeat (first | (with_reducible first | exact HB.out | apply qab | apply qaa | apply qac) | exact HB.out)) hb); have n1_ := Aside0.mk (hbox); have n2_ := Aside0.mk ((by rw [hg]; exact (qak (by repeat (first | (with_reducible first | exact HB.out | apply qab | apply qaa | apply qac) | exact HB.out))) : w.heap.size ≤ gb173)); have n3_ := Aside0.mk ((by rw [hg]; exact (qak (by repeat (first | (with_reducible first | exact HB.out | apply qab | apply qaa | apply qac) | exact HB.out))) : w.heap.size ≤ gb173)); clear HB; have HB := n0_; have BK173 := n1_; have GW173 := n2_; have GE173 := n3_; clear n0_ n1_ n2_ n3_; clear hb hbox hg) | ((with_reducible refine qao (f := 35) rfl ?_); refine qav (some 9) rfl rfl Tryd.func35 (by kernel_rfl) rfl #[.string a0, .int .i64 2] rfl (by (try simp only [List.map_toArray, List.map_cons, List.map_nil]); first | done | rfl | (simp only [List.length_drop, List.length_take]; rfl)) ?_; (with_reducible refine (burgageref03_Words.calls k a0 2 t174 t175 true _ A2.out (Laid.below HY (by repeat (first | (with_reducible first | exact HB.out | apply qab | apply qaa | apply qac | refine qai ?_ GE173.out) | exact HB.out)))).mono ?_); rintro e w19 ⟨v177, rfl, ho0, hb⟩; refine ⟨_, rfl, ?_⟩; have n0_ := Aside0.mk (Kd.R_lower ho0 (qak (by repeat (first | (with_reducible first | exact HB.out | apply qab | apply qaa | apply qac | refine qai ?_ GE173.out) | exact HB.out)))); have n1_ := Aside0.mk (qar (g := gb173) (o := .cells #[.bool false, .int .i64 0, .int .i64 0] 48 (0, 0)) (by (with_reducible repeat (first | refine qaf ?_ _ | refine qaj ?_ | refine qag ?_ _)); exact BK173.out) hb); have n2_ := Aside0.mk (qal (by repeat (first | (with_reducible first | exact HB.out | apply qab | apply qaa | apply qac | refine qai ?_ GE173.out) | exact HB.out)) hb); clear BK173; clear HB; have HO178 := n0_; have BK173 := n1_; have HB := n2_; clear n0_ n1_ n2_; (try clear hb); (try clear hb2); (try clear hk); (try clear hi); (try clear ho0); obtain ⟨Ao20, co20, eo20⟩ := Kd.R_slice HO178.out; subst eo20; have p179 : 0 ≤ (0 : Int) := (by omega); have q179 : 0 < (t175.length : Int) := of_decide_eq_true (by first | (with_reducible assumption) | assumption); obtain ⟨ad179, e179, hx179_0⟩ := Kd.at_int (Kd.qau HO178.out).2.2 0 p179 q179; cases e179; have qi179 : (0 < t175.length) = True := eq_true (by omega); (try rw [show ((0 : Int)).toNat = 0 from rfl] at hx179_0); (try rw [Addr.add_zero'] at hx179_0); replace p179 := eq_true p179; replace q179 := eq_true q179; have p180 : 0 ≤ (1 : Int) := (by omega); have q180 : 1 < (t175.length : Int) := of_decide_eq_true (by first | (with_reducible assumption) | assumption); obtain ⟨ad180, e180, hx180_0⟩ := Kd.at_int (Kd.qau HO178.out).2.2 1 p180 q180; obtain rfl : ad179 = ad180 := (by injection e180); (try simp only [show (1 : Int).toNat = 1 from rfl, Nat.reduceMul, Nat.reduceEqDiff, Go.Addr.add, ↓reduceIte] at hx180_0); have qi180 : (1 < t175.length) = True := eq_true (by omega); (try rw [show ((1 : Int)).toNat = 1 from rfl] at hx180_0); replace p180 := eq_true p180; replace q180 := eq_true q180))
        have n0_ := Aside0.mk (Kd.R_drew HO178.out)
        have n1_ := Aside0.mk (qaj BK173.out)
        have n2_ := Aside0.mk (qac HB.out)
        clear HO178
        clear BK173
        clear HB
        have HO178 := n0_
        have BK173 := n1_
        have HB := n2_
        clear n0_ n1_ n2_
        have p181 : 0 ≤ (0 : Int) := (by omega)
        have q181 : 0 < (t175.length : Int) := of_decide_eq_true (by first | (with_reducible assumption) | assumption)
        obtain ⟨ad181, e181, hx181_0⟩ := Kd.at_int (Kd.qau HO178.out).2.2 0 p181 q181
        obtain rfl : ad179 = ad181 := (by injection e181)
        have qi181 : (0 < t175.length) = True := eq_true (by omega)
        (try rw [show ((0 : Int)).toNat = 0 from rfl] at hx181_0)
        (try rw [Addr.add_zero'] at hx181_0)
        replace p181 := eq_true p181
        replace q181 := eq_true q181
        have p182 : 0 ≤ (1 : Int) := (by omega)
        have q182 : 1 < (t175.length : Int) := of_decide_eq_true (by first | (with_reducible assumption) | assumption)
        obtain ⟨ad182, e182, hx182_0⟩ := Kd.at_int (Kd.qau HO178.out).2.2 1 p182 q182
        obtain rfl : ad179 = ad182 := (by injection e182)
        (try simp only [show (1 : Int).toNat = 1 from rfl, Nat.reduceMul, Nat.reduceEqDiff, Go.Addr.add, ↓reduceIte] at hx182_0)
        have qi182 : (1 < t175.length) = True := eq_true (by omega)
        (try rw [show ((1 : Int)).toNat = 1 from rfl] at hx182_0)
        replace p182 := eq_true p182
        replace q182 := eq_true q182
        refine start_ (n := 11) (S := fun w' => w'.cell? ad179 = some (.int .i64 (rd t175 0)) ∧ w'.cell? ⟨ad179.block, ad179.off + 1, none⟩ = some (.int .i64 (rd t175 1))) (ds := []) #[false, false, false, false, false, false, false, false, false, false, false] (by kernel_rfl) rfl rfl ⟨hx181_0, hx182_0⟩ (fun hHeld => ?_); refine with_tabW burgageref07_opOf.tab4 burgageref07_opOf.bits4 (fun HT_ HW_ => ?_)
        generalize w19.drew = w21 at HO178 BK173 HB hx181_0 hx182_0 hHeld ⊢
        refine qbc (i := 0) (N := some 40) (v := ?_) (a' := ?_) #[true, false, false, false, false, false, false, false, false, false, false] rfl rfl (qa0 HT_.out (by kernel_rfl)) (fun _ _ _ h => h) (Or.inl ⟨by rfl, ?_⟩) ?_ ?_
        rotate_left
        ·intro w'
         go_simp
         with_reducible rfl
        rotate_left
        ·simp only [Act.put, List.setIfInBounds_toArray, List.set_cons_zero, List.set_cons_succ, qax, qay]
         rfl
        refine qbc (i := 1) (N := some 41) (v := ?_) (a' := ?_) #[true, true, false, false, false, false, false, false, false, false, false] rfl rfl (qa0 HT_.out (by kernel_rfl)) (fun _ _ _ h => h) (Or.inl ⟨by rfl, ?_⟩) ?_ ?_
        rotate_left
        ·intro w'
         go_simp
         with_reducible rfl
        rotate_left
        ·simp only [Act.put, List.setIfInBounds_toArray, List.set_cons_zero, List.set_cons_succ, qax, qay]
         rfl
        refine qbc (i := 2) (N := some 42) (v := ?_) (a' := ?_) #[true, true, true, false, false, false, false, false, false, false, false] rfl rfl (qa0 HT_.out (by kernel_rfl)) (fun _ _ _ h => h) (Or.inl ⟨by rfl, ?_⟩) ?_ ?_
        rotate_left
        ·intro w'
         go_simp
         with_reducible rfl
        rotate_left
        ·simp only [Act.put, List.setIfInBounds_toArray, List.set_cons_zero, List.set_cons_succ, qax, qay]
         rfl
        refine qbc (i := 3) (N := some 43) (v := ?_) (a' := ?_) #[true, true, true, true, false, false, false, false, false, false, false] rfl rfl (qa0 HT_.out (by kernel_rfl)) (fun _ _ _ h => h) (Or.inl ⟨by rfl, ?_⟩) ?_ ?_
        rotate_left
        ·intro w'
         go_simp
         with_reducible rfl
        rotate_left
        ·simp only [Act.put, List.setIfInBounds_toArray, List.set_cons_zero, List.set_cons_succ, qax, qay]
         rfl
        refine qbc (i := 5) (N := some 45) (v := ?_) (a' := ?_) #[true, true, true, true, false, true, false, false, false, false, false] rfl rfl (qa0 HT_.out (by kernel_rfl)) (fun _ _ _ h => h) (Or.inl ⟨by rfl, ?_⟩) ?_ ?_
        rotate_left
        ·intro w'
         go_simp
         with_reducible rfl
        rotate_left
        ·simp only [Act.put, List.setIfInBounds_toArray, List.set_cons_zero, List.set_cons_succ, qax, qay]
         rfl
        refine qbc (i := 6) (N := some 46) (v := ?_) (a' := ?_) #[true, true, true, true, false, true, true, false, false, false, false] rfl rfl (qa0 HT_.out (by kernel_rfl)) (fun _ _ _ h => h) (Or.inl ⟨by rfl, ?_⟩) ?_ ?_
        rotate_left
        ·intro w'
         go_simp
         with_reducible rfl
        rotate_left
        ·simp only [Act.put, List.setIfInBounds_toArray, List.set_cons_zero, List.set_cons_succ, qax, qay]
         rfl
        refine take_ (i := 4) (N := some 44) (v := ?_) (a' := ?_) #[true, true, true, true, true, true, true, false, false, false, false] rfl rfl (qbg HT_.out HW_.out (by kernel_rfl)) (fun _ _ _ h => h) (Or.inl ⟨by rfl, ?_⟩) hHeld ?_ ?_
        rotate_left
        ·rintro w' ⟨s0, s1⟩
         go_simp
         with_reducible rfl
        rotate_left
        ·simp only [Act.put, List.setIfInBounds_toArray, List.set_cons_zero, List.set_cons_succ, qax, qay]
         rfl
        refine take_ (i := 7) (N := some 47) (v := ?_) (a' := ?_) #[true, true, true, true, true, true, true, true, false, false, false] rfl rfl (qbg HT_.out HW_.out (by kernel_rfl)) (fun _ _ _ h => h) (Or.inl ⟨by rfl, ?_⟩) hHeld ?_ ?_
        rotate_left
        ·rintro w' ⟨s0, s1⟩
         go_simp
         with_reducible rfl
        rotate_left
        ·simp only [Act.put, List.setIfInBounds_toArray, List.set_cons_zero, List.set_cons_succ, qax, qay]
         rfl
        refine qbc (i := 8) (N := some 48) (v := ?_) (a' := ?_) #[true, true, true, true, true, true, true, true, true, false, false] rfl rfl (qa0 HT_.out (by kernel_rfl)) (fun _ _ _ h => h) (Or.inl ⟨by rfl, ?_⟩) ?_ ?_
        rotate_left
        ·intro w'
         go_simp
         with_reducible rfl
        rotate_left
        ·simp only [Act.put, List.setIfInBounds_toArray, List.set_cons_zero, List.set_cons_succ, qax, qay]
         rfl
        refine one_ (i := 9) (N := none) #[true, true, true, true, true, true, true, true, true, true, false] rfl rfl (qb6 HT_.out (by kernel_rfl)) (by decide) (fun K hK => ?_)
        have hs22 : w21.cell? ⟨gb173, 0, none⟩ = some (.bool false) := (qah BK173.out 0).trans rfl
        have hfs22 := qae BK173.out 0
        have hs23 : w21.cell? ⟨gb173, 1, none⟩ = some (.int .i64 0) := (qah BK173.out 1).trans rfl
        have hfs23 := qae BK173.out 1
        have hs24 : w21.cell? ⟨gb173, 2, none⟩ = some (.int .i64 0) := (qah BK173.out 2).trans rfl
        have hfs24 := qae BK173.out 2
        refine skip_ (w1 := ?_) (by rfl) rfl ?_ ?_
        rotate_left
        ·go_simp
         rfl
        refine hK.out _ _ ⟨((cell_far (p := ⟨gb173, _, none⟩) (by first | exact Kd.own_blk (Kd.R_ne HO178.out BK173.out (by decide)) | (rw [add_block]; exact Kd.own_blk (Kd.R_ne HO178.out BK173.out (by decide))) | (show (Addr.add _ _).block ≠ _; rw [add_block]; exact Kd.own_blk (Kd.R_ne HO178.out BK173.out (by decide))) | (dsimp only; exact Kd.own_blk (Kd.R_ne HO178.out BK173.out (by decide)))) _).trans (((cell_far (p := ⟨gb173, _, none⟩) (by first | exact Kd.own_blk (Kd.R_ne HO178.out BK173.out (by decide)) | (rw [add_block]; exact Kd.own_blk (Kd.R_ne HO178.out BK173.out (by decide))) | (show (Addr.add _ _).block ≠ _; rw [add_block]; exact Kd.own_blk (Kd.R_ne HO178.out BK173.out (by decide))) | (dsimp only; exact Kd.own_blk (Kd.R_ne HO178.out BK173.out (by decide)))) _).trans (((cell_far (p := ⟨gb173, _, none⟩) (by first | exact Kd.own_blk (Kd.R_ne HO178.out BK173.out (by decide)) | (rw [add_block]; exact Kd.own_blk (Kd.R_ne HO178.out BK173.out (by decide))) | (show (Addr.add _ _).block ≠ _; rw [add_block]; exact Kd.own_blk (Kd.R_ne HO178.out BK173.out (by decide))) | (dsimp only; exact Kd.own_blk (Kd.R_ne HO178.out BK173.out (by decide)))) _).trans (hHeld.1)))))), ((cell_far (p := ⟨gb173, _, none⟩) (by first | exact Kd.own_blk (Kd.R_ne HO178.out BK173.out (by decide)) | (rw [add_block]; exact Kd.own_blk (Kd.R_ne HO178.out BK173.out (by decide))) | (show (Addr.add _ _).block ≠ _; rw [add_block]; exact Kd.own_blk (Kd.R_ne HO178.out BK173.out (by decide))) | (dsimp only; exact Kd.own_blk (Kd.R_ne HO178.out BK173.out (by decide)))) _).trans (((cell_far (p := ⟨gb173, _, none⟩) (by first | exact Kd.own_blk (Kd.R_ne HO178.out BK173.out (by decide)) | (rw [add_block]; exact Kd.own_blk (Kd.R_ne HO178.out BK173.out (by decide))) | (show (Addr.add _ _).block ≠ _; rw [add_block]; exact Kd.own_blk (Kd.R_ne HO178.out BK173.out (by decide))) | (dsimp only; exact Kd.own_blk (Kd.R_ne HO178.out BK173.out (by decide)))) _).trans (((cell_far (p := ⟨gb173, _, none⟩) (by first | exact Kd.own_blk (Kd.R_ne HO178.out BK173.out (by decide)) | (rw [add_block]; exact Kd.own_blk (Kd.R_ne HO178.out BK173.out (by decide))) | (show (Addr.add _ _).block ≠ _; rw [add_block]; exact Kd.own_blk (Kd.R_ne HO178.out BK173.out (by decide))) | (dsimp only; exact Kd.own_blk (Kd.R_ne HO178.out BK173.out (by decide)))) _).trans (hHeld.2))))))⟩ (fun hHeld => ?_)
        clear hK K
        refine qbc (i := 10) (N := some 3) (v := ?_) (a' := ?_) #[true, true, true, true, true, true, true, true, true, true, true] rfl rfl (qa0 HT_.out (by kernel_rfl)) (fun _ _ _ h => h) (Or.inl ⟨by rfl, ?_⟩) ?_ ?_
        rotate_left
        ·intro w'
         go_simp
         with_reducible rfl
        rotate_left
        ·simp only [Act.put, List.setIfInBounds_toArray, List.set_cons_zero, List.set_cons_succ, qax, qay]
         rfl
        refine done_ (done_of HT_.out (by kernel_rfl)) ?_
        try go_wp2
        refine bodyPost_ret (qbd rfl _ _ gb173 48 #[.bool (t174.toList == ([119] : List UInt8)), .int .i64 (rd t175 0), .int .i64 (rd t175 1)] (0, 0) _ rfl (by (with_reducible repeat (first | refine qaf ?_ _ | refine qaj ?_ | refine qag ?_ _)); refine qaq (cs := #[.bool (t174.toList == ([119] : List UInt8)), .int .i64 (rd t175 0), .int .i64 0]) ?_ 2 _ rfl; (with_reducible repeat (first | refine qaf ?_ _ | refine qaj ?_ | refine qag ?_ _)); refine qaq (cs := #[.bool (t174.toList == ([119] : List UInt8)), .int .i64 0, .int .i64 0]) ?_ 1 _ rfl; (with_reducible repeat (first | refine qaf ?_ _ | refine qaj ?_ | refine qag ?_ _)); refine qaq (cs := #[.bool false, .int .i64 0, .int .i64 0]) ?_ 0 _ (by first | rfl | simp [*]); (with_reducible repeat (first | refine qaf ?_ _ | refine qaj ?_ | refine qag ?_ _)); exact BK173.out) Tryd.underlying48 rfl (by kernel_rfl)) rfl ?_
        exact ⟨by first | rfl | (simp [qan, qam] <;> rfl) | (simp [*, qan, qam] <;> rfl), by repeat (first | (with_reducible first | exact HB.out | apply qab | apply qaa | apply qac | refine qai ?_ GE173.out) | exact HB.out)⟩
      ·rw [if_neg c12] at H
       exact absurd H (by simp)
     ·rw [if_neg c11] at H
      have c11b0 : (t174.toList == ([119] : List UInt8)) = false := beq_eq_false_iff_ne.mpr c11
      have c11b1 : (t174.toList != ([119] : List UInt8)) = true := bne_iff_ne.mpr c11
      by_cases c25 : 1 < (t175.length : Int)
      ·rw [if_pos c25] at H
       have c25b0 : decide (1 < (t175.length : Int)) = true := decide_eq_true c25
       have c25b1 : decide (1 < t175.length) = true := decide_eq_true (by omega)
       clear c25
       simp only [Option.some.injEq, Prod.mk.injEq] at H
       obtain ⟨rfl, rfl, rfl, rfl⟩ := H
       go_enter Tryd.func36, Tryd.ntmps36
       try go_wp2_with (first | ((with_reducible refine qat (N := 2) rfl ?_); refine qas ?hg (N := 2) ?hd (cs := #[.bool false, .int .i64 0, .int .i64 0]) (t := 48) ?hr ?_; (case hd => rfl); (case hg => rfl); (case hr => first | (go_simp; done) | (go_simp; rfl)); intro gb173 hg w26 hbox hb; have n0_ := Aside0.mk (qal (by repeat (first | (with_reducible first | exact HB.out | apply qab | apply qaa | apply qac) | exact HB.out)) hb); have n1_ := Aside0.mk (hbox); have n2_ := Aside0.mk ((by rw [hg]; exact (qak (by repeat (first | (with_reducible first | exact HB.out | apply qab | apply qaa | apply qac) | exact HB.out))) : w.heap.size ≤ gb173)); have n3_ := Aside0.mk ((by rw [hg]; exact (qak (by repeat (first | (with_reducible first | exact HB.out | apply qab | apply qaa | apply qac) | exact HB.out))) : w.heap.size ≤ gb173)); clear HB; have HB := n0_; have BK173 := n1_; have GW173 := n2_; have GE173 := n3_; clear n0_ n1_ n2_ n3_; clear hb hbox hg) | ((with_reducible refine qao (f := 35) rfl ?_); refine qav (some 9) rfl rfl Tryd.func35 (by kernel_rfl) rfl #[.string a0, .int .i64 2] rfl (by (try simp only [List.map_toArray, List.map_cons, List.map_nil]); first | done | rfl | (simp only [List.length_drop, List.length_take]; rfl)) ?_; (with_reducible refine (burgageref03_Words.calls k a0 2 t174 t175 true _ A2.out (Laid.below HY (by repeat (first | (with_reducible first | exact HB.out | apply qab | apply qaa | apply qac | refine qai ?_ GE173.out) | exact HB.out)))).mono ?_); rintro e w27 ⟨v177, rfl, ho0, hb⟩; refine ⟨_, rfl, ?_⟩; have n0_ := Aside0.mk (Kd.R_lower ho0 (qak (by repeat (first | (with_reducible first | exact HB.out | apply qab | apply qaa | apply qac | refine qai ?_ GE173.out) | exact HB.out)))); have n1_ := Aside0.mk (qar (g := gb173) (o := .cells #[.bool false, .int .i64 0, .int .i64 0] 48 (0, 0)) (by (with_reducible repeat (first | refine qaf ?_ _ | refine qaj ?_ | refine qag ?_ _)); exact BK173.out) hb); have n2_ := Aside0.mk (qal (by repeat (first | (with_reducible first | exact HB.out | apply qab | apply qaa | apply qac | refine qai ?_ GE173.out) | exact HB.out)) hb); clear BK173; clear HB; have HO178 := n0_; have BK173 := n1_; have HB := n2_; clear n0_ n1_ n2_; (try clear hb); (try clear hb2); (try clear hk); (try clear hi); (try clear ho0); obtain ⟨Ao28, co28, eo28⟩ := Kd.R_slice HO178.out; subst eo28; have p179 : 0 ≤ (0 : Int) := (by omega); have q179 : 0 < (t175.length : Int) := of_decide_eq_true (by first | (with_reducible assumption) | assumption); obtain ⟨ad179, e179, hx179_0⟩ := Kd.at_int (Kd.qau HO178.out).2.2 0 p179 q179; cases e179; have qi179 : (0 < t175.length) = True := eq_true (by omega); (try rw [show ((0 : Int)).toNat = 0 from rfl] at hx179_0); (try rw [Addr.add_zero'] at hx179_0); replace p179 := eq_true p179; replace q179 := eq_true q179))
       have n0_ := Aside0.mk (Kd.R_drew HO178.out)
       have n1_ := Aside0.mk (qaj BK173.out)
       have n2_ := Aside0.mk (qac HB.out)
       clear HO178
       clear BK173
       clear HB
       have HO178 := n0_
       have BK173 := n1_
       have HB := n2_
       clear n0_ n1_ n2_
       have p183 : 0 ≤ (0 : Int) := (by omega)
       have q183 : 0 < (t175.length : Int) := of_decide_eq_true (by first | (with_reducible assumption) | assumption)
       obtain ⟨ad183, e183, hx183_0⟩ := Kd.at_int (Kd.qau HO178.out).2.2 0 p183 q183
       obtain rfl : ad179 = ad183 := (by injection e183)
       have qi183 : (0 < t175.length) = True := eq_true (by omega)
       (try rw [show ((0 : Int)).toNat = 0 from rfl] at hx183_0)
       (try rw [Addr.add_zero'] at hx183_0)
       replace p183 := eq_true p183
       replace q183 := eq_true q183
       have p184 : 0 ≤ (1 : Int) := (by omega)
       have q184 : 1 < (t175.length : Int) := of_decide_eq_true (by first | (with_reducible assumption) | assumption)
       obtain ⟨ad184, e184, hx184_0⟩ := Kd.at_int (Kd.qau HO178.out).2.2 1 p184 q184
       obtain rfl : ad179 = ad184 := (by injection e184)
       (try simp only [show (1 : Int).toNat = 1 from rfl, Nat.reduceMul, Nat.reduceEqDiff, Go.Addr.add, ↓reduceIte] at hx184_0)
       have qi184 : (1 < t175.length) = True := eq_true (by omega)
       (try rw [show ((1 : Int)).toNat = 1 from rfl] at hx184_0)
       replace p184 := eq_true p184
       replace q184 := eq_true q184
       refine start_ (n := 11) (S := fun w' => w'.cell? ad179 = some (.int .i64 (rd t175 0)) ∧ w'.cell? ⟨ad179.block, ad179.off + 1, none⟩ = some (.int .i64 (rd t175 1))) (ds := []) #[false, false, false, false, false, false, false, false, false, false, false] (by kernel_rfl) rfl rfl ⟨hx183_0, hx184_0⟩ (fun hHeld => ?_); refine with_tabW burgageref07_opOf.tab4 burgageref07_opOf.bits4 (fun HT_ HW_ => ?_)
       generalize w27.drew = w29 at HO178 BK173 HB hx183_0 hx184_0 hHeld ⊢
       refine qbc (i := 0) (N := some 40) (v := ?_) (a' := ?_) #[true, false, false, false, false, false, false, false, false, false, false] rfl rfl (qa0 HT_.out (by kernel_rfl)) (fun _ _ _ h => h) (Or.inl ⟨by rfl, ?_⟩) ?_ ?_
       rotate_left
       ·intro w'
        go_simp
        with_reducible rfl
       rotate_left
       ·simp only [Act.put, List.setIfInBounds_toArray, List.set_cons_zero, List.set_cons_succ, qax, qay]
        rfl
       refine qbc (i := 1) (N := some 41) (v := ?_) (a' := ?_) #[true, true, false, false, false, false, false, false, false, false, false] rfl rfl (qa0 HT_.out (by kernel_rfl)) (fun _ _ _ h => h) (Or.inl ⟨by rfl, ?_⟩) ?_ ?_
       rotate_left
       ·intro w'
        go_simp
        with_reducible rfl
       rotate_left
       ·simp only [Act.put, List.setIfInBounds_toArray, List.set_cons_zero, List.set_cons_succ, qax, qay]
        rfl
       refine qbc (i := 2) (N := some 42) (v := ?_) (a' := ?_) #[true, true, true, false, false, false, false, false, false, false, false] rfl rfl (qa0 HT_.out (by kernel_rfl)) (fun _ _ _ h => h) (Or.inl ⟨by rfl, ?_⟩) ?_ ?_
       rotate_left
       ·intro w'
        go_simp
        with_reducible rfl
       rotate_left
       ·simp only [Act.put, List.setIfInBounds_toArray, List.set_cons_zero, List.set_cons_succ, qax, qay]
        rfl
       refine qbc (i := 3) (N := some 43) (v := ?_) (a' := ?_) #[true, true, true, true, false, false, false, false, false, false, false] rfl rfl (qa0 HT_.out (by kernel_rfl)) (fun _ _ _ h => h) (Or.inl ⟨by rfl, ?_⟩) ?_ ?_
       rotate_left
       ·intro w'
        go_simp
        with_reducible rfl
       rotate_left
       ·simp only [Act.put, List.setIfInBounds_toArray, List.set_cons_zero, List.set_cons_succ, qax, qay]
        rfl
       refine qbc (i := 5) (N := some 45) (v := ?_) (a' := ?_) #[true, true, true, true, false, true, false, false, false, false, false] rfl rfl (qa0 HT_.out (by kernel_rfl)) (fun _ _ _ h => h) (Or.inl ⟨by rfl, ?_⟩) ?_ ?_
       rotate_left
       ·intro w'
        go_simp
        with_reducible rfl
       rotate_left
       ·simp only [Act.put, List.setIfInBounds_toArray, List.set_cons_zero, List.set_cons_succ, qax, qay]
        rfl
       refine qbc (i := 6) (N := some 46) (v := ?_) (a' := ?_) #[true, true, true, true, false, true, true, false, false, false, false] rfl rfl (qa0 HT_.out (by kernel_rfl)) (fun _ _ _ h => h) (Or.inl ⟨by rfl, ?_⟩) ?_ ?_
       rotate_left
       ·intro w'
        go_simp
        with_reducible rfl
       rotate_left
       ·simp only [Act.put, List.setIfInBounds_toArray, List.set_cons_zero, List.set_cons_succ, qax, qay]
        rfl
       refine take_ (i := 4) (N := some 44) (v := ?_) (a' := ?_) #[true, true, true, true, true, true, true, false, false, false, false] rfl rfl (qbg HT_.out HW_.out (by kernel_rfl)) (fun _ _ _ h => h) (Or.inl ⟨by rfl, ?_⟩) hHeld ?_ ?_
       rotate_left
       ·rintro w' ⟨s0, s1⟩
        go_simp
        with_reducible rfl
       rotate_left
       ·simp only [Act.put, List.setIfInBounds_toArray, List.set_cons_zero, List.set_cons_succ, qax, qay]
        rfl
       refine take_ (i := 7) (N := some 47) (v := ?_) (a' := ?_) #[true, true, true, true, true, true, true, true, false, false, false] rfl rfl (qbg HT_.out HW_.out (by kernel_rfl)) (fun _ _ _ h => h) (Or.inl ⟨by rfl, ?_⟩) hHeld ?_ ?_
       rotate_left
       ·rintro w' ⟨s0, s1⟩
        go_simp
        with_reducible rfl
       rotate_left
       ·simp only [Act.put, List.setIfInBounds_toArray, List.set_cons_zero, List.set_cons_succ, qax, qay]
        rfl
       refine qbc (i := 8) (N := some 48) (v := ?_) (a' := ?_) #[true, true, true, true, true, true, true, true, true, false, false] rfl rfl (qa0 HT_.out (by kernel_rfl)) (fun _ _ _ h => h) (Or.inl ⟨by rfl, ?_⟩) ?_ ?_
       rotate_left
       ·intro w'
        go_simp
        with_reducible rfl
       rotate_left
       ·simp only [Act.put, List.setIfInBounds_toArray, List.set_cons_zero, List.set_cons_succ, qax, qay]
        rfl
       refine one_ (i := 9) (N := none) #[true, true, true, true, true, true, true, true, true, true, false] rfl rfl (qb6 HT_.out (by kernel_rfl)) (by decide) (fun K hK => ?_)
       have hs30 : w29.cell? ⟨gb173, 0, none⟩ = some (.bool false) := (qah BK173.out 0).trans rfl
       have hfs30 := qae BK173.out 0
       have hs31 : w29.cell? ⟨gb173, 1, none⟩ = some (.int .i64 0) := (qah BK173.out 1).trans rfl
       have hfs31 := qae BK173.out 1
       have hs32 : w29.cell? ⟨gb173, 2, none⟩ = some (.int .i64 0) := (qah BK173.out 2).trans rfl
       have hfs32 := qae BK173.out 2
       refine skip_ (w1 := ?_) (by rfl) rfl ?_ ?_
       rotate_left
       ·go_simp
        rfl
       refine hK.out _ _ ⟨((cell_far (p := ⟨gb173, _, none⟩) (by first | exact Kd.own_blk (Kd.R_ne HO178.out BK173.out (by decide)) | (rw [add_block]; exact Kd.own_blk (Kd.R_ne HO178.out BK173.out (by decide))) | (show (Addr.add _ _).block ≠ _; rw [add_block]; exact Kd.own_blk (Kd.R_ne HO178.out BK173.out (by decide))) | (dsimp only; exact Kd.own_blk (Kd.R_ne HO178.out BK173.out (by decide)))) _).trans (((cell_far (p := ⟨gb173, _, none⟩) (by first | exact Kd.own_blk (Kd.R_ne HO178.out BK173.out (by decide)) | (rw [add_block]; exact Kd.own_blk (Kd.R_ne HO178.out BK173.out (by decide))) | (show (Addr.add _ _).block ≠ _; rw [add_block]; exact Kd.own_blk (Kd.R_ne HO178.out BK173.out (by decide))) | (dsimp only; exact Kd.own_blk (Kd.R_ne HO178.out BK173.out (by decide)))) _).trans (((cell_far (p := ⟨gb173, _, none⟩) (by first | exact Kd.own_blk (Kd.R_ne HO178.out BK173.out (by decide)) | (rw [add_block]; exact Kd.own_blk (Kd.R_ne HO178.out BK173.out (by decide))) | (show (Addr.add _ _).block ≠ _; rw [add_block]; exact Kd.own_blk (Kd.R_ne HO178.out BK173.out (by decide))) | (dsimp only; exact Kd.own_blk (Kd.R_ne HO178.out BK173.out (by decide)))) _).trans (hHeld.1)))))), ((cell_far (p := ⟨gb173, _, none⟩) (by first | exact Kd.own_blk (Kd.R_ne HO178.out BK173.out (by decide)) | (rw [add_block]; exact Kd.own_blk (Kd.R_ne HO178.out BK173.out (by decide))) | (show (Addr.add _ _).block ≠ _; rw [add_block]; exact Kd.own_blk (Kd.R_ne HO178.out BK173.out (by decide))) | (dsimp only; exact Kd.own_blk (Kd.R_ne HO178.out BK173.out (by decide)))) _).trans (((cell_far (p := ⟨gb173, _, none⟩) (by first | exact Kd.own_blk (Kd.R_ne HO178.out BK173.out (by decide)) | (rw [add_block]; exact Kd.own_blk (Kd.R_ne HO178.out BK173.out (by decide))) | (show (Addr.add _ _).block ≠ _; rw [add_block]; exact Kd.own_blk (Kd.R_ne HO178.out BK173.out (by decide))) | (dsimp only; exact Kd.own_blk (Kd.R_ne HO178.out BK173.out (by decide)))) _).trans (((cell_far (p := ⟨gb173, _, none⟩) (by first | exact Kd.own_blk (Kd.R_ne HO178.out BK173.out (by decide)) | (rw [add_block]; exact Kd.own_blk (Kd.R_ne HO178.out BK173.out (by decide))) | (show (Addr.add _ _).block ≠ _; rw [add_block]; exact Kd.own_blk (Kd.R_ne HO178.out BK173.out (by decide))) | (dsimp only; exact Kd.own_blk (Kd.R_ne HO178.out BK173.out (by decide)))) _).trans (hHeld.2))))))⟩ (fun hHeld => ?_)
       clear hK K
       refine qbc (i := 10) (N := some 3) (v := ?_) (a' := ?_) #[true, true, true, true, true, true, true, true, true, true, true] rfl rfl (qa0 HT_.out (by kernel_rfl)) (fun _ _ _ h => h) (Or.inl ⟨by rfl, ?_⟩) ?_ ?_
       rotate_left
       ·intro w'
        go_simp
        with_reducible rfl
       rotate_left
       ·simp only [Act.put, List.setIfInBounds_toArray, List.set_cons_zero, List.set_cons_succ, qax, qay]
        rfl
       refine done_ (done_of HT_.out (by kernel_rfl)) ?_
       try go_wp2
       refine bodyPost_ret (qbd rfl _ _ gb173 48 #[.bool (t174.toList == ([119] : List UInt8)), .int .i64 (rd t175 0), .int .i64 (rd t175 1)] (0, 0) _ rfl (by (with_reducible repeat (first | refine qaf ?_ _ | refine qaj ?_ | refine qag ?_ _)); refine qaq (cs := #[.bool (t174.toList == ([119] : List UInt8)), .int .i64 (rd t175 0), .int .i64 0]) ?_ 2 _ rfl; (with_reducible repeat (first | refine qaf ?_ _ | refine qaj ?_ | refine qag ?_ _)); refine qaq (cs := #[.bool (t174.toList == ([119] : List UInt8)), .int .i64 0, .int .i64 0]) ?_ 1 _ rfl; (with_reducible repeat (first | refine qaf ?_ _ | refine qaj ?_ | refine qag ?_ _)); refine qaq (cs := #[.bool false, .int .i64 0, .int .i64 0]) ?_ 0 _ (by first | rfl | simp [*]); (with_reducible repeat (first | refine qaf ?_ _ | refine qaj ?_ | refine qag ?_ _)); exact BK173.out) Tryd.underlying48 rfl (by kernel_rfl)) rfl ?_
       exact ⟨by first | rfl | (simp [qan, qam] <;> rfl) | (simp [*, qan, qam] <;> rfl), by repeat (first | (with_reducible first | exact HB.out | apply qab | apply qaa | apply qac | refine qai ?_ GE173.out) | exact HB.out)⟩
      ·rw [if_neg c25] at H
       exact absurd H (by simp)
   ·rw [if_neg c5] at H
    exact absurd H (by simp)
  ·rw [if_neg c4] at H
   have c4b0 : (t174.toList == ([114] : List UInt8)) = false := beq_eq_false_iff_ne.mpr c4
   have c4b1 : (t174.toList != ([114] : List UInt8)) = true := bne_iff_ne.mpr c4
   by_cases c33 : t174.toList = ([119] : List UInt8)
   ·rw [if_pos c33] at H
    have c33b0 : (t174.toList == ([119] : List UInt8)) = true := beq_iff_eq.mpr c33
    have c33b1 : (t174.toList != ([119] : List UInt8)) = false := bne_eq_false_iff_eq.mpr c33
    clear c33
    by_cases c34 : 0 < (t175.length : Int)
    ·rw [if_pos c34] at H
     have c34b0 : decide (0 < (t175.length : Int)) = true := decide_eq_true c34
     have c34b1 : decide (0 < t175.length) = true := decide_eq_true (by omega)
     clear c34
     by_cases c35 : (rd t175 0) > 63
     ·rw [if_pos c35] at H
      have c35b0 : decide (63 < (rd t175 0)) = true := decide_eq_true c35
      clear c35
      simp only [Option.some.injEq, Prod.mk.injEq] at H
      obtain ⟨rfl, rfl, rfl, rfl⟩ := H
      go_enter Tryd.func36, Tryd.ntmps36
      go_wp2_with (first | ((with_reducible refine qat (N := 2) rfl ?_); refine qas ?hg (N := 2) ?hd (cs := #[.bool false, .int .i64 0, .int .i64 0]) (t := 48) ?hr ?_; (case hd => rfl); (case hg => rfl); (case hr => first | (go_simp; done) | (go_simp; rfl)); intro gb173 hg w36 hbox hb; have n0_ := Aside0.mk (qal (by repeat (first | (with_reducible first | exact HB.out | apply qab | apply qaa | apply qac) | exact HB.out)) hb); have n1_ := Aside0.mk (hbox); have n2_ := Aside0.mk ((by rw [hg]; exact (qak (by repeat (first | (with_reducible first | exact HB.out | apply qab | apply qaa | apply qac) | exact HB.out))) : w.heap.size ≤ gb173)); have n3_ := Aside0.mk ((by rw [hg]; exact (qak (by repeat (first | (with_reducible first | exact HB.out | apply qab | apply qaa | apply qac) | exact HB.out))) : w.heap.size ≤ gb173)); clear HB; have HB := n0_; have BK173 := n1_; have GW173 := n2_; have GE173 := n3_; clear n0_ n1_ n2_ n3_; clear hb hbox hg) | ((with_reducible refine qao (f := 35) rfl ?_); refine qav (some 9) rfl rfl Tryd.func35 (by kernel_rfl) rfl #[.string a0, .int .i64 2] rfl (by (try simp only [List.map_toArray, List.map_cons, List.map_nil]); first | done | rfl | (simp only [List.length_drop, List.length_take]; rfl)) ?_; (with_reducible refine (burgageref03_Words.calls k a0 2 t174 t175 true _ A2.out (Laid.below HY (by repeat (first | (with_reducible first | exact HB.out | apply qab | apply qaa | apply qac | refine qai ?_ GE173.out) | exact HB.out)))).mono ?_); rintro e w37 ⟨v177, rfl, ho0, hb⟩; refine ⟨_, rfl, ?_⟩; have n0_ := Aside0.mk (Kd.R_lower ho0 (qak (by repeat (first | (with_reducible first | exact HB.out | apply qab | apply qaa | apply qac | refine qai ?_ GE173.out) | exact HB.out)))); have n1_ := Aside0.mk (qar (g := gb173) (o := .cells #[.bool false, .int .i64 0, .int .i64 0] 48 (0, 0)) (by (with_reducible repeat (first | refine qaf ?_ _ | refine qaj ?_ | refine qag ?_ _)); exact BK173.out) hb); have n2_ := Aside0.mk (qal (by repeat (first | (with_reducible first | exact HB.out | apply qab | apply qaa | apply qac | refine qai ?_ GE173.out) | exact HB.out)) hb); clear BK173; clear HB; have HO178 := n0_; have BK173 := n1_; have HB := n2_; clear n0_ n1_ n2_; (try clear hb); (try clear hb2); (try clear hk); (try clear hi); (try clear ho0); obtain ⟨Ao38, co38, eo38⟩ := Kd.R_slice HO178.out; subst eo38; have p185 : 0 ≤ (0 : Int) := (by omega); have q185 : 0 < (t175.length : Int) := of_decide_eq_true (by first | (with_reducible assumption) | assumption); obtain ⟨ad185, e185, hx185_0⟩ := Kd.at_int (Kd.qau HO178.out).2.2 0 p185 q185; cases e185; have qi185 : (0 < t175.length) = True := eq_true (by omega); (try rw [show ((0 : Int)).toNat = 0 from rfl] at hx185_0); (try rw [Addr.add_zero'] at hx185_0); replace p185 := eq_true p185; replace q185 := eq_true q185; have hcz39_0 : w37.cell? ⟨gb173, 0, none⟩ = some (.bool false) := (qah BK173.out 0).trans rfl; have hcz39_1 : w37.cell? ⟨gb173, 1, none⟩ = some (.int .i64 0) := (qah BK173.out 1).trans rfl; have hcz39_2 : w37.cell? ⟨gb173, 2, none⟩ = some (.int .i64 0) := (qah BK173.out 2).trans rfl; have hfz39_0 := qae BK173.out 0; have hfz39_1 := qae BK173.out 1; have hfz39_2 := qae BK173.out 2))
      refine bodyPost_ret (qbd rfl _ _ gb173 48 #[.bool false, .int .i64 0, .int .i64 0] (0, 0) _ rfl (by (with_reducible repeat (first | refine qaf ?_ _ | refine qaj ?_ | refine qag ?_ _)); refine qaq (cs := #[.bool false, .int .i64 0, .int .i64 0]) ?_ 2 _ rfl; (with_reducible repeat (first | refine qaf ?_ _ | refine qaj ?_ | refine qag ?_ _)); refine qaq (cs := #[.bool false, .int .i64 0, .int .i64 0]) ?_ 1 _ rfl; (with_reducible repeat (first | refine qaf ?_ _ | refine qaj ?_ | refine qag ?_ _)); refine qaq (cs := #[.bool false, .int .i64 0, .int .i64 0]) ?_ 0 _ rfl; (with_reducible repeat (first | refine qaf ?_ _ | refine qaj ?_ | refine qag ?_ _)); exact BK173.out) Tryd.underlying48 rfl (by kernel_rfl)) rfl ?_
      exact ⟨by first | rfl | (simp [qan, qam] <;> rfl) | (simp [*, qan, qam] <;> rfl), by repeat (first | (with_reducible first | exact HB.out | apply qab | apply qaa | apply qac | refine qai ?_ GE173.out) | exact HB.out)⟩
     ·rw [if_neg c35] at H
      have c35b0 : decide (63 < (rd t175 0)) = false := decide_eq_false c35
      clear c35
      by_cases c40 : 1 < (t175.length : Int)
      ·rw [if_pos c40] at H
       have c40b0 : decide (1 < (t175.length : Int)) = true := decide_eq_true c40
       have c40b1 : decide (1 < t175.length) = true := decide_eq_true (by omega)
       clear c40
       by_cases c41 : (rd t175 1) = 0
       ·rw [if_pos c41] at H
        have c41b0 : ((rd t175 1) == 0) = true := beq_iff_eq.mpr c41
        have c41b1 : ((rd t175 1) != 0) = false := bne_eq_false_iff_eq.mpr c41
        clear c41
        simp only [Option.some.injEq, Prod.mk.injEq] at H
        obtain ⟨rfl, rfl, rfl, rfl⟩ := H
        go_enter Tryd.func36, Tryd.ntmps36
        go_wp2_with (first | ((with_reducible refine qat (N := 2) rfl ?_); refine qas ?hg (N := 2) ?hd (cs := #[.bool false, .int .i64 0, .int .i64 0]) (t := 48) ?hr ?_; (case hd => rfl); (case hg => rfl); (case hr => first | (go_simp; done) | (go_simp; rfl)); intro gb173 hg w42 hbox hb; have n0_ := Aside0.mk (qal (by repeat (first | (with_reducible first | exact HB.out | apply qab | apply qaa | apply qac) | exact HB.out)) hb); have n1_ := Aside0.mk (hbox); have n2_ := Aside0.mk ((by rw [hg]; exact (qak (by repeat (first | (with_reducible first | exact HB.out | apply qab | apply qaa | apply qac) | exact HB.out))) : w.heap.size ≤ gb173)); have n3_ := Aside0.mk ((by rw [hg]; exact (qak (by repeat (first | (with_reducible first | exact HB.out | apply qab | apply qaa | apply qac) | exact HB.out))) : w.heap.size ≤ gb173)); clear HB; have HB := n0_; have BK173 := n1_; have GW173 := n2_; have GE173 := n3_; clear n0_ n1_ n2_ n3_; clear hb hbox hg) | ((with_reducible refine qao (f := 35) rfl ?_); refine qav (some 9) rfl rfl Tryd.func35 (by kernel_rfl) rfl #[.string a0, .int .i64 2] rfl (by (try simp only [List.map_toArray, List.map_cons, List.map_nil]); first | done | rfl | (simp only [List.length_drop, List.length_take]; rfl)) ?_; (with_reducible refine (burgageref03_Words.calls k a0 2 t174 t175 true _ A2.out (Laid.below HY (by repeat (first | (with_reducible first | exact HB.out | apply qab | apply qaa | apply qac | refine qai ?_ GE173.out) | exact HB.out)))).mono ?_); rintro e w43 ⟨v177, rfl, ho0, hb⟩; refine ⟨_, rfl, ?_⟩; have n0_ := Aside0.mk (Kd.R_lower ho0 (qak (by repeat (first | (with_reducible first | exact HB.out | apply qab | apply qaa | apply qac | refine qai ?_ GE173.out) | exact HB.out)))); have n1_ := Aside0.mk (qar (g := gb173) (o := .cells #[.bool false, .int .i64 0, .int .i64 0] 48 (0, 0)) (by (with_reducible repeat (first | refine qaf ?_ _ | refine qaj ?_ | refine qag ?_ _)); exact BK173.out) hb); have n2_ := Aside0.mk (qal (by repeat (first | (with_reducible first | exact HB.out | apply qab | apply qaa | apply qac | refine qai ?_ GE173.out) | exact HB.out)) hb); clear BK173; clear HB; have HO178 := n0_; have BK173 := n1_; have HB := n2_; clear n0_ n1_ n2_; (try clear hb); (try clear hb2); (try clear hk); (try clear hi); (try clear ho0); obtain ⟨Ao44, co44, eo44⟩ := Kd.R_slice HO178.out; subst eo44; have p185 : 0 ≤ (0 : Int) := (by omega); have q185 : 0 < (t175.length : Int) := of_decide_eq_true (by first | (with_reducible assumption) | assumption); obtain ⟨ad185, e185, hx185_0⟩ := Kd.at_int (Kd.qau HO178.out).2.2 0 p185 q185; cases e185; have qi185 : (0 < t175.length) = True := eq_true (by omega); (try rw [show ((0 : Int)).toNat = 0 from rfl] at hx185_0); (try rw [Addr.add_zero'] at hx185_0); replace p185 := eq_true p185; replace q185 := eq_true q185; have p186 : 0 ≤ (1 : Int) := (by omega); have q186 : 1 < (t175.length : Int) := of_decide_eq_true (by first | (with_reducible assumption) | assumption); obtain ⟨ad186, e186, hx186_0⟩ := Kd.at_int (Kd.qau HO178.out).2.2 1 p186 q186; obtain rfl : ad185 = ad186 := (by injection e186); (try simp only [show (1 : Int).toNat = 1 from rfl, Nat.reduceMul, Nat.reduceEqDiff, Go.Addr.add, ↓reduceIte] at hx186_0); have qi186 : (1 < t175.length) = True := eq_true (by omega); (try rw [show ((1 : Int)).toNat = 1 from rfl] at hx186_0); replace p186 := eq_true p186; replace q186 := eq_true q186; have hcz45_0 : w43.cell? ⟨gb173, 0, none⟩ = some (.bool false) := (qah BK173.out 0).trans rfl; have hcz45_1 : w43.cell? ⟨gb173, 1, none⟩ = some (.int .i64 0) := (qah BK173.out 1).trans rfl; have hcz45_2 : w43.cell? ⟨gb173, 2, none⟩ = some (.int .i64 0) := (qah BK173.out 2).trans rfl; have hfz45_0 := qae BK173.out 0; have hfz45_1 := qae BK173.out 1; have hfz45_2 := qae BK173.out 2))
        refine bodyPost_ret (qbd rfl _ _ gb173 48 #[.bool false, .int .i64 0, .int .i64 0] (0, 0) _ rfl (by (with_reducible repeat (first | refine qaf ?_ _ | refine qaj ?_ | refine qag ?_ _)); refine qaq (cs := #[.bool false, .int .i64 0, .int .i64 0]) ?_ 2 _ rfl; (with_reducible repeat (first | refine qaf ?_ _ | refine qaj ?_ | refine qag ?_ _)); refine qaq (cs := #[.bool false, .int .i64 0, .int .i64 0]) ?_ 1 _ rfl; (with_reducible repeat (first | refine qaf ?_ _ | refine qaj ?_ | refine qag ?_ _)); refine qaq (cs := #[.bool false, .int .i64 0, .int .i64 0]) ?_ 0 _ rfl; (with_reducible repeat (first | refine qaf ?_ _ | refine qaj ?_ | refine qag ?_ _)); exact BK173.out) Tryd.underlying48 rfl (by kernel_rfl)) rfl ?_
        exact ⟨by first | rfl | (simp [qan, qam] <;> rfl) | (simp [*, qan, qam] <;> rfl), by repeat (first | (with_reducible first | exact HB.out | apply qab | apply qaa | apply qac | refine qai ?_ GE173.out) | exact HB.out)⟩
       ·rw [if_neg c41] at H
        have c41b0 : ((rd t175 1) == 0) = false := beq_eq_false_iff_ne.mpr c41
        have c41b1 : ((rd t175 1) != 0) = true := bne_iff_ne.mpr c41
        simp only [Option.some.injEq, Prod.mk.injEq] at H
        obtain ⟨rfl, rfl, rfl, rfl⟩ := H
        go_enter Tryd.func36, Tryd.ntmps36
        try go_wp2_with (first | ((with_reducible refine qat (N := 2) rfl ?_); refine qas ?hg (N := 2) ?hd (cs := #[.bool false, .int .i64 0, .int .i64 0]) (t := 48) ?hr ?_; (case hd => rfl); (case hg => rfl); (case hr => first | (go_simp; done) | (go_simp; rfl)); intro gb173 hg w46 hbox hb; have n0_ := Aside0.mk (qal (by repeat (first | (with_reducible first | exact HB.out | apply qab | apply qaa | apply qac) | exact HB.out)) hb); have n1_ := Aside0.mk (hbox); have n2_ := Aside0.mk ((by rw [hg]; exact (qak (by repeat (first | (with_reducible first | exact HB.out | apply qab | apply qaa | apply qac) | exact HB.out))) : w.heap.size ≤ gb173)); have n3_ := Aside0.mk ((by rw [hg]; exact (qak (by repeat (first | (with_reducible first | exact HB.out | apply qab | apply qaa | apply qac) | exact HB.out))) : w.heap.size ≤ gb173)); clear HB; have HB := n0_; have BK173 := n1_; have GW173 := n2_; have GE173 := n3_; clear n0_ n1_ n2_ n3_; clear hb hbox hg) | ((with_reducible refine qao (f := 35) rfl ?_); refine qav (some 9) rfl rfl Tryd.func35 (by kernel_rfl) rfl #[.string a0, .int .i64 2] rfl (by (try simp only [List.map_toArray, List.map_cons, List.map_nil]); first | done | rfl | (simp only [List.length_drop, List.length_take]; rfl)) ?_; (with_reducible refine (burgageref03_Words.calls k a0 2 t174 t175 true _ A2.out (Laid.below HY (by repeat (first | (with_reducible first | exact HB.out | apply qab | apply qaa | apply qac | refine qai ?_ GE173.out) | exact HB.out)))).mono ?_); rintro e w47 ⟨v177, rfl, ho0, hb⟩; refine ⟨_, rfl, ?_⟩; have n0_ := Aside0.mk (Kd.R_lower ho0 (qak (by repeat (first | (with_reducible first | exact HB.out | apply qab | apply qaa | apply qac | refine qai ?_ GE173.out) | exact HB.out)))); have n1_ := Aside0.mk (qar (g := gb173) (o := .cells #[.bool false, .int .i64 0, .int .i64 0] 48 (0, 0)) (by (with_reducible repeat (first | refine qaf ?_ _ | refine qaj ?_ | refine qag ?_ _)); exact BK173.out) hb); have n2_ := Aside0.mk (qal (by repeat (first | (with_reducible first | exact HB.out | apply qab | apply qaa | apply qac | refine qai ?_ GE173.out) | exact HB.out)) hb); clear BK173; clear HB; have HO178 := n0_; have BK173 := n1_; have HB := n2_; clear n0_ n1_ n2_; (try clear hb); (try clear hb2); (try clear hk); (try clear hi); (try clear ho0); obtain ⟨Ao48, co48, eo48⟩ := Kd.R_slice HO178.out; subst eo48; have p185 : 0 ≤ (0 : Int) := (by omega); have q185 : 0 < (t175.length : Int) := of_decide_eq_true (by first | (with_reducible assumption) | assumption); obtain ⟨ad185, e185, hx185_0⟩ := Kd.at_int (Kd.qau HO178.out).2.2 0 p185 q185; cases e185; have qi185 : (0 < t175.length) = True := eq_true (by omega); (try rw [show ((0 : Int)).toNat = 0 from rfl] at hx185_0); (try rw [Addr.add_zero'] at hx185_0); replace p185 := eq_true p185; replace q185 := eq_true q185; have p186 : 0 ≤ (1 : Int) := (by omega); have q186 : 1 < (t175.length : Int) := of_decide_eq_true (by first | (with_reducible assumption) | assumption); obtain ⟨ad186, e186, hx186_0⟩ := Kd.at_int (Kd.qau HO178.out).2.2 1 p186 q186; obtain rfl : ad185 = ad186 := (by injection e186); (try simp only [show (1 : Int).toNat = 1 from rfl, Nat.reduceMul, Nat.reduceEqDiff, Go.Addr.add, ↓reduceIte] at hx186_0); have qi186 : (1 < t175.length) = True := eq_true (by omega); (try rw [show ((1 : Int)).toNat = 1 from rfl] at hx186_0); replace p186 := eq_true p186; replace q186 := eq_true q186))
        have n0_ := Aside0.mk (Kd.R_drew HO178.out)
        have n1_ := Aside0.mk (qaj BK173.out)
        have n2_ := Aside0.mk (qac HB.out)
        clear HO178
        clear BK173
        clear HB
        have HO178 := n0_
        have BK173 := n1_
        have HB := n2_
        clear n0_ n1_ n2_
        have p187 : 0 ≤ (0 : Int) := (by omega)
        have q187 : 0 < (t175.length : Int) := of_decide_eq_true (by first | (with_reducible assumption) | assumption)
        obtain ⟨ad187, e187, hx187_0⟩ := Kd.at_int (Kd.qau HO178.out).2.2 0 p187 q187
        obtain rfl : ad185 = ad187 := (by injection e187)
        have qi187 : (0 < t175.length) = True := eq_true (by omega)
        (try rw [show ((0 : Int)).toNat = 0 from rfl] at hx187_0)
        (try rw [Addr.add_zero'] at hx187_0)
        replace p187 := eq_true p187
        replace q187 := eq_true q187
        have p188 : 0 ≤ (1 : Int) := (by omega)
        have q188 : 1 < (t175.length : Int) := of_decide_eq_true (by first | (with_reducible assumption) | assumption)
        obtain ⟨ad188, e188, hx188_0⟩ := Kd.at_int (Kd.qau HO178.out).2.2 1 p188 q188
        obtain rfl : ad185 = ad188 := (by injection e188)
        (try simp only [show (1 : Int).toNat = 1 from rfl, Nat.reduceMul, Nat.reduceEqDiff, Go.Addr.add, ↓reduceIte] at hx188_0)
        have qi188 : (1 < t175.length) = True := eq_true (by omega)
        (try rw [show ((1 : Int)).toNat = 1 from rfl] at hx188_0)
        replace p188 := eq_true p188
        replace q188 := eq_true q188
        refine start_ (n := 11) (S := fun w' => w'.cell? ad185 = some (.int .i64 (rd t175 0)) ∧ w'.cell? ⟨ad185.block, ad185.off + 1, none⟩ = some (.int .i64 (rd t175 1))) (ds := []) #[false, false, false, false, false, false, false, false, false, false, false] (by kernel_rfl) rfl rfl ⟨hx187_0, hx188_0⟩ (fun hHeld => ?_); refine with_tabW burgageref07_opOf.tab4 burgageref07_opOf.bits4 (fun HT_ HW_ => ?_)
        generalize w47.drew = w49 at HO178 BK173 HB hx187_0 hx188_0 hHeld ⊢
        refine qbc (i := 0) (N := some 40) (v := ?_) (a' := ?_) #[true, false, false, false, false, false, false, false, false, false, false] rfl rfl (qa0 HT_.out (by kernel_rfl)) (fun _ _ _ h => h) (Or.inl ⟨by rfl, ?_⟩) ?_ ?_
        rotate_left
        ·intro w'
         go_simp
         with_reducible rfl
        rotate_left
        ·simp only [Act.put, List.setIfInBounds_toArray, List.set_cons_zero, List.set_cons_succ, qax, qay]
         rfl
        refine qbc (i := 1) (N := some 41) (v := ?_) (a' := ?_) #[true, true, false, false, false, false, false, false, false, false, false] rfl rfl (qa0 HT_.out (by kernel_rfl)) (fun _ _ _ h => h) (Or.inl ⟨by rfl, ?_⟩) ?_ ?_
        rotate_left
        ·intro w'
         go_simp
         with_reducible rfl
        rotate_left
        ·simp only [Act.put, List.setIfInBounds_toArray, List.set_cons_zero, List.set_cons_succ, qax, qay]
         rfl
        refine qbc (i := 2) (N := some 42) (v := ?_) (a' := ?_) #[true, true, true, false, false, false, false, false, false, false, false] rfl rfl (qa0 HT_.out (by kernel_rfl)) (fun _ _ _ h => h) (Or.inl ⟨by rfl, ?_⟩) ?_ ?_
        rotate_left
        ·intro w'
         go_simp
         with_reducible rfl
        rotate_left
        ·simp only [Act.put, List.setIfInBounds_toArray, List.set_cons_zero, List.set_cons_succ, qax, qay]
         rfl
        refine qbc (i := 3) (N := some 43) (v := ?_) (a' := ?_) #[true, true, true, true, false, false, false, false, false, false, false] rfl rfl (qa0 HT_.out (by kernel_rfl)) (fun _ _ _ h => h) (Or.inl ⟨by rfl, ?_⟩) ?_ ?_
        rotate_left
        ·intro w'
         go_simp
         with_reducible rfl
        rotate_left
        ·simp only [Act.put, List.setIfInBounds_toArray, List.set_cons_zero, List.set_cons_succ, qax, qay]
         rfl
        refine qbc (i := 5) (N := some 45) (v := ?_) (a' := ?_) #[true, true, true, true, false, true, false, false, false, false, false] rfl rfl (qa0 HT_.out (by kernel_rfl)) (fun _ _ _ h => h) (Or.inl ⟨by rfl, ?_⟩) ?_ ?_
        rotate_left
        ·intro w'
         go_simp
         with_reducible rfl
        rotate_left
        ·simp only [Act.put, List.setIfInBounds_toArray, List.set_cons_zero, List.set_cons_succ, qax, qay]
         rfl
        refine qbc (i := 6) (N := some 46) (v := ?_) (a' := ?_) #[true, true, true, true, false, true, true, false, false, false, false] rfl rfl (qa0 HT_.out (by kernel_rfl)) (fun _ _ _ h => h) (Or.inl ⟨by rfl, ?_⟩) ?_ ?_
        rotate_left
        ·intro w'
         go_simp
         with_reducible rfl
        rotate_left
        ·simp only [Act.put, List.setIfInBounds_toArray, List.set_cons_zero, List.set_cons_succ, qax, qay]
         rfl
        refine take_ (i := 4) (N := some 44) (v := ?_) (a' := ?_) #[true, true, true, true, true, true, true, false, false, false, false] rfl rfl (qbg HT_.out HW_.out (by kernel_rfl)) (fun _ _ _ h => h) (Or.inl ⟨by rfl, ?_⟩) hHeld ?_ ?_
        rotate_left
        ·rintro w' ⟨s0, s1⟩
         go_simp
         with_reducible rfl
        rotate_left
        ·simp only [Act.put, List.setIfInBounds_toArray, List.set_cons_zero, List.set_cons_succ, qax, qay]
         rfl
        refine take_ (i := 7) (N := some 47) (v := ?_) (a' := ?_) #[true, true, true, true, true, true, true, true, false, false, false] rfl rfl (qbg HT_.out HW_.out (by kernel_rfl)) (fun _ _ _ h => h) (Or.inl ⟨by rfl, ?_⟩) hHeld ?_ ?_
        rotate_left
        ·rintro w' ⟨s0, s1⟩
         go_simp
         with_reducible rfl
        rotate_left
        ·simp only [Act.put, List.setIfInBounds_toArray, List.set_cons_zero, List.set_cons_succ, qax, qay]
         rfl
        refine qbc (i := 8) (N := some 48) (v := ?_) (a' := ?_) #[true, true, true, true, true, true, true, true, true, false, false] rfl rfl (qa0 HT_.out (by kernel_rfl)) (fun _ _ _ h => h) (Or.inl ⟨by rfl, ?_⟩) ?_ ?_
        rotate_left
        ·intro w'
         go_simp
         with_reducible rfl
        rotate_left
        ·simp only [Act.put, List.setIfInBounds_toArray, List.set_cons_zero, List.set_cons_succ, qax, qay]
         rfl
        refine one_ (i := 9) (N := none) #[true, true, true, true, true, true, true, true, true, true, false] rfl rfl (qb6 HT_.out (by kernel_rfl)) (by decide) (fun K hK => ?_)
        have hs50 : w49.cell? ⟨gb173, 0, none⟩ = some (.bool false) := (qah BK173.out 0).trans rfl
        have hfs50 := qae BK173.out 0
        have hs51 : w49.cell? ⟨gb173, 1, none⟩ = some (.int .i64 0) := (qah BK173.out 1).trans rfl
        have hfs51 := qae BK173.out 1
        have hs52 : w49.cell? ⟨gb173, 2, none⟩ = some (.int .i64 0) := (qah BK173.out 2).trans rfl
        have hfs52 := qae BK173.out 2
        refine skip_ (w1 := ?_) (by rfl) rfl ?_ ?_
        rotate_left
        ·go_simp
         rfl
        refine hK.out _ _ ⟨((cell_far (p := ⟨gb173, _, none⟩) (by first | exact Kd.own_blk (Kd.R_ne HO178.out BK173.out (by decide)) | (rw [add_block]; exact Kd.own_blk (Kd.R_ne HO178.out BK173.out (by decide))) | (show (Addr.add _ _).block ≠ _; rw [add_block]; exact Kd.own_blk (Kd.R_ne HO178.out BK173.out (by decide))) | (dsimp only; exact Kd.own_blk (Kd.R_ne HO178.out BK173.out (by decide)))) _).trans (((cell_far (p := ⟨gb173, _, none⟩) (by first | exact Kd.own_blk (Kd.R_ne HO178.out BK173.out (by decide)) | (rw [add_block]; exact Kd.own_blk (Kd.R_ne HO178.out BK173.out (by decide))) | (show (Addr.add _ _).block ≠ _; rw [add_block]; exact Kd.own_blk (Kd.R_ne HO178.out BK173.out (by decide))) | (dsimp only; exact Kd.own_blk (Kd.R_ne HO178.out BK173.out (by decide)))) _).trans (((cell_far (p := ⟨gb173, _, none⟩) (by first | exact Kd.own_blk (Kd.R_ne HO178.out BK173.out (by decide)) | (rw [add_block]; exact Kd.own_blk (Kd.R_ne HO178.out BK173.out (by decide))) | (show (Addr.add _ _).block ≠ _; rw [add_block]; exact Kd.own_blk (Kd.R_ne HO178.out BK173.out (by decide))) | (dsimp only; exact Kd.own_blk (Kd.R_ne HO178.out BK173.out (by decide)))) _).trans (hHeld.1)))))), ((cell_far (p := ⟨gb173, _, none⟩) (by first | exact Kd.own_blk (Kd.R_ne HO178.out BK173.out (by decide)) | (rw [add_block]; exact Kd.own_blk (Kd.R_ne HO178.out BK173.out (by decide))) | (show (Addr.add _ _).block ≠ _; rw [add_block]; exact Kd.own_blk (Kd.R_ne HO178.out BK173.out (by decide))) | (dsimp only; exact Kd.own_blk (Kd.R_ne HO178.out BK173.out (by decide)))) _).trans (((cell_far (p := ⟨gb173, _, none⟩) (by first | exact Kd.own_blk (Kd.R_ne HO178.out BK173.out (by decide)) | (rw [add_block]; exact Kd.own_blk (Kd.R_ne HO178.out BK173.out (by decide))) | (show (Addr.add _ _).block ≠ _; rw [add_block]; exact Kd.own_blk (Kd.R_ne HO178.out BK173.out (by decide))) | (dsimp only; exact Kd.own_blk (Kd.R_ne HO178.out BK173.out (by decide)))) _).trans (((cell_far (p := ⟨gb173, _, none⟩) (by first | exact Kd.own_blk (Kd.R_ne HO178.out BK173.out (by decide)) | (rw [add_block]; exact Kd.own_blk (Kd.R_ne HO178.out BK173.out (by decide))) | (show (Addr.add _ _).block ≠ _; rw [add_block]; exact Kd.own_blk (Kd.R_ne HO178.out BK173.out (by decide))) | (dsimp only; exact Kd.own_blk (Kd.R_ne HO178.out BK173.out (by decide)))) _).trans (hHeld.2))))))⟩ (fun hHeld => ?_)
        clear hK K
        refine qbc (i := 10) (N := some 3) (v := ?_) (a' := ?_) #[true, true, true, true, true, true, true, true, true, true, true] rfl rfl (qa0 HT_.out (by kernel_rfl)) (fun _ _ _ h => h) (Or.inl ⟨by rfl, ?_⟩) ?_ ?_
        rotate_left
        ·intro w'
         go_simp
         with_reducible rfl
        rotate_left
        ·simp only [Act.put, List.setIfInBounds_toArray, List.set_cons_zero, List.set_cons_succ, qax, qay]
         rfl
        refine done_ (done_of HT_.out (by kernel_rfl)) ?_
        try go_wp2
        refine bodyPost_ret (qbd rfl _ _ gb173 48 #[.bool (t174.toList == ([119] : List UInt8)), .int .i64 (rd t175 0), .int .i64 (rd t175 1)] (0, 0) _ rfl (by (with_reducible repeat (first | refine qaf ?_ _ | refine qaj ?_ | refine qag ?_ _)); refine qaq (cs := #[.bool (t174.toList == ([119] : List UInt8)), .int .i64 (rd t175 0), .int .i64 0]) ?_ 2 _ rfl; (with_reducible repeat (first | refine qaf ?_ _ | refine qaj ?_ | refine qag ?_ _)); refine qaq (cs := #[.bool (t174.toList == ([119] : List UInt8)), .int .i64 0, .int .i64 0]) ?_ 1 _ rfl; (with_reducible repeat (first | refine qaf ?_ _ | refine qaj ?_ | refine qag ?_ _)); refine qaq (cs := #[.bool false, .int .i64 0, .int .i64 0]) ?_ 0 _ (by first | rfl | simp [*]); (with_reducible repeat (first | refine qaf ?_ _ | refine qaj ?_ | refine qag ?_ _)); exact BK173.out) Tryd.underlying48 rfl (by kernel_rfl)) rfl ?_
        exact ⟨by first | rfl | (simp [qan, qam] <;> rfl) | (simp [*, qan, qam] <;> rfl), by repeat (first | (with_reducible first | exact HB.out | apply qab | apply qaa | apply qac | refine qai ?_ GE173.out) | exact HB.out)⟩
      ·rw [if_neg c40] at H
       exact absurd H (by simp)
    ·rw [if_neg c34] at H
     exact absurd H (by simp)
   ·rw [if_neg c33] at H
    have c33b0 : (t174.toList == ([119] : List UInt8)) = false := beq_eq_false_iff_ne.mpr c33
    have c33b1 : (t174.toList != ([119] : List UInt8)) = true := bne_iff_ne.mpr c33
    simp only [Option.some.injEq, Prod.mk.injEq] at H
    obtain ⟨rfl, rfl, rfl, rfl⟩ := H
    go_enter Tryd.func36, Tryd.ntmps36
    go_wp2_with (first | ((with_reducible refine qat (N := 2) rfl ?_); refine qas ?hg (N := 2) ?hd (cs := #[.bool false, .int .i64 0, .int .i64 0]) (t := 48) ?hr ?_; (case hd => rfl); (case hg => rfl); (case hr => first | (go_simp; done) | (go_simp; rfl)); intro gb173 hg w53 hbox hb; have n0_ := Aside0.mk (qal (by repeat (first | (with_reducible first | exact HB.out | apply qab | apply qaa | apply qac) | exact HB.out)) hb); have n1_ := Aside0.mk (hbox); have n2_ := Aside0.mk ((by rw [hg]; exact (qak (by repeat (first | (with_reducible first | exact HB.out | apply qab | apply qaa | apply qac) | exact HB.out))) : w.heap.size ≤ gb173)); have n3_ := Aside0.mk ((by rw [hg]; exact (qak (by repeat (first | (with_reducible first | exact HB.out | apply qab | apply qaa | apply qac) | exact HB.out))) : w.heap.size ≤ gb173)); clear HB; have HB := n0_; have BK173 := n1_; have GW173 := n2_; have GE173 := n3_; clear n0_ n1_ n2_ n3_; clear hb hbox hg) | ((with_reducible refine qao (f := 35) rfl ?_); refine qav (some 9) rfl rfl Tryd.func35 (by kernel_rfl) rfl #[.string a0, .int .i64 2] rfl (by (try simp only [List.map_toArray, List.map_cons, List.map_nil]); first | done | rfl | (simp only [List.length_drop, List.length_take]; rfl)) ?_; (with_reducible refine (burgageref03_Words.calls k a0 2 t174 t175 true _ A2.out (Laid.below HY (by repeat (first | (with_reducible first | exact HB.out | apply qab | apply qaa | apply qac | refine qai ?_ GE173.out) | exact HB.out)))).mono ?_); rintro e w54 ⟨v177, rfl, ho0, hb⟩; refine ⟨_, rfl, ?_⟩; have n0_ := Aside0.mk (Kd.R_lower ho0 (qak (by repeat (first | (with_reducible first | exact HB.out | apply qab | apply qaa | apply qac | refine qai ?_ GE173.out) | exact HB.out)))); have n1_ := Aside0.mk (qar (g := gb173) (o := .cells #[.bool false, .int .i64 0, .int .i64 0] 48 (0, 0)) (by (with_reducible repeat (first | refine qaf ?_ _ | refine qaj ?_ | refine qag ?_ _)); exact BK173.out) hb); have n2_ := Aside0.mk (qal (by repeat (first | (with_reducible first | exact HB.out | apply qab | apply qaa | apply qac | refine qai ?_ GE173.out) | exact HB.out)) hb); clear BK173; clear HB; have HO178 := n0_; have BK173 := n1_; have HB := n2_; clear n0_ n1_ n2_; (try clear hb); (try clear hb2); (try clear hk); (try clear hi); (try clear ho0); have hcz55_0 : w54.cell? ⟨gb173, 0, none⟩ = some (.bool false) := (qah BK173.out 0).trans rfl; have hcz55_1 : w54.cell? ⟨gb173, 1, none⟩ = some (.int .i64 0) := (qah BK173.out 1).trans rfl; have hcz55_2 : w54.cell? ⟨gb173, 2, none⟩ = some (.int .i64 0) := (qah BK173.out 2).trans rfl; have hfz55_0 := qae BK173.out 0; have hfz55_1 := qae BK173.out 1; have hfz55_2 := qae BK173.out 2))
    refine bodyPost_ret (qbd rfl _ _ gb173 48 #[.bool false, .int .i64 0, .int .i64 0] (0, 0) _ rfl (by (with_reducible repeat (first | refine qaf ?_ _ | refine qaj ?_ | refine qag ?_ _)); refine qaq (cs := #[.bool false, .int .i64 0, .int .i64 0]) ?_ 2 _ rfl; (with_reducible repeat (first | refine qaf ?_ _ | refine qaj ?_ | refine qag ?_ _)); refine qaq (cs := #[.bool false, .int .i64 0, .int .i64 0]) ?_ 1 _ rfl; (with_reducible repeat (first | refine qaf ?_ _ | refine qaj ?_ | refine qag ?_ _)); refine qaq (cs := #[.bool false, .int .i64 0, .int .i64 0]) ?_ 0 _ rfl; (with_reducible repeat (first | refine qaf ?_ _ | refine qaj ?_ | refine qag ?_ _)); exact BK173.out) Tryd.underlying48 rfl (by kernel_rfl)) rfl ?_
    exact ⟨by first | rfl | (simp [qan, qam] <;> rfl) | (simp [*, qan, qam] <;> rfl), by repeat (first | (with_reducible first | exact HB.out | apply qab | apply qaa | apply qac | refine qai ?_ GE173.out) | exact HB.out)⟩
 ·replace c3 := Bool.eq_false_iff.mpr c3
  subst c3
  have H1 : (some (false, 0, 0, false)) = some (r1, r2, r3, r4) := by rw [if_neg (show ¬ (false = true) by decide)] at H; exact H
  clear H
  have H := H1
  clear H1
  simp only [Option.some.injEq, Prod.mk.injEq] at H
  obtain ⟨rfl, rfl, rfl, rfl⟩ := H
  go_enter Tryd.func36, Tryd.ntmps36
  go_wp2_with (first | ((with_reducible refine qat (N := 2) rfl ?_); refine qas ?hg (N := 2) ?hd (cs := #[.bool false, .int .i64 0, .int .i64 0]) (t := 48) ?hr ?_; (case hd => rfl); (case hg => rfl); (case hr => first | (go_simp; done) | (go_simp; rfl)); intro gb173 hg w56 hbox hb; have n0_ := Aside0.mk (qal (by repeat (first | (with_reducible first | exact HB.out | apply qab | apply qaa | apply qac) | exact HB.out)) hb); have n1_ := Aside0.mk (hbox); have n2_ := Aside0.mk ((by rw [hg]; exact (qak (by repeat (first | (with_reducible first | exact HB.out | apply qab | apply qaa | apply qac) | exact HB.out))) : w.heap.size ≤ gb173)); have n3_ := Aside0.mk ((by rw [hg]; exact (qak (by repeat (first | (with_reducible first | exact HB.out | apply qab | apply qaa | apply qac) | exact HB.out))) : w.heap.size ≤ gb173)); clear HB; have HB := n0_; have BK173 := n1_; have GW173 := n2_; have GE173 := n3_; clear n0_ n1_ n2_ n3_; clear hb hbox hg) | ((with_reducible refine qao (f := 35) rfl ?_); refine qav (some 9) rfl rfl Tryd.func35 (by kernel_rfl) rfl #[.string a0, .int .i64 2] rfl (by (try simp only [List.map_toArray, List.map_cons, List.map_nil]); first | done | rfl | (simp only [List.length_drop, List.length_take]; rfl)) ?_; (with_reducible refine (burgageref03_Words.calls k a0 2 t174 t175 false _ A2.out (Laid.below HY (by repeat (first | (with_reducible first | exact HB.out | apply qab | apply qaa | apply qac | refine qai ?_ GE173.out) | exact HB.out)))).mono ?_); rintro e w57 ⟨v177, rfl, ho0, hb⟩; refine ⟨_, rfl, ?_⟩; have n0_ := Aside0.mk (Kd.R_lower ho0 (qak (by repeat (first | (with_reducible first | exact HB.out | apply qab | apply qaa | apply qac | refine qai ?_ GE173.out) | exact HB.out)))); have n1_ := Aside0.mk (qar (g := gb173) (o := .cells #[.bool false, .int .i64 0, .int .i64 0] 48 (0, 0)) (by (with_reducible repeat (first | refine qaf ?_ _ | refine qaj ?_ | refine qag ?_ _)); exact BK173.out) hb); have n2_ := Aside0.mk (qal (by repeat (first | (with_reducible first | exact HB.out | apply qab | apply qaa | apply qac | refine qai ?_ GE173.out) | exact HB.out)) hb); clear BK173; clear HB; have HO178 := n0_; have BK173 := n1_; have HB := n2_; clear n0_ n1_ n2_; (try clear hb); (try clear hb2); (try clear hk); (try clear hi); (try clear ho0); have hcz58_0 : w57.cell? ⟨gb173, 0, none⟩ = some (.bool false) := (qah BK173.out 0).trans rfl; have hcz58_1 : w57.cell? ⟨gb173, 1, none⟩ = some (.int .i64 0) := (qah BK173.out 1).trans rfl; have hcz58_2 : w57.cell? ⟨gb173, 2, none⟩ = some (.int .i64 0) := (qah BK173.out 2).trans rfl; have hfz58_0 := qae BK173.out 0; have hfz58_1 := qae BK173.out 1; have hfz58_2 := qae BK173.out 2))
  refine bodyPost_ret (qbd rfl _ _ gb173 48 #[.bool false, .int .i64 0, .int .i64 0] (0, 0) _ rfl (by (with_reducible repeat (first | refine qaf ?_ _ | refine qaj ?_ | refine qag ?_ _)); refine qaq (cs := #[.bool false, .int .i64 0, .int .i64 0]) ?_ 2 _ rfl; (with_reducible repeat (first | refine qaf ?_ _ | refine qaj ?_ | refine qag ?_ _)); refine qaq (cs := #[.bool false, .int .i64 0, .int .i64 0]) ?_ 1 _ rfl; (with_reducible repeat (first | refine qaf ?_ _ | refine qaj ?_ | refine qag ?_ _)); refine qaq (cs := #[.bool false, .int .i64 0, .int .i64 0]) ?_ 0 _ rfl; (with_reducible repeat (first | refine qaf ?_ _ | refine qaj ?_ | refine qag ?_ _)); exact BK173.out) Tryd.underlying48 rfl (by kernel_rfl)) rfl ?_
  exact ⟨by first | rfl | (simp [qan, qam] <;> rfl) | (simp [*, qan, qam] <;> rfl), by repeat (first | (with_reducible first | exact HB.out | apply qab | apply qaa | apply qac | refine qai ?_ GE173.out) | exact HB.out)⟩
end Go.Proofs.YtanofkgnjmegdaaDoor.Q
end
section
namespace Go.Proofs.YtanofkgnjmegdaaDoor.Q
open Go.Proofs.YtanofkgnjmegdaaDoor Go.Proofs.YtanofkgnjmegdaaDoor.Hand Go.Proofs.YtanofkgnjmegdaaDoor.Give Go.Proofs.YtanofkgnjmegdaaDoor.K
open Go.RowKit Go.Proofs.YtanofkgnjmegdaaDoorW.PrintWords Go.Proofs.YtanofkgnjmegdaaDoorW.PrintLast Go.Proofs.YtanofkgnjmegdaaDoorW.PrintMore
attribute [local go_sem] qbv qbt qb3 qb2 qbl qbk qbu qbs   -- for this text's walks alone
set_option linter.unusedVariables false
set_option linter.unusedSimpArgs false
mutual
def burgageref07_Lines.l0 : Nat → List ByteArray → List (S38) → Int → Option ((List (S38)) × Int)
 | 0, _, _, _ => none
 | k + 1, x0, x4, x5 => if x5 < (x0.length : Int) then (if 0 ≤ x5 then ((burgageref03_Words.f k (rdOf ByteArray.empty x0 x5) 3).bind fun bt193 => ((burgageref07_opOf.f k (rdOf ByteArray.empty x0 x5)).bind fun bt199 => (if bt193.2.2 = true then (burgageref07_Lines.j1 k x0 x4 x5 bt193.2.1 bt199.2.2.2 (bt193.1.toList == ([116, 120, 110] : List UInt8)) bt199.1 bt199.2.1 bt199.2.2.1) else (burgageref07_Lines.j1 k x0 x4 x5 bt193.2.1 bt199.2.2.2 false bt199.1 bt199.2.1 bt199.2.2.1)))) else (none)) else (some (x4, 0))
def burgageref07_Lines.j1 : Nat → List ByteArray → List (S38) → Int → List Int → Bool → Bool → Bool → Int → Int → Option ((List (S38)) × Int)
 | 0, _, _, _, _, _, _, _, _, _ => none
 | k + 1, x0, x4, x5, x7, x10, x40, x204000, x204001, x204002 => if x40 = true then (if 0 < (x7.length : Int) then (if 1 < (x7.length : Int) then (if 2 < (x7.length : Int) then ((some (([(⟨rd x7 0, rd x7 1, rd x7 2, ([] : List (S48))⟩ : S38)] : List (S38)) : List (S38))).bind fun y207 => (if x4.length + y207.length < 2932031007402 then (burgageref07_Lines.l0 k x0 (x4 ++ y207) (wrap64 (x5 + 1))) else (none))) else (none)) else (none)) else (none)) else (if x10 = true then (if (x4.length : Int) > 0 then (if 0 ≤ (wrap64 ((x4.length : Int) - 1)) then (if (wrap64 ((x4.length : Int) - 1)) < (x4.length : Int) then ((some (([] : List (S48)) : List (S48))).bind fun y215 => (if y215.length + ((qad x4 (wrap64 ((x4.length : Int) - 1))).f3).length < 5864062014805 then ((some (y215 ++ ((qad x4 (wrap64 ((x4.length : Int) - 1))).f3) : List (S48))).bind fun y218 => ((some (([(⟨x204000, x204001, x204002⟩ : S48)] : List (S48)) : List (S48))).bind fun y221 => (if y218.length + y221.length < 5864062014805 then (burgageref07_Lines.l0 k x0 (x4.set ((wrap64 ((x4.length : Int) - 1)) : Int).toNat (⟨(qad x4 (wrap64 ((x4.length : Int) - 1))).f0, (qad x4 (wrap64 ((x4.length : Int) - 1))).f1, (qad x4 (wrap64 ((x4.length : Int) - 1))).f2, (y218 ++ y221)⟩ : S38)) (wrap64 (x5 + 1))) else (none)))) else (none))) else (none)) else (none)) else (some (([] : List (S38)), wrap64 (x5 + 1)))) else (some (([] : List (S38)), wrap64 (x5 + 1))))
end
def burgageref07_Lines.f (k : Nat) (l0 : List ByteArray) : Option ((List (S38)) × Int) := burgageref07_Lines.l0 k l0 (([] : List (S38))) 0
theorem burgageref07_Lines.mono_l : ∀ k, (∀ y0 y1 y2, LeO (burgageref07_Lines.l0 k y0 y1 y2) (burgageref07_Lines.l0 (k + 1) y0 y1 y2)) ∧ (∀ y0 y1 y2 y3 y4 y5 y6 y7 y8, LeO (burgageref07_Lines.j1 k y0 y1 y2 y3 y4 y5 y6 y7 y8) (burgageref07_Lines.j1 (k + 1) y0 y1 y2 y3 y4 y5 y6 y7 y8))
 | 0 => ⟨fun _ _ _ r h => by simp [burgageref07_Lines.l0] at h, fun _ _ _ _ _ _ _ _ _ r h => by simp [burgageref07_Lines.j1] at h⟩
 | k + 1 => by
  obtain ⟨ih0, ih1⟩ := burgageref07_Lines.mono_l k
  refine ⟨?_, ?_⟩
  ·intro y0 y1 y2
   unfold burgageref07_Lines.l0
   repeat' first
   | (with_reducible exact ih0 _ _ _)
   | (with_reducible exact ih1 _ _ _ _ _ _ _ _ _)
   | (with_reducible exact burgageref03_Words.mono _ _ _)
   | (with_reducible exact burgageref07_opOf.mono _ _)
   | (with_reducible exact LeO.refl _)
   | (with_reducible exact LeO.none _)
   | (with_reducible refine LeO.ite ?_ ?_)
   | (with_reducible refine LeO.bind ?_ (fun _ => ?_))
   | exact ih0 _ _ _
   | exact ih1 _ _ _ _ _ _ _ _ _
   | exact burgageref03_Words.mono _ _ _
   | exact burgageref07_opOf.mono _ _
   | exact LeO.none _
   | refine LeO.ite ?_ ?_
   | refine LeO.bind ?_ (fun _ => ?_)
  ·intro y0 y1 y2 y3 y4 y5 y6 y7 y8
   unfold burgageref07_Lines.j1
   repeat' first
   | (with_reducible exact ih0 _ _ _)
   | (with_reducible exact ih1 _ _ _ _ _ _ _ _ _)
   | (with_reducible exact burgageref03_Words.mono _ _ _)
   | (with_reducible exact burgageref07_opOf.mono _ _)
   | (with_reducible exact LeO.refl _)
   | (with_reducible exact LeO.none _)
   | (with_reducible refine LeO.ite ?_ ?_)
   | (with_reducible refine LeO.bind ?_ (fun _ => ?_))
   | exact ih0 _ _ _
   | exact ih1 _ _ _ _ _ _ _ _ _
   | exact burgageref03_Words.mono _ _ _
   | exact burgageref07_opOf.mono _ _
   | exact LeO.none _
   | refine LeO.ite ?_ ?_
   | refine LeO.bind ?_ (fun _ => ?_)
theorem burgageref07_Lines.mono : ∀ a0 k, LeO (burgageref07_Lines.f k a0) (burgageref07_Lines.f (k + 1) a0) := by
 intro a0 k
 obtain ⟨ih0, ih1⟩ := burgageref07_Lines.mono_l k
 unfold burgageref07_Lines.f
 repeat' first
   | (with_reducible exact ih0 _ _ _)
   | (with_reducible exact ih1 _ _ _ _ _ _ _ _ _)
   | (with_reducible exact burgageref03_Words.mono _ _ _)
   | (with_reducible exact burgageref07_opOf.mono _ _)
   | (with_reducible exact LeO.refl _)
   | (with_reducible exact LeO.none _)
   | (with_reducible refine LeO.ite ?_ ?_)
   | (with_reducible refine LeO.bind ?_ (fun _ => ?_))
   | exact ih0 _ _ _
   | exact ih1 _ _ _ _ _ _ _ _ _
   | exact burgageref03_Words.mono _ _ _
   | exact burgageref07_opOf.mono _ _
   | exact LeO.none _
   | refine LeO.ite ?_ ?_
   | refine LeO.bind ?_ (fun _ => ?_)
def burgageref07_Lines.T8 : Bool × List (List Nat × List Nat) := (true, [([], []), ([], []), ([1], [1]), ([2], [2]), ([], []), ([4], [4]), ([5], [5]), ([], []), ([7], [7]), ([8], [8]), ([3, 6, 9], [3, 6, 9]), ([10], [10]), ([0, 11], [0, 11]), ([12, 12, 0, 1, 2, 3, 4, 5, 6, 7, 8, 9, 10, 11, 12], [0, 12])])
def burgageref07_Lines.B8 : List Nat := [0, 0, 2, 6, 0, 16, 48, 0, 128, 384, 1022, 2046, 4095, 8191]
theorem burgageref07_Lines.tab8 : rtab .any (opsOf Tryd.f18 8) = burgageref07_Lines.T8 := by kernel_rfl
theorem burgageref07_Lines.bits8 : waitsOk burgageref07_Lines.T8.2 burgageref07_Lines.B8 = true := by kernel_rfl
def burgageref07_Lines.T11 : Bool × List (List Nat × List Nat) := (true, [([], []), ([], []), ([1], [1]), ([0, 2], [0, 2]), ([], []), ([4], [4]), ([3, 5, 3], [3, 5]), ([0, 1, 2, 3, 4, 5, 6], []), ([7, 6, 6, 0, 1, 2, 3, 4, 5, 6], [6, 7])])
def burgageref07_Lines.B11 : List Nat := [0, 0, 2, 7, 0, 16, 63, 127, 255]
theorem burgageref07_Lines.tab11 : rtab .any (opsOf Tryd.f18 11) = burgageref07_Lines.T11 := by kernel_rfl
theorem burgageref07_Lines.bits11 : waitsOk burgageref07_Lines.T11.2 burgageref07_Lines.B11 = true := by kernel_rfl
set_option maxHeartbeats 8000000 in
set_option maxRecDepth 100000 in
theorem burgageref07_Lines.calls (k : Nat) (A0 : Option Addr) (c0 : Nat) (l0 : List ByteArray) (r1 : List (S38)) (r2 : Int) (w : World) (hr0 : Kd.C Kd.string w A0 l0.length l0) (hc0 : l0.length ≤ c0) (h : burgageref07_Lines.f k l0 = some (r1, r2)) (HY : Laid w) :
  Calls Tryd.prog 18 #[.slice A0 l0.length c0] w fun e w' => ∃ v0_ : Value, e = .returned (.tuple #[v0_, .int .i64 r2]) ∧ Kd.N k38 38 w' w.heap.size (fun k_ => (w.heap.size ≤ k_)) v0_ r1 ∧ Below w.heap.size w w' := by
 have hu48 := Tryd.underlying48
 have hu38 := Tryd.underlying38
 have HR0 := Aside0.mk hr0
 have HC0 := Aside0.mk hc0
 clear hr0 hc0
 have HB := Aside0.mk (Below.refl w.heap.size w)
 have H : (burgageref07_Lines.l0 k l0 (([] : List (S38))) 0) = some (r1, r2) := h
 clear h
 obtain ⟨y189, hy189⟩ : ∃ y_ : List (S38), y_ = (([] : List (S38))) := ⟨_, rfl⟩
 replace H : (burgageref07_Lines.l0 k l0 y189 0) = some (r1, r2) := by first | (rw [hy189]; with_reducible exact H) | (have H2_ := (Option.bind_some _ _).symm.trans H; rw [hy189]; with_reducible exact H2_) | (have H2_ := (Option.bind_some _ _).symm.trans H; with_reducible exact H2_) | with_reducible exact H | (rw [hy189]; exact H) | exact H
 have Ny189 := Aside0.mk hy189
 clear hy189
 have H' := Aside0.mk H
 clear H
 go_enter Tryd.func18, Tryd.ntmps18
 go_wp2_with (first | ((with_reducible refine qat (N := 12) rfl ?_); (try (refine qa7 (by rfl) ?_; dsimp only)); refine Kd.N_lit k38 _ 38 ?hg (N' := 12) ?hd (xs := ([] : List (S38))) (inner := []) (ok := (fun k_ => (w.heap.size ≤ k_))) (okp := (fun k_ => (w.heap.size ≤ k_))) ?hr ?hp (fun _ hk => hk) ((show ∀ k_, w.heap.size ≤ k_ → (fun k_ => (w.heap.size ≤ k_)) k_ from fun k_ hk => (Nat.le_trans (qak (by repeat (first | (with_reducible first | exact HB.out | apply qab | apply qaa | apply qac) | exact HB.out))) hk)) _ (Nat.le_refl _)) (Below.refl _ _) (Nat.le_refl _) (by simp) ?_; (case hd => rfl); (case hg => rfl); (case hr => first | (go_simp; done) | (go_simp; rfl)); (case hp => exact (Reps.none _ _)); intro v190 w2 ho3 hb hg_ hnew_; clear hg_ hnew_; (first | rw [← Ny189.out] at ho3 | (simp only [Int.reduceToNat] at ho3; rw [← Ny189.out] at ho3)); have n0_ := Aside0.mk (Kd.N_lower ho3 (qak (by repeat (first | (with_reducible first | exact HB.out | apply qab | apply qaa | apply qac) | exact HB.out)))); have n1_ := Aside0.mk (qal (by repeat (first | (with_reducible first | exact HB.out | apply qab | apply qaa | apply qac) | exact HB.out)) hb); clear HB; have HO191 := n0_; have HB := n1_; clear n0_ n1_; clear hb ho3))
 go_loopg [4, 5] k (fun kq v4 v5 w' => ∃ (x4_1 : List (S38)) (x5_1 : Int), v5 = .int .i64 x5_1 ∧ Aside0 (burgageref07_Lines.l0 kq l0 x4_1 x5_1 = some (r1, r2)) ∧ Aside0 (kq ≤ k) ∧ Aside0 (Kd.N k38 38 w' w.heap.size (fun k_ => (w.heap.size ≤ k_)) v4 x4_1) ∧ Aside0 (Below w.heap.size w w'))
 case atStart => exact ⟨(y189), (0), (by first | rfl | (simp; done) | (simp [*]; done)), H', ⟨Nat.le_refl _⟩, ⟨by (with_reducible repeat (first | apply Kd.N_alloc | apply Kd.N_drewN | apply Kd.N_drew)); exact HO191.out⟩, ⟨by repeat (first | (with_reducible first | exact HB.out | apply qab | apply qaa | apply qac) | exact HB.out)⟩⟩
 case round =>
  clear H'
  try clear c1
  try clear p2
  obtain ⟨x4_1, x5_1, rfl, HA, HK1, HO_4, HB⟩ := hrel
  cases gk with
  | zero => exact absurd HA.out (by simp [burgageref07_Lines.l0])
  | succ k1 =>
   have H := HA.out
   clear HA
   simp only [burgageref07_Lines.l0] at H
   by_cases c4 : x5_1 < (l0.length : Int)
   ·rw [if_pos c4] at H
    have c4b0 : decide (x5_1 < (l0.length : Int)) = true := decide_eq_true c4
    clear c4
    by_cases c5 : 0 ≤ x5_1
    ·rw [if_pos c5] at H
     have c5b0 : decide (0 ≤ x5_1) = true := decide_eq_true c5
     clear c5
     replace H := Option.bind_eq_some_iff.mp H
     obtain ⟨⟨t193, t194, t195⟩, A60, H⟩ := H
     replace H : ((burgageref07_opOf.f k1 (rdOf ByteArray.empty l0 x5_1)).bind fun bt199 => (if t195 = true then (burgageref07_Lines.j1 k1 l0 x4_1 x5_1 t194 bt199.2.2.2 (t193.toList == ([116, 120, 110] : List UInt8)) bt199.1 bt199.2.1 bt199.2.2.1) else (burgageref07_Lines.j1 k1 l0 x4_1 x5_1 t194 bt199.2.2.2 false bt199.1 bt199.2.1 bt199.2.2.1))) = some (r1, r2) := H
     have A6 := Aside0.mk A60
     clear A60
     replace H := Option.bind_eq_some_iff.mp H
     obtain ⟨⟨t199, t200, t201, t202⟩, A70, H⟩ := H
     replace H : (if t195 = true then (burgageref07_Lines.j1 k1 l0 x4_1 x5_1 t194 t202 (t193.toList == ([116, 120, 110] : List UInt8)) t199 t200 t201) else (burgageref07_Lines.j1 k1 l0 x4_1 x5_1 t194 t202 false t199 t200 t201)) = some (r1, r2) := H
     have A7 := Aside0.mk A70
     clear A70
     have HC8 := Aside0.mk H
     clear H
     have p192 : 0 ≤ (x5_1 : Int) := of_decide_eq_true (by first | (with_reducible assumption) | assumption)
     have q192 : x5_1 < (l0.length : Int) := of_decide_eq_true (by first | (with_reducible assumption) | assumption)
     obtain ⟨ad192, e192, hx192_0⟩ := Kd.at_string HR0.out x5_1 p192 q192
     cases e192
     replace hx192_0 := (HB.out.cell (World.block_lt_of_cell? w _ hx192_0)).trans hx192_0
     replace p192 := eq_true p192
     replace q192 := eq_true q192
     go_upto_region 7 with (first | ((with_reducible refine qao (f := 35) rfl ?_); refine qav (some 24) rfl rfl Tryd.func35 (by kernel_rfl) rfl #[.string (rdOf ByteArray.empty l0 x5_1), .int .i64 3] rfl (by (try simp only [List.map_toArray, List.map_cons, List.map_nil]); first | done | rfl | (simp only [List.length_drop, List.length_take]; rfl)) ?_; (with_reducible refine (burgageref03_Words.calls k1 (rdOf ByteArray.empty l0 x5_1) 3 t193 t194 t195 _ A6.out (Laid.below HY (by repeat (first | (with_reducible first | exact HB.out | apply qab | apply qaa | apply qac) | exact HB.out)))).mono ?_); rintro e w9 ⟨v196, rfl, ho0, hb⟩; refine ⟨_, rfl, ?_⟩; have n0_ := Aside0.mk (Kd.qb1 (by (with_reducible repeat (first | apply Kd.N_alloc | apply Kd.N_drewN | apply Kd.N_drew)); exact HO_4.out) (Kd.R_base ho0) hb); have n1_ := Aside0.mk (Kd.R_lower (Kd.R_newM (M := fun k_ => (w.heap.size ≤ k_)) ho0 (qak (by repeat (first | (with_reducible first | exact HB.out | apply qab | apply qaa | apply qac) | exact HB.out))) (fun k_ h_ => h_)) (qak (by repeat (first | (with_reducible first | exact HB.out | apply qab | apply qaa | apply qac) | exact HB.out)))); have n2_ := Aside0.mk (qal (by repeat (first | (with_reducible first | exact HB.out | apply qab | apply qaa | apply qac) | exact HB.out)) hb); clear HO_4; clear HB; have HO_4 := n0_; have HO197 := n1_; have HB := n2_; clear n0_ n1_ n2_; (try clear hb); (try clear hb2); (try clear hk); (try clear hi); (try clear ho0); have p198 : 0 ≤ (x5_1 : Int) := of_decide_eq_true (by first | (with_reducible assumption) | assumption); have q198 : x5_1 < (l0.length : Int) := of_decide_eq_true (by first | (with_reducible assumption) | assumption); obtain ⟨ad198, e198, hx198_0⟩ := Kd.at_string HR0.out x5_1 p198 q198; obtain rfl : ad192 = ad198 := (by injection e198); replace hx198_0 := (HB.out.cell (World.block_lt_of_cell? w _ hx198_0)).trans hx198_0; replace p198 := eq_true p198; replace q198 := eq_true q198) | ((with_reducible refine qao (f := 36) rfl ?_); refine qav (some 33) rfl rfl Tryd.func36 (by kernel_rfl) rfl #[.string (rdOf ByteArray.empty l0 x5_1)] rfl (by (try simp only [List.map_toArray, List.map_cons, List.map_nil]); first | done | rfl | (simp only [List.length_drop, List.length_take]; rfl)) ?_; (with_reducible refine (burgageref07_opOf.calls k1 (rdOf ByteArray.empty l0 x5_1) t199 t200 t201 t202 _ A7.out (Laid.below HY (by repeat (first | (with_reducible first | exact HB.out | apply qab | apply qaa | apply qac) | exact HB.out)))).mono ?_); rintro e w10 ⟨rfl, hb⟩; refine ⟨_, rfl, ?_⟩; have n0_ := Aside0.mk (Kd.N_below (by (with_reducible repeat (first | apply Kd.N_alloc | apply Kd.N_drewN | apply Kd.N_drew)); exact HO_4.out) hb); have n1_ := Aside0.mk (Kd.R_below (by (with_reducible repeat (first | apply Kd.R_alloc | apply Kd.R_drewN | apply Kd.R_drew)); exact HO197.out) hb); have n2_ := Aside0.mk (qal (by repeat (first | (with_reducible first | exact HB.out | apply qab | apply qaa | apply qac) | exact HB.out)) hb); clear HO_4; clear HO197; clear HB; have HO_4 := n0_; have HO197 := n1_; have HB := n2_; clear n0_ n1_ n2_; (try clear hb); (try clear hb2); (try clear hk); (try clear hi)) | ((with_reducible refine qat (N := 9) rfl ?_); (try (refine qa7 (by rfl) ?_; dsimp only)); refine qas ?hg (N := 9) ?hd (cs := #[.bool false, .int .i64 0, .int .i64 0]) (t := 48) ?hr ?_; (case hd => rfl); (case hg => rfl); (case hr => first | (go_simp; done) | (go_simp; rfl)); intro gb203 hg w11 hbox hb; have n0_ := Aside0.mk (Kd.N_below (Kd.N_elderB (by (with_reducible repeat (first | apply Kd.N_alloc | apply Kd.N_drewN | apply Kd.N_drew)); exact HO_4.out) gb203 (Nat.le_of_eq hg.symm)) hb); have n1_ := Aside0.mk (Kd.R_below (by (with_reducible repeat (first | apply Kd.R_alloc | apply Kd.R_drewN | apply Kd.R_drew)); exact HO197.out) hb); have n2_ := Aside0.mk (qal (by repeat (first | (with_reducible first | exact HB.out | apply qab | apply qaa | apply qac) | exact HB.out)) hb); have n3_ := Aside0.mk (hbox); have n4_ := Aside0.mk ((by rw [hg]; exact (qak (by repeat (first | (with_reducible first | exact HB.out | apply qab | apply qaa | apply qac) | exact HB.out))) : w.heap.size ≤ gb203)); have n5_ := Aside0.mk ((by rw [hg]; exact (qak (by repeat (first | (with_reducible first | exact HB.out | apply qab | apply qaa | apply qac) | exact HB.out))) : w.heap.size ≤ gb203)); clear HO_4; clear HO197; clear HB; have HO_4 := n0_; have HO197 := n1_; have HB := n2_; have BK203 := n3_; have GW203 := n4_; have GE203 := n5_; clear n0_ n1_ n2_ n3_ n4_ n5_; clear hb hbox hg; have hcz12_0 : w11.cell? ⟨gb203, 0, none⟩ = some (.bool false) := (qah BK203.out 0).trans rfl; have hcz12_1 : w11.cell? ⟨gb203, 1, none⟩ = some (.int .i64 0) := (qah BK203.out 1).trans rfl; have hcz12_2 : w11.cell? ⟨gb203, 2, none⟩ = some (.int .i64 0) := (qah BK203.out 2).trans rfl; have hfz12_0 := qae BK203.out 0; have hfz12_1 := qae BK203.out 1; have hfz12_2 := qae BK203.out 2))
     (try simp only [Act.put, List.setIfInBounds_toArray, List.set_cons_zero, List.set_cons_succ])
     go_cut [40] (fun v40 wc => ∃ (kq : Nat) (x40_7 : Bool), v40 = .bool x40_7 ∧ Aside0 (burgageref07_Lines.j1 kq l0 x4_1 x5_1 t194 t202 x40_7 t199 t200 t201 = some (r1, r2)) ∧ Aside0 (kq ≤ k1) ∧ Aside0 (Kd.N k38 38 wc w.heap.size (fun k_ => (w.heap.size ≤ k_) ∧ some k_ ≠ (v196 : Value).ownBlock ∧ k_ ≠ gb203) u4 x4_1) ∧ Aside0 (Kd.R (Kd.int .i64) 3 wc w.heap.size (fun k_ => (w.heap.size ≤ k_)) v196 t194) ∧ Aside0 (wc.heap[gb203]? = some (.cells #[.bool t199, .int .i64 t200, .int .i64 t201] 48 (0, 0))) ∧ Aside0 (Below w.heap.size w wc))
     case first =>
      have H := HC8.out
      clear HC8
      by_cases c13 : t195 = true
      ·subst c13
       have H1 : (burgageref07_Lines.j1 k1 l0 x4_1 x5_1 t194 t202 (t193.toList == ([116, 120, 110] : List UInt8)) t199 t200 t201) = some (r1, r2) := by rw [if_pos rfl] at H; exact H
       clear H
       have H := H1
       clear H1
       have H' := Aside0.mk H
       clear H
       go_wp2
       go_meet
       case rel => exact ⟨_, ((t193.toList == ([116, 120, 110] : List UInt8))), (by first | rfl | (simp; done) | (simp [*]; done)), H', ⟨by have := HK1.out; first | omega | exact Nat.le_refl _⟩, ⟨by (with_reducible repeat (first | apply Kd.N_alloc | apply Kd.N_drewN | apply Kd.N_drew)); exact Kd.N_mono (Kd.N_far (p := ⟨gb203, 2, none⟩) (Kd.N_far (p := ⟨gb203, 1, none⟩) (Kd.N_far (p := ⟨gb203, 0, none⟩) (Kd.N_mono HO_4.out (fun k_ hk => (⟨hk, hk.2⟩ : _ ∧ k_ ≠ gb203))) (fun _ hk => hk.2) (.bool t199)) (fun _ hk => hk.2) (.int .i64 t200)) (fun _ hk => hk.2) (.int .i64 t201)) (fun _ hk => ⟨hk.1.1.1, ⟨hk.1.1.2, hk.1.2⟩⟩)⟩, ⟨by (with_reducible repeat (first | apply Kd.R_alloc | apply Kd.R_drewN | apply Kd.R_drew)); exact Kd.R_mono (Kd.R_far (p := ⟨gb203, 2, none⟩) (Kd.R_far (p := ⟨gb203, 1, none⟩) (Kd.R_far (p := ⟨gb203, 0, none⟩) (Kd.R_types HO197.out BK203.out (by decide)) (fun _ hk => hk.2) (.bool t199)) (fun _ hk => hk.2) (.int .i64 t200)) (fun _ hk => hk.2) (.int .i64 t201)) (fun _ hk => hk.1.1)⟩, ⟨by (with_reducible repeat (first | refine qaf ?_ _ | refine qaj ?_ | refine qag ?_ _)); refine qaq (cs := #[.bool t199, .int .i64 t200, .int .i64 0]) ?_ 2 _ rfl; (with_reducible repeat (first | refine qaf ?_ _ | refine qaj ?_ | refine qag ?_ _)); refine qaq (cs := #[.bool t199, .int .i64 0, .int .i64 0]) ?_ 1 _ rfl; (with_reducible repeat (first | refine qaf ?_ _ | refine qaj ?_ | refine qag ?_ _)); refine qaq (cs := #[.bool false, .int .i64 0, .int .i64 0]) ?_ 0 _ rfl; (with_reducible repeat (first | refine qaf ?_ _ | refine qaj ?_ | refine qag ?_ _)); exact BK203.out⟩, ⟨by repeat (first | (with_reducible first | exact HB.out | apply qab | apply qaa | apply qac | refine qai ?_ GE203.out) | exact HB.out)⟩⟩
      ·replace c13 := Bool.eq_false_iff.mpr c13
       subst c13
       have H1 : (burgageref07_Lines.j1 k1 l0 x4_1 x5_1 t194 t202 false t199 t200 t201) = some (r1, r2) := by rw [if_neg (show ¬ (false = true) by decide)] at H; exact H
       clear H
       have H := H1
       clear H1
       have H' := Aside0.mk H
       clear H
       go_wp2
       go_meet
       case rel => exact ⟨_, (false), (by first | rfl | (simp; done) | (simp [*]; done)), H', ⟨by have := HK1.out; first | omega | exact Nat.le_refl _⟩, ⟨by (with_reducible repeat (first | apply Kd.N_alloc | apply Kd.N_drewN | apply Kd.N_drew)); exact Kd.N_mono (Kd.N_far (p := ⟨gb203, 2, none⟩) (Kd.N_far (p := ⟨gb203, 1, none⟩) (Kd.N_far (p := ⟨gb203, 0, none⟩) (Kd.N_mono HO_4.out (fun k_ hk => (⟨hk, hk.2⟩ : _ ∧ k_ ≠ gb203))) (fun _ hk => hk.2) (.bool t199)) (fun _ hk => hk.2) (.int .i64 t200)) (fun _ hk => hk.2) (.int .i64 t201)) (fun _ hk => ⟨hk.1.1.1, ⟨hk.1.1.2, hk.1.2⟩⟩)⟩, ⟨by (with_reducible repeat (first | apply Kd.R_alloc | apply Kd.R_drewN | apply Kd.R_drew)); exact Kd.R_mono (Kd.R_far (p := ⟨gb203, 2, none⟩) (Kd.R_far (p := ⟨gb203, 1, none⟩) (Kd.R_far (p := ⟨gb203, 0, none⟩) (Kd.R_types HO197.out BK203.out (by decide)) (fun _ hk => hk.2) (.bool t199)) (fun _ hk => hk.2) (.int .i64 t200)) (fun _ hk => hk.2) (.int .i64 t201)) (fun _ hk => hk.1.1)⟩, ⟨by (with_reducible repeat (first | refine qaf ?_ _ | refine qaj ?_ | refine qag ?_ _)); refine qaq (cs := #[.bool t199, .int .i64 t200, .int .i64 0]) ?_ 2 _ rfl; (with_reducible repeat (first | refine qaf ?_ _ | refine qaj ?_ | refine qag ?_ _)); refine qaq (cs := #[.bool t199, .int .i64 0, .int .i64 0]) ?_ 1 _ rfl; (with_reducible repeat (first | refine qaf ?_ _ | refine qaj ?_ | refine qag ?_ _)); refine qaq (cs := #[.bool false, .int .i64 0, .int .i64 0]) ?_ 0 _ rfl; (with_reducible repeat (first | refine qaf ?_ _ | refine qaj ?_ | refine qag ?_ _)); exact BK203.out⟩, ⟨by repeat (first | (with_reducible first | exact HB.out | apply qab | apply qaa | apply qac | refine qai ?_ GE203.out) | exact HB.out)⟩⟩
     case rest =>
      clear HC8
      try clear c1
      try clear p1
      try clear q1
      try clear hx1
      try clear p2
      try clear c3
      try clear c4
      try clear c4b0
      try clear c5
      try clear c5b0
      try clear c13
      try clear hcz12_0
      try clear hcz12_1
      try clear hcz12_2
      try clear hfz12_0
      try clear hfz12_1
      try clear hfz12_2
      try clear hx192_0
      try clear hx198_0
      try clear p192
      try clear p198
      try clear p2
      try clear q192
      try clear q198
      obtain ⟨kq, x40_7, rfl, HA, HJ7, HO_4, HO_7, BK203, HB⟩ := hcut
      cases kq with
      | zero => exact absurd HA.out (by simp [burgageref07_Lines.j1])
      | succ kj7 =>
       have H := HA.out
       clear HA
       simp only [burgageref07_Lines.j1] at H
       by_cases c14 : x40_7 = true
       ·subst c14
        have H1 : (if 0 < (t194.length : Int) then (if 1 < (t194.length : Int) then (if 2 < (t194.length : Int) then ((some (([(⟨rd t194 0, rd t194 1, rd t194 2, ([] : List (S48))⟩ : S38)] : List (S38)) : List (S38))).bind fun y207 => (if x4_1.length + y207.length < 2932031007402 then (burgageref07_Lines.l0 kj7 l0 (x4_1 ++ y207) (wrap64 (x5_1 + 1))) else (none))) else (none)) else (none)) else (none)) = some (r1, r2) := by rw [if_pos rfl] at H; exact H
        clear H
        have H := H1
        clear H1
        by_cases c15 : 0 < (t194.length : Int)
        ·rw [if_pos c15] at H
         have c15b0 : decide (0 < (t194.length : Int)) = true := decide_eq_true c15
         have c15b1 : decide (0 < t194.length) = true := decide_eq_true (by omega)
         clear c15
         by_cases c16 : 1 < (t194.length : Int)
         ·rw [if_pos c16] at H
          have c16b0 : decide (1 < (t194.length : Int)) = true := decide_eq_true c16
          have c16b1 : decide (1 < t194.length) = true := decide_eq_true (by omega)
          clear c16
          by_cases c17 : 2 < (t194.length : Int)
          ·rw [if_pos c17] at H
           have c17b0 : decide (2 < (t194.length : Int)) = true := decide_eq_true c17
           have c17b1 : decide (2 < t194.length) = true := decide_eq_true (by omega)
           clear c17
           obtain ⟨y207, hy207⟩ : ∃ y_ : List (S38), y_ = (([(⟨rd t194 0, rd t194 1, rd t194 2, ([] : List (S48))⟩ : S38)] : List (S38))) := ⟨_, rfl⟩
           replace H : (if x4_1.length + y207.length < 2932031007402 then (burgageref07_Lines.l0 kj7 l0 (x4_1 ++ y207) (wrap64 (x5_1 + 1))) else (none)) = some (r1, r2) := by first | (rw [hy207]; with_reducible exact H) | (have H2_ := (Option.bind_some _ _).symm.trans H; rw [hy207]; with_reducible exact H2_) | (have H2_ := (Option.bind_some _ _).symm.trans H; with_reducible exact H2_) | with_reducible exact H | (rw [hy207]; exact H) | exact H
           have Ny207 := Aside0.mk hy207
           clear hy207
           by_cases c18 : x4_1.length + y207.length < 2932031007402
           ·rw [if_pos c18] at H
            have LMc18 := Aside0.mk c18
            clear c18
            obtain ⟨y210, hy210⟩ : ∃ y_ : List (S38), y_ = (x4_1 ++ y207) := ⟨_, rfl⟩
            replace H : (burgageref07_Lines.l0 kj7 l0 y210 (wrap64 (x5_1 + 1))) = some (r1, r2) := by first | (rw [hy210]; with_reducible exact H) | (have H2_ := (Option.bind_some _ _).symm.trans H; rw [hy210]; with_reducible exact H2_) | (have H2_ := (Option.bind_some _ _).symm.trans H; with_reducible exact H2_) | with_reducible exact H | (rw [hy210]; exact H) | exact H
            have Ny210 := Aside0.mk hy210
            clear hy210
            have H' := Aside0.mk H
            clear H
            try go_wp2
            have n0_ := Aside0.mk (Kd.N_drew HO_4.out)
            have n1_ := Aside0.mk (Kd.R_drew HO_7.out)
            have n2_ := Aside0.mk (qaj BK203.out)
            have n3_ := Aside0.mk (qac HB.out)
            clear HO_4
            clear HO_7
            clear BK203
            clear HB
            have HO_4 := n0_
            have HO_7 := n1_
            have BK203 := n2_
            have HB := n3_
            clear n0_ n1_ n2_ n3_
            obtain ⟨Ao20, co20, eo20⟩ := Kd.R_slice HO_7.out
            (first | subst eo20 | (injection eo20 with f1_ f2_ f3_; have f4_ := f1_.symm; have f5_ := f3_.symm; clear f1_ f2_ f3_; subst f4_; subst f5_))
            have p204 : 0 ≤ (0 : Int) := (by omega)
            have q204 : 0 < (t194.length : Int) := of_decide_eq_true (by first | (with_reducible assumption) | assumption)
            obtain ⟨ad204, e204, hx204_0⟩ := Kd.at_int (Kd.qau HO_7.out).2.2 0 p204 q204
            cases e204
            have qi204 : (0 < t194.length) = True := eq_true (by omega)
            (try rw [show ((0 : Int)).toNat = 0 from rfl] at hx204_0)
            (try rw [Addr.add_zero'] at hx204_0)
            replace p204 := eq_true p204
            replace q204 := eq_true q204
            have p205 : 0 ≤ (1 : Int) := (by omega)
            have q205 : 1 < (t194.length : Int) := of_decide_eq_true (by first | (with_reducible assumption) | assumption)
            obtain ⟨ad205, e205, hx205_0⟩ := Kd.at_int (Kd.qau HO_7.out).2.2 1 p205 q205
            obtain rfl : ad204 = ad205 := (by injection e205)
            (try simp only [show (1 : Int).toNat = 1 from rfl, Nat.reduceMul, Nat.reduceEqDiff, Go.Addr.add, ↓reduceIte] at hx205_0)
            have qi205 : (1 < t194.length) = True := eq_true (by omega)
            (try rw [show ((1 : Int)).toNat = 1 from rfl] at hx205_0)
            replace p205 := eq_true p205
            replace q205 := eq_true q205
            have p206 : 0 ≤ (2 : Int) := (by omega)
            have q206 : 2 < (t194.length : Int) := of_decide_eq_true (by first | (with_reducible assumption) | assumption)
            obtain ⟨ad206, e206, hx206_0⟩ := Kd.at_int (Kd.qau HO_7.out).2.2 2 p206 q206
            obtain rfl : ad204 = ad206 := (by injection e206)
            (try simp only [show (2 : Int).toNat = 2 from rfl, Nat.reduceMul, Nat.reduceEqDiff, Go.Addr.add, ↓reduceIte] at hx206_0)
            have qi206 : (2 < t194.length) = True := eq_true (by omega)
            (try rw [show ((2 : Int)).toNat = 2 from rfl] at hx206_0)
            replace p206 := eq_true p206
            replace q206 := eq_true q206
            refine start_ (n := 14) (S := fun w' => w'.cell? ad204 = some (.int .i64 (rd t194 0)) ∧ w'.cell? ⟨ad204.block, ad204.off + 1, none⟩ = some (.int .i64 (rd t194 1)) ∧ w'.cell? ⟨ad204.block, ad204.off + 2, none⟩ = some (.int .i64 (rd t194 2))) (ds := [12]) #[false, false, false, false, false, false, false, false, false, false, false, false, false, false] (by kernel_rfl) rfl rfl ⟨hx204_0, hx205_0, hx206_0⟩ (fun hHeld => ?_); refine with_tabW burgageref07_Lines.tab8 burgageref07_Lines.bits8 (fun HT_ HW_ => ?_)
            generalize wc.drew = w19 at HO_4 HO_7 BK203 HB hx204_0 hx205_0 hx206_0 hHeld ⊢
            refine qbc (i := 0) (N := some 41) (v := ?_) (a' := ?_) #[true, false, false, false, false, false, false, false, false, false, false, false, false, false] rfl rfl (qa0 HT_.out (by kernel_rfl)) (fun _ _ _ h => h) (Or.inl ⟨by rfl, ?_⟩) ?_ ?_
            rotate_left
            ·intro w'
             go_simp
             with_reducible rfl
            rotate_left
            ·simp only [Act.put, List.setIfInBounds_toArray, List.set_cons_zero, List.set_cons_succ, qax, qay]
             rfl
            refine qbc (i := 1) (N := some 42) (v := ?_) (a' := ?_) #[true, true, false, false, false, false, false, false, false, false, false, false, false, false] rfl rfl (qa0 HT_.out (by kernel_rfl)) (fun _ _ _ h => h) (Or.inl ⟨by rfl, ?_⟩) ?_ ?_
            rotate_left
            ·intro w'
             go_simp
             with_reducible rfl
            rotate_left
            ·simp only [Act.put, List.setIfInBounds_toArray, List.set_cons_zero, List.set_cons_succ, qax, qay]
             rfl
            refine qbc (i := 2) (N := some 43) (v := ?_) (a' := ?_) #[true, true, true, false, false, false, false, false, false, false, false, false, false, false] rfl rfl (qa0 HT_.out (by kernel_rfl)) (fun _ _ _ h => h) (Or.inl ⟨by rfl, ?_⟩) ?_ ?_
            rotate_left
            ·intro w'
             go_simp
             with_reducible rfl
            rotate_left
            ·simp only [Act.put, List.setIfInBounds_toArray, List.set_cons_zero, List.set_cons_succ, qax, qay]
             rfl
            refine qbc (i := 4) (N := some 45) (v := ?_) (a' := ?_) #[true, true, true, false, true, false, false, false, false, false, false, false, false, false] rfl rfl (qa0 HT_.out (by kernel_rfl)) (fun _ _ _ h => h) (Or.inl ⟨by rfl, ?_⟩) ?_ ?_
            rotate_left
            ·intro w'
             go_simp
             with_reducible rfl
            rotate_left
            ·simp only [Act.put, List.setIfInBounds_toArray, List.set_cons_zero, List.set_cons_succ, qax, qay]
             rfl
            refine qbc (i := 5) (N := some 46) (v := ?_) (a' := ?_) #[true, true, true, false, true, true, false, false, false, false, false, false, false, false] rfl rfl (qa0 HT_.out (by kernel_rfl)) (fun _ _ _ h => h) (Or.inl ⟨by rfl, ?_⟩) ?_ ?_
            rotate_left
            ·intro w'
             go_simp
             with_reducible rfl
            rotate_left
            ·simp only [Act.put, List.setIfInBounds_toArray, List.set_cons_zero, List.set_cons_succ, qax, qay]
             rfl
            refine qbc (i := 7) (N := some 48) (v := ?_) (a' := ?_) #[true, true, true, false, true, true, false, true, false, false, false, false, false, false] rfl rfl (qa0 HT_.out (by kernel_rfl)) (fun _ _ _ h => h) (Or.inl ⟨by rfl, ?_⟩) ?_ ?_
            rotate_left
            ·intro w'
             go_simp
             with_reducible rfl
            rotate_left
            ·simp only [Act.put, List.setIfInBounds_toArray, List.set_cons_zero, List.set_cons_succ, qax, qay]
             rfl
            refine qbc (i := 8) (N := some 49) (v := ?_) (a' := ?_) #[true, true, true, false, true, true, false, true, true, false, false, false, false, false] rfl rfl (qa0 HT_.out (by kernel_rfl)) (fun _ _ _ h => h) (Or.inl ⟨by rfl, ?_⟩) ?_ ?_
            rotate_left
            ·intro w'
             go_simp
             with_reducible rfl
            rotate_left
            ·simp only [Act.put, List.setIfInBounds_toArray, List.set_cons_zero, List.set_cons_succ, qax, qay]
             rfl
            refine take_ (i := 3) (N := some 44) (v := ?_) (a' := ?_) #[true, true, true, true, true, true, false, true, true, false, false, false, false, false] rfl rfl (qbg HT_.out HW_.out (by kernel_rfl)) (fun _ _ _ h => h) (Or.inl ⟨by rfl, ?_⟩) hHeld ?_ ?_
            rotate_left
            ·rintro w' ⟨s0, s1, s2⟩
             go_simp
             with_reducible rfl
            rotate_left
            ·simp only [Act.put, List.setIfInBounds_toArray, List.set_cons_zero, List.set_cons_succ, qax, qay]
             rfl
            refine take_ (i := 6) (N := some 47) (v := ?_) (a' := ?_) #[true, true, true, true, true, true, true, true, true, false, false, false, false, false] rfl rfl (qbg HT_.out HW_.out (by kernel_rfl)) (fun _ _ _ h => h) (Or.inl ⟨by rfl, ?_⟩) hHeld ?_ ?_
            rotate_left
            ·rintro w' ⟨s0, s1, s2⟩
             go_simp
             with_reducible rfl
            rotate_left
            ·simp only [Act.put, List.setIfInBounds_toArray, List.set_cons_zero, List.set_cons_succ, qax, qay]
             rfl
            refine take_ (i := 9) (N := some 50) (v := ?_) (a' := ?_) #[true, true, true, true, true, true, true, true, true, true, false, false, false, false] rfl rfl (qbg HT_.out HW_.out (by kernel_rfl)) (fun _ _ _ h => h) (Or.inl ⟨by rfl, ?_⟩) hHeld ?_ ?_
            rotate_left
            ·rintro w' ⟨s0, s1, s2⟩
             go_simp
             with_reducible rfl
            rotate_left
            ·simp only [Act.put, List.setIfInBounds_toArray, List.set_cons_zero, List.set_cons_succ, qax, qay]
             rfl
            refine qbc (i := 10) (N := some 51) (v := ?_) (a' := ?_) #[true, true, true, true, true, true, true, true, true, true, true, false, false, false] rfl rfl (qa0 HT_.out (by kernel_rfl)) (fun _ _ _ h => h) (Or.inl ⟨by rfl, ?_⟩) ?_ ?_
            rotate_left
            ·intro w'
             go_simp
             with_reducible rfl
            rotate_left
            ·simp only [Act.put, List.setIfInBounds_toArray, List.set_cons_zero, List.set_cons_succ, qax, qay]
             rfl
            refine one_ (i := 11) (N := some 52) #[true, true, true, true, true, true, true, true, true, true, true, true, false, false] rfl rfl (qb6 HT_.out (by kernel_rfl)) (by decide) (fun K hK => ?_)
            refine Kd.N_lit_step k38 _ 38 ?hg (N' := 52) ?hd (xs := ([(⟨rd t194 0, rd t194 1, rd t194 2, ([] : List (S48))⟩ : S38)] : List (S38))) (inner := [.int .i64 (rd t194 0), .int .i64 (rd t194 1), .int .i64 (rd t194 2), .slice none 0 0]) (ok := (fun k_ => (w.heap.size ≤ k_) ∧ some k_ ≠ (u4 : Value).ownBlock ∧ some k_ ≠ (.slice (some ad204) t194.length co20 : Value).ownBlock ∧ k_ ≠ gb203)) (okp := (fun k_ => (w.heap.size ≤ k_) ∧ some k_ ≠ (u4 : Value).ownBlock ∧ some k_ ≠ (.slice (some ad204) t194.length co20 : Value).ownBlock ∧ k_ ≠ gb203)) ?hr ?hp (fun _ hk => hk) ((show ∀ k_, w19.heap.size ≤ k_ → (fun k_ => (w.heap.size ≤ k_) ∧ some k_ ≠ (u4 : Value).ownBlock ∧ some k_ ≠ (.slice (some ad204) t194.length co20 : Value).ownBlock ∧ k_ ≠ gb203) k_ from fun k_ hk => ⟨(Nat.le_trans (qak (by repeat (first | (with_reducible first | exact HB.out | apply qab | apply qaa | apply qac | refine qai ?_ GE203.out) | exact HB.out))) hk), Kd.fresh' (Kd.N_lt (by (with_reducible repeat (first | apply Kd.N_alloc | apply Kd.N_drewN | apply Kd.N_drew)); exact HO_4.out)) k_ hk, Kd.fresh' (Kd.R_lt (by (with_reducible repeat (first | apply Kd.R_alloc | apply Kd.R_drewN | apply Kd.R_drew)); exact HO_7.out)) k_ hk, Kd.freshB (g := gb203) (o := .cells #[.bool t199, .int .i64 t200, .int .i64 t201] 48 (0, 0)) (by (with_reducible repeat (first | refine qaf ?_ _ | refine qaj ?_ | refine qag ?_ _)); exact BK203.out) k_ hk⟩) _ (Nat.le_refl _)) (Below.refl _ _) (Nat.le_refl _) (by simp) ?_; (case hd => rfl); (case hg => rfl); (case hr => first | (go_simp; done) | (go_simp; rfl)); (case hp => exact (Reps.c4 (show Kd.FK k38 _ _ (⟨rd t194 0, rd t194 1, rd t194 2, ([] : List (S48))⟩ : S38) [.int .i64 (rd t194 0), .int .i64 (rd t194 1), .int .i64 (rd t194 2), .slice none 0 0] from (k38_mkF _ _ (⟨rd t194 0, rd t194 1, rd t194 2, ([] : List (S48))⟩ : S38) (Nat.le_refl _) (Kd.F_nil _ _ _))) (Reps.none _ _)))
            intro v208 w21 ho22 hb hg_ hnew_
            have HS0_ := (hb.cell (World.block_lt_of_cell? _ _ (hHeld.1))).trans (hHeld.1)
            have HS1_ := (hb.cell (World.block_lt_of_cell? _ _ (hHeld.2.1))).trans (hHeld.2.1)
            have HS2_ := (hb.cell (World.block_lt_of_cell? _ _ (hHeld.2.2))).trans (hHeld.2.2)
            clear hg_ hnew_
            (first | rw [← Ny207.out] at ho22 | (simp only [Int.reduceToNat] at ho22; rw [← Ny207.out] at ho22))
            have n0_ := Aside0.mk (Kd.qb1 (by (with_reducible repeat (first | apply Kd.N_alloc | apply Kd.N_drewN | apply Kd.N_drew)); exact HO_4.out) (Kd.N_base ho22) hb)
            have n1_ := Aside0.mk (Kd.R_below (by (with_reducible repeat (first | apply Kd.R_alloc | apply Kd.R_drewN | apply Kd.R_drew)); exact HO_7.out) hb)
            have n2_ := Aside0.mk (Kd.N_lower ho22 (qak (by repeat (first | (with_reducible first | exact HB.out | apply qab | apply qaa | apply qac | refine qai ?_ GE203.out) | exact HB.out))))
            have n3_ := Aside0.mk (qar (g := gb203) (o := .cells #[.bool t199, .int .i64 t200, .int .i64 t201] 48 (0, 0)) (by (with_reducible repeat (first | refine qaf ?_ _ | refine qaj ?_ | refine qag ?_ _)); exact BK203.out) hb)
            have n4_ := Aside0.mk (qal (by repeat (first | (with_reducible first | exact HB.out | apply qab | apply qaa | apply qac | refine qai ?_ GE203.out) | exact HB.out)) hb)
            clear HO_4
            clear HO_7
            clear BK203
            clear HB
            have HO_4 := n0_
            have HO_7 := n1_
            have HO209 := n2_
            have BK203 := n3_
            have HB := n4_
            clear n0_ n1_ n2_ n3_ n4_
            clear hb ho22
            obtain ⟨Ao24, co24, eo24⟩ := Kd.N_slice HO209.out
            (first | subst eo24 | (injection eo24 with f1_ f2_ f3_; have f4_ := f1_.symm; have f5_ := f3_.symm; clear f1_ f2_ f3_; subst f4_; subst f5_))
            refine hK.out _ _ ⟨HS0_, HS1_, HS2_⟩ (fun hHeld => ?_)
            clear hK K
            refine qcf (a' := ?_) ?_ ?_
            rotate_left
            ·show Act.put _ (some 52) _ = _
             simp only [Act.put, List.setIfInBounds_toArray, List.set_cons_zero, List.set_cons_succ, qax, qay]
             rfl
            refine last_ (i := 12) (N := some 53) #[true, true, true, true, true, true, true, true, true, true, true, true, true, false] rfl rfl (qb6 HT_.out (by kernel_rfl)) (by decide) (fun K hK => ?_)
            refine Kd.N_append_rows_step k38 (w0 := w) w.heap.size (by rfl) (.tmp 41) (.tmp 52) 23 38 (.agg #[(.int .i64 0), (.int .i64 0), (.int .i64 0), (.slice none 0 0)]) 48 rfl Tryd.underlying23 info38 rfl (by decide) (by omega) u4 x4_1 y207 _ _ _ (fun k_ => (w.heap.size ≤ k_) ∧ some k_ ≠ (.slice (some ad204) t194.length co20 : Value).ownBlock ∧ k_ ≠ gb203) (fun k_ => ((fun k_ => (w.heap.size ≤ k_) ∧ some k_ ≠ (.slice (some ad204) t194.length co20 : Value).ownBlock ∧ k_ ≠ gb203)) k_ ∧ some k_ ≠ (u4 : Value).ownBlock) rfl rfl ?aO ?aR (fun _ hk => hk) ?aF ?aB ?aS ?aL ?_
            (case aR => exact (by skip; exact Kd.N_F (Kd.N_mono (ok' := (fun k_ => ((fun k_ => (w.heap.size ≤ k_) ∧ some k_ ≠ (.slice (some ad204) t194.length co20 : Value).ownBlock ∧ k_ ≠ gb203)) k_ ∧ some k_ ≠ (u4 : Value).ownBlock)) (HO209.out) (fun k_ hk => ⟨⟨hk.1, ⟨hk.2.2.1, hk.2.2.2⟩⟩, hk.2.1⟩))))
            (case aB => exact (by repeat (first | (with_reducible first | exact HB.out | apply qab | apply qaa | apply qac | refine qai ?_ GE203.out) | exact HB.out)))
            (case aF => exact (fun k_ hk => ⟨(Nat.le_trans (qak (by repeat (first | (with_reducible first | exact HB.out | apply qab | apply qaa | apply qac | refine qai ?_ GE203.out) | exact HB.out))) hk), Kd.fresh' (Kd.R_lt (by (with_reducible repeat (first | apply Kd.R_alloc | apply Kd.R_drewN | apply Kd.R_drew)); exact HO_7.out)) k_ hk, Kd.freshB (g := gb203) (o := .cells #[.bool t199, .int .i64 t200, .int .i64 t201] 48 (0, 0)) (by (with_reducible repeat (first | refine qaf ?_ _ | refine qaj ?_ | refine qag ?_ _)); exact BK203.out) k_ hk⟩))
            (case aO => exact (by (with_reducible repeat (first | apply Kd.N_alloc | apply Kd.N_drewN | apply Kd.N_drew)); exact Kd.N_mono HO_4.out (fun _ hk => ⟨hk.1.1, ⟨hk.1.2.1, hk.1.2.2⟩⟩)))
            (case aS => exact (qak (by repeat (first | (with_reducible first | exact HB.out | apply qab | apply qaa | apply qac | refine qai ?_ GE203.out) | exact HB.out))))
            (case aL => have := LMc18.out; omega)
            intro v211 w23 ho hb hg hat
            rw [← Ny210.out] at ho
            have n0_ := Aside0.mk (Kd.R_over' (by (with_reducible repeat (first | apply Kd.R_alloc | apply Kd.R_drewN | apply Kd.R_drew)); exact HO_7.out) (Kd.N_typed (by (with_reducible repeat (first | apply Kd.N_alloc | apply Kd.N_drewN | apply Kd.N_drew)); exact HO_4.out)) (by decide) hg)
            have n1_ := Aside0.mk (blk_grown (g := gb203) (o := .cells #[.bool t199, .int .i64 t200, .int .i64 t201] 48 (0, 0)) (by (with_reducible repeat (first | refine qaf ?_ _ | refine qaj ?_ | refine qag ?_ _)); exact BK203.out) hg (Kd.N_ne HO_4.out BK203.out (by decide)))
            have n2_ := Aside0.mk (Kd.N_afterv (ok := (fun k_ => (w.heap.size ≤ k_) ∧ some k_ ≠ (.slice (some ad204) t194.length co20 : Value).ownBlock ∧ k_ ≠ gb203)) (by (with_reducible repeat (first | apply Kd.N_alloc | apply Kd.N_drewN | apply Kd.N_drew)); exact Kd.N_mono HO209.out (fun _ hk => ⟨⟨hk.1, ⟨hk.2.2.1, hk.2.2.2⟩⟩, hk.2.1⟩)) hg hat)
            have n3_ := Aside0.mk (hb)
            have n4_ := Aside0.mk (ho)
            clear HO_7
            clear BK203
            clear HO209
            clear HB
            clear HO_4
            have HO_7 := n0_
            have BK203 := n1_
            have HO209 := n2_
            have HB := n3_
            have HO212 := n4_
            clear n0_ n1_ n2_ n3_ n4_
            clear ho hb hg hat
            refine hK.out _ _ ?_
            clear hK K
            refine qcf (a' := ?_) ?_ ?_
            rotate_left
            ·show Act.put _ (some 53) _ = _
             simp only [Act.put, List.setIfInBounds_toArray, List.set_cons_zero, List.set_cons_succ, qax, qay]
             rfl
            refine qbc (i := 13) (N := some 4) (v := ?_) (a' := ?_) #[true, true, true, true, true, true, true, true, true, true, true, true, true, true] rfl rfl (qa0 HT_.out (by kernel_rfl)) (fun _ _ _ h => h) (Or.inl ⟨by rfl, ?_⟩) ?_ ?_
            rotate_left
            ·intro w'
             go_simp
             with_reducible rfl
            rotate_left
            ·simp only [Act.put, List.setIfInBounds_toArray, List.set_cons_zero, List.set_cons_succ, qax, qay]
             rfl
            refine done_ (done_of HT_.out (by kernel_rfl)) ?_
            try go_wp2
            go_roundg kj7
            case measure => have := HK1.out; have := HJ7.out; omega
            case rel => exact ⟨(y210), (wrap64 (x5_1 + 1)), (by first | rfl | (simp; done) | (simp [*]; done)), H', ⟨by have := HK1.out; have := HJ7.out; omega⟩, ⟨by (with_reducible repeat (first | apply Kd.N_alloc | apply Kd.N_drewN | apply Kd.N_drew)); exact Kd.N_mono HO212.out (fun _ hk => hk.1)⟩, ⟨by repeat (first | (with_reducible first | exact HB.out | apply qab | apply qaa | apply qac | refine qai ?_ GE203.out) | exact HB.out)⟩⟩
           ·rw [if_neg c18] at H
            exact absurd H (by simp)
          ·rw [if_neg c17] at H
           exact absurd H (by simp)
         ·rw [if_neg c16] at H
          exact absurd H (by simp)
        ·rw [if_neg c15] at H
         exact absurd H (by simp)
       ·replace c14 := Bool.eq_false_iff.mpr c14
        subst c14
        have H1 : (if t202 = true then (if (x4_1.length : Int) > 0 then (if 0 ≤ (wrap64 ((x4_1.length : Int) - 1)) then (if (wrap64 ((x4_1.length : Int) - 1)) < (x4_1.length : Int) then ((some (([] : List (S48)) : List (S48))).bind fun y215 => (if y215.length + ((qad x4_1 (wrap64 ((x4_1.length : Int) - 1))).f3).length < 5864062014805 then ((some (y215 ++ ((qad x4_1 (wrap64 ((x4_1.length : Int) - 1))).f3) : List (S48))).bind fun y218 => ((some (([(⟨t199, t200, t201⟩ : S48)] : List (S48)) : List (S48))).bind fun y221 => (if y218.length + y221.length < 5864062014805 then (burgageref07_Lines.l0 kj7 l0 (x4_1.set ((wrap64 ((x4_1.length : Int) - 1)) : Int).toNat (⟨(qad x4_1 (wrap64 ((x4_1.length : Int) - 1))).f0, (qad x4_1 (wrap64 ((x4_1.length : Int) - 1))).f1, (qad x4_1 (wrap64 ((x4_1.length : Int) - 1))).f2, (y218 ++ y221)⟩ : S38)) (wrap64 (x5_1 + 1))) else (none)))) else (none))) else (none)) else (none)) else (some (([] : List (S38)), wrap64 (x5_1 + 1)))) else (some (([] : List (S38)), wrap64 (x5_1 + 1)))) = some (r1, r2) := by rw [if_neg (show ¬ (false = true) by decide)] at H; exact H
        clear H
        have H := H1
        clear H1
        by_cases c25 : t202 = true
        ·subst c25
         have H1 : (if (x4_1.length : Int) > 0 then (if 0 ≤ (wrap64 ((x4_1.length : Int) - 1)) then (if (wrap64 ((x4_1.length : Int) - 1)) < (x4_1.length : Int) then ((some (([] : List (S48)) : List (S48))).bind fun y215 => (if y215.length + ((qad x4_1 (wrap64 ((x4_1.length : Int) - 1))).f3).length < 5864062014805 then ((some (y215 ++ ((qad x4_1 (wrap64 ((x4_1.length : Int) - 1))).f3) : List (S48))).bind fun y218 => ((some (([(⟨t199, t200, t201⟩ : S48)] : List (S48)) : List (S48))).bind fun y221 => (if y218.length + y221.length < 5864062014805 then (burgageref07_Lines.l0 kj7 l0 (x4_1.set ((wrap64 ((x4_1.length : Int) - 1)) : Int).toNat (⟨(qad x4_1 (wrap64 ((x4_1.length : Int) - 1))).f0, (qad x4_1 (wrap64 ((x4_1.length : Int) - 1))).f1, (qad x4_1 (wrap64 ((x4_1.length : Int) - 1))).f2, (y218 ++ y221)⟩ : S38)) (wrap64 (x5_1 + 1))) else (none)))) else (none))) else (none)) else (none)) else (some (([] : List (S38)), wrap64 (x5_1 + 1)))) = some (r1, r2) := by rw [if_pos rfl] at H; exact H
         clear H
         have H := H1
         clear H1
         by_cases c26 : (x4_1.length : Int) > 0
         ·rw [if_pos c26] at H
          have c26b0 : decide (0 < (x4_1.length : Int)) = true := decide_eq_true c26
          have c26b1 : decide (0 < x4_1.length) = true := decide_eq_true (by omega)
          clear c26
          obtain ⟨ji27, hji27⟩ : ∃ j_ : Int, (wrap64 ((x4_1.length : Int) - 1)) = j_ := ⟨_, rfl⟩
          replace H : (if 0 ≤ (ji27) then (if (ji27) < (x4_1.length : Int) then ((some (([] : List (S48)) : List (S48))).bind fun y215 => (if y215.length + ((qad x4_1 (ji27)).f3).length < 5864062014805 then ((some (y215 ++ ((qad x4_1 (ji27)).f3) : List (S48))).bind fun y218 => ((some (([(⟨t199, t200, t201⟩ : S48)] : List (S48)) : List (S48))).bind fun y221 => (if y218.length + y221.length < 5864062014805 then (burgageref07_Lines.l0 kj7 l0 (x4_1.set ((ji27) : Int).toNat (⟨(qad x4_1 (ji27)).f0, (qad x4_1 (ji27)).f1, (qad x4_1 (ji27)).f2, (y218 ++ y221)⟩ : S38)) (wrap64 (x5_1 + 1))) else (none)))) else (none))) else (none)) else (none)) = some (r1, r2) := by first | (rw [hji27] at H; exact H) | (simp only [hji27] at H ⊢; exact H)
          have hji27w : (IntKind.i64.wrap ((x4_1.length : Int) - 1)) = ji27 := (qax _).trans hji27
          by_cases c28 : 0 ≤ (ji27)
          ·rw [if_pos c28] at H
           have c28b0 : decide (0 ≤ (ji27)) = true := decide_eq_true c28
           clear c28
           by_cases c29 : (ji27) < (x4_1.length : Int)
           ·rw [if_pos c29] at H
            have c29b0 : decide ((ji27) < (x4_1.length : Int)) = true := decide_eq_true c29
            clear c29
            obtain ⟨y215, hy215⟩ : ∃ y_ : List (S48), y_ = (([] : List (S48))) := ⟨_, rfl⟩
            replace H : (if y215.length + ((qad x4_1 (ji27)).f3).length < 5864062014805 then ((some (y215 ++ ((qad x4_1 (ji27)).f3) : List (S48))).bind fun y218 => ((some (([(⟨t199, t200, t201⟩ : S48)] : List (S48)) : List (S48))).bind fun y221 => (if y218.length + y221.length < 5864062014805 then (burgageref07_Lines.l0 kj7 l0 (x4_1.set ((ji27) : Int).toNat (⟨(qad x4_1 (ji27)).f0, (qad x4_1 (ji27)).f1, (qad x4_1 (ji27)).f2, (y218 ++ y221)⟩ : S38)) (wrap64 (x5_1 + 1))) else (none)))) else (none)) = some (r1, r2) := by first | (rw [hy215]; with_reducible exact H) | (have H2_ := (Option.bind_some _ _).symm.trans H; rw [hy215]; with_reducible exact H2_) | (have H2_ := (Option.bind_some _ _).symm.trans H; with_reducible exact H2_) | with_reducible exact H | (rw [hy215]; exact H) | exact H
            have Ny215 := Aside0.mk hy215
            clear hy215
            by_cases c30 : y215.length + ((qad x4_1 (ji27)).f3).length < 5864062014805
            ·rw [if_pos c30] at H
             have LMc30 := Aside0.mk c30
             clear c30
             obtain ⟨y218, hy218⟩ : ∃ y_ : List (S48), y_ = (y215 ++ ((qad x4_1 (ji27)).f3)) := ⟨_, rfl⟩
             replace H : ((some (([(⟨t199, t200, t201⟩ : S48)] : List (S48)) : List (S48))).bind fun y221 => (if y218.length + y221.length < 5864062014805 then (burgageref07_Lines.l0 kj7 l0 (x4_1.set ((ji27) : Int).toNat (⟨(qad x4_1 (ji27)).f0, (qad x4_1 (ji27)).f1, (qad x4_1 (ji27)).f2, (y218 ++ y221)⟩ : S38)) (wrap64 (x5_1 + 1))) else (none))) = some (r1, r2) := by first | (rw [hy218]; with_reducible exact H) | (have H2_ := (Option.bind_some _ _).symm.trans H; rw [hy218]; with_reducible exact H2_) | (have H2_ := (Option.bind_some _ _).symm.trans H; with_reducible exact H2_) | with_reducible exact H | (rw [hy218]; exact H) | exact H
             have Ny218 := Aside0.mk hy218
             clear hy218
             obtain ⟨y221, hy221⟩ : ∃ y_ : List (S48), y_ = (([(⟨t199, t200, t201⟩ : S48)] : List (S48))) := ⟨_, rfl⟩
             replace H : (if y218.length + y221.length < 5864062014805 then (burgageref07_Lines.l0 kj7 l0 (x4_1.set ((ji27) : Int).toNat (⟨(qad x4_1 (ji27)).f0, (qad x4_1 (ji27)).f1, (qad x4_1 (ji27)).f2, (y218 ++ y221)⟩ : S38)) (wrap64 (x5_1 + 1))) else (none)) = some (r1, r2) := by first | (rw [hy221]; with_reducible exact H) | (have H2_ := (Option.bind_some _ _).symm.trans H; rw [hy221]; with_reducible exact H2_) | (have H2_ := (Option.bind_some _ _).symm.trans H; with_reducible exact H2_) | with_reducible exact H | (rw [hy221]; exact H) | exact H
             have Ny221 := Aside0.mk hy221
             clear hy221
             by_cases c31 : y218.length + y221.length < 5864062014805
             ·rw [if_pos c31] at H
              have LMc31 := Aside0.mk c31
              clear c31
              obtain ⟨y224, hy224⟩ : ∃ y_ : List (S48), y_ = (y218 ++ y221) := ⟨_, rfl⟩
              replace H : (burgageref07_Lines.l0 kj7 l0 (x4_1.set ((ji27) : Int).toNat (⟨(qad x4_1 (ji27)).f0, (qad x4_1 (ji27)).f1, (qad x4_1 (ji27)).f2, y224⟩ : S38)) (wrap64 (x5_1 + 1))) = some (r1, r2) := by first | (rw [hy224]; with_reducible exact H) | (have H2_ := (Option.bind_some _ _).symm.trans H; rw [hy224]; with_reducible exact H2_) | (have H2_ := (Option.bind_some _ _).symm.trans H; with_reducible exact H2_) | with_reducible exact H | (rw [hy224]; exact H) | exact H
              have Ny224 := Aside0.mk hy224
              clear hy224
              obtain ⟨y227, hy227⟩ : ∃ y_ : List (S38), y_ = (x4_1.set ((ji27) : Int).toNat (⟨(qad x4_1 (ji27)).f0, (qad x4_1 (ji27)).f1, (qad x4_1 (ji27)).f2, y224⟩ : S38)) := ⟨_, rfl⟩
              replace H : (burgageref07_Lines.l0 kj7 l0 y227 (wrap64 (x5_1 + 1))) = some (r1, r2) := by first | (rw [hy227]; with_reducible exact H) | (have H2_ := (Option.bind_some _ _).symm.trans H; rw [hy227]; with_reducible exact H2_) | (have H2_ := (Option.bind_some _ _).symm.trans H; with_reducible exact H2_) | with_reducible exact H | (rw [hy227]; exact H) | exact H
              have Ny227 := Aside0.mk hy227
              clear hy227
              have H' := Aside0.mk H
              clear H
              obtain ⟨Ao33, co33, eo33⟩ := Kd.N_slice HO_4.out
              subst eo33
              have p213 : 0 ≤ ((ji27) : Int) := of_decide_eq_true (by first | (with_reducible assumption) | assumption)
              have q213 : (ji27) < (x4_1.length : Int) := of_decide_eq_true (by first | (with_reducible assumption) | assumption)
              obtain ⟨ad213, A213_3, c213_3, e213, hx213_0, hx213_1, hx213_2, hx213_3, hl213_3, hi213_3⟩ := qbi (Kd.qba HO_4.out).2.2 (ji27) p213 q213
              cases e213
              obtain ⟨ce213, hce213, hMe213, hcc213⟩ := Kd.N_get HO_4.out z38 (ji27) p213 (by first | exact q213 | exact of_decide_eq_true (by first | (with_reducible assumption) | assumption) | (have e_ := (Kd.qba HO_4.out).1; omega))
              obtain ⟨ua213_3, uc213_3, rfl, ul213_3, ge213_3⟩ := k38_openF hMe213
              have hv213_3 := hcc213 3 _ rfl
              rw [qbb _ _ 3 (by omega)] at hv213_3
              replace hv213_3 := Option.some.inj (hv213_3.symm.trans hx213_3)
              injection hv213_3 with hva_ hvn_ hvc_
              rw [hva_] at ge213_3
              rw [hvc_] at ul213_3
              have HL213_3 := Aside0.mk (show Kd.V k48 48 _ w.heap.size _ _ ((qad x4_1 (ji27)).f3) from Kd.V_mk ul213_3 ge213_3)
              clear hva_ hvn_ hvc_ ge213_3 ul213_3
              clear hcc213 hce213
              have HR213_3 := Aside0.mk hi213_3
              have HC213_3 := Aside0.mk hl213_3
              clear hi213_3 hl213_3
              replace p213 := eq_true p213
              replace q213 := eq_true q213
              try go_wp2_with (first | ((with_reducible refine qat (N := 11) rfl ?_); (try (refine qa7 (by rfl) ?_; dsimp only)); refine qas ?hg (N := 11) ?hd (cs := #[.int .i64 0, .int .i64 0, .int .i64 0, .slice none 0 0]) (t := 38) ?hr ?_; (case hd => rfl); (case hg => rfl); (case hr => first | (go_simp; done) | (go_simp; rfl)); intro gb214 hg w34 hbox hb; have n0_ := Aside0.mk (Kd.N_below (Kd.N_elderB (by (with_reducible repeat (first | apply Kd.N_alloc | apply Kd.N_drewN | apply Kd.N_drew)); exact HO_4.out) gb214 (Nat.le_of_eq hg.symm)) hb); have n1_ := Aside0.mk (Kd.R_below (by (with_reducible repeat (first | apply Kd.R_alloc | apply Kd.R_drewN | apply Kd.R_drew)); exact HO_7.out) hb); have n2_ := Aside0.mk (Kd.V_below (Kd.V_elderB (by (with_reducible repeat (first | apply Kd.V_alloc | apply Kd.V_drewN | apply Kd.V_drew)); exact HL213_3.out) gb214 (Nat.le_of_eq hg.symm)) hb); have n3_ := Aside0.mk (qar (g := gb203) (o := .cells #[.bool t199, .int .i64 t200, .int .i64 t201] 48 (0, 0)) (by (with_reducible repeat (first | refine qaf ?_ _ | refine qaj ?_ | refine qag ?_ _)); exact BK203.out) hb); have n4_ := Aside0.mk (Kd.C_below (by repeat (first | (with_reducible exact HR213_3.out) | (with_reducible refine Kd.C_alloc ?_ _) | (with_reducible refine Kd.C_drewN ?_ _) | (with_reducible refine Kd.C_drew ?_) | exact HR213_3.out)) hb); have n5_ := Aside0.mk (qal (by repeat (first | (with_reducible first | exact HB.out | apply qab | apply qaa | apply qac | refine qai ?_ GE203.out) | exact HB.out)) hb); have n6_ := Aside0.mk (hbox); have n7_ := Aside0.mk ((by rw [hg]; exact (qak (by repeat (first | (with_reducible first | exact HB.out | apply qab | apply qaa | apply qac | refine qai ?_ GE203.out) | exact HB.out))) : w.heap.size ≤ gb214)); have n8_ := Aside0.mk ((by rw [hg]; exact (qak (by repeat (first | (with_reducible first | exact HB.out | apply qab | apply qaa | apply qac | refine qai ?_ GE203.out) | exact HB.out))) : w.heap.size ≤ gb214)); have n9_ := Aside0.mk ((by rw [hg]; exact Nat.ne_of_lt (qa4 (g := gb203) (o := .cells #[.bool t199, .int .i64 t200, .int .i64 t201] 48 (0, 0)) (by (with_reducible repeat (first | refine qaf ?_ _ | refine qaj ?_ | refine qag ?_ _)); exact BK203.out)) : gb203 ≠ gb214)); have n10_ := Aside0.mk ((by rw [hg]; exact Nat.ne_of_gt (qa4 (g := gb203) (o := .cells #[.bool t199, .int .i64 t200, .int .i64 t201] 48 (0, 0)) (by (with_reducible repeat (first | refine qaf ?_ _ | refine qaj ?_ | refine qag ?_ _)); exact BK203.out)) : gb214 ≠ gb203)); clear HO_4; clear HO_7; clear HL213_3; clear BK203; clear HR213_3; clear HB; have HO_4 := n0_; have HO_7 := n1_; have HL213_3 := n2_; have BK203 := n3_; have HR213_3 := n4_; have HB := n5_; have BK214 := n6_; have GW214 := n7_; have GE214 := n8_; have NB203_214 := n9_; have NB214_203 := n10_; clear n0_ n1_ n2_ n3_ n4_ n5_ n6_ n7_ n8_ n9_ n10_; clear hb hbox hg; have hnb35 := NB214_203.out; have hnc35 := NB203_214.out; have hcz36_0 : w34.cell? ⟨gb214, 0, none⟩ = some (.int .i64 0) := (qah BK214.out 0).trans rfl; have hcz36_1 : w34.cell? ⟨gb214, 1, none⟩ = some (.int .i64 0) := (qah BK214.out 1).trans rfl; have hcz36_2 : w34.cell? ⟨gb214, 2, none⟩ = some (.int .i64 0) := (qah BK214.out 2).trans rfl; have hcz36_3 : w34.cell? ⟨gb214, 3, none⟩ = some (.slice none 0 0) := (qah BK214.out 3).trans rfl; have hfz36_0 := qae BK214.out 0; have hfz36_1 := qae BK214.out 1; have hfz36_2 := qae BK214.out 2; have hfz36_3 := qae BK214.out 3))
              have n0_ : Aside0 (Kd.N k38 38 ((((w34.setCell ⟨gb214, 0, none⟩ (.int .i64 ((qad x4_1 (ji27)).f0))).setCell ⟨gb214, 1, none⟩ (.int .i64 ((qad x4_1 (ji27)).f1))).setCell ⟨gb214, 2, none⟩ (.int .i64 ((qad x4_1 (ji27)).f2))).setCell ⟨gb214, 3, none⟩ (.slice A213_3 ((qad x4_1 (ji27)).f3).length c213_3)) w.heap.size (fun k_ => (w.heap.size ≤ k_) ∧ some k_ ≠ (v196 : Value).ownBlock ∧ k_ ≠ gb203 ∧ k_ ≠ gb214) (.slice (some ad213) x4_1.length co33) x4_1) := ⟨by (with_reducible repeat (first | apply Kd.N_alloc | apply Kd.N_drewN | apply Kd.N_drew)); exact Kd.N_mono (Kd.N_far (p := ⟨gb214, 3, none⟩) (Kd.N_far (p := ⟨gb214, 2, none⟩) (Kd.N_far (p := ⟨gb214, 1, none⟩) (Kd.N_far (p := ⟨gb214, 0, none⟩) (Kd.N_mono HO_4.out (fun k_ hk => (⟨hk, hk.2⟩ : _ ∧ k_ ≠ gb214))) (fun _ hk => hk.2) (.int .i64 ((qad x4_1 (ji27)).f0))) (fun _ hk => hk.2) (.int .i64 ((qad x4_1 (ji27)).f1))) (fun _ hk => hk.2) (.int .i64 ((qad x4_1 (ji27)).f2))) (fun _ hk => hk.2) (.slice A213_3 ((qad x4_1 (ji27)).f3).length c213_3)) (fun _ hk => ⟨hk.1.1.1, ⟨hk.1.1.2.1, ⟨hk.1.1.2.2, hk.1.2⟩⟩⟩)⟩
              have n1_ : Aside0 (Kd.R (Kd.int .i64) 3 ((((w34.setCell ⟨gb214, 0, none⟩ (.int .i64 ((qad x4_1 (ji27)).f0))).setCell ⟨gb214, 1, none⟩ (.int .i64 ((qad x4_1 (ji27)).f1))).setCell ⟨gb214, 2, none⟩ (.int .i64 ((qad x4_1 (ji27)).f2))).setCell ⟨gb214, 3, none⟩ (.slice A213_3 ((qad x4_1 (ji27)).f3).length c213_3)) w.heap.size (fun k_ => (w.heap.size ≤ k_)) v196 t194) := ⟨by (with_reducible repeat (first | apply Kd.R_alloc | apply Kd.R_drewN | apply Kd.R_drew)); exact Kd.R_mono (Kd.R_far (p := ⟨gb214, 3, none⟩) (Kd.R_far (p := ⟨gb214, 2, none⟩) (Kd.R_far (p := ⟨gb214, 1, none⟩) (Kd.R_far (p := ⟨gb214, 0, none⟩) (Kd.R_types HO_7.out BK214.out (by decide)) (fun _ hk => hk.2) (.int .i64 ((qad x4_1 (ji27)).f0))) (fun _ hk => hk.2) (.int .i64 ((qad x4_1 (ji27)).f1))) (fun _ hk => hk.2) (.int .i64 ((qad x4_1 (ji27)).f2))) (fun _ hk => hk.2) (.slice A213_3 ((qad x4_1 (ji27)).f3).length c213_3)) (fun _ hk => hk.1)⟩
              have n2_ : Aside0 (Kd.V k48 48 ((((w34.setCell ⟨gb214, 0, none⟩ (.int .i64 ((qad x4_1 (ji27)).f0))).setCell ⟨gb214, 1, none⟩ (.int .i64 ((qad x4_1 (ji27)).f1))).setCell ⟨gb214, 2, none⟩ (.int .i64 ((qad x4_1 (ji27)).f2))).setCell ⟨gb214, 3, none⟩ (.slice A213_3 ((qad x4_1 (ji27)).f3).length c213_3)) w.heap.size (fun k_ => (w.heap.size ≤ k_) ∧ some k_ ≠ (.slice (some ad213) x4_1.length co33 : Value).ownBlock ∧ some k_ ≠ (v196 : Value).ownBlock ∧ k_ ≠ gb203 ∧ k_ ≠ gb214) (.slice A213_3 ((qad x4_1 (ji27)).f3).length c213_3) ((qad x4_1 (ji27)).f3)) := ⟨by (with_reducible repeat (first | apply Kd.V_alloc | apply Kd.V_drewN | apply Kd.V_drew)); exact Kd.V_mono (Kd.V_far (p := ⟨gb214, 3, none⟩) (Kd.V_far (p := ⟨gb214, 2, none⟩) (Kd.V_far (p := ⟨gb214, 1, none⟩) (Kd.V_far (p := ⟨gb214, 0, none⟩) (Kd.V_mono HL213_3.out (fun k_ hk => (⟨hk, hk.2⟩ : _ ∧ k_ ≠ gb214))) (fun _ hk => hk.2) (.int .i64 ((qad x4_1 (ji27)).f0))) (fun _ hk => hk.2) (.int .i64 ((qad x4_1 (ji27)).f1))) (fun _ hk => hk.2) (.int .i64 ((qad x4_1 (ji27)).f2))) (fun _ hk => hk.2) (.slice A213_3 ((qad x4_1 (ji27)).f3).length c213_3)) (fun _ hk => ⟨hk.1.1.1.1, ⟨hk.1.1.2, ⟨hk.1.1.1.2.1, ⟨hk.1.1.1.2.2, hk.1.2⟩⟩⟩⟩)⟩
              have n3_ : Aside0 (((((w34.setCell ⟨gb214, 0, none⟩ (.int .i64 ((qad x4_1 (ji27)).f0))).setCell ⟨gb214, 1, none⟩ (.int .i64 ((qad x4_1 (ji27)).f1))).setCell ⟨gb214, 2, none⟩ (.int .i64 ((qad x4_1 (ji27)).f2))).setCell ⟨gb214, 3, none⟩ (.slice A213_3 ((qad x4_1 (ji27)).f3).length c213_3)).heap[gb203]? = some (.cells #[.bool t199, .int .i64 t200, .int .i64 t201] 48 (0, 0))) := ⟨by (with_reducible repeat (first | refine qaf ?_ _ | refine qaj ?_ | refine qag ?_ _)); refine qa1 ?_ NB203_214.out _; (with_reducible repeat (first | refine qaf ?_ _ | refine qaj ?_ | refine qag ?_ _)); refine qa1 ?_ NB203_214.out _; (with_reducible repeat (first | refine qaf ?_ _ | refine qaj ?_ | refine qag ?_ _)); refine qa1 ?_ NB203_214.out _; (with_reducible repeat (first | refine qaf ?_ _ | refine qaj ?_ | refine qag ?_ _)); refine qa1 ?_ NB203_214.out _; (with_reducible repeat (first | refine qaf ?_ _ | refine qaj ?_ | refine qag ?_ _)); exact BK203.out⟩
              have n4_ : Aside0 (((((w34.setCell ⟨gb214, 0, none⟩ (.int .i64 ((qad x4_1 (ji27)).f0))).setCell ⟨gb214, 1, none⟩ (.int .i64 ((qad x4_1 (ji27)).f1))).setCell ⟨gb214, 2, none⟩ (.int .i64 ((qad x4_1 (ji27)).f2))).setCell ⟨gb214, 3, none⟩ (.slice A213_3 ((qad x4_1 (ji27)).f3).length c213_3)).heap[gb214]? = some (.cells #[.int .i64 ((qad x4_1 (ji27)).f0), .int .i64 ((qad x4_1 (ji27)).f1), .int .i64 ((qad x4_1 (ji27)).f2), .slice A213_3 ((qad x4_1 (ji27)).f3).length c213_3] 38 (0, 0))) := ⟨by (with_reducible repeat (first | refine qaf ?_ _ | refine qaj ?_ | refine qag ?_ _)); refine qaq (cs := #[.int .i64 ((qad x4_1 (ji27)).f0), .int .i64 ((qad x4_1 (ji27)).f1), .int .i64 ((qad x4_1 (ji27)).f2), .slice none 0 0]) ?_ 3 _ rfl; (with_reducible repeat (first | refine qaf ?_ _ | refine qaj ?_ | refine qag ?_ _)); refine qaq (cs := #[.int .i64 ((qad x4_1 (ji27)).f0), .int .i64 ((qad x4_1 (ji27)).f1), .int .i64 0, .slice none 0 0]) ?_ 2 _ rfl; (with_reducible repeat (first | refine qaf ?_ _ | refine qaj ?_ | refine qag ?_ _)); refine qaq (cs := #[.int .i64 ((qad x4_1 (ji27)).f0), .int .i64 0, .int .i64 0, .slice none 0 0]) ?_ 1 _ rfl; (with_reducible repeat (first | refine qaf ?_ _ | refine qaj ?_ | refine qag ?_ _)); refine qaq (cs := #[.int .i64 0, .int .i64 0, .int .i64 0, .slice none 0 0]) ?_ 0 _ rfl; (with_reducible repeat (first | refine qaf ?_ _ | refine qaj ?_ | refine qag ?_ _)); exact BK214.out⟩
              have n5_ : Aside0 (Below w.heap.size w ((((w34.setCell ⟨gb214, 0, none⟩ (.int .i64 ((qad x4_1 (ji27)).f0))).setCell ⟨gb214, 1, none⟩ (.int .i64 ((qad x4_1 (ji27)).f1))).setCell ⟨gb214, 2, none⟩ (.int .i64 ((qad x4_1 (ji27)).f2))).setCell ⟨gb214, 3, none⟩ (.slice A213_3 ((qad x4_1 (ji27)).f3).length c213_3))) := ⟨by repeat (first | (with_reducible first | exact HB.out | apply qab | apply qaa | apply qac | refine qai ?_ GE203.out | refine qai ?_ GE214.out) | exact HB.out)⟩
              (try clear HO_4)
              (try clear HO_7)
              (try clear HL213_3)
              (try clear BK203)
              (try clear BK214)
              (try clear HB)
              generalize ((((w34.setCell ⟨gb214, 0, none⟩ (.int .i64 ((qad x4_1 (ji27)).f0))).setCell ⟨gb214, 1, none⟩ (.int .i64 ((qad x4_1 (ji27)).f1))).setCell ⟨gb214, 2, none⟩ (.int .i64 ((qad x4_1 (ji27)).f2))).setCell ⟨gb214, 3, none⟩ (.slice A213_3 ((qad x4_1 (ji27)).f3).length c213_3)) = w37 at n0_ n1_ n2_ n3_ n4_ n5_ ⊢
              have HO_4 := n0_
              have HO_7 := n1_
              have HL213_3 := n2_
              have BK203 := n3_
              have BK214 := n4_
              have HB := n5_
              clear n0_ n1_ n2_ n3_ n4_ n5_
              have n0_ := Aside0.mk (Kd.N_drew HO_4.out)
              have n1_ := Aside0.mk (Kd.R_drew HO_7.out)
              have n2_ := Aside0.mk (Kd.V_drew HL213_3.out)
              have n3_ := Aside0.mk (qaj BK203.out)
              have n4_ := Aside0.mk (qaj BK214.out)
              have n5_ := Aside0.mk (qac HB.out)
              clear HO_4
              clear HO_7
              clear HL213_3
              clear BK203
              clear BK214
              clear HB
              have HO_4 := n0_
              have HO_7 := n1_
              have HL213_3 := n2_
              have BK203 := n3_
              have BK214 := n4_
              have HB := n5_
              clear n0_ n1_ n2_ n3_ n4_ n5_
              refine start_ (n := 9) (S := fun w' => w'.cell? ⟨gb214, 0, none⟩ = some (.int .i64 ((qad x4_1 (ji27)).f0)) ∧ w'.cell? ⟨gb214, 1, none⟩ = some (.int .i64 ((qad x4_1 (ji27)).f1)) ∧ w'.cell? ⟨gb214, 2, none⟩ = some (.int .i64 ((qad x4_1 (ji27)).f2)) ∧ w'.cell? ⟨gb214, 3, none⟩ = some (.slice A213_3 ((qad x4_1 (ji27)).f3).length c213_3) ∧ w'.cell? ⟨gb203, 0, none⟩ = some (.bool t199) ∧ w'.cell? ⟨gb203, 1, none⟩ = some (.int .i64 t200) ∧ w'.cell? ⟨gb203, 2, none⟩ = some (.int .i64 t201)) (ds := [8]) #[false, false, false, false, false, false, false, false, false] (by kernel_rfl) rfl rfl ⟨(qah BK214.out 0).trans rfl, (qah BK214.out 1).trans rfl, (qah BK214.out 2).trans rfl, (qah BK214.out 3).trans rfl, (qah BK203.out 0).trans rfl, (qah BK203.out 1).trans rfl, (qah BK203.out 2).trans rfl⟩ (fun hHeld => ?_); refine with_tabW burgageref07_Lines.tab11 burgageref07_Lines.bits11 (fun HT_ HW_ => ?_)
              generalize w37.drew = w38 at HO_4 HO_7 HL213_3 BK203 BK214 HB hHeld ⊢
              refine qbc (i := 1) (N := some 67) (v := ?_) (a' := ?_) #[false, true, false, false, false, false, false, false, false] rfl rfl (qa0 HT_.out (by kernel_rfl)) (fun _ _ _ h => h) (Or.inl ⟨by rfl, ?_⟩) ?_ ?_
              rotate_left
              ·intro w'
               go_simp
               with_reducible rfl
              rotate_left
              ·simp only [Act.put, List.setIfInBounds_toArray, List.set_cons_zero, List.set_cons_succ, qax, qay]
               rfl
              refine take_ (i := 2) (N := some 68) (v := ?_) (a' := ?_) #[false, true, true, false, false, false, false, false, false] rfl rfl (qbg HT_.out HW_.out (by kernel_rfl)) (fun _ _ _ h => h) (Or.inl ⟨by rfl, ?_⟩) hHeld ?_ ?_
              rotate_left
              ·rintro w' ⟨s0, s1, s2, s3, s4, s5, s6⟩
               go_simp
               with_reducible rfl
              rotate_left
              ·simp only [Act.put, List.setIfInBounds_toArray, List.set_cons_zero, List.set_cons_succ, qax, qay]
               rfl
              refine take_ (i := 4) (N := some 70) (v := ?_) (a' := ?_) #[false, true, true, false, true, false, false, false, false] rfl rfl (qbg HT_.out HW_.out (by kernel_rfl)) (fun _ _ _ h => h) (Or.inl ⟨by rfl, ?_⟩) hHeld ?_ ?_
              rotate_left
              ·rintro w' ⟨s0, s1, s2, s3, s4, s5, s6⟩
               go_simp
               with_reducible rfl
              rotate_left
              ·simp only [Act.put, List.setIfInBounds_toArray, List.set_cons_zero, List.set_cons_succ, qax, qay]
               rfl
              refine join_ (σ := Value × Value × Value) 3 #[true, true, true, true, true, true, false, false, false] (fun s_ => [(66, s_.1), (69, s_.2.1), (71, s_.2.2)]) (fun s_ w' => (w'.cell? ⟨gb214, 0, none⟩ = some (.int .i64 ((qad x4_1 (ji27)).f0)) ∧ w'.cell? ⟨gb214, 1, none⟩ = some (.int .i64 ((qad x4_1 (ji27)).f1)) ∧ w'.cell? ⟨gb214, 2, none⟩ = some (.int .i64 ((qad x4_1 (ji27)).f2)) ∧ w'.cell? ⟨gb214, 3, none⟩ = some (.slice A213_3 ((qad x4_1 (ji27)).f3).length c213_3) ∧ w'.cell? ⟨gb203, 0, none⟩ = some (.bool t199) ∧ w'.cell? ⟨gb203, 1, none⟩ = some (.int .i64 t200) ∧ w'.cell? ⟨gb203, 2, none⟩ = some (.int .i64 t201)) ∧ (Kd.V k48 48 w' w.heap.size (fun k_ => (w.heap.size ≤ k_) ∧ some k_ ≠ (s_.2.1 : Value).ownBlock ∧ some k_ ≠ (s_.2.2 : Value).ownBlock ∧ some k_ ≠ (.slice (some ad213) x4_1.length co33 : Value).ownBlock ∧ some k_ ≠ (v196 : Value).ownBlock ∧ k_ ≠ gb203 ∧ k_ ≠ gb214) (.slice A213_3 ((qad x4_1 (ji27)).f3).length c213_3) ((qad x4_1 (ji27)).f3)) ∧ (Kd.R k48 48 w' w.heap.size (fun k_ => (w.heap.size ≤ k_) ∧ some k_ ≠ (s_.2.2 : Value).ownBlock ∧ k_ ≠ gb203) s_.2.1 y218) ∧ (Kd.R k48 48 w' w.heap.size (fun k_ => (w.heap.size ≤ k_) ∧ some k_ ≠ (s_.2.1 : Value).ownBlock ∧ k_ ≠ gb203) s_.2.2 y221) ∧ (Kd.N k38 38 w' w.heap.size (fun k_ => (w.heap.size ≤ k_) ∧ some k_ ≠ (s_.2.1 : Value).ownBlock ∧ some k_ ≠ (s_.2.2 : Value).ownBlock ∧ some k_ ≠ (v196 : Value).ownBlock ∧ k_ ≠ gb203 ∧ k_ ≠ gb214) (.slice (some ad213) x4_1.length co33) x4_1) ∧ (Kd.R (Kd.int .i64) 3 w' w.heap.size (fun k_ => (w.heap.size ≤ k_)) v196 t194) ∧ (w'.heap[gb203]? = some (.cells #[.bool t199, .int .i64 t200, .int .i64 t201] 48 (0, 0))) ∧ (w'.heap[gb214]? = some (.cells #[.int .i64 ((qad x4_1 (ji27)).f0), .int .i64 ((qad x4_1 (ji27)).f1), .int .i64 ((qad x4_1 (ji27)).f2), .slice A213_3 ((qad x4_1 (ji27)).f3).length c213_3] 38 (0, 0))) ∧ (Below w.heap.size w w')) ?_ ?_
              rotate_left
              ·intro hCont
               refine two_ (i := 0) (j := 5) (Ni := some 66) (Nj := some 71) #[true, true, true, false, true, false, false, false, false] #[false, true, true, false, true, true, false, false, false] rfl rfl rfl rfl (two_of HT_.out (by kernel_rfl)) (by decide) (by decide) (fun K hK => ?_) (fun K hK => ?_)
               ·skip
                refine Kd.R_lit_step k48 _ 48 ?hg (N := 66) ?hd (xs := ([] : List (S48))) (inner := []) (ok := fun _ => True) (okp := fun _ => True) ?hr ?hp (fun _ hk => hk) trivial (Below.refl _ _) (Nat.le_refl _) (by simp) ?_; (case hd => rfl); (case hg => rfl); (case hr => first | (go_simp; done) | (go_simp; rfl)); (case hp => exact (Reps.none _ _))
                intro v216 w39 ho40 hb hg_ hnew_
                clear hg_ hnew_
                (first | rw [← Ny215.out] at ho40 | (simp only [Int.reduceToNat] at ho40; rw [← Ny215.out] at ho40))
                have n0_ := Aside0.mk (Kd.qb1 (by (with_reducible repeat (first | apply Kd.N_alloc | apply Kd.N_drewN | apply Kd.N_drew)); exact HO_4.out) (Kd.R_base ho40) hb)
                have n1_ := Aside0.mk (Kd.R_below (by (with_reducible repeat (first | apply Kd.R_alloc | apply Kd.R_drewN | apply Kd.R_drew)); exact HO_7.out) hb)
                have n2_ := Aside0.mk (Kd.V_elder' (by (with_reducible repeat (first | apply Kd.V_alloc | apply Kd.V_drewN | apply Kd.V_drew)); exact HL213_3.out) (Kd.R_base ho40) hb)
                have n3_ := Aside0.mk (Kd.R_lower (Kd.R_newB (Kd.R_newM (M := fun k_ => (w.heap.size ≤ k_)) ho40 (qak (by repeat (first | (with_reducible first | exact HB.out | apply qab | apply qaa | apply qac | refine qai ?_ GE203.out | refine qai ?_ GE214.out) | exact HB.out))) (fun k_ h_ => h_)) (g := gb203) (o := .cells #[.bool t199, .int .i64 t200, .int .i64 t201] 48 (0, 0)) (by (with_reducible repeat (first | refine qaf ?_ _ | refine qaj ?_ | refine qag ?_ _)); exact BK203.out)) (qak (by repeat (first | (with_reducible first | exact HB.out | apply qab | apply qaa | apply qac | refine qai ?_ GE203.out | refine qai ?_ GE214.out) | exact HB.out))))
                have n4_ := Aside0.mk (qar (g := gb203) (o := .cells #[.bool t199, .int .i64 t200, .int .i64 t201] 48 (0, 0)) (by (with_reducible repeat (first | refine qaf ?_ _ | refine qaj ?_ | refine qag ?_ _)); exact BK203.out) hb)
                have n5_ := Aside0.mk (qar (g := gb214) (o := .cells #[.int .i64 ((qad x4_1 (ji27)).f0), .int .i64 ((qad x4_1 (ji27)).f1), .int .i64 ((qad x4_1 (ji27)).f2), .slice A213_3 ((qad x4_1 (ji27)).f3).length c213_3] 38 (0, 0)) (by (with_reducible repeat (first | refine qaf ?_ _ | refine qaj ?_ | refine qag ?_ _)); exact BK214.out) hb)
                have n6_ := Aside0.mk (qal (by repeat (first | (with_reducible first | exact HB.out | apply qab | apply qaa | apply qac | refine qai ?_ GE203.out | refine qai ?_ GE214.out) | exact HB.out)) hb)
                clear HO_4
                clear HO_7
                clear HL213_3
                clear BK203
                clear BK214
                clear HB
                have HO_4 := n0_
                have HO_7 := n1_
                have HL213_3 := n2_
                have HO217 := n3_
                have BK203 := n4_
                have BK214 := n5_
                have HB := n6_
                clear n0_ n1_ n2_ n3_ n4_ n5_ n6_
                clear hb ho40
                refine hK.out _ _ ⟨(qah BK214.out 0).trans rfl, (qah BK214.out 1).trans rfl, (qah BK214.out 2).trans rfl, (qah BK214.out 3).trans rfl, (qah BK203.out 0).trans rfl, (qah BK203.out 1).trans rfl, (qah BK203.out 2).trans rfl⟩ (fun hHeld => ?_)
                clear hK K
                refine qcf (a' := ?_) ?_ ?_
                rotate_left
                ·show Act.put _ (some 66) _ = _
                 simp only [Act.put, List.setIfInBounds_toArray, List.set_cons_zero, List.set_cons_succ, qax, qay]
                 rfl
                refine two_ (i := 3) (j := 5) (Ni := some 69) (Nj := some 71) #[true, true, true, true, true, false, false, false, false] #[true, true, true, false, true, true, false, false, false] rfl rfl rfl rfl (two_of HT_.out (by kernel_rfl)) (by decide) (by decide) (fun K hK => ?_) (fun K hK => ?_)
                ·skip
                 refine Kd.R_append_rows_step k48 (w0 := w) w.heap.size (by rfl) (.tmp 66) (.tmp 68) 36 48 (.agg #[(.bool false), (.int .i64 0), (.int .i64 0)]) 24 rfl Tryd.underlying36 info48 rfl (by decide) (by omega) v216 y215 ((qad x4_1 (ji27)).f3) _ _ _ (fun k_ => (w.heap.size ≤ k_) ∧ k_ ≠ gb203) (fun _ => False) rfl rfl ?aO ?aR (fun _ _ h => h) (fun _ h => h.elim) ?aF ?aB ?aS ?aL ?_
                 (case aR => repeat (first | exact ((Kd.V_reads' (by (with_reducible repeat (first | apply Kd.V_alloc | apply Kd.V_drewN | apply Kd.V_drew)); exact HL213_3.out)).2.2) | (with_reducible refine Kd.C_alloc ?_ _) | (with_reducible refine Kd.C_drewN ?_ _) | (with_reducible refine Kd.C_drew ?_)))
                 (case aB => exact (by repeat (first | (with_reducible first | exact HB.out | apply qab | apply qaa | apply qac | refine qai ?_ GE203.out | refine qai ?_ GE214.out) | exact HB.out)))
                 (case aF => exact (fun k_ hk => ⟨(Nat.le_trans (qak (by repeat (first | (with_reducible first | exact HB.out | apply qab | apply qaa | apply qac | refine qai ?_ GE203.out | refine qai ?_ GE214.out) | exact HB.out))) hk), Kd.freshB (g := gb203) (o := .cells #[.bool t199, .int .i64 t200, .int .i64 t201] 48 (0, 0)) (by (with_reducible repeat (first | refine qaf ?_ _ | refine qaj ?_ | refine qag ?_ _)); exact BK203.out) k_ hk⟩))
                 (case aO => exact (by (with_reducible repeat (first | apply Kd.R_alloc | apply Kd.R_drewN | apply Kd.R_drew)); exact Kd.R_mono HO217.out (fun _ hk => ⟨hk.1.1, hk.2⟩)))
                 (case aS => exact (qak (by repeat (first | (with_reducible first | exact HB.out | apply qab | apply qaa | apply qac | refine qai ?_ GE203.out | refine qai ?_ GE214.out) | exact HB.out))))
                 (case aL => have := LMc30.out; omega)
                 intro v219 w41 ho hb hg hat
                 rw [← Ny218.out] at ho
                 have n0_ := Aside0.mk (Kd.N_afterv (ok := (fun k_ => (w.heap.size ≤ k_) ∧ some k_ ≠ (v196 : Value).ownBlock ∧ k_ ≠ gb203 ∧ k_ ≠ gb214)) (by (with_reducible repeat (first | apply Kd.N_alloc | apply Kd.N_drewN | apply Kd.N_drew)); exact HO_4.out) hg hat)
                 have n1_ := Aside0.mk (Kd.R_over' (by (with_reducible repeat (first | apply Kd.R_alloc | apply Kd.R_drewN | apply Kd.R_drew)); exact HO_7.out) (Kd.R_typed (by (with_reducible repeat (first | apply Kd.R_alloc | apply Kd.R_drewN | apply Kd.R_drew)); exact HO217.out)) (by decide) hg)
                 have n2_ := Aside0.mk (blk_grown (g := gb203) (o := .cells #[.bool t199, .int .i64 t200, .int .i64 t201] 48 (0, 0)) (by (with_reducible repeat (first | refine qaf ?_ _ | refine qaj ?_ | refine qag ?_ _)); exact BK203.out) hg (Kd.R_away HO217.out (fun _ hk => hk.2)))
                 have n3_ := Aside0.mk (Kd.V_afterv (ok := (fun k_ => (w.heap.size ≤ k_) ∧ some k_ ≠ (.slice (some ad213) x4_1.length co33 : Value).ownBlock ∧ some k_ ≠ (v196 : Value).ownBlock ∧ k_ ≠ gb203 ∧ k_ ≠ gb214)) (by (with_reducible repeat (first | apply Kd.V_alloc | apply Kd.V_drewN | apply Kd.V_drew)); exact HL213_3.out) hg hat)
                 have n4_ := Aside0.mk (blk_grown (g := gb214) (o := .cells #[.int .i64 ((qad x4_1 (ji27)).f0), .int .i64 ((qad x4_1 (ji27)).f1), .int .i64 ((qad x4_1 (ji27)).f2), .slice A213_3 ((qad x4_1 (ji27)).f3).length c213_3] 38 (0, 0)) (by (with_reducible repeat (first | refine qaf ?_ _ | refine qaj ?_ | refine qag ?_ _)); exact BK214.out) hg (Kd.R_ne HO217.out BK214.out (by decide)))
                 have n5_ := Aside0.mk (hb)
                 have n6_ := Aside0.mk (ho)
                 clear HO_4
                 clear HO_7
                 clear BK203
                 clear HL213_3
                 clear BK214
                 clear HB
                 clear HO217
                 have HO_4 := n0_
                 have HO_7 := n1_
                 have BK203 := n2_
                 have HL213_3 := n3_
                 have BK214 := n4_
                 have HB := n5_
                 have HO220 := n6_
                 clear n0_ n1_ n2_ n3_ n4_ n5_ n6_
                 clear ho hb hg hat
                 refine hK.out _ _ ⟨(qah BK214.out 0).trans rfl, (qah BK214.out 1).trans rfl, (qah BK214.out 2).trans rfl, (qah BK214.out 3).trans rfl, (qah BK203.out 0).trans rfl, (qah BK203.out 1).trans rfl, (qah BK203.out 2).trans rfl⟩ (fun hHeld => ?_)
                 clear hK K
                 refine qcf (a' := ?_) ?_ ?_
                 rotate_left
                 ·show Act.put _ (some 69) _ = _
                  simp only [Act.put, List.setIfInBounds_toArray, List.set_cons_zero, List.set_cons_succ, qax, qay]
                  rfl
                 refine one_ (i := 5) (N := some 71) #[true, true, true, true, true, true, false, false, false] rfl rfl (qb6 HT_.out (by kernel_rfl)) (by decide) (fun K hK => ?_)
                 refine Kd.R_lit_step k48 _ 48 ?hg (N := 71) ?hd (xs := ([(⟨t199, t200, t201⟩ : S48)] : List (S48))) (inner := [.bool t199, .int .i64 t200, .int .i64 t201]) (ok := fun _ => True) (okp := fun _ => True) ?hr ?hp (fun _ hk => hk) trivial (Below.refl _ _) (Nat.le_refl _) (by simp) ?_; (case hd => rfl); (case hg => rfl); (case hr => first | (go_simp; done) | (go_simp; rfl)); (case hp => exact (Reps.c3 (show Kd.M k48 _ _ _ (⟨t199, t200, t201⟩ : S48) [.bool t199, .int .i64 t200, .int .i64 t201] from (k48_mkM _ _ _ (⟨t199, t200, t201⟩ : S48) )) (Reps.none _ _)))
                 intro v222 w42 ho43 hb hg_ hnew_
                 clear hg_ hnew_
                 (first | rw [← Ny221.out] at ho43 | (simp only [Int.reduceToNat] at ho43; rw [← Ny221.out] at ho43))
                 have n0_ := Aside0.mk (Kd.qb1 (by (with_reducible repeat (first | apply Kd.N_alloc | apply Kd.N_drewN | apply Kd.N_drew)); exact HO_4.out) (Kd.R_base ho43) hb)
                 have n1_ := Aside0.mk (Kd.R_below (by (with_reducible repeat (first | apply Kd.R_alloc | apply Kd.R_drewN | apply Kd.R_drew)); exact HO_7.out) hb)
                 have n2_ := Aside0.mk (Kd.V_elder' (by (with_reducible repeat (first | apply Kd.V_alloc | apply Kd.V_drewN | apply Kd.V_drew)); exact HL213_3.out) (Kd.R_base ho43) hb)
                 have n3_ := Aside0.mk (Kd.R_elder' (by (with_reducible repeat (first | apply Kd.R_alloc | apply Kd.R_drewN | apply Kd.R_drew)); exact HO220.out) (Kd.R_base ho43) hb)
                 have n4_ := Aside0.mk (Kd.R_lower (Kd.R_newB (Kd.R_new' (Kd.R_newM (M := fun k_ => (w.heap.size ≤ k_)) ho43 (qak (by repeat (first | (with_reducible first | exact HB.out | apply qab | apply qaa | apply qac | refine qai ?_ GE203.out | refine qai ?_ GE214.out) | exact HB.out))) (fun k_ h_ => h_)) (Kd.R_lt (by (with_reducible repeat (first | apply Kd.R_alloc | apply Kd.R_drewN | apply Kd.R_drew)); exact HO220.out))) (g := gb203) (o := .cells #[.bool t199, .int .i64 t200, .int .i64 t201] 48 (0, 0)) (by (with_reducible repeat (first | refine qaf ?_ _ | refine qaj ?_ | refine qag ?_ _)); exact BK203.out)) (qak (by repeat (first | (with_reducible first | exact HB.out | apply qab | apply qaa | apply qac | refine qai ?_ GE203.out | refine qai ?_ GE214.out) | exact HB.out))))
                 have n5_ := Aside0.mk (qar (g := gb203) (o := .cells #[.bool t199, .int .i64 t200, .int .i64 t201] 48 (0, 0)) (by (with_reducible repeat (first | refine qaf ?_ _ | refine qaj ?_ | refine qag ?_ _)); exact BK203.out) hb)
                 have n6_ := Aside0.mk (qar (g := gb214) (o := .cells #[.int .i64 ((qad x4_1 (ji27)).f0), .int .i64 ((qad x4_1 (ji27)).f1), .int .i64 ((qad x4_1 (ji27)).f2), .slice A213_3 ((qad x4_1 (ji27)).f3).length c213_3] 38 (0, 0)) (by (with_reducible repeat (first | refine qaf ?_ _ | refine qaj ?_ | refine qag ?_ _)); exact BK214.out) hb)
                 have n7_ := Aside0.mk (qal (by repeat (first | (with_reducible first | exact HB.out | apply qab | apply qaa | apply qac | refine qai ?_ GE203.out | refine qai ?_ GE214.out) | exact HB.out)) hb)
                 clear HO_4
                 clear HO_7
                 clear HL213_3
                 clear HO220
                 clear BK203
                 clear BK214
                 clear HB
                 have HO_4 := n0_
                 have HO_7 := n1_
                 have HL213_3 := n2_
                 have HO220 := n3_
                 have HO223 := n4_
                 have BK203 := n5_
                 have BK214 := n6_
                 have HB := n7_
                 clear n0_ n1_ n2_ n3_ n4_ n5_ n6_ n7_
                 clear hb ho43
                 refine hK.out _ _ ⟨(qah BK214.out 0).trans rfl, (qah BK214.out 1).trans rfl, (qah BK214.out 2).trans rfl, (qah BK214.out 3).trans rfl, (qah BK203.out 0).trans rfl, (qah BK203.out 1).trans rfl, (qah BK203.out 2).trans rfl⟩ (fun hHeld => ?_)
                 clear hK K
                 refine qcf (a' := ?_) ?_ ?_
                 rotate_left
                 ·show Act.put _ (some 71) _ = _
                  simp only [Act.put, List.setIfInBounds_toArray, List.set_cons_zero, List.set_cons_succ, qax, qay]
                  rfl
                 exact qcf (by simp only [putAll, Act.put, List.setIfInBounds_toArray, List.set_cons_zero, List.set_cons_succ]) (hCont (v216, v219, v222) _ ⟨hHeld, (by (with_reducible repeat (first | apply Kd.V_alloc | apply Kd.V_drewN | apply Kd.V_drew)); exact Kd.V_mono HL213_3.out (fun _ hk => ⟨hk.1.1.1, ⟨hk.1.2, ⟨hk.2, ⟨hk.1.1.2.1, ⟨hk.1.1.2.2.1, ⟨hk.1.1.2.2.2.1, hk.1.1.2.2.2.2⟩⟩⟩⟩⟩⟩)), (by (with_reducible repeat (first | apply Kd.R_alloc | apply Kd.R_drewN | apply Kd.R_drew)); exact Kd.R_mono HO220.out (fun _ hk => ⟨hk.1.1, ⟨hk.2, hk.1.2⟩⟩)), (by (with_reducible repeat (first | apply Kd.R_alloc | apply Kd.R_drewN | apply Kd.R_drew)); exact Kd.R_mono HO223.out (fun _ hk => ⟨hk.1.1.1, ⟨hk.1.2, hk.2⟩⟩)), (by (with_reducible repeat (first | apply Kd.N_alloc | apply Kd.N_drewN | apply Kd.N_drew)); exact Kd.N_mono HO_4.out (fun _ hk => ⟨hk.1.1.1, ⟨hk.1.2, ⟨hk.2, ⟨hk.1.1.2.1, ⟨hk.1.1.2.2.1, hk.1.1.2.2.2⟩⟩⟩⟩⟩)), (by (with_reducible repeat (first | apply Kd.R_alloc | apply Kd.R_drewN | apply Kd.R_drew)); exact HO_7.out), (by (with_reducible repeat (first | refine qaf ?_ _ | refine qaj ?_ | refine qag ?_ _)); exact BK203.out), (by (with_reducible repeat (first | refine qaf ?_ _ | refine qaj ?_ | refine qag ?_ _)); exact BK214.out), (by repeat (first | (with_reducible first | exact HB.out | apply qab | apply qaa | apply qac | refine qai ?_ GE203.out | refine qai ?_ GE214.out) | exact HB.out))⟩)
                ·skip
                 refine Kd.R_lit_step k48 _ 48 ?hg (N := 71) ?hd (xs := ([(⟨t199, t200, t201⟩ : S48)] : List (S48))) (inner := [.bool t199, .int .i64 t200, .int .i64 t201]) (ok := fun _ => True) (okp := fun _ => True) ?hr ?hp (fun _ hk => hk) trivial (Below.refl _ _) (Nat.le_refl _) (by simp) ?_; (case hd => rfl); (case hg => rfl); (case hr => first | (go_simp; done) | (go_simp; rfl)); (case hp => exact (Reps.c3 (show Kd.M k48 _ _ _ (⟨t199, t200, t201⟩ : S48) [.bool t199, .int .i64 t200, .int .i64 t201] from (k48_mkM _ _ _ (⟨t199, t200, t201⟩ : S48) )) (Reps.none _ _)))
                 intro v222 w41 ho42 hb hg_ hnew_
                 clear hg_ hnew_
                 (first | rw [← Ny221.out] at ho42 | (simp only [Int.reduceToNat] at ho42; rw [← Ny221.out] at ho42))
                 have n0_ := Aside0.mk (Kd.qb1 (by (with_reducible repeat (first | apply Kd.N_alloc | apply Kd.N_drewN | apply Kd.N_drew)); exact HO_4.out) (Kd.R_base ho42) hb)
                 have n1_ := Aside0.mk (Kd.R_below (by (with_reducible repeat (first | apply Kd.R_alloc | apply Kd.R_drewN | apply Kd.R_drew)); exact HO_7.out) hb)
                 have n2_ := Aside0.mk (Kd.V_elder' (by (with_reducible repeat (first | apply Kd.V_alloc | apply Kd.V_drewN | apply Kd.V_drew)); exact HL213_3.out) (Kd.R_base ho42) hb)
                 have n3_ := Aside0.mk (Kd.R_elder' (by (with_reducible repeat (first | apply Kd.R_alloc | apply Kd.R_drewN | apply Kd.R_drew)); exact HO217.out) (Kd.R_base ho42) hb)
                 have n4_ := Aside0.mk (Kd.R_lower (Kd.R_newB (Kd.R_new' (Kd.R_newM (M := fun k_ => (w.heap.size ≤ k_)) ho42 (qak (by repeat (first | (with_reducible first | exact HB.out | apply qab | apply qaa | apply qac | refine qai ?_ GE203.out | refine qai ?_ GE214.out) | exact HB.out))) (fun k_ h_ => h_)) (Kd.R_lt (by (with_reducible repeat (first | apply Kd.R_alloc | apply Kd.R_drewN | apply Kd.R_drew)); exact HO217.out))) (g := gb203) (o := .cells #[.bool t199, .int .i64 t200, .int .i64 t201] 48 (0, 0)) (by (with_reducible repeat (first | refine qaf ?_ _ | refine qaj ?_ | refine qag ?_ _)); exact BK203.out)) (qak (by repeat (first | (with_reducible first | exact HB.out | apply qab | apply qaa | apply qac | refine qai ?_ GE203.out | refine qai ?_ GE214.out) | exact HB.out))))
                 have n5_ := Aside0.mk (qar (g := gb203) (o := .cells #[.bool t199, .int .i64 t200, .int .i64 t201] 48 (0, 0)) (by (with_reducible repeat (first | refine qaf ?_ _ | refine qaj ?_ | refine qag ?_ _)); exact BK203.out) hb)
                 have n6_ := Aside0.mk (qar (g := gb214) (o := .cells #[.int .i64 ((qad x4_1 (ji27)).f0), .int .i64 ((qad x4_1 (ji27)).f1), .int .i64 ((qad x4_1 (ji27)).f2), .slice A213_3 ((qad x4_1 (ji27)).f3).length c213_3] 38 (0, 0)) (by (with_reducible repeat (first | refine qaf ?_ _ | refine qaj ?_ | refine qag ?_ _)); exact BK214.out) hb)
                 have n7_ := Aside0.mk (qal (by repeat (first | (with_reducible first | exact HB.out | apply qab | apply qaa | apply qac | refine qai ?_ GE203.out | refine qai ?_ GE214.out) | exact HB.out)) hb)
                 clear HO_4
                 clear HO_7
                 clear HL213_3
                 clear HO217
                 clear BK203
                 clear BK214
                 clear HB
                 have HO_4 := n0_
                 have HO_7 := n1_
                 have HL213_3 := n2_
                 have HO217 := n3_
                 have HO223 := n4_
                 have BK203 := n5_
                 have BK214 := n6_
                 have HB := n7_
                 clear n0_ n1_ n2_ n3_ n4_ n5_ n6_ n7_
                 clear hb ho42
                 refine hK.out _ _ ⟨(qah BK214.out 0).trans rfl, (qah BK214.out 1).trans rfl, (qah BK214.out 2).trans rfl, (qah BK214.out 3).trans rfl, (qah BK203.out 0).trans rfl, (qah BK203.out 1).trans rfl, (qah BK203.out 2).trans rfl⟩ (fun hHeld => ?_)
                 clear hK K
                 refine qcf (a' := ?_) ?_ ?_
                 rotate_left
                 ·show Act.put _ (some 71) _ = _
                  simp only [Act.put, List.setIfInBounds_toArray, List.set_cons_zero, List.set_cons_succ, qax, qay]
                  rfl
                 refine one_ (i := 3) (N := some 69) #[true, true, true, true, true, true, false, false, false] rfl rfl (qb6 HT_.out (by kernel_rfl)) (by decide) (fun K hK => ?_)
                 refine Kd.R_append_rows_step k48 (w0 := w) w.heap.size (by rfl) (.tmp 66) (.tmp 68) 36 48 (.agg #[(.bool false), (.int .i64 0), (.int .i64 0)]) 24 rfl Tryd.underlying36 info48 rfl (by decide) (by omega) v216 y215 ((qad x4_1 (ji27)).f3) _ _ _ (fun k_ => (w.heap.size ≤ k_) ∧ some k_ ≠ (v222 : Value).ownBlock ∧ k_ ≠ gb203) (fun _ => False) rfl rfl ?aO ?aR (fun _ _ h => h) (fun _ h => h.elim) ?aF ?aB ?aS ?aL ?_
                 (case aR => repeat (first | exact ((Kd.V_reads' (by (with_reducible repeat (first | apply Kd.V_alloc | apply Kd.V_drewN | apply Kd.V_drew)); exact HL213_3.out)).2.2) | (with_reducible refine Kd.C_alloc ?_ _) | (with_reducible refine Kd.C_drewN ?_ _) | (with_reducible refine Kd.C_drew ?_)))
                 (case aB => exact (by repeat (first | (with_reducible first | exact HB.out | apply qab | apply qaa | apply qac | refine qai ?_ GE203.out | refine qai ?_ GE214.out) | exact HB.out)))
                 (case aF => exact (fun k_ hk => ⟨(Nat.le_trans (qak (by repeat (first | (with_reducible first | exact HB.out | apply qab | apply qaa | apply qac | refine qai ?_ GE203.out | refine qai ?_ GE214.out) | exact HB.out))) hk), Kd.fresh' (Kd.R_lt (by (with_reducible repeat (first | apply Kd.R_alloc | apply Kd.R_drewN | apply Kd.R_drew)); exact HO223.out)) k_ hk, Kd.freshB (g := gb203) (o := .cells #[.bool t199, .int .i64 t200, .int .i64 t201] 48 (0, 0)) (by (with_reducible repeat (first | refine qaf ?_ _ | refine qaj ?_ | refine qag ?_ _)); exact BK203.out) k_ hk⟩))
                 (case aO => exact (by (with_reducible repeat (first | apply Kd.R_alloc | apply Kd.R_drewN | apply Kd.R_drew)); exact Kd.R_mono HO217.out (fun _ hk => ⟨hk.1.1.1, ⟨hk.2, hk.1.2⟩⟩)))
                 (case aS => exact (qak (by repeat (first | (with_reducible first | exact HB.out | apply qab | apply qaa | apply qac | refine qai ?_ GE203.out | refine qai ?_ GE214.out) | exact HB.out))))
                 (case aL => have := LMc30.out; omega)
                 intro v219 w43 ho hb hg hat
                 rw [← Ny218.out] at ho
                 have n0_ := Aside0.mk (Kd.N_afterv (ok := (fun k_ => (w.heap.size ≤ k_) ∧ some k_ ≠ (v196 : Value).ownBlock ∧ some k_ ≠ (v222 : Value).ownBlock ∧ k_ ≠ gb203 ∧ k_ ≠ gb214)) (by (with_reducible repeat (first | apply Kd.N_alloc | apply Kd.N_drewN | apply Kd.N_drew)); exact Kd.N_mono HO_4.out (fun _ hk => ⟨⟨hk.1.1.1, ⟨hk.1.1.2.1, ⟨hk.2, ⟨hk.1.1.2.2.1, hk.1.1.2.2.2⟩⟩⟩⟩, hk.1.2⟩)) hg hat)
                 have n1_ := Aside0.mk (Kd.R_over' (by (with_reducible repeat (first | apply Kd.R_alloc | apply Kd.R_drewN | apply Kd.R_drew)); exact HO_7.out) (Kd.R_typed (by (with_reducible repeat (first | apply Kd.R_alloc | apply Kd.R_drewN | apply Kd.R_drew)); exact HO217.out)) (by decide) hg)
                 have n2_ := Aside0.mk (blk_grown (g := gb203) (o := .cells #[.bool t199, .int .i64 t200, .int .i64 t201] 48 (0, 0)) (by (with_reducible repeat (first | refine qaf ?_ _ | refine qaj ?_ | refine qag ?_ _)); exact BK203.out) hg (Kd.R_away HO217.out (fun _ hk => hk.1.2)))
                 have n3_ := Aside0.mk (Kd.V_afterv (ok := (fun k_ => (w.heap.size ≤ k_) ∧ some k_ ≠ (.slice (some ad213) x4_1.length co33 : Value).ownBlock ∧ some k_ ≠ (v196 : Value).ownBlock ∧ some k_ ≠ (v222 : Value).ownBlock ∧ k_ ≠ gb203 ∧ k_ ≠ gb214)) (by (with_reducible repeat (first | apply Kd.V_alloc | apply Kd.V_drewN | apply Kd.V_drew)); exact Kd.V_mono HL213_3.out (fun _ hk => ⟨⟨hk.1.1.1, ⟨hk.1.1.2.1, ⟨hk.1.1.2.2.1, ⟨hk.2, ⟨hk.1.1.2.2.2.1, hk.1.1.2.2.2.2⟩⟩⟩⟩⟩, hk.1.2⟩)) hg hat)
                 have n4_ := Aside0.mk (blk_grown (g := gb214) (o := .cells #[.int .i64 ((qad x4_1 (ji27)).f0), .int .i64 ((qad x4_1 (ji27)).f1), .int .i64 ((qad x4_1 (ji27)).f2), .slice A213_3 ((qad x4_1 (ji27)).f3).length c213_3] 38 (0, 0)) (by (with_reducible repeat (first | refine qaf ?_ _ | refine qaj ?_ | refine qag ?_ _)); exact BK214.out) hg (Kd.R_ne HO217.out BK214.out (by decide)))
                 have n5_ := Aside0.mk (Kd.R_after (ok := (fun k_ => (w.heap.size ≤ k_) ∧ k_ ≠ gb203)) (by (with_reducible repeat (first | apply Kd.R_alloc | apply Kd.R_drewN | apply Kd.R_drew)); exact Kd.R_mono HO223.out (fun _ hk => ⟨⟨hk.1.1.1, hk.2⟩, hk.1.2⟩)) hg hat)
                 have n6_ := Aside0.mk (hb)
                 have n7_ := Aside0.mk (ho)
                 clear HO_4
                 clear HO_7
                 clear BK203
                 clear HL213_3
                 clear BK214
                 clear HO223
                 clear HB
                 clear HO217
                 have HO_4 := n0_
                 have HO_7 := n1_
                 have BK203 := n2_
                 have HL213_3 := n3_
                 have BK214 := n4_
                 have HO223 := n5_
                 have HB := n6_
                 have HO220 := n7_
                 clear n0_ n1_ n2_ n3_ n4_ n5_ n6_ n7_
                 clear ho hb hg hat
                 refine hK.out _ _ ⟨(qah BK214.out 0).trans rfl, (qah BK214.out 1).trans rfl, (qah BK214.out 2).trans rfl, (qah BK214.out 3).trans rfl, (qah BK203.out 0).trans rfl, (qah BK203.out 1).trans rfl, (qah BK203.out 2).trans rfl⟩ (fun hHeld => ?_)
                 clear hK K
                 refine qcf (a' := ?_) ?_ ?_
                 rotate_left
                 ·show Act.put _ (some 69) _ = _
                  simp only [Act.put, List.setIfInBounds_toArray, List.set_cons_zero, List.set_cons_succ, qax, qay]
                  rfl
                 exact qcf (by simp only [putAll, Act.put, List.setIfInBounds_toArray, List.set_cons_zero, List.set_cons_succ]) (hCont (v216, v219, v222) _ ⟨hHeld, (by (with_reducible repeat (first | apply Kd.V_alloc | apply Kd.V_drewN | apply Kd.V_drew)); exact Kd.V_mono HL213_3.out (fun _ hk => ⟨hk.1.1, ⟨hk.2, ⟨hk.1.2.2.2.1, ⟨hk.1.2.1, ⟨hk.1.2.2.1, ⟨hk.1.2.2.2.2.1, hk.1.2.2.2.2.2⟩⟩⟩⟩⟩⟩)), (by (with_reducible repeat (first | apply Kd.R_alloc | apply Kd.R_drewN | apply Kd.R_drew)); exact HO220.out), (by (with_reducible repeat (first | apply Kd.R_alloc | apply Kd.R_drewN | apply Kd.R_drew)); exact Kd.R_mono HO223.out (fun _ hk => ⟨hk.1.1, ⟨hk.2, hk.1.2⟩⟩)), (by (with_reducible repeat (first | apply Kd.N_alloc | apply Kd.N_drewN | apply Kd.N_drew)); exact Kd.N_mono HO_4.out (fun _ hk => ⟨hk.1.1, ⟨hk.2, ⟨hk.1.2.2.1, ⟨hk.1.2.1, ⟨hk.1.2.2.2.1, hk.1.2.2.2.2⟩⟩⟩⟩⟩)), (by (with_reducible repeat (first | apply Kd.R_alloc | apply Kd.R_drewN | apply Kd.R_drew)); exact HO_7.out), (by (with_reducible repeat (first | refine qaf ?_ _ | refine qaj ?_ | refine qag ?_ _)); exact BK203.out), (by (with_reducible repeat (first | refine qaf ?_ _ | refine qaj ?_ | refine qag ?_ _)); exact BK214.out), (by repeat (first | (with_reducible first | exact HB.out | apply qab | apply qaa | apply qac | refine qai ?_ GE203.out | refine qai ?_ GE214.out) | exact HB.out))⟩)
               ·skip
                refine Kd.R_lit_step k48 _ 48 ?hg (N := 71) ?hd (xs := ([(⟨t199, t200, t201⟩ : S48)] : List (S48))) (inner := [.bool t199, .int .i64 t200, .int .i64 t201]) (ok := fun _ => True) (okp := fun _ => True) ?hr ?hp (fun _ hk => hk) trivial (Below.refl _ _) (Nat.le_refl _) (by simp) ?_; (case hd => rfl); (case hg => rfl); (case hr => first | (go_simp; done) | (go_simp; rfl)); (case hp => exact (Reps.c3 (show Kd.M k48 _ _ _ (⟨t199, t200, t201⟩ : S48) [.bool t199, .int .i64 t200, .int .i64 t201] from (k48_mkM _ _ _ (⟨t199, t200, t201⟩ : S48) )) (Reps.none _ _)))
                intro v222 w39 ho40 hb hg_ hnew_
                clear hg_ hnew_
                (first | rw [← Ny221.out] at ho40 | (simp only [Int.reduceToNat] at ho40; rw [← Ny221.out] at ho40))
                have n0_ := Aside0.mk (Kd.qb1 (by (with_reducible repeat (first | apply Kd.N_alloc | apply Kd.N_drewN | apply Kd.N_drew)); exact HO_4.out) (Kd.R_base ho40) hb)
                have n1_ := Aside0.mk (Kd.R_below (by (with_reducible repeat (first | apply Kd.R_alloc | apply Kd.R_drewN | apply Kd.R_drew)); exact HO_7.out) hb)
                have n2_ := Aside0.mk (Kd.V_elder' (by (with_reducible repeat (first | apply Kd.V_alloc | apply Kd.V_drewN | apply Kd.V_drew)); exact HL213_3.out) (Kd.R_base ho40) hb)
                have n3_ := Aside0.mk (Kd.R_lower (Kd.R_newB (Kd.R_newM (M := fun k_ => (w.heap.size ≤ k_)) ho40 (qak (by repeat (first | (with_reducible first | exact HB.out | apply qab | apply qaa | apply qac | refine qai ?_ GE203.out | refine qai ?_ GE214.out) | exact HB.out))) (fun k_ h_ => h_)) (g := gb203) (o := .cells #[.bool t199, .int .i64 t200, .int .i64 t201] 48 (0, 0)) (by (with_reducible repeat (first | refine qaf ?_ _ | refine qaj ?_ | refine qag ?_ _)); exact BK203.out)) (qak (by repeat (first | (with_reducible first | exact HB.out | apply qab | apply qaa | apply qac | refine qai ?_ GE203.out | refine qai ?_ GE214.out) | exact HB.out))))
                have n4_ := Aside0.mk (qar (g := gb203) (o := .cells #[.bool t199, .int .i64 t200, .int .i64 t201] 48 (0, 0)) (by (with_reducible repeat (first | refine qaf ?_ _ | refine qaj ?_ | refine qag ?_ _)); exact BK203.out) hb)
                have n5_ := Aside0.mk (qar (g := gb214) (o := .cells #[.int .i64 ((qad x4_1 (ji27)).f0), .int .i64 ((qad x4_1 (ji27)).f1), .int .i64 ((qad x4_1 (ji27)).f2), .slice A213_3 ((qad x4_1 (ji27)).f3).length c213_3] 38 (0, 0)) (by (with_reducible repeat (first | refine qaf ?_ _ | refine qaj ?_ | refine qag ?_ _)); exact BK214.out) hb)
                have n6_ := Aside0.mk (qal (by repeat (first | (with_reducible first | exact HB.out | apply qab | apply qaa | apply qac | refine qai ?_ GE203.out | refine qai ?_ GE214.out) | exact HB.out)) hb)
                clear HO_4
                clear HO_7
                clear HL213_3
                clear BK203
                clear BK214
                clear HB
                have HO_4 := n0_
                have HO_7 := n1_
                have HL213_3 := n2_
                have HO223 := n3_
                have BK203 := n4_
                have BK214 := n5_
                have HB := n6_
                clear n0_ n1_ n2_ n3_ n4_ n5_ n6_
                clear hb ho40
                refine hK.out _ _ ⟨(qah BK214.out 0).trans rfl, (qah BK214.out 1).trans rfl, (qah BK214.out 2).trans rfl, (qah BK214.out 3).trans rfl, (qah BK203.out 0).trans rfl, (qah BK203.out 1).trans rfl, (qah BK203.out 2).trans rfl⟩ (fun hHeld => ?_)
                clear hK K
                refine qcf (a' := ?_) ?_ ?_
                rotate_left
                ·show Act.put _ (some 71) _ = _
                 simp only [Act.put, List.setIfInBounds_toArray, List.set_cons_zero, List.set_cons_succ, qax, qay]
                 rfl
                refine one_ (i := 0) (N := some 66) #[true, true, true, false, true, true, false, false, false] rfl rfl (qb6 HT_.out (by kernel_rfl)) (by decide) (fun K hK => ?_)
                refine Kd.R_lit_step k48 _ 48 ?hg (N := 66) ?hd (xs := ([] : List (S48))) (inner := []) (ok := fun _ => True) (okp := fun _ => True) ?hr ?hp (fun _ hk => hk) trivial (Below.refl _ _) (Nat.le_refl _) (by simp) ?_; (case hd => rfl); (case hg => rfl); (case hr => first | (go_simp; done) | (go_simp; rfl)); (case hp => exact (Reps.none _ _))
                intro v216 w41 ho42 hb hg_ hnew_
                clear hg_ hnew_
                (first | rw [← Ny215.out] at ho42 | (simp only [Int.reduceToNat] at ho42; rw [← Ny215.out] at ho42))
                have n0_ := Aside0.mk (Kd.qb1 (by (with_reducible repeat (first | apply Kd.N_alloc | apply Kd.N_drewN | apply Kd.N_drew)); exact HO_4.out) (Kd.R_base ho42) hb)
                have n1_ := Aside0.mk (Kd.R_below (by (with_reducible repeat (first | apply Kd.R_alloc | apply Kd.R_drewN | apply Kd.R_drew)); exact HO_7.out) hb)
                have n2_ := Aside0.mk (Kd.V_elder' (by (with_reducible repeat (first | apply Kd.V_alloc | apply Kd.V_drewN | apply Kd.V_drew)); exact HL213_3.out) (Kd.R_base ho42) hb)
                have n3_ := Aside0.mk (Kd.R_elder' (by (with_reducible repeat (first | apply Kd.R_alloc | apply Kd.R_drewN | apply Kd.R_drew)); exact HO223.out) (Kd.R_base ho42) hb)
                have n4_ := Aside0.mk (Kd.R_lower (Kd.R_newB (Kd.R_new' (Kd.R_newM (M := fun k_ => (w.heap.size ≤ k_)) ho42 (qak (by repeat (first | (with_reducible first | exact HB.out | apply qab | apply qaa | apply qac | refine qai ?_ GE203.out | refine qai ?_ GE214.out) | exact HB.out))) (fun k_ h_ => h_)) (Kd.R_lt (by (with_reducible repeat (first | apply Kd.R_alloc | apply Kd.R_drewN | apply Kd.R_drew)); exact HO223.out))) (g := gb203) (o := .cells #[.bool t199, .int .i64 t200, .int .i64 t201] 48 (0, 0)) (by (with_reducible repeat (first | refine qaf ?_ _ | refine qaj ?_ | refine qag ?_ _)); exact BK203.out)) (qak (by repeat (first | (with_reducible first | exact HB.out | apply qab | apply qaa | apply qac | refine qai ?_ GE203.out | refine qai ?_ GE214.out) | exact HB.out))))
                have n5_ := Aside0.mk (qar (g := gb203) (o := .cells #[.bool t199, .int .i64 t200, .int .i64 t201] 48 (0, 0)) (by (with_reducible repeat (first | refine qaf ?_ _ | refine qaj ?_ | refine qag ?_ _)); exact BK203.out) hb)
                have n6_ := Aside0.mk (qar (g := gb214) (o := .cells #[.int .i64 ((qad x4_1 (ji27)).f0), .int .i64 ((qad x4_1 (ji27)).f1), .int .i64 ((qad x4_1 (ji27)).f2), .slice A213_3 ((qad x4_1 (ji27)).f3).length c213_3] 38 (0, 0)) (by (with_reducible repeat (first | refine qaf ?_ _ | refine qaj ?_ | refine qag ?_ _)); exact BK214.out) hb)
                have n7_ := Aside0.mk (qal (by repeat (first | (with_reducible first | exact HB.out | apply qab | apply qaa | apply qac | refine qai ?_ GE203.out | refine qai ?_ GE214.out) | exact HB.out)) hb)
                clear HO_4
                clear HO_7
                clear HL213_3
                clear HO223
                clear BK203
                clear BK214
                clear HB
                have HO_4 := n0_
                have HO_7 := n1_
                have HL213_3 := n2_
                have HO223 := n3_
                have HO217 := n4_
                have BK203 := n5_
                have BK214 := n6_
                have HB := n7_
                clear n0_ n1_ n2_ n3_ n4_ n5_ n6_ n7_
                clear hb ho42
                refine hK.out _ _ ⟨(qah BK214.out 0).trans rfl, (qah BK214.out 1).trans rfl, (qah BK214.out 2).trans rfl, (qah BK214.out 3).trans rfl, (qah BK203.out 0).trans rfl, (qah BK203.out 1).trans rfl, (qah BK203.out 2).trans rfl⟩ (fun hHeld => ?_)
                clear hK K
                refine qcf (a' := ?_) ?_ ?_
                rotate_left
                ·show Act.put _ (some 66) _ = _
                 simp only [Act.put, List.setIfInBounds_toArray, List.set_cons_zero, List.set_cons_succ, qax, qay]
                 rfl
                refine one_ (i := 3) (N := some 69) #[true, true, true, true, true, true, false, false, false] rfl rfl (qb6 HT_.out (by kernel_rfl)) (by decide) (fun K hK => ?_)
                refine Kd.R_append_rows_step k48 (w0 := w) w.heap.size (by rfl) (.tmp 66) (.tmp 68) 36 48 (.agg #[(.bool false), (.int .i64 0), (.int .i64 0)]) 24 rfl Tryd.underlying36 info48 rfl (by decide) (by omega) v216 y215 ((qad x4_1 (ji27)).f3) _ _ _ (fun k_ => (w.heap.size ≤ k_) ∧ some k_ ≠ (v222 : Value).ownBlock ∧ k_ ≠ gb203) (fun _ => False) rfl rfl ?aO ?aR (fun _ _ h => h) (fun _ h => h.elim) ?aF ?aB ?aS ?aL ?_
                (case aR => repeat (first | exact ((Kd.V_reads' (by (with_reducible repeat (first | apply Kd.V_alloc | apply Kd.V_drewN | apply Kd.V_drew)); exact HL213_3.out)).2.2) | (with_reducible refine Kd.C_alloc ?_ _) | (with_reducible refine Kd.C_drewN ?_ _) | (with_reducible refine Kd.C_drew ?_)))
                (case aB => exact (by repeat (first | (with_reducible first | exact HB.out | apply qab | apply qaa | apply qac | refine qai ?_ GE203.out | refine qai ?_ GE214.out) | exact HB.out)))
                (case aF => exact (fun k_ hk => ⟨(Nat.le_trans (qak (by repeat (first | (with_reducible first | exact HB.out | apply qab | apply qaa | apply qac | refine qai ?_ GE203.out | refine qai ?_ GE214.out) | exact HB.out))) hk), Kd.fresh' (Kd.R_lt (by (with_reducible repeat (first | apply Kd.R_alloc | apply Kd.R_drewN | apply Kd.R_drew)); exact HO223.out)) k_ hk, Kd.freshB (g := gb203) (o := .cells #[.bool t199, .int .i64 t200, .int .i64 t201] 48 (0, 0)) (by (with_reducible repeat (first | refine qaf ?_ _ | refine qaj ?_ | refine qag ?_ _)); exact BK203.out) k_ hk⟩))
                (case aO => exact (by (with_reducible repeat (first | apply Kd.R_alloc | apply Kd.R_drewN | apply Kd.R_drew)); exact Kd.R_mono HO217.out (fun _ hk => ⟨hk.1.1.1, ⟨hk.1.2, hk.2⟩⟩)))
                (case aS => exact (qak (by repeat (first | (with_reducible first | exact HB.out | apply qab | apply qaa | apply qac | refine qai ?_ GE203.out | refine qai ?_ GE214.out) | exact HB.out))))
                (case aL => have := LMc30.out; omega)
                intro v219 w43 ho hb hg hat
                rw [← Ny218.out] at ho
                have n0_ := Aside0.mk (Kd.N_afterv (ok := (fun k_ => (w.heap.size ≤ k_) ∧ some k_ ≠ (v196 : Value).ownBlock ∧ some k_ ≠ (v222 : Value).ownBlock ∧ k_ ≠ gb203 ∧ k_ ≠ gb214)) (by (with_reducible repeat (first | apply Kd.N_alloc | apply Kd.N_drewN | apply Kd.N_drew)); exact Kd.N_mono HO_4.out (fun _ hk => ⟨⟨hk.1.1.1, ⟨hk.1.1.2.1, ⟨hk.1.2, ⟨hk.1.1.2.2.1, hk.1.1.2.2.2⟩⟩⟩⟩, hk.2⟩)) hg hat)
                have n1_ := Aside0.mk (Kd.R_over' (by (with_reducible repeat (first | apply Kd.R_alloc | apply Kd.R_drewN | apply Kd.R_drew)); exact HO_7.out) (Kd.R_typed (by (with_reducible repeat (first | apply Kd.R_alloc | apply Kd.R_drewN | apply Kd.R_drew)); exact HO217.out)) (by decide) hg)
                have n2_ := Aside0.mk (blk_grown (g := gb203) (o := .cells #[.bool t199, .int .i64 t200, .int .i64 t201] 48 (0, 0)) (by (with_reducible repeat (first | refine qaf ?_ _ | refine qaj ?_ | refine qag ?_ _)); exact BK203.out) hg (Kd.R_away HO217.out (fun _ hk => hk.2)))
                have n3_ := Aside0.mk (Kd.V_afterv (ok := (fun k_ => (w.heap.size ≤ k_) ∧ some k_ ≠ (.slice (some ad213) x4_1.length co33 : Value).ownBlock ∧ some k_ ≠ (v196 : Value).ownBlock ∧ some k_ ≠ (v222 : Value).ownBlock ∧ k_ ≠ gb203 ∧ k_ ≠ gb214)) (by (with_reducible repeat (first | apply Kd.V_alloc | apply Kd.V_drewN | apply Kd.V_drew)); exact Kd.V_mono HL213_3.out (fun _ hk => ⟨⟨hk.1.1.1, ⟨hk.1.1.2.1, ⟨hk.1.1.2.2.1, ⟨hk.1.2, ⟨hk.1.1.2.2.2.1, hk.1.1.2.2.2.2⟩⟩⟩⟩⟩, hk.2⟩)) hg hat)
                have n4_ := Aside0.mk (blk_grown (g := gb214) (o := .cells #[.int .i64 ((qad x4_1 (ji27)).f0), .int .i64 ((qad x4_1 (ji27)).f1), .int .i64 ((qad x4_1 (ji27)).f2), .slice A213_3 ((qad x4_1 (ji27)).f3).length c213_3] 38 (0, 0)) (by (with_reducible repeat (first | refine qaf ?_ _ | refine qaj ?_ | refine qag ?_ _)); exact BK214.out) hg (Kd.R_ne HO217.out BK214.out (by decide)))
                have n5_ := Aside0.mk (Kd.R_after (ok := (fun k_ => (w.heap.size ≤ k_) ∧ k_ ≠ gb203)) (by (with_reducible repeat (first | apply Kd.R_alloc | apply Kd.R_drewN | apply Kd.R_drew)); exact Kd.R_mono HO223.out (fun _ hk => ⟨⟨hk.1.1.1, hk.1.2⟩, hk.2⟩)) hg hat)
                have n6_ := Aside0.mk (hb)
                have n7_ := Aside0.mk (ho)
                clear HO_4
                clear HO_7
                clear BK203
                clear HL213_3
                clear BK214
                clear HO223
                clear HB
                clear HO217
                have HO_4 := n0_
                have HO_7 := n1_
                have BK203 := n2_
                have HL213_3 := n3_
                have BK214 := n4_
                have HO223 := n5_
                have HB := n6_
                have HO220 := n7_
                clear n0_ n1_ n2_ n3_ n4_ n5_ n6_ n7_
                clear ho hb hg hat
                refine hK.out _ _ ⟨(qah BK214.out 0).trans rfl, (qah BK214.out 1).trans rfl, (qah BK214.out 2).trans rfl, (qah BK214.out 3).trans rfl, (qah BK203.out 0).trans rfl, (qah BK203.out 1).trans rfl, (qah BK203.out 2).trans rfl⟩ (fun hHeld => ?_)
                clear hK K
                refine qcf (a' := ?_) ?_ ?_
                rotate_left
                ·show Act.put _ (some 69) _ = _
                 simp only [Act.put, List.setIfInBounds_toArray, List.set_cons_zero, List.set_cons_succ, qax, qay]
                 rfl
                exact qcf (by simp only [putAll, Act.put, List.setIfInBounds_toArray, List.set_cons_zero, List.set_cons_succ]) (hCont (v216, v219, v222) _ ⟨hHeld, (by (with_reducible repeat (first | apply Kd.V_alloc | apply Kd.V_drewN | apply Kd.V_drew)); exact Kd.V_mono HL213_3.out (fun _ hk => ⟨hk.1.1, ⟨hk.2, ⟨hk.1.2.2.2.1, ⟨hk.1.2.1, ⟨hk.1.2.2.1, ⟨hk.1.2.2.2.2.1, hk.1.2.2.2.2.2⟩⟩⟩⟩⟩⟩)), (by (with_reducible repeat (first | apply Kd.R_alloc | apply Kd.R_drewN | apply Kd.R_drew)); exact HO220.out), (by (with_reducible repeat (first | apply Kd.R_alloc | apply Kd.R_drewN | apply Kd.R_drew)); exact Kd.R_mono HO223.out (fun _ hk => ⟨hk.1.1, ⟨hk.2, hk.1.2⟩⟩)), (by (with_reducible repeat (first | apply Kd.N_alloc | apply Kd.N_drewN | apply Kd.N_drew)); exact Kd.N_mono HO_4.out (fun _ hk => ⟨hk.1.1, ⟨hk.2, ⟨hk.1.2.2.1, ⟨hk.1.2.1, ⟨hk.1.2.2.2.1, hk.1.2.2.2.2⟩⟩⟩⟩⟩)), (by (with_reducible repeat (first | apply Kd.R_alloc | apply Kd.R_drewN | apply Kd.R_drew)); exact HO_7.out), (by (with_reducible repeat (first | refine qaf ?_ _ | refine qaj ?_ | refine qag ?_ _)); exact BK203.out), (by (with_reducible repeat (first | refine qaf ?_ _ | refine qaj ?_ | refine qag ?_ _)); exact BK214.out), (by repeat (first | (with_reducible first | exact HB.out | apply qab | apply qaa | apply qac | refine qai ?_ GE203.out | refine qai ?_ GE214.out) | exact HB.out))⟩)
              rintro ⟨v216, v219, v222⟩ w44 ⟨hS_, h0_, h1_, h2_, h3_, h4_, h5_, h6_, h7_⟩
              have n0_ : Aside0 (Kd.V k48 48 w44 w.heap.size (fun k_ => (w.heap.size ≤ k_) ∧ some k_ ≠ (v219 : Value).ownBlock ∧ some k_ ≠ (v222 : Value).ownBlock ∧ some k_ ≠ (.slice (some ad213) x4_1.length co33 : Value).ownBlock ∧ some k_ ≠ (v196 : Value).ownBlock ∧ k_ ≠ gb203 ∧ k_ ≠ gb214) (.slice A213_3 ((qad x4_1 (ji27)).f3).length c213_3) ((qad x4_1 (ji27)).f3)) := ⟨h0_⟩
              have n1_ : Aside0 (Kd.R k48 48 w44 w.heap.size (fun k_ => (w.heap.size ≤ k_) ∧ some k_ ≠ (v222 : Value).ownBlock ∧ k_ ≠ gb203) v219 y218) := ⟨h1_⟩
              have n2_ : Aside0 (Kd.R k48 48 w44 w.heap.size (fun k_ => (w.heap.size ≤ k_) ∧ some k_ ≠ (v219 : Value).ownBlock ∧ k_ ≠ gb203) v222 y221) := ⟨h2_⟩
              have n3_ : Aside0 (Kd.N k38 38 w44 w.heap.size (fun k_ => (w.heap.size ≤ k_) ∧ some k_ ≠ (v219 : Value).ownBlock ∧ some k_ ≠ (v222 : Value).ownBlock ∧ some k_ ≠ (v196 : Value).ownBlock ∧ k_ ≠ gb203 ∧ k_ ≠ gb214) (.slice (some ad213) x4_1.length co33) x4_1) := ⟨h3_⟩
              have n4_ : Aside0 (Kd.R (Kd.int .i64) 3 w44 w.heap.size (fun k_ => (w.heap.size ≤ k_)) v196 t194) := ⟨h4_⟩
              have n5_ : Aside0 (w44.heap[gb203]? = some (.cells #[.bool t199, .int .i64 t200, .int .i64 t201] 48 (0, 0))) := ⟨h5_⟩
              have n6_ : Aside0 (w44.heap[gb214]? = some (.cells #[.int .i64 ((qad x4_1 (ji27)).f0), .int .i64 ((qad x4_1 (ji27)).f1), .int .i64 ((qad x4_1 (ji27)).f2), .slice A213_3 ((qad x4_1 (ji27)).f3).length c213_3] 38 (0, 0))) := ⟨h6_⟩
              have n7_ : Aside0 (Below w.heap.size w w44) := ⟨h7_⟩
              clear HO_4
              clear HO_7
              clear HL213_3
              clear BK203
              clear BK214
              clear HB
              clear h0_ h1_ h2_ h3_ h4_ h5_ h6_ h7_
              have HL213_3 := n0_
              have HO220 := n1_
              have HO223 := n2_
              have HO_4 := n3_
              have HO_7 := n4_
              have BK203 := n5_
              have BK214 := n6_
              have HB := n7_
              clear n0_ n1_ n2_ n3_ n4_ n5_ n6_ n7_
              have hHeld : w44.cell? ⟨gb214, 0, none⟩ = some (.int .i64 ((qad x4_1 (ji27)).f0)) ∧ w44.cell? ⟨gb214, 1, none⟩ = some (.int .i64 ((qad x4_1 (ji27)).f1)) ∧ w44.cell? ⟨gb214, 2, none⟩ = some (.int .i64 ((qad x4_1 (ji27)).f2)) ∧ w44.cell? ⟨gb214, 3, none⟩ = some (.slice A213_3 ((qad x4_1 (ji27)).f3).length c213_3) ∧ w44.cell? ⟨gb203, 0, none⟩ = some (.bool t199) ∧ w44.cell? ⟨gb203, 1, none⟩ = some (.int .i64 t200) ∧ w44.cell? ⟨gb203, 2, none⟩ = some (.int .i64 t201) := hS_
              obtain ⟨Ao46, co46, eo46⟩ := Kd.R_slice HO223.out
              (first | subst eo46 | (injection eo46 with f1_ f2_ f3_; have f4_ := f1_.symm; have f5_ := f3_.symm; clear f1_ f2_ f3_; subst f4_; subst f5_))
              refine qcf (a' := ?_) ?_ ?_
              rotate_left
              ·simp only [putAll, Act.put, List.setIfInBounds_toArray, List.set_cons_zero, List.set_cons_succ]
               rfl
              refine one_ (i := 6) (N := some 72) #[true, true, true, true, true, true, true, false, false] rfl rfl (qb6 HT_.out (by kernel_rfl)) (by decide) (fun K hK => ?_)
              refine Kd.R_append_rows_step k48 (w0 := w) w.heap.size (by rfl) (.tmp 69) (.tmp 71) 36 48 (.agg #[(.bool false), (.int .i64 0), (.int .i64 0)]) 24 rfl Tryd.underlying36 info48 rfl (by decide) (by omega) v219 y218 y221 _ _ _ (fun k_ => (w.heap.size ≤ k_) ∧ some k_ ≠ (.slice Ao46 y221.length co46 : Value).ownBlock ∧ k_ ≠ gb203) (fun _ => False) rfl rfl ?aO ?aR (fun _ _ h => h) (fun _ h => h.elim) ?aF ?aB ?aS ?aL ?_
              (case aR => repeat (first | exact (Kd.qau HO223.out).2.2 | (with_reducible refine Kd.C_alloc ?_ _) | (with_reducible refine Kd.C_drewN ?_ _) | (with_reducible refine Kd.C_drew ?_)))
              (case aB => exact (by repeat (first | (with_reducible first | exact HB.out | apply qab | apply qaa | apply qac | refine qai ?_ GE203.out | refine qai ?_ GE214.out) | exact HB.out)))
              (case aF => exact (fun k_ hk => ⟨(Nat.le_trans (qak (by repeat (first | (with_reducible first | exact HB.out | apply qab | apply qaa | apply qac | refine qai ?_ GE203.out | refine qai ?_ GE214.out) | exact HB.out))) hk), Kd.fresh' (Kd.R_lt (by (with_reducible repeat (first | apply Kd.R_alloc | apply Kd.R_drewN | apply Kd.R_drew)); exact HO223.out)) k_ hk, Kd.freshB (g := gb203) (o := .cells #[.bool t199, .int .i64 t200, .int .i64 t201] 48 (0, 0)) (by (with_reducible repeat (first | refine qaf ?_ _ | refine qaj ?_ | refine qag ?_ _)); exact BK203.out) k_ hk⟩))
              (case aO => exact (by (with_reducible repeat (first | apply Kd.R_alloc | apply Kd.R_drewN | apply Kd.R_drew)); exact HO220.out))
              (case aS => exact (qak (by repeat (first | (with_reducible first | exact HB.out | apply qab | apply qaa | apply qac | refine qai ?_ GE203.out | refine qai ?_ GE214.out) | exact HB.out))))
              (case aL => have := LMc31.out; omega)
              intro v225 w45 ho hb hg hat
              rw [← Ny224.out] at ho
              have n0_ := Aside0.mk (Kd.N_afterv (ok := (fun k_ => (w.heap.size ≤ k_) ∧ some k_ ≠ (v196 : Value).ownBlock ∧ some k_ ≠ (.slice Ao46 y221.length co46 : Value).ownBlock ∧ k_ ≠ gb203 ∧ k_ ≠ gb214)) (by (with_reducible repeat (first | apply Kd.N_alloc | apply Kd.N_drewN | apply Kd.N_drew)); exact Kd.N_mono HO_4.out (fun _ hk => ⟨⟨hk.1, ⟨hk.2.2.2.1, ⟨hk.2.2.1, ⟨hk.2.2.2.2.1, hk.2.2.2.2.2⟩⟩⟩⟩, hk.2.1⟩)) hg hat)
              have n1_ := Aside0.mk (Kd.R_over' (by (with_reducible repeat (first | apply Kd.R_alloc | apply Kd.R_drewN | apply Kd.R_drew)); exact HO_7.out) (Kd.R_typed (by (with_reducible repeat (first | apply Kd.R_alloc | apply Kd.R_drewN | apply Kd.R_drew)); exact HO220.out)) (by decide) hg)
              have n2_ := Aside0.mk (blk_grown (g := gb203) (o := .cells #[.bool t199, .int .i64 t200, .int .i64 t201] 48 (0, 0)) (by (with_reducible repeat (first | refine qaf ?_ _ | refine qaj ?_ | refine qag ?_ _)); exact BK203.out) hg (Kd.R_away HO220.out (fun _ hk => hk.2.2)))
              have n3_ := Aside0.mk (Kd.V_afterv (ok := (fun k_ => (w.heap.size ≤ k_) ∧ some k_ ≠ (.slice (some ad213) x4_1.length co33 : Value).ownBlock ∧ some k_ ≠ (v196 : Value).ownBlock ∧ some k_ ≠ (.slice Ao46 y221.length co46 : Value).ownBlock ∧ k_ ≠ gb203 ∧ k_ ≠ gb214)) (by (with_reducible repeat (first | apply Kd.V_alloc | apply Kd.V_drewN | apply Kd.V_drew)); exact Kd.V_mono HL213_3.out (fun _ hk => ⟨⟨hk.1, ⟨hk.2.2.2.1, ⟨hk.2.2.2.2.1, ⟨hk.2.2.1, ⟨hk.2.2.2.2.2.1, hk.2.2.2.2.2.2⟩⟩⟩⟩⟩, hk.2.1⟩)) hg hat)
              have n4_ := Aside0.mk (blk_grown (g := gb214) (o := .cells #[.int .i64 ((qad x4_1 (ji27)).f0), .int .i64 ((qad x4_1 (ji27)).f1), .int .i64 ((qad x4_1 (ji27)).f2), .slice A213_3 ((qad x4_1 (ji27)).f3).length c213_3] 38 (0, 0)) (by (with_reducible repeat (first | refine qaf ?_ _ | refine qaj ?_ | refine qag ?_ _)); exact BK214.out) hg (Kd.R_ne HO220.out BK214.out (by decide)))
              have n5_ := Aside0.mk (Kd.R_after (ok := (fun k_ => (w.heap.size ≤ k_) ∧ k_ ≠ gb203)) (by (with_reducible repeat (first | apply Kd.R_alloc | apply Kd.R_drewN | apply Kd.R_drew)); exact Kd.R_mono HO223.out (fun _ hk => ⟨⟨hk.1, hk.2.2⟩, hk.2.1⟩)) hg hat)
              have n6_ := Aside0.mk (hb)
              have n7_ := Aside0.mk (ho)
              clear HO_4
              clear HO_7
              clear BK203
              clear HL213_3
              clear BK214
              clear HO223
              clear HB
              clear HO220
              have HO_4 := n0_
              have HO_7 := n1_
              have BK203 := n2_
              have HL213_3 := n3_
              have BK214 := n4_
              have HO223 := n5_
              have HB := n6_
              have HO226 := n7_
              clear n0_ n1_ n2_ n3_ n4_ n5_ n6_ n7_
              clear ho hb hg hat
              obtain ⟨Ao47, co47, eo47⟩ := Kd.R_slice HO226.out
              (first | subst eo47 | (injection eo47 with f1_ f2_ f3_; have f4_ := f1_.symm; have f5_ := f3_.symm; clear f1_ f2_ f3_; subst f4_; subst f5_))
              refine hK.out _ _ ⟨(qah BK214.out 0).trans rfl, (qah BK214.out 1).trans rfl, (qah BK214.out 2).trans rfl, (qah BK214.out 3).trans rfl, (qah BK203.out 0).trans rfl, (qah BK203.out 1).trans rfl, (qah BK203.out 2).trans rfl⟩ (fun hHeld => ?_)
              clear hK K
              refine qcf (a' := ?_) ?_ ?_
              rotate_left
              ·show Act.put _ (some 72) _ = _
               simp only [Act.put, List.setIfInBounds_toArray, List.set_cons_zero, List.set_cons_succ, qax, qay]
               rfl
              refine qbc (i := 7) (N := some 73) (v := ?_) (a' := ?_) #[true, true, true, true, true, true, true, true, false] rfl rfl (qa0 HT_.out (by kernel_rfl)) (fun _ _ _ h => h) (Or.inl ⟨by rfl, ?_⟩) ?_ ?_
              rotate_left
              ·intro w'
               go_simp
               with_reducible rfl
              rotate_left
              ·simp only [Act.put, List.setIfInBounds_toArray, List.set_cons_zero, List.set_cons_succ, qax, qay]
               rfl
              refine last_ (i := 8) (N := none) #[true, true, true, true, true, true, true, true, true] rfl rfl (qb6 HT_.out (by kernel_rfl)) (by decide) (fun K hK => ?_)
              have hs48 : w45.cell? ⟨gb214, 3, none⟩ = some (.slice A213_3 ((qad x4_1 (ji27)).f3).length c213_3) := (qah BK214.out 3).trans rfl
              have hfs48 := qae BK214.out 3
              have hns48_0 := NB203_214.out
              have hms48_0 := NB214_203.out
              refine skip_ (w1 := ?_) (by rfl) rfl ?_ ?_
              rotate_left
              ·go_simp
               rfl
              refine hK.out _ _ ?_
              clear hK K
              refine done_ (done_of HT_.out (by kernel_rfl)) ?_
              have n0_ : Aside0 (Kd.N k38 38 (w45.setCell ⟨gb214, 3, none⟩ (.slice Ao47 y224.length co47)) w.heap.size (fun k_ => (w.heap.size ≤ k_) ∧ some k_ ≠ (v196 : Value).ownBlock ∧ some k_ ≠ (.slice Ao46 y221.length co46 : Value).ownBlock ∧ some k_ ≠ (.slice Ao47 y224.length co47 : Value).ownBlock ∧ k_ ≠ gb203 ∧ k_ ≠ gb214) (.slice (some ad213) x4_1.length co33) x4_1) := ⟨by (with_reducible repeat (first | apply Kd.N_alloc | apply Kd.N_drewN | apply Kd.N_drew)); exact Kd.N_mono (Kd.N_far (p := ⟨gb214, 3, none⟩) (Kd.N_mono HO_4.out (fun k_ hk => (⟨hk, hk.1.2.2.2.2⟩ : _ ∧ k_ ≠ gb214))) (fun _ hk => hk.2) (.slice Ao47 y224.length co47)) (fun _ hk => ⟨hk.1.1.1, ⟨hk.1.1.2.1, ⟨hk.1.1.2.2.1, ⟨hk.1.2, ⟨hk.1.1.2.2.2.1, hk.1.1.2.2.2.2⟩⟩⟩⟩⟩)⟩
              have n1_ : Aside0 (Kd.R (Kd.int .i64) 3 (w45.setCell ⟨gb214, 3, none⟩ (.slice Ao47 y224.length co47)) w.heap.size (fun k_ => (w.heap.size ≤ k_)) v196 t194) := ⟨by (with_reducible repeat (first | apply Kd.R_alloc | apply Kd.R_drewN | apply Kd.R_drew)); exact Kd.R_mono (Kd.R_far (p := ⟨gb214, 3, none⟩) (Kd.R_types HO_7.out BK214.out (by decide)) (fun _ hk => hk.2) (.slice Ao47 y224.length co47)) (fun _ hk => hk.1)⟩
              have n2_ : Aside0 (Kd.V k48 48 (w45.setCell ⟨gb214, 3, none⟩ (.slice Ao47 y224.length co47)) w.heap.size (fun k_ => (w.heap.size ≤ k_) ∧ some k_ ≠ (.slice (some ad213) x4_1.length co33 : Value).ownBlock ∧ some k_ ≠ (v196 : Value).ownBlock ∧ some k_ ≠ (.slice Ao46 y221.length co46 : Value).ownBlock ∧ some k_ ≠ (.slice Ao47 y224.length co47 : Value).ownBlock ∧ k_ ≠ gb203 ∧ k_ ≠ gb214) (.slice A213_3 ((qad x4_1 (ji27)).f3).length c213_3) ((qad x4_1 (ji27)).f3)) := ⟨by (with_reducible repeat (first | apply Kd.V_alloc | apply Kd.V_drewN | apply Kd.V_drew)); exact Kd.V_mono (Kd.V_far (p := ⟨gb214, 3, none⟩) (Kd.V_mono HL213_3.out (fun k_ hk => (⟨hk, hk.1.2.2.2.2.2⟩ : _ ∧ k_ ≠ gb214))) (fun _ hk => hk.2) (.slice Ao47 y224.length co47)) (fun _ hk => ⟨hk.1.1.1, ⟨hk.1.1.2.1, ⟨hk.1.1.2.2.1, ⟨hk.1.1.2.2.2.1, ⟨hk.1.2, ⟨hk.1.1.2.2.2.2.1, hk.1.1.2.2.2.2.2⟩⟩⟩⟩⟩⟩)⟩
              have n3_ : Aside0 (Kd.R k48 48 (w45.setCell ⟨gb214, 3, none⟩ (.slice Ao47 y224.length co47)) w.heap.size (fun k_ => (w.heap.size ≤ k_) ∧ some k_ ≠ (.slice Ao47 y224.length co47 : Value).ownBlock ∧ k_ ≠ gb203) (.slice Ao46 y221.length co46) y221) := ⟨by (with_reducible repeat (first | apply Kd.R_alloc | apply Kd.R_drewN | apply Kd.R_drew)); exact Kd.R_mono (Kd.R_far (p := ⟨gb214, 3, none⟩) (Kd.R_types HO223.out BK214.out (by decide)) (fun _ hk => hk.2) (.slice Ao47 y224.length co47)) (fun _ hk => ⟨hk.1.1.1, ⟨hk.1.2, hk.1.1.2⟩⟩)⟩
              have n4_ : Aside0 (Kd.R k48 48 (w45.setCell ⟨gb214, 3, none⟩ (.slice Ao47 y224.length co47)) w.heap.size (fun k_ => (w.heap.size ≤ k_) ∧ some k_ ≠ (.slice Ao46 y221.length co46 : Value).ownBlock ∧ k_ ≠ gb203) (.slice Ao47 y224.length co47) y224) := ⟨by (with_reducible repeat (first | apply Kd.R_alloc | apply Kd.R_drewN | apply Kd.R_drew)); exact Kd.R_mono (Kd.R_far (p := ⟨gb214, 3, none⟩) (Kd.R_types HO226.out BK214.out (by decide)) (fun _ hk => hk.2) (.slice Ao47 y224.length co47)) (fun _ hk => ⟨hk.1.1, ⟨hk.1.2.1, hk.1.2.2⟩⟩)⟩
              have n5_ : Aside0 ((w45.setCell ⟨gb214, 3, none⟩ (.slice Ao47 y224.length co47)).heap[gb203]? = some (.cells #[.bool t199, .int .i64 t200, .int .i64 t201] 48 (0, 0))) := ⟨by (with_reducible repeat (first | refine qaf ?_ _ | refine qaj ?_ | refine qag ?_ _)); refine qa1 ?_ NB203_214.out _; (with_reducible repeat (first | refine qaf ?_ _ | refine qaj ?_ | refine qag ?_ _)); exact BK203.out⟩
              have n6_ : Aside0 ((w45.setCell ⟨gb214, 3, none⟩ (.slice Ao47 y224.length co47)).heap[gb214]? = some (.cells #[.int .i64 ((qad x4_1 (ji27)).f0), .int .i64 ((qad x4_1 (ji27)).f1), .int .i64 ((qad x4_1 (ji27)).f2), .slice Ao47 y224.length co47] 38 (0, 0))) := ⟨by (with_reducible repeat (first | refine qaf ?_ _ | refine qaj ?_ | refine qag ?_ _)); refine qaq (cs := #[.int .i64 ((qad x4_1 (ji27)).f0), .int .i64 ((qad x4_1 (ji27)).f1), .int .i64 ((qad x4_1 (ji27)).f2), .slice A213_3 ((qad x4_1 (ji27)).f3).length c213_3]) ?_ 3 _ rfl; (with_reducible repeat (first | refine qaf ?_ _ | refine qaj ?_ | refine qag ?_ _)); exact BK214.out⟩
              have n7_ : Aside0 (Below w.heap.size w (w45.setCell ⟨gb214, 3, none⟩ (.slice Ao47 y224.length co47))) := ⟨by repeat (first | (with_reducible first | exact HB.out | apply qab | apply qaa | apply qac | refine qai ?_ GE203.out | refine qai ?_ GE214.out) | exact HB.out)⟩
              (try clear HO_4)
              (try clear HO_7)
              (try clear HL213_3)
              (try clear HO223)
              (try clear HO226)
              (try clear BK203)
              (try clear BK214)
              (try clear HB)
              generalize (w45.setCell ⟨gb214, 3, none⟩ (.slice Ao47 y224.length co47)) = w49 at n0_ n1_ n2_ n3_ n4_ n5_ n6_ n7_ ⊢
              have HO_4 := n0_
              have HO_7 := n1_
              have HL213_3 := n2_
              have HO223 := n3_
              have HO226 := n4_
              have BK203 := n5_
              have BK214 := n6_
              have HB := n7_
              clear n0_ n1_ n2_ n3_ n4_ n5_ n6_ n7_
              have hcz50_0 : w49.cell? ⟨gb214, 0, none⟩ = some (.int .i64 ((qad x4_1 (ji27)).f0)) := (qah BK214.out 0).trans rfl
              have hcz50_1 : w49.cell? ⟨gb214, 1, none⟩ = some (.int .i64 ((qad x4_1 (ji27)).f1)) := (qah BK214.out 1).trans rfl
              have hcz50_2 : w49.cell? ⟨gb214, 2, none⟩ = some (.int .i64 ((qad x4_1 (ji27)).f2)) := (qah BK214.out 2).trans rfl
              have hcz50_3 : w49.cell? ⟨gb214, 3, none⟩ = some (.slice Ao47 y224.length co47) := (qah BK214.out 3).trans rfl
              have hfz50_0 := qae BK214.out 0
              have hfz50_1 := qae BK214.out 1
              have hfz50_2 := qae BK214.out 2
              have hfz50_3 := qae BK214.out 3
              have p32 : 0 ≤ ((ji27) : Int) := of_decide_eq_true (by first | (with_reducible assumption) | assumption)
              have q32 : ((ji27) : Int) < ((x4_1.length : Int) : Int) := of_decide_eq_true (by first | (with_reducible assumption) | assumption)
              obtain ⟨go32, co32, eo32, gb32, gl32, cl32, HG32⟩ := Kd.N_form HO_4.out (by omega)
              (first | cases eo32 | (injection eo32 with ea_ en_ ec_; (first | subst ea_ | (injection ea_ with ea_; subst ea_)); subst ec_; clear en_))
              have GB32 := Aside0.mk gb32
              have GG32 := Aside0.mk HG32
              clear gb32 gl32 HG32
              (first | simp only [add_plain] at hx213_0 | skip)
              (first | simp only [add_plain] at hx213_1 | skip)
              (first | simp only [add_plain] at hx213_2 | skip)
              (first | simp only [add_plain] at hx213_3 | skip)
              obtain ⟨ce32, hcl32, hM32, hcc32, hfr32⟩ := Kd.N_elem HO_4.out z38 ((ji27) : Int) p32 q32
              obtain ⟨ua32_3, uc32_3, rfl, ul32_3, ge32_3⟩ := k38_openF hM32
              have hx32_0 : w49.cell? ⟨go32, ((ji27) : Int).toNat * 4, none⟩ = some (.int .i64 ((qad x4_1 (ji27)).f0)) := hcc32 0 _ rfl
              have hx32_1 : w49.cell? ⟨go32, ((ji27) : Int).toNat * 4 + 1, none⟩ = some (.int .i64 ((qad x4_1 (ji27)).f1)) := hcc32 1 _ rfl
              have hx32_2 : w49.cell? ⟨go32, ((ji27) : Int).toNat * 4 + 2, none⟩ = some (.int .i64 ((qad x4_1 (ji27)).f2)) := hcc32 2 _ rfl
              have hx32_3 : w49.cell? ⟨go32, ((ji27) : Int).toNat * 4 + 3, none⟩ = some (.slice ua32_3 ((qad x4_1 (ji27)).f3).length uc32_3) := hcc32 3 _ rfl
              have hf32_0 : w49.frozen? ⟨go32, ((ji27) : Int).toNat * 4, none⟩ = false := hfr32 0
              have hf32_1 : w49.frozen? ⟨go32, ((ji27) : Int).toNat * 4 + 1, none⟩ = false := hfr32 1
              have hf32_2 : w49.frozen? ⟨go32, ((ji27) : Int).toNat * 4 + 2, none⟩ = false := hfr32 2
              have hf32_3 : w49.frozen? ⟨go32, ((ji27) : Int).toNat * 4 + 3, none⟩ = false := hfr32 3
              clear hcl32 hcc32 hfr32 hM32
              replace p32 := eq_true p32
              replace q32 := eq_true q32
              have HX51 := Aside0.mk (show Kd.N k38 38 w49 w.heap.size (fun k_ => (w.heap.size ≤ k_) ∧ some k_ ≠ (v196 : Value).ownBlock ∧ some k_ ≠ (.slice Ao46 y221.length co46 : Value).ownBlock ∧ k_ ≠ gb203 ∧ k_ ≠ gb214) (.slice (some ⟨go32, 0, none⟩) x4_1.length co33) x4_1 from (by (with_reducible repeat (first | apply Kd.N_alloc | apply Kd.N_drewN | apply Kd.N_drew)); exact Kd.N_mono HO_4.out (fun _ hk => ⟨hk.1, ⟨hk.2.1, ⟨hk.2.2.1, ⟨hk.2.2.2.2.1, hk.2.2.2.2.2⟩⟩⟩⟩)))
              obtain ⟨ce51, hcl51, hM51, hcc51, hfr51⟩ := Kd.N_elem HX51.out z38 ((ji27) : Int) (of_decide_eq_true (by first | (with_reducible assumption) | assumption)) (by have h_ : ((ji27) : Int) < ((x4_1.length : Int) : Int) := of_decide_eq_true (by first | (with_reducible assumption) | assumption); first | exact h_ | (have e_ := (Kd.qba HO_4.out).1; omega) | simpa using h_)
              obtain ⟨ua51_3, uc51_3, rfl, ul51_3, ge51_3⟩ := k38_openF hM51
              have HP51 := Kd.N_seg HX51.out ((ji27) : Int) (of_decide_eq_true (by first | (with_reducible assumption) | assumption)) (by have h_ : ((ji27) : Int) < ((x4_1.length : Int) : Int) := of_decide_eq_true (by first | (with_reducible assumption) | assumption); first | exact h_ | (have e_ := (Kd.qba HO_4.out).1; omega) | simpa using h_) (seg := [.int .i64 ((qad x4_1 (ji27)).f0), .int .i64 ((qad x4_1 (ji27)).f1), .int .i64 ((qad x4_1 (ji27)).f2), .slice Ao47 y224.length co47]) (j := 0) hcl51 hcc51 (show 4 ≤ 4 from by decide) (x' := (⟨(qad x4_1 (ji27)).f0, (qad x4_1 (ji27)).f1, (qad x4_1 (ji27)).f2, y224⟩ : S38)) (k38_mkF _ _ (⟨(qad x4_1 (ji27)).f0, (qad x4_1 (ji27)).f1, (qad x4_1 (ji27)).f2, y224⟩ : S38) (Kd.qau (Kd.R_mono (ok' := (fun k_ => ((fun k_ => (w.heap.size ≤ k_) ∧ some k_ ≠ (v196 : Value).ownBlock ∧ some k_ ≠ (.slice Ao46 y221.length co46 : Value).ownBlock ∧ k_ ≠ gb203 ∧ k_ ≠ gb214)) k_ ∧ k_ ≠ go32)) (Kd.R_types (Kd.R_apart' (Kd.R_apart' (HO226.out) (Kd.R_typed HO_7.out) (by decide)) (Kd.N_typed HO_4.out) (by decide)) BK214.out (by decide)) (fun k_ hk => ⟨⟨hk.1.1.1.1, ⟨hk.1.1.2, ⟨hk.1.1.1.2.1, ⟨hk.1.1.1.2.2, hk.2⟩⟩⟩⟩, fun e_ => (hk.1.2) (by rw [e_]; rfl)⟩))).2.1 (Kd.R_F (Kd.R_mono (ok' := (fun k_ => ((fun k_ => (w.heap.size ≤ k_) ∧ some k_ ≠ (v196 : Value).ownBlock ∧ some k_ ≠ (.slice Ao46 y221.length co46 : Value).ownBlock ∧ k_ ≠ gb203 ∧ k_ ≠ gb214)) k_ ∧ k_ ≠ go32)) (Kd.R_types (Kd.R_apart' (Kd.R_apart' (HO226.out) (Kd.R_typed HO_7.out) (by decide)) (Kd.N_typed HO_4.out) (by decide)) BK214.out (by decide)) (fun k_ hk => ⟨⟨hk.1.1.1.1, ⟨hk.1.1.2, ⟨hk.1.1.1.2.1, ⟨hk.1.1.1.2.2, hk.2⟩⟩⟩⟩, fun e_ => (hk.1.2) (by rw [e_]; rfl)⟩)))) (fun _ hk => hk)
              have hx51_0 := hcc51 0 _ rfl
              (try simp only [show (k38).sz = 4 from rfl, Nat.mul_one, Nat.add_zero] at hx51_0)
              have hf51_0 := hfr51 0
              (try simp only [show (k38).sz = 4 from rfl, Nat.mul_one, Nat.add_zero] at hf51_0)
              have hx51_1 := hcc51 1 _ rfl
              (try simp only [show (k38).sz = 4 from rfl, Nat.mul_one, Nat.add_zero] at hx51_1)
              have hf51_1 := hfr51 1
              (try simp only [show (k38).sz = 4 from rfl, Nat.mul_one, Nat.add_zero] at hf51_1)
              have hx51_2 := hcc51 2 _ rfl
              (try simp only [show (k38).sz = 4 from rfl, Nat.mul_one, Nat.add_zero] at hx51_2)
              have hf51_2 := hfr51 2
              (try simp only [show (k38).sz = 4 from rfl, Nat.mul_one, Nat.add_zero] at hf51_2)
              have hx51_3 := hcc51 3 _ rfl
              (try simp only [show (k38).sz = 4 from rfl, Nat.mul_one, Nat.add_zero] at hx51_3)
              have hf51_3 := hfr51 3
              (try simp only [show (k38).sz = 4 from rfl, Nat.mul_one, Nat.add_zero] at hf51_3)
              clear hcl51 hcc51 hfr51 hM51
              try go_wp2_with (first | ((with_reducible refine gate_store (t := 38) (p := 79) rfl ?_); refine store_event (t := 38) (p := 79) (v := ?vo_w52) (w1 := ((((w49.setCell ⟨go32, ((ji27) : Int).toNat * 4, none⟩ (.int .i64 ((qad x4_1 (ji27)).f0))).setCell ⟨go32, ((ji27) : Int).toNat * 4 + 1, none⟩ (.int .i64 ((qad x4_1 (ji27)).f1))).setCell ⟨go32, ((ji27) : Int).toNat * 4 + 2, none⟩ (.int .i64 ((qad x4_1 (ji27)).f2))).setCell ⟨go32, ((ji27) : Int).toNat * 4 + 3, none⟩ (.slice Ao47 y224.length co47))) ?hg ?ho ?hn ?hr ?_; (case ho => rfl); (case hg => rfl); (case hn => rfl); (case hr => first | (go_simp; done) | (go_simp; rfl)); intro w52 hw; have hg : w49.grownBy w52 (some go32) := (by rw [hw]; exact HP51.2); have hp_ : Kd.N k38 38 w52 w.heap.size (fun k_ => (w.heap.size ≤ k_) ∧ some k_ ≠ (v196 : Value).ownBlock ∧ some k_ ≠ (.slice Ao46 y221.length co46 : Value).ownBlock ∧ k_ ≠ gb203 ∧ k_ ≠ gb214) (.slice (some ⟨go32, 0, none⟩) x4_1.length co33) y227 := (by rw [hw, Ny227.out]; exact HP51.1); clear HP51; have n0_ := Aside0.mk (hp_); have n1_ := Aside0.mk (Kd.R_over' (v := (.slice (some ⟨go32, 0, none⟩) x4_1.length co33)) (by (with_reducible repeat (first | apply Kd.R_alloc | apply Kd.R_drewN | apply Kd.R_drew)); exact HO_7.out) (Kd.N_typed HO_4.out) (by decide) hg); have n2_ := Aside0.mk (blk_grown (g := gb203) (o := .cells #[.bool t199, .int .i64 t200, .int .i64 t201] 48 (0, 0)) (by (with_reducible repeat (first | refine qaf ?_ _ | refine qaj ?_ | refine qag ?_ _)); exact BK203.out) hg (Kd.N_ne HO_4.out BK203.out (by decide))); have n3_ := Aside0.mk (Kd.V_afterv (v := (.slice (some ⟨go32, 0, none⟩) x4_1.length co33)) (v1 := (.slice (some ⟨go32, 0, none⟩) x4_1.length co33)) (ok := (fun k_ => (w.heap.size ≤ k_) ∧ some k_ ≠ (v196 : Value).ownBlock ∧ some k_ ≠ (.slice Ao46 y221.length co46 : Value).ownBlock ∧ some k_ ≠ (.slice Ao47 y224.length co47 : Value).ownBlock ∧ k_ ≠ gb203 ∧ k_ ≠ gb214)) (by (with_reducible repeat (first | apply Kd.V_alloc | apply Kd.V_drewN | apply Kd.V_drew)); exact Kd.V_mono HL213_3.out (fun _ hk => ⟨⟨hk.1, ⟨hk.2.2.1, ⟨hk.2.2.2.1, ⟨hk.2.2.2.2.1, ⟨hk.2.2.2.2.2.1, hk.2.2.2.2.2.2⟩⟩⟩⟩⟩, hk.2.1⟩)) hg (.inl rfl)); have n4_ := Aside0.mk (blk_grown (g := gb214) (o := .cells #[.int .i64 ((qad x4_1 (ji27)).f0), .int .i64 ((qad x4_1 (ji27)).f1), .int .i64 ((qad x4_1 (ji27)).f2), .slice Ao47 y224.length co47] 38 (0, 0)) (by (with_reducible repeat (first | refine qaf ?_ _ | refine qaj ?_ | refine qag ?_ _)); exact BK214.out) hg (Kd.N_away HO_4.out (fun _ hk => hk.2.2.2.2.2))); have n5_ := Aside0.mk (Kd.R_over' (v := (.slice (some ⟨go32, 0, none⟩) x4_1.length co33)) (by (with_reducible repeat (first | apply Kd.R_alloc | apply Kd.R_drewN | apply Kd.R_drew)); exact HO223.out) (Kd.N_typed HO_4.out) (by decide) hg); have n6_ := Aside0.mk ((by rw [hw]; exact qai (qai (qai (qai (HB.out) GB32.out) GB32.out) GB32.out) GB32.out : Below w.heap.size w w52)); clear HO_4; clear HO_7; clear BK203; clear HL213_3; clear BK214; clear HO223; clear HB; clear HO226; have HO_4 := n0_; have HO_7 := n1_; have BK203 := n2_; have HL213_3 := n3_; have BK214 := n4_; have HO223 := n5_; have HB := n6_; clear n0_ n1_ n2_ n3_ n4_ n5_ n6_; clear hg hw hp_))
              go_roundg kj7
              case measure => have := HK1.out; have := HJ7.out; omega
              case rel => exact ⟨(y227), (wrap64 (x5_1 + 1)), (by first | rfl | (simp; done) | (simp [*]; done)), H', ⟨by have := HK1.out; have := HJ7.out; omega⟩, ⟨by (with_reducible repeat (first | apply Kd.N_alloc | apply Kd.N_drewN | apply Kd.N_drew)); exact Kd.N_mono HO_4.out (fun _ hk => hk.1)⟩, ⟨by repeat (first | (with_reducible first | exact HB.out | apply qab | apply qaa | apply qac | refine qai ?_ GE203.out | refine qai ?_ GE214.out) | exact HB.out)⟩⟩
             ·rw [if_neg c31] at H
              exact absurd H (by simp)
            ·rw [if_neg c30] at H
             exact absurd H (by simp)
           ·rw [if_neg c29] at H
            exact absurd H (by simp)
          ·rw [if_neg c28] at H
           exact absurd H (by simp)
         ·rw [if_neg c26] at H
          have c26b0 : decide (0 < (x4_1.length : Int)) = false := decide_eq_false c26
          have c26b1 : decide (0 < x4_1.length) = false := decide_eq_false (by omega)
          clear c26
          simp only [Option.some.injEq, Prod.mk.injEq] at H
          obtain ⟨rfl, rfl⟩ := H
          obtain ⟨Ao53, co53, eo53⟩ := Kd.N_slice HO_4.out
          subst eo53
          go_wp2
          go_ret2
          exact ⟨_, by first | rfl | (simp [qan, qam] <;> rfl) | (simp [*, qan, qam] <;> rfl), by first | exact Kd.S_nil _ _ _ _ _ | exact Kd.N_nil _ _ _ _ _ | exact Kd.V_nil _ _ _ _ _ | exact Kd.Q_nil _ _ _ _ _ | exact Kd.R_nil _ _ _ _ _, by repeat (first | (with_reducible first | exact HB.out | apply qab | apply qaa | apply qac | refine qai ?_ GE203.out) | exact HB.out)⟩
        ·replace c25 := Bool.eq_false_iff.mpr c25
         subst c25
         have H1 : (some (([] : List (S38)), wrap64 (x5_1 + 1))) = some (r1, r2) := by rw [if_neg (show ¬ (false = true) by decide)] at H; exact H
         clear H
         have H := H1
         clear H1
         simp only [Option.some.injEq, Prod.mk.injEq] at H
         obtain ⟨rfl, rfl⟩ := H
         go_wp2
         go_ret2
         exact ⟨_, by first | rfl | (simp [qan, qam] <;> rfl) | (simp [*, qan, qam] <;> rfl), by first | exact Kd.S_nil _ _ _ _ _ | exact Kd.N_nil _ _ _ _ _ | exact Kd.V_nil _ _ _ _ _ | exact Kd.Q_nil _ _ _ _ _ | exact Kd.R_nil _ _ _ _ _, by repeat (first | (with_reducible first | exact HB.out | apply qab | apply qaa | apply qac | refine qai ?_ GE203.out) | exact HB.out)⟩
    ·rw [if_neg c5] at H
     exact absurd H (by simp)
   ·rw [if_neg c4] at H
    have c4b0 : decide (x5_1 < (l0.length : Int)) = false := decide_eq_false c4
    clear c4
    simp only [Option.some.injEq, Prod.mk.injEq] at H
    obtain ⟨rfl, rfl⟩ := H
    go_wp2
    go_ret2
    exact ⟨_, by first | rfl | (simp [qan, qam] <;> rfl) | (simp [*, qan, qam] <;> rfl), by (with_reducible repeat (first | apply Kd.N_alloc | apply Kd.N_drewN | apply Kd.N_drew)); exact HO_4.out, by repeat (first | (with_reducible first | exact HB.out | apply qab | apply qaa | apply qac) | exact HB.out)⟩
end Go.Proofs.YtanofkgnjmegdaaDoor.Q
end
