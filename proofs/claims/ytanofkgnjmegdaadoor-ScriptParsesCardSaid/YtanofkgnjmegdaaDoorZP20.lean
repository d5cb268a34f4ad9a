/- Texts of this claim, joined by a program of this session: the declarations that its theorem uses. -/
import Derived.Test.YtanofkgnjmegdaaDoorZP12
import Derived.Test.YtanofkgnjmegdaaDoorZP17
import Derived.Test.YtanofkgnjmegdaaDoorZP18
import Derived.Test.YtanofkgnjmegdaaDoorZP19
set_option linter.unusedVariables false
set_option linter.unusedSimpArgs false
section
namespace Go.Proofs.YtanofkgnjmegdaaDoor.Q
open Go.Proofs.YtanofkgnjmegdaaDoor Go.Proofs.YtanofkgnjmegdaaDoor.Hand Go.Proofs.YtanofkgnjmegdaaDoor.Give Go.Proofs.YtanofkgnjmegdaaDoor.K
open Go.RowKit Go.Proofs.YtanofkgnjmegdaaDoorW.PrintWords Go.Proofs.YtanofkgnjmegdaaDoorW.PrintLast Go.Proofs.YtanofkgnjmegdaaDoorW.PrintMore
attribute [local go_sem] qbv qbt qb3 qb2 qbl qbk qbu qbs   -- for this text's walks alone
set_option linter.unusedVariables false
set_option linter.unusedSimpArgs false
attribute [local go_sem high] eqA48
def burgageref07_Parse.f (k : Nat) (a0 : ByteArray) : Option ((List (S38)) × Int × Int) := (burgageref03_Cut.f k a0 10).bind fun t228 => (if 0 ≤ (wrap64 ((t228.length : Int) - 1)) then (if (wrap64 ((t228.length : Int) - 1)) ≤ (t228.length : Int) then ((burgageref07_Lines.f k (t228.take ((wrap64 ((t228.length : Int) - 1)) : Int).toNat)).bind fun bt236 => (if bt236.2 > 0 then (some (([] : List (S38)), bt236.2, 1)) else (if (wrap64 ((t228.length : Int) - 1)) < (t228.length : Int) then (if (rdOf ByteArray.empty t228 (wrap64 ((t228.length : Int) - 1))).toList = ([] : List UInt8) then ((burgageref06_Check.f k bt236.1).bind fun t241 => (if t241 = 0 then (some (bt236.1, 0, 0)) else ((burgageref06_Check.f k bt236.1).bind fun t242 => (some (([] : List (S38)), 0, t242))))) else (some (([] : List (S38)), (t228.length : Int), 1))) else (none)))) else (none)) else (none))
theorem burgageref07_Parse.mono : ∀ a0 k, LeO (burgageref07_Parse.f k a0) (burgageref07_Parse.f (k + 1) a0) := by
 intro a0 k
 unfold burgageref07_Parse.f
 repeat' first
   | (with_reducible exact burgageref03_Cut.mono _ _ _)
   | (with_reducible exact burgageref06_Check.mono _ _)
   | (with_reducible exact burgageref07_Lines.mono _ _)
   | (with_reducible exact LeO.refl _)
   | (with_reducible exact LeO.none _)
   | (with_reducible refine LeO.ite ?_ ?_)
   | (with_reducible refine LeO.bind ?_ (fun _ => ?_))
   | exact burgageref03_Cut.mono _ _ _
   | exact burgageref06_Check.mono _ _
   | exact burgageref07_Lines.mono _ _
   | exact LeO.none _
   | refine LeO.ite ?_ ?_
   | refine LeO.bind ?_ (fun _ => ?_)
set_option maxHeartbeats 8000000 in
set_option maxRecDepth 100000 in
theorem burgageref07_Parse.calls (k : Nat) (a0 : ByteArray) (r1 : List (S38)) (r2 : Int) (r3 : Int) (w : World) (h : burgageref07_Parse.f k a0 = some (r1, r2, r3)) (HY : Laid w) :
  Calls Tryd.prog 8 #[.string a0] w fun e w' => ∃ v0_ : Value, e = .returned (.tuple #[v0_, .int .i64 r2, .int .i64 r3]) ∧ Kd.N k38 38 w' w.heap.size (fun k_ => (w.heap.size ≤ k_)) v0_ r1 ∧ Below w.heap.size w w' := by
 have HB := Aside0.mk (Below.refl w.heap.size w)
 have H : ((burgageref03_Cut.f k a0 10).bind fun t228 => (if 0 ≤ (wrap64 ((t228.length : Int) - 1)) then (if (wrap64 ((t228.length : Int) - 1)) ≤ (t228.length : Int) then ((burgageref07_Lines.f k (t228.take ((wrap64 ((t228.length : Int) - 1)) : Int).toNat)).bind fun bt236 => (if bt236.2 > 0 then (some (([] : List (S38)), bt236.2, 1)) else (if (wrap64 ((t228.length : Int) - 1)) < (t228.length : Int) then (if (rdOf ByteArray.empty t228 (wrap64 ((t228.length : Int) - 1))).toList = ([] : List UInt8) then ((burgageref06_Check.f k bt236.1).bind fun t241 => (if t241 = 0 then (some (bt236.1, 0, 0)) else ((burgageref06_Check.f k bt236.1).bind fun t242 => (some (([] : List (S38)), 0, t242))))) else (some (([] : List (S38)), (t228.length : Int), 1))) else (none)))) else (none)) else (none))) = some (r1, r2, r3) := h
 clear h
 replace H := Option.bind_eq_some_iff.mp H
 obtain ⟨t228, A20, H⟩ := H
 replace H : (if 0 ≤ (wrap64 ((t228.length : Int) - 1)) then (if (wrap64 ((t228.length : Int) - 1)) ≤ (t228.length : Int) then ((burgageref07_Lines.f k (t228.take ((wrap64 ((t228.length : Int) - 1)) : Int).toNat)).bind fun bt236 => (if bt236.2 > 0 then (some (([] : List (S38)), bt236.2, 1)) else (if (wrap64 ((t228.length : Int) - 1)) < (t228.length : Int) then (if (rdOf ByteArray.empty t228 (wrap64 ((t228.length : Int) - 1))).toList = ([] : List UInt8) then ((burgageref06_Check.f k bt236.1).bind fun t241 => (if t241 = 0 then (some (bt236.1, 0, 0)) else ((burgageref06_Check.f k bt236.1).bind fun t242 => (some (([] : List (S38)), 0, t242))))) else (some (([] : List (S38)), (t228.length : Int), 1))) else (none)))) else (none)) else (none)) = some (r1, r2, r3) := H
 have A2 := Aside0.mk A20
 clear A20
 obtain ⟨ji3, hji3⟩ : ∃ j_ : Int, (wrap64 ((t228.length : Int) - 1)) = j_ := ⟨_, rfl⟩
 replace H : (if 0 ≤ (ji3) then (if (ji3) ≤ (t228.length : Int) then ((burgageref07_Lines.f k (t228.take ((ji3) : Int).toNat)).bind fun bt236 => (if bt236.2 > 0 then (some (([] : List (S38)), bt236.2, 1)) else (if (ji3) < (t228.length : Int) then (if (rdOf ByteArray.empty t228 (ji3)).toList = ([] : List UInt8) then ((burgageref06_Check.f k bt236.1).bind fun t241 => (if t241 = 0 then (some (bt236.1, 0, 0)) else ((burgageref06_Check.f k bt236.1).bind fun t242 => (some (([] : List (S38)), 0, t242))))) else (some (([] : List (S38)), (t228.length : Int), 1))) else (none)))) else (none)) else (none)) = some (r1, r2, r3) := by first | (rw [hji3] at H; exact H) | (simp only [hji3] at H ⊢; exact H)
 (try rw [hji3] at A2)
 have hji3w : (IntKind.i64.wrap ((t228.length : Int) - 1)) = ji3 := (qax _).trans hji3
 by_cases c4 : 0 ≤ (ji3)
 ·rw [if_pos c4] at H
  have c4b0 := eq_true c4
  have c4b1 : decide (0 ≤ (ji3)) = true := decide_eq_true c4
  clear c4
  by_cases c5 : (ji3) ≤ (t228.length : Int)
  ·rw [if_pos c5] at H
   have c5b0 := eq_true c5
   have c5b1 : decide ((ji3) ≤ (t228.length : Int)) = true := decide_eq_true c5
   clear c5
   obtain ⟨y231, hy231⟩ : ∃ y_ : List ByteArray, y_ = (t228.take ((ji3) : Int).toNat) := ⟨_, rfl⟩
   replace H : ((burgageref07_Lines.f k y231).bind fun bt236 => (if bt236.2 > 0 then (some (([] : List (S38)), bt236.2, 1)) else (if (ji3) < (t228.length : Int) then (if (rdOf ByteArray.empty t228 (ji3)).toList = ([] : List UInt8) then ((burgageref06_Check.f k bt236.1).bind fun t241 => (if t241 = 0 then (some (bt236.1, 0, 0)) else ((burgageref06_Check.f k bt236.1).bind fun t242 => (some (([] : List (S38)), 0, t242))))) else (some (([] : List (S38)), (t228.length : Int), 1))) else (none)))) = some (r1, r2, r3) := by first | (rw [hy231]; with_reducible exact H) | (have H2_ := (Option.bind_some _ _).symm.trans H; rw [hy231]; with_reducible exact H2_) | (have H2_ := (Option.bind_some _ _).symm.trans H; with_reducible exact H2_) | with_reducible exact H | (rw [hy231]; exact H) | exact H
   have Ny231 := Aside0.mk hy231
   clear hy231
   replace H := Option.bind_eq_some_iff.mp H
   obtain ⟨⟨t236, t239⟩, A60, H⟩ := H
   replace H : (if t239 > 0 then (some (([] : List (S38)), t239, 1)) else (if (ji3) < (t228.length : Int) then (if (rdOf ByteArray.empty t228 (ji3)).toList = ([] : List UInt8) then ((burgageref06_Check.f k t236).bind fun t241 => (if t241 = 0 then (some (t236, 0, 0)) else ((burgageref06_Check.f k t236).bind fun t242 => (some (([] : List (S38)), 0, t242))))) else (some (([] : List (S38)), (t228.length : Int), 1))) else (none))) = some (r1, r2, r3) := H
   have A6 := Aside0.mk A60
   clear A60
   by_cases c7 : t239 > 0
   ·rw [if_pos c7] at H
    have c7b0 : decide (0 < t239) = true := decide_eq_true c7
    clear c7
    simp only [Option.some.injEq, Prod.mk.injEq] at H
    obtain ⟨rfl, rfl, rfl⟩ := H
    go_enter Tryd.func8, Tryd.ntmps8
    go_wp2_with (first | ((with_reducible refine qao (f := 17) rfl ?_); refine qav (some 9) rfl rfl Tryd.func17 (by kernel_rfl) rfl #[.string a0, .int .u8 10] rfl (by (try simp only [List.map_toArray, List.map_cons, List.map_nil]); first | done | rfl | (simp only [List.length_drop, List.length_take]; rfl)) ?_; (with_reducible refine (burgageref03_Cut.calls k a0 10 t228 _ A2.out (Laid.below HY (by repeat (first | (with_reducible first | exact HB.out | apply qab | apply qaa | apply qac) | exact HB.out)))).mono ?_); rintro e w8 ⟨v229, rfl, ho0, hb⟩; refine ⟨_, rfl, ?_⟩; have n0_ := Aside0.mk (Kd.R_lower (Kd.R_newM (M := fun k_ => (w.heap.size ≤ k_)) ho0 (qak (by repeat (first | (with_reducible first | exact HB.out | apply qab | apply qaa | apply qac) | exact HB.out))) (fun k_ h_ => h_)) (qak (by repeat (first | (with_reducible first | exact HB.out | apply qab | apply qaa | apply qac) | exact HB.out)))); have n1_ := Aside0.mk (qal (by repeat (first | (with_reducible first | exact HB.out | apply qab | apply qaa | apply qac) | exact HB.out)) hb); clear HB; have HO230 := n0_; have HB := n1_; clear n0_ n1_; (try clear hb); (try clear hb2); (try clear hk); (try clear hi); (try clear ho0); obtain ⟨Ao9, co9, eo9⟩ := Kd.R_slice HO230.out; subst eo9; have q10 : ((ji3) : Int) ≤ ((t228.length : Int) : Int) := of_decide_eq_true (by first | (with_reducible assumption) | assumption); obtain ⟨i010, hi010, _, hsz10, _⟩ := info_parts info9; have hroom10 : t228.length ≤ co9 := (Kd.qau HO230.out).2.1; have hC10 : Kd.F Kd.string _ _ Ao9 t228.length t228 := (Kd.V_at (base := w.heap.size) (Kd.R_V HO230.out)).2.2; have hcut10 := cut_to (P := Tryd.prog) 39 9 .i64 Tryd.underlying39 hi010 Ao9 t228.length co9 (ji3) (of_decide_eq_true (by first | (with_reducible assumption) | assumption)) q10 hroom10; have hr10 := Kd.F_take (m := ((ji3) : Int).toNat) hC10 (by omega); have hy10 : y231.length = ((ji3) : Int).toNat := (by rw [Ny231.out, List.length_take]; omega); rw [← Ny231.out] at hr10; rw [← hy10] at hcut10; have HO235 := Aside0.mk (show Kd.V Kd.string 9 _ w.heap.size _ (.slice Ao9 y231.length co9) y231 from Kd.V_mk (by omega) hr10); have HC235 := Aside0.mk (show y231.length ≤ co9 from by omega); clear hr10 hC10 hroom10 hi010 hsz10; have KY10 := Aside0.mk hy10; clear hy10; replace q10 := eq_true q10) | ((with_reducible refine qao (f := 18) rfl ?_); refine qav (some 16) rfl rfl Tryd.func18 (by kernel_rfl) rfl #[.slice Ao9 y231.length co9] rfl (by (try simp only [List.map_toArray, List.map_cons, List.map_nil]); first | done | rfl | (simp only [List.length_drop, List.length_take]; rfl)) ?_; (with_reducible refine (burgageref07_Lines.calls k _ _ y231 t236 t239 _ ?side1 ?side2 A6.out (Laid.below HY (by repeat (first | (with_reducible first | exact HB.out | apply qab | apply qaa | apply qac) | exact HB.out)))).mono ?_); (case side1 => repeat (first | exact (Kd.V_reads' HO235.out).2.2 | (with_reducible refine Kd.C_alloc ?_ _) | (with_reducible refine Kd.C_drewN ?_ _) | (with_reducible refine Kd.C_drew ?_))); (case side2 => exact (Kd.V_reads' HO235.out).2.1); rintro e w11 ⟨v237, rfl, ho0, hb⟩; refine ⟨_, rfl, ?_⟩; have n0_ := Aside0.mk (Kd.R_below (by (with_reducible repeat (first | apply Kd.R_alloc | apply Kd.R_drewN | apply Kd.R_drew)); exact HO230.out) hb); have n1_ := Aside0.mk (Kd.V_elder' (by (with_reducible repeat (first | apply Kd.V_alloc | apply Kd.V_drewN | apply Kd.V_drew)); exact HO235.out) (Kd.N_base ho0) hb); have n2_ := Aside0.mk (Kd.N_lower (Kd.N_mono (ok' := fun k_ => (w.heap.size ≤ k_) ∧ some k_ ≠ (.slice Ao9 t228.length co9 : Value).ownBlock) ho0 (fun k_ hk_ => ⟨(Nat.le_trans (qak (by repeat (first | (with_reducible first | exact HB.out | apply qab | apply qaa | apply qac) | exact HB.out))) hk_), (Kd.fresh' (Kd.R_lt (by (with_reducible repeat (first | apply Kd.R_alloc | apply Kd.R_drewN | apply Kd.R_drew)); exact HO230.out)) k_ hk_)⟩)) (qak (by repeat (first | (with_reducible first | exact HB.out | apply qab | apply qaa | apply qac) | exact HB.out)))); have n3_ := Aside0.mk (qal (by repeat (first | (with_reducible first | exact HB.out | apply qab | apply qaa | apply qac) | exact HB.out)) hb); clear HO230; clear HO235; clear HB; have HO230 := n0_; have HO235 := n1_; have HO238 := n2_; have HB := n3_; clear n0_ n1_ n2_ n3_; (try clear hb); (try clear hb2); (try clear hk); (try clear hi); (try clear ho0)))
    go_ret3
    exact ⟨_, by first | rfl | (simp [qan, qam] <;> rfl) | (simp only [← hji3]; first | rfl | (simp [qan, qam] <;> rfl)) | (simp [*, qan, qam] <;> rfl), by first | exact Kd.S_nil _ _ _ _ _ | exact Kd.N_nil _ _ _ _ _ | exact Kd.V_nil _ _ _ _ _ | exact Kd.Q_nil _ _ _ _ _ | exact Kd.R_nil _ _ _ _ _, by repeat (first | (with_reducible first | exact HB.out | apply qab | apply qaa | apply qac) | exact HB.out)⟩
   ·rw [if_neg c7] at H
    have c7b0 : decide (0 < t239) = false := decide_eq_false c7
    clear c7
    by_cases c12 : (ji3) < (t228.length : Int)
    ·rw [if_pos c12] at H
     have c12b0 : decide ((ji3) < (t228.length : Int)) = true := decide_eq_true c12
     clear c12
     by_cases c13 : (rdOf ByteArray.empty t228 (ji3)).toList = ([] : List UInt8)
     ·rw [if_pos c13] at H
      have c13b0 : ((rdOf ByteArray.empty t228 (ji3)).toList == ([] : List UInt8)) = true := beq_iff_eq.mpr c13
      have c13b1 : ((rdOf ByteArray.empty t228 (ji3)).toList != ([] : List UInt8)) = false := bne_eq_false_iff_eq.mpr c13
      clear c13
      replace H := Option.bind_eq_some_iff.mp H
      obtain ⟨t241, A140, H⟩ := H
      replace H : (if t241 = 0 then (some (t236, 0, 0)) else ((burgageref06_Check.f k t236).bind fun t242 => (some (([] : List (S38)), 0, t242)))) = some (r1, r2, r3) := H
      have A14 := Aside0.mk A140
      clear A140
      by_cases c15 : t241 = 0
      ·rw [if_pos c15] at H
       have c15b0 : (t241 == 0) = true := beq_iff_eq.mpr c15
       have c15b1 : (t241 != 0) = false := bne_eq_false_iff_eq.mpr c15
       clear c15
       simp only [Option.some.injEq, Prod.mk.injEq] at H
       obtain ⟨rfl, rfl, rfl⟩ := H
       go_enter Tryd.func8, Tryd.ntmps8
       go_wp2_with (first | ((with_reducible refine qao (f := 17) rfl ?_); refine qav (some 9) rfl rfl Tryd.func17 (by kernel_rfl) rfl #[.string a0, .int .u8 10] rfl (by (try simp only [List.map_toArray, List.map_cons, List.map_nil]); first | done | rfl | (simp only [List.length_drop, List.length_take]; rfl)) ?_; (with_reducible refine (burgageref03_Cut.calls k a0 10 t228 _ A2.out (Laid.below HY (by repeat (first | (with_reducible first | exact HB.out | apply qab | apply qaa | apply qac) | exact HB.out)))).mono ?_); rintro e w16 ⟨v229, rfl, ho0, hb⟩; refine ⟨_, rfl, ?_⟩; have n0_ := Aside0.mk (Kd.R_lower (Kd.R_newM (M := fun k_ => (w.heap.size ≤ k_)) ho0 (qak (by repeat (first | (with_reducible first | exact HB.out | apply qab | apply qaa | apply qac) | exact HB.out))) (fun k_ h_ => h_)) (qak (by repeat (first | (with_reducible first | exact HB.out | apply qab | apply qaa | apply qac) | exact HB.out)))); have n1_ := Aside0.mk (qal (by repeat (first | (with_reducible first | exact HB.out | apply qab | apply qaa | apply qac) | exact HB.out)) hb); clear HB; have HO230 := n0_; have HB := n1_; clear n0_ n1_; (try clear hb); (try clear hb2); (try clear hk); (try clear hi); (try clear ho0); obtain ⟨Ao17, co17, eo17⟩ := Kd.R_slice HO230.out; subst eo17; have q18 : ((ji3) : Int) ≤ ((t228.length : Int) : Int) := of_decide_eq_true (by first | (with_reducible assumption) | assumption); obtain ⟨i018, hi018, _, hsz18, _⟩ := info_parts info9; have hroom18 : t228.length ≤ co17 := (Kd.qau HO230.out).2.1; have hC18 : Kd.F Kd.string _ _ Ao17 t228.length t228 := (Kd.V_at (base := w.heap.size) (Kd.R_V HO230.out)).2.2; have hcut18 := cut_to (P := Tryd.prog) 39 9 .i64 Tryd.underlying39 hi018 Ao17 t228.length co17 (ji3) (of_decide_eq_true (by first | (with_reducible assumption) | assumption)) q18 hroom18; have hr18 := Kd.F_take (m := ((ji3) : Int).toNat) hC18 (by omega); have hy18 : y231.length = ((ji3) : Int).toNat := (by rw [Ny231.out, List.length_take]; omega); rw [← Ny231.out] at hr18; rw [← hy18] at hcut18; have HO235 := Aside0.mk (show Kd.V Kd.string 9 _ w.heap.size _ (.slice Ao17 y231.length co17) y231 from Kd.V_mk (by omega) hr18); have HC235 := Aside0.mk (show y231.length ≤ co17 from by omega); clear hr18 hC18 hroom18 hi018 hsz18; have KY18 := Aside0.mk hy18; clear hy18; replace q18 := eq_true q18) | ((with_reducible refine qao (f := 18) rfl ?_); refine qav (some 16) rfl rfl Tryd.func18 (by kernel_rfl) rfl #[.slice Ao17 y231.length co17] rfl (by (try simp only [List.map_toArray, List.map_cons, List.map_nil]); first | done | rfl | (simp only [List.length_drop, List.length_take]; rfl)) ?_; (with_reducible refine (burgageref07_Lines.calls k _ _ y231 t236 t239 _ ?side1 ?side2 A6.out (Laid.below HY (by repeat (first | (with_reducible first | exact HB.out | apply qab | apply qaa | apply qac) | exact HB.out)))).mono ?_); (case side1 => repeat (first | exact (Kd.V_reads' HO235.out).2.2 | (with_reducible refine Kd.C_alloc ?_ _) | (with_reducible refine Kd.C_drewN ?_ _) | (with_reducible refine Kd.C_drew ?_))); (case side2 => exact (Kd.V_reads' HO235.out).2.1); rintro e w19 ⟨v237, rfl, ho0, hb⟩; refine ⟨_, rfl, ?_⟩; have n0_ := Aside0.mk (Kd.R_below (by (with_reducible repeat (first | apply Kd.R_alloc | apply Kd.R_drewN | apply Kd.R_drew)); exact HO230.out) hb); have n1_ := Aside0.mk (Kd.V_elder' (by (with_reducible repeat (first | apply Kd.V_alloc | apply Kd.V_drewN | apply Kd.V_drew)); exact HO235.out) (Kd.N_base ho0) hb); have n2_ := Aside0.mk (Kd.N_lower (Kd.N_mono (ok' := fun k_ => (w.heap.size ≤ k_) ∧ some k_ ≠ (.slice Ao17 t228.length co17 : Value).ownBlock) ho0 (fun k_ hk_ => ⟨(Nat.le_trans (qak (by repeat (first | (with_reducible first | exact HB.out | apply qab | apply qaa | apply qac) | exact HB.out))) hk_), (Kd.fresh' (Kd.R_lt (by (with_reducible repeat (first | apply Kd.R_alloc | apply Kd.R_drewN | apply Kd.R_drew)); exact HO230.out)) k_ hk_)⟩)) (qak (by repeat (first | (with_reducible first | exact HB.out | apply qab | apply qaa | apply qac) | exact HB.out)))); have n3_ := Aside0.mk (qal (by repeat (first | (with_reducible first | exact HB.out | apply qab | apply qaa | apply qac) | exact HB.out)) hb); clear HO230; clear HO235; clear HB; have HO230 := n0_; have HO235 := n1_; have HO238 := n2_; have HB := n3_; clear n0_ n1_ n2_ n3_; (try clear hb); (try clear hb2); (try clear hk); (try clear hi); (try clear ho0); have p240 : 0 ≤ ((ji3) : Int) := of_decide_eq_true (by first | (with_reducible assumption) | assumption); have q240 : (ji3) < (t228.length : Int) := of_decide_eq_true (by first | (with_reducible assumption) | assumption); obtain ⟨ad240, e240, hx240_0⟩ := Kd.at_string (Kd.qau HO230.out).2.2 (ji3) p240 q240; cases e240; replace p240 := eq_true p240; replace q240 := eq_true q240; obtain ⟨Ao20, co20, eo20⟩ := Kd.N_slice HO238.out; subst eo20) | ((with_reducible refine qao (f := 12) rfl ?_); refine qav (some 32) rfl rfl Tryd.func12 (by kernel_rfl) rfl #[.slice Ao20 t236.length co20] rfl (by (try simp only [List.map_toArray, List.map_cons, List.map_nil]); first | done | rfl | (simp only [List.length_drop, List.length_take]; rfl)) ?_; (with_reducible refine (burgageref06_Check.calls k _ _ t236 t241 _ ?side1 ?side2 A14.out (Laid.below HY (by repeat (first | (with_reducible first | exact HB.out | apply qab | apply qaa | apply qac) | exact HB.out)))).mono ?_); (case side1 => repeat (first | exact (Kd.qba HO238.out).2.2 | (with_reducible refine Kd.C_alloc ?_ _) | (with_reducible refine Kd.C_drewN ?_ _) | (with_reducible refine Kd.C_drew ?_))); (case side2 => exact (Kd.qba HO238.out).2.1); rintro e w21 ⟨rfl, hb⟩; refine ⟨_, rfl, ?_⟩; have n0_ := Aside0.mk (Kd.R_below (by (with_reducible repeat (first | apply Kd.R_alloc | apply Kd.R_drewN | apply Kd.R_drew)); exact HO230.out) hb); have n1_ := Aside0.mk (Kd.V_below (by (with_reducible repeat (first | apply Kd.V_alloc | apply Kd.V_drewN | apply Kd.V_drew)); exact HO235.out) hb); have n2_ := Aside0.mk (Kd.N_below (by (with_reducible repeat (first | apply Kd.N_alloc | apply Kd.N_drewN | apply Kd.N_drew)); exact HO238.out) hb); have n3_ := Aside0.mk (qal (by repeat (first | (with_reducible first | exact HB.out | apply qab | apply qaa | apply qac) | exact HB.out)) hb); clear HO230; clear HO235; clear HO238; clear HB; have HO230 := n0_; have HO235 := n1_; have HO238 := n2_; have HB := n3_; clear n0_ n1_ n2_ n3_; (try clear hb); (try clear hb2); (try clear hk); (try clear hi)))
       go_ret3
       exact ⟨_, by first | rfl | (simp [qan, qam] <;> rfl) | (simp only [← hji3]; first | rfl | (simp [qan, qam] <;> rfl)) | (simp [*, qan, qam] <;> rfl), by (with_reducible repeat (first | apply Kd.N_alloc | apply Kd.N_drewN | apply Kd.N_drew)); exact Kd.N_mono HO238.out (fun _ hk => hk.1), by repeat (first | (with_reducible first | exact HB.out | apply qab | apply qaa | apply qac) | exact HB.out)⟩
      ·rw [if_neg c15] at H
       have c15b0 : (t241 == 0) = false := beq_eq_false_iff_ne.mpr c15
       have c15b1 : (t241 != 0) = true := bne_iff_ne.mpr c15
       replace H := Option.bind_eq_some_iff.mp H
       obtain ⟨t242, A220, H⟩ := H
       replace H : (some (([] : List (S38)), 0, t242)) = some (r1, r2, r3) := H
       have A22 := Aside0.mk A220
       clear A220
       simp only [Option.some.injEq, Prod.mk.injEq] at H
       obtain ⟨rfl, rfl, rfl⟩ := H
       go_enter Tryd.func8, Tryd.ntmps8
       go_wp2_with (first | ((with_reducible refine qao (f := 17) rfl ?_); refine qav (some 9) rfl rfl Tryd.func17 (by kernel_rfl) rfl #[.string a0, .int .u8 10] rfl (by (try simp only [List.map_toArray, List.map_cons, List.map_nil]); first | done | rfl | (simp only [List.length_drop, List.length_take]; rfl)) ?_; (with_reducible refine (burgageref03_Cut.calls k a0 10 t228 _ A2.out (Laid.below HY (by repeat (first | (with_reducible first | exact HB.out | apply qab | apply qaa | apply qac) | exact HB.out)))).mono ?_); rintro e w23 ⟨v229, rfl, ho0, hb⟩; refine ⟨_, rfl, ?_⟩; have n0_ := Aside0.mk (Kd.R_lower (Kd.R_newM (M := fun k_ => (w.heap.size ≤ k_)) ho0 (qak (by repeat (first | (with_reducible first | exact HB.out | apply qab | apply qaa | apply qac) | exact HB.out))) (fun k_ h_ => h_)) (qak (by repeat (first | (with_reducible first | exact HB.out | apply qab | apply qaa | apply qac) | exact HB.out)))); have n1_ := Aside0.mk (qal (by repeat (first | (with_reducible first | exact HB.out | apply qab | apply qaa | apply qac) | exact HB.out)) hb); clear HB; have HO230 := n0_; have HB := n1_; clear n0_ n1_; (try clear hb); (try clear hb2); (try clear hk); (try clear hi); (try clear ho0); obtain ⟨Ao24, co24, eo24⟩ := Kd.R_slice HO230.out; subst eo24; have q25 : ((ji3) : Int) ≤ ((t228.length : Int) : Int) := of_decide_eq_true (by first | (with_reducible assumption) | assumption); obtain ⟨i025, hi025, _, hsz25, _⟩ := info_parts info9; have hroom25 : t228.length ≤ co24 := (Kd.qau HO230.out).2.1; have hC25 : Kd.F Kd.string _ _ Ao24 t228.length t228 := (Kd.V_at (base := w.heap.size) (Kd.R_V HO230.out)).2.2; have hcut25 := cut_to (P := Tryd.prog) 39 9 .i64 Tryd.underlying39 hi025 Ao24 t228.length co24 (ji3) (of_decide_eq_true (by first | (with_reducible assumption) | assumption)) q25 hroom25; have hr25 := Kd.F_take (m := ((ji3) : Int).toNat) hC25 (by omega); have hy25 : y231.length = ((ji3) : Int).toNat := (by rw [Ny231.out, List.length_take]; omega); rw [← Ny231.out] at hr25; rw [← hy25] at hcut25; have HO235 := Aside0.mk (show Kd.V Kd.string 9 _ w.heap.size _ (.slice Ao24 y231.length co24) y231 from Kd.V_mk (by omega) hr25); have HC235 := Aside0.mk (show y231.length ≤ co24 from by omega); clear hr25 hC25 hroom25 hi025 hsz25; have KY25 := Aside0.mk hy25; clear hy25; replace q25 := eq_true q25) | ((with_reducible refine qao (f := 18) rfl ?_); refine qav (some 16) rfl rfl Tryd.func18 (by kernel_rfl) rfl #[.slice Ao24 y231.length co24] rfl (by (try simp only [List.map_toArray, List.map_cons, List.map_nil]); first | done | rfl | (simp only [List.length_drop, List.length_take]; rfl)) ?_; (with_reducible refine (burgageref07_Lines.calls k _ _ y231 t236 t239 _ ?side1 ?side2 A6.out (Laid.below HY (by repeat (first | (with_reducible first | exact HB.out | apply qab | apply qaa | apply qac) | exact HB.out)))).mono ?_); (case side1 => repeat (first | exact (Kd.V_reads' HO235.out).2.2 | (with_reducible refine Kd.C_alloc ?_ _) | (with_reducible refine Kd.C_drewN ?_ _) | (with_reducible refine Kd.C_drew ?_))); (case side2 => exact (Kd.V_reads' HO235.out).2.1); rintro e w26 ⟨v237, rfl, ho0, hb⟩; refine ⟨_, rfl, ?_⟩; have n0_ := Aside0.mk (Kd.R_below (by (with_reducible repeat (first | apply Kd.R_alloc | apply Kd.R_drewN | apply Kd.R_drew)); exact HO230.out) hb); have n1_ := Aside0.mk (Kd.V_elder' (by (with_reducible repeat (first | apply Kd.V_alloc | apply Kd.V_drewN | apply Kd.V_drew)); exact HO235.out) (Kd.N_base ho0) hb); have n2_ := Aside0.mk (Kd.N_lower (Kd.N_mono (ok' := fun k_ => (w.heap.size ≤ k_) ∧ some k_ ≠ (.slice Ao24 t228.length co24 : Value).ownBlock) ho0 (fun k_ hk_ => ⟨(Nat.le_trans (qak (by repeat (first | (with_reducible first | exact HB.out | apply qab | apply qaa | apply qac) | exact HB.out))) hk_), (Kd.fresh' (Kd.R_lt (by (with_reducible repeat (first | apply Kd.R_alloc | apply Kd.R_drewN | apply Kd.R_drew)); exact HO230.out)) k_ hk_)⟩)) (qak (by repeat (first | (with_reducible first | exact HB.out | apply qab | apply qaa | apply qac) | exact HB.out)))); have n3_ := Aside0.mk (qal (by repeat (first | (with_reducible first | exact HB.out | apply qab | apply qaa | apply qac) | exact HB.out)) hb); clear HO230; clear HO235; clear HB; have HO230 := n0_; have HO235 := n1_; have HO238 := n2_; have HB := n3_; clear n0_ n1_ n2_ n3_; (try clear hb); (try clear hb2); (try clear hk); (try clear hi); (try clear ho0); have p240 : 0 ≤ ((ji3) : Int) := of_decide_eq_true (by first | (with_reducible assumption) | assumption); have q240 : (ji3) < (t228.length : Int) := of_decide_eq_true (by first | (with_reducible assumption) | assumption); obtain ⟨ad240, e240, hx240_0⟩ := Kd.at_string (Kd.qau HO230.out).2.2 (ji3) p240 q240; cases e240; replace p240 := eq_true p240; replace q240 := eq_true q240; obtain ⟨Ao27, co27, eo27⟩ := Kd.N_slice HO238.out; subst eo27) | ((with_reducible refine qao (f := 12) rfl ?_); refine qav (some 32) rfl rfl Tryd.func12 (by kernel_rfl) rfl #[.slice Ao27 t236.length co27] rfl (by (try simp only [List.map_toArray, List.map_cons, List.map_nil]); first | done | rfl | (simp only [List.length_drop, List.length_take]; rfl)) ?_; (with_reducible refine (burgageref06_Check.calls k _ _ t236 t241 _ ?side1 ?side2 A14.out (Laid.below HY (by repeat (first | (with_reducible first | exact HB.out | apply qab | apply qaa | apply qac) | exact HB.out)))).mono ?_); (case side1 => repeat (first | exact (Kd.qba HO238.out).2.2 | (with_reducible refine Kd.C_alloc ?_ _) | (with_reducible refine Kd.C_drewN ?_ _) | (with_reducible refine Kd.C_drew ?_))); (case side2 => exact (Kd.qba HO238.out).2.1); rintro e w28 ⟨rfl, hb⟩; refine ⟨_, rfl, ?_⟩; have n0_ := Aside0.mk (Kd.R_below (by (with_reducible repeat (first | apply Kd.R_alloc | apply Kd.R_drewN | apply Kd.R_drew)); exact HO230.out) hb); have n1_ := Aside0.mk (Kd.V_below (by (with_reducible repeat (first | apply Kd.V_alloc | apply Kd.V_drewN | apply Kd.V_drew)); exact HO235.out) hb); have n2_ := Aside0.mk (Kd.N_below (by (with_reducible repeat (first | apply Kd.N_alloc | apply Kd.N_drewN | apply Kd.N_drew)); exact HO238.out) hb); have n3_ := Aside0.mk (qal (by repeat (first | (with_reducible first | exact HB.out | apply qab | apply qaa | apply qac) | exact HB.out)) hb); clear HO230; clear HO235; clear HO238; clear HB; have HO230 := n0_; have HO235 := n1_; have HO238 := n2_; have HB := n3_; clear n0_ n1_ n2_ n3_; (try clear hb); (try clear hb2); (try clear hk); (try clear hi)) | ((with_reducible refine qao (f := 12) rfl ?_); refine qav (some 35) rfl rfl Tryd.func12 (by kernel_rfl) rfl #[.slice Ao27 t236.length co27] rfl (by (try simp only [List.map_toArray, List.map_cons, List.map_nil]); first | done | rfl | (simp only [List.length_drop, List.length_take]; rfl)) ?_; (with_reducible refine (burgageref06_Check.calls k _ _ t236 t242 _ ?side1 ?side2 A22.out (Laid.below HY (by repeat (first | (with_reducible first | exact HB.out | apply qab | apply qaa | apply qac) | exact HB.out)))).mono ?_); (case side1 => repeat (first | exact (Kd.qba HO238.out).2.2 | (with_reducible refine Kd.C_alloc ?_ _) | (with_reducible refine Kd.C_drewN ?_ _) | (with_reducible refine Kd.C_drew ?_))); (case side2 => exact (Kd.qba HO238.out).2.1); rintro e w29 ⟨rfl, hb⟩; refine ⟨_, rfl, ?_⟩; have n0_ := Aside0.mk (Kd.R_below (by (with_reducible repeat (first | apply Kd.R_alloc | apply Kd.R_drewN | apply Kd.R_drew)); exact HO230.out) hb); have n1_ := Aside0.mk (Kd.V_below (by (with_reducible repeat (first | apply Kd.V_alloc | apply Kd.V_drewN | apply Kd.V_drew)); exact HO235.out) hb); have n2_ := Aside0.mk (Kd.N_below (by (with_reducible repeat (first | apply Kd.N_alloc | apply Kd.N_drewN | apply Kd.N_drew)); exact HO238.out) hb); have n3_ := Aside0.mk (qal (by repeat (first | (with_reducible first | exact HB.out | apply qab | apply qaa | apply qac) | exact HB.out)) hb); clear HO230; clear HO235; clear HO238; clear HB; have HO230 := n0_; have HO235 := n1_; have HO238 := n2_; have HB := n3_; clear n0_ n1_ n2_ n3_; (try clear hb); (try clear hb2); (try clear hk); (try clear hi)))
       go_ret3
       exact ⟨_, by first | rfl | (simp [qan, qam] <;> rfl) | (simp only [← hji3]; first | rfl | (simp [qan, qam] <;> rfl)) | (simp [*, qan, qam] <;> rfl), by first | exact Kd.S_nil _ _ _ _ _ | exact Kd.N_nil _ _ _ _ _ | exact Kd.V_nil _ _ _ _ _ | exact Kd.Q_nil _ _ _ _ _ | exact Kd.R_nil _ _ _ _ _, by repeat (first | (with_reducible first | exact HB.out | apply qab | apply qaa | apply qac) | exact HB.out)⟩
     ·rw [if_neg c13] at H
      have c13b0 : ((rdOf ByteArray.empty t228 (ji3)).toList == ([] : List UInt8)) = false := beq_eq_false_iff_ne.mpr c13
      have c13b1 : ((rdOf ByteArray.empty t228 (ji3)).toList != ([] : List UInt8)) = true := bne_iff_ne.mpr c13
      simp only [Option.some.injEq, Prod.mk.injEq] at H
      obtain ⟨rfl, rfl, rfl⟩ := H
      go_enter Tryd.func8, Tryd.ntmps8
      go_wp2_with (first | ((with_reducible refine qao (f := 17) rfl ?_); refine qav (some 9) rfl rfl Tryd.func17 (by kernel_rfl) rfl #[.string a0, .int .u8 10] rfl (by (try simp only [List.map_toArray, List.map_cons, List.map_nil]); first | done | rfl | (simp only [List.length_drop, List.length_take]; rfl)) ?_; (with_reducible refine (burgageref03_Cut.calls k a0 10 t228 _ A2.out (Laid.below HY (by repeat (first | (with_reducible first | exact HB.out | apply qab | apply qaa | apply qac) | exact HB.out)))).mono ?_); rintro e w30 ⟨v229, rfl, ho0, hb⟩; refine ⟨_, rfl, ?_⟩; have n0_ := Aside0.mk (Kd.R_lower (Kd.R_newM (M := fun k_ => (w.heap.size ≤ k_)) ho0 (qak (by repeat (first | (with_reducible first | exact HB.out | apply qab | apply qaa | apply qac) | exact HB.out))) (fun k_ h_ => h_)) (qak (by repeat (first | (with_reducible first | exact HB.out | apply qab | apply qaa | apply qac) | exact HB.out)))); have n1_ := Aside0.mk (qal (by repeat (first | (with_reducible first | exact HB.out | apply qab | apply qaa | apply qac) | exact HB.out)) hb); clear HB; have HO230 := n0_; have HB := n1_; clear n0_ n1_; (try clear hb); (try clear hb2); (try clear hk); (try clear hi); (try clear ho0); obtain ⟨Ao31, co31, eo31⟩ := Kd.R_slice HO230.out; subst eo31; have q32 : ((ji3) : Int) ≤ ((t228.length : Int) : Int) := of_decide_eq_true (by first | (with_reducible assumption) | assumption); obtain ⟨i032, hi032, _, hsz32, _⟩ := info_parts info9; have hroom32 : t228.length ≤ co31 := (Kd.qau HO230.out).2.1; have hC32 : Kd.F Kd.string _ _ Ao31 t228.length t228 := (Kd.V_at (base := w.heap.size) (Kd.R_V HO230.out)).2.2; have hcut32 := cut_to (P := Tryd.prog) 39 9 .i64 Tryd.underlying39 hi032 Ao31 t228.length co31 (ji3) (of_decide_eq_true (by first | (with_reducible assumption) | assumption)) q32 hroom32; have hr32 := Kd.F_take (m := ((ji3) : Int).toNat) hC32 (by omega); have hy32 : y231.length = ((ji3) : Int).toNat := (by rw [Ny231.out, List.length_take]; omega); rw [← Ny231.out] at hr32; rw [← hy32] at hcut32; have HO235 := Aside0.mk (show Kd.V Kd.string 9 _ w.heap.size _ (.slice Ao31 y231.length co31) y231 from Kd.V_mk (by omega) hr32); have HC235 := Aside0.mk (show y231.length ≤ co31 from by omega); clear hr32 hC32 hroom32 hi032 hsz32; have KY32 := Aside0.mk hy32; clear hy32; replace q32 := eq_true q32) | ((with_reducible refine qao (f := 18) rfl ?_); refine qav (some 16) rfl rfl Tryd.func18 (by kernel_rfl) rfl #[.slice Ao31 y231.length co31] rfl (by (try simp only [List.map_toArray, List.map_cons, List.map_nil]); first | done | rfl | (simp only [List.length_drop, List.length_take]; rfl)) ?_; (with_reducible refine (burgageref07_Lines.calls k _ _ y231 t236 t239 _ ?side1 ?side2 A6.out (Laid.below HY (by repeat (first | (with_reducible first | exact HB.out | apply qab | apply qaa | apply qac) | exact HB.out)))).mono ?_); (case side1 => repeat (first | exact (Kd.V_reads' HO235.out).2.2 | (with_reducible refine Kd.C_alloc ?_ _) | (with_reducible refine Kd.C_drewN ?_ _) | (with_reducible refine Kd.C_drew ?_))); (case side2 => exact (Kd.V_reads' HO235.out).2.1); rintro e w33 ⟨v237, rfl, ho0, hb⟩; refine ⟨_, rfl, ?_⟩; have n0_ := Aside0.mk (Kd.R_below (by (with_reducible repeat (first | apply Kd.R_alloc | apply Kd.R_drewN | apply Kd.R_drew)); exact HO230.out) hb); have n1_ := Aside0.mk (Kd.V_elder' (by (with_reducible repeat (first | apply Kd.V_alloc | apply Kd.V_drewN | apply Kd.V_drew)); exact HO235.out) (Kd.N_base ho0) hb); have n2_ := Aside0.mk (Kd.N_lower (Kd.N_mono (ok' := fun k_ => (w.heap.size ≤ k_) ∧ some k_ ≠ (.slice Ao31 t228.length co31 : Value).ownBlock) ho0 (fun k_ hk_ => ⟨(Nat.le_trans (qak (by repeat (first | (with_reducible first | exact HB.out | apply qab | apply qaa | apply qac) | exact HB.out))) hk_), (Kd.fresh' (Kd.R_lt (by (with_reducible repeat (first | apply Kd.R_alloc | apply Kd.R_drewN | apply Kd.R_drew)); exact HO230.out)) k_ hk_)⟩)) (qak (by repeat (first | (with_reducible first | exact HB.out | apply qab | apply qaa | apply qac) | exact HB.out)))); have n3_ := Aside0.mk (qal (by repeat (first | (with_reducible first | exact HB.out | apply qab | apply qaa | apply qac) | exact HB.out)) hb); clear HO230; clear HO235; clear HB; have HO230 := n0_; have HO235 := n1_; have HO238 := n2_; have HB := n3_; clear n0_ n1_ n2_ n3_; (try clear hb); (try clear hb2); (try clear hk); (try clear hi); (try clear ho0); have p240 : 0 ≤ ((ji3) : Int) := of_decide_eq_true (by first | (with_reducible assumption) | assumption); have q240 : (ji3) < (t228.length : Int) := of_decide_eq_true (by first | (with_reducible assumption) | assumption); obtain ⟨ad240, e240, hx240_0⟩ := Kd.at_string (Kd.qau HO230.out).2.2 (ji3) p240 q240; cases e240; replace p240 := eq_true p240; replace q240 := eq_true q240))
      go_ret3
      exact ⟨_, by first | rfl | (simp [qan, qam] <;> rfl) | (simp only [← hji3]; first | rfl | (simp [qan, qam] <;> rfl)) | (simp [*, qan, qam] <;> rfl), by first | exact Kd.S_nil _ _ _ _ _ | exact Kd.N_nil _ _ _ _ _ | exact Kd.V_nil _ _ _ _ _ | exact Kd.Q_nil _ _ _ _ _ | exact Kd.R_nil _ _ _ _ _, by repeat (first | (with_reducible first | exact HB.out | apply qab | apply qaa | apply qac) | exact HB.out)⟩
    ·rw [if_neg c12] at H
     exact absurd H (by simp)
  ·rw [if_neg c5] at H
   exact absurd H (by simp)
 ·rw [if_neg c4] at H
  exact absurd H (by simp)
mutual
def history_Same.l0 : Nat → List (S38) → List (S38) → Int → Int → Option (Bool)
 | 0, _, _, _, _ => none
 | k + 1, x1, x15, x16, x17 => if x17 < x16 then (if 0 ≤ x17 then (if x17 < (x15.length : Int) then (if x17 < (x1.length : Int) then (if ((qad x15 x17).f0) = ((qad x1 x17).f0) then (if ((qad x15 x17).f1) = ((qad x1 x17).f1) then (if ((qad x15 x17).f2) = ((qad x1 x17).f2) then (history_Same.j1 k x1 x15 x16 x17 ((((qad x15 x17).f3).length : Int) != (((qad x1 x17).f3).length : Int)) ((qad x15 x17).f0) ((qad x15 x17).f1) ((qad x15 x17).f2) ((qad x15 x17).f3) ((qad x1 x17).f0) ((qad x1 x17).f1) ((qad x1 x17).f2) ((qad x1 x17).f3)) else (history_Same.j1 k x1 x15 x16 x17 true ((qad x15 x17).f0) ((qad x15 x17).f1) ((qad x15 x17).f2) ((qad x15 x17).f3) ((qad x1 x17).f0) ((qad x1 x17).f1) ((qad x1 x17).f2) ((qad x1 x17).f3))) else (history_Same.j1 k x1 x15 x16 x17 true ((qad x15 x17).f0) ((qad x15 x17).f1) ((qad x15 x17).f2) ((qad x15 x17).f3) ((qad x1 x17).f0) ((qad x1 x17).f1) ((qad x1 x17).f2) ((qad x1 x17).f3))) else (history_Same.j1 k x1 x15 x16 x17 true ((qad x15 x17).f0) ((qad x15 x17).f1) ((qad x15 x17).f2) ((qad x15 x17).f3) ((qad x1 x17).f0) ((qad x1 x17).f1) ((qad x1 x17).f2) ((qad x1 x17).f3))) else (none)) else (none)) else (none)) else (some true)
def history_Same.j1 : Nat → List (S38) → List (S38) → Int → Int → Bool → Int → Int → Int → List (S48) → Int → Int → Int → List (S48) → Option (Bool)
 | 0, _, _, _, _, _, _, _, _, _, _, _, _, _ => none
 | k + 1, x1, x15, x16, x17, x53, x245000, x245001, x245002, x245003, x247000, x247001, x247002, x247003 => if x53 = true then (some false) else (history_Same.l1 k x1 x15 x16 x17 x245003 (x245003.length : Int) 0 x247000 x247001 x247002 x247003)
def history_Same.l1 : Nat → List (S38) → List (S38) → Int → Int → List (S48) → Int → Int → Int → Int → Int → List (S48) → Option (Bool)
 | 0, _, _, _, _, _, _, _, _, _, _, _ => none
 | k + 1, x1, x15, x16, x17, x55, x56, x57, x247000, x247001, x247002, x247003 => if x57 < x56 then (if 0 ≤ x57 then (if x57 < (x55.length : Int) then (if x57 < (x247003.length : Int) then (if (!(((qap x247003 x57).f0) == ((qap x55 x57).f0)) || (!(((qap x247003 x57).f1) == ((qap x55 x57).f1)) || (!(((qap x247003 x57).f2) == ((qap x55 x57).f2))))) = true then (some false) else (history_Same.l1 k x1 x15 x16 x17 x55 x56 (wrap64 (x57 + 1)) x247000 x247001 x247002 x247003)) else (none)) else (none)) else (none)) else (history_Same.l0 k x1 x15 x16 (wrap64 (x17 + 1)))
end
def history_Same.f (k : Nat) (l0 : List (S38)) (l1 : List (S38)) : Option (Bool) := if (l0.length : Int) = (l1.length : Int) then (history_Same.l0 k l1 l0 (l0.length : Int) 0) else (some false)
theorem history_Same.mono_l : ∀ k, (∀ y0 y1 y2 y3, LeO (history_Same.l0 k y0 y1 y2 y3) (history_Same.l0 (k + 1) y0 y1 y2 y3)) ∧ (∀ y0 y1 y2 y3 y4 y5 y6 y7 y8 y9 y10 y11 y12, LeO (history_Same.j1 k y0 y1 y2 y3 y4 y5 y6 y7 y8 y9 y10 y11 y12) (history_Same.j1 (k + 1) y0 y1 y2 y3 y4 y5 y6 y7 y8 y9 y10 y11 y12)) ∧ (∀ y0 y1 y2 y3 y4 y5 y6 y7 y8 y9 y10, LeO (history_Same.l1 k y0 y1 y2 y3 y4 y5 y6 y7 y8 y9 y10) (history_Same.l1 (k + 1) y0 y1 y2 y3 y4 y5 y6 y7 y8 y9 y10))
 | 0 => ⟨fun _ _ _ _ r h => by simp [history_Same.l0] at h, fun _ _ _ _ _ _ _ _ _ _ _ _ _ r h => by simp [history_Same.j1] at h, fun _ _ _ _ _ _ _ _ _ _ _ r h => by simp [history_Same.l1] at h⟩
 | k + 1 => by
  obtain ⟨ih0, ih1, ih2⟩ := history_Same.mono_l k
  refine ⟨?_, ?_, ?_⟩
  ·intro y0 y1 y2 y3
   unfold history_Same.l0
   repeat' first
   | (with_reducible exact ih0 _ _ _ _)
   | (with_reducible exact ih1 _ _ _ _ _ _ _ _ _ _ _ _ _)
   | (with_reducible exact ih2 _ _ _ _ _ _ _ _ _ _ _)
   | (with_reducible exact LeO.refl _)
   | (with_reducible exact LeO.none _)
   | (with_reducible refine LeO.ite ?_ ?_)
   | (with_reducible refine LeO.bind ?_ (fun _ => ?_))
   | exact ih0 _ _ _ _
   | exact ih1 _ _ _ _ _ _ _ _ _ _ _ _ _
   | exact ih2 _ _ _ _ _ _ _ _ _ _ _
   | exact LeO.none _
   | refine LeO.ite ?_ ?_
   | refine LeO.bind ?_ (fun _ => ?_)
  ·intro y0 y1 y2 y3 y4 y5 y6 y7 y8 y9 y10 y11 y12
   unfold history_Same.j1
   repeat' first
   | (with_reducible exact ih0 _ _ _ _)
   | (with_reducible exact ih1 _ _ _ _ _ _ _ _ _ _ _ _ _)
   | (with_reducible exact ih2 _ _ _ _ _ _ _ _ _ _ _)
   | (with_reducible exact LeO.refl _)
   | (with_reducible exact LeO.none _)
   | (with_reducible refine LeO.ite ?_ ?_)
   | (with_reducible refine LeO.bind ?_ (fun _ => ?_))
   | exact ih0 _ _ _ _
   | exact ih1 _ _ _ _ _ _ _ _ _ _ _ _ _
   | exact ih2 _ _ _ _ _ _ _ _ _ _ _
   | exact LeO.none _
   | refine LeO.ite ?_ ?_
   | refine LeO.bind ?_ (fun _ => ?_)
  ·intro y0 y1 y2 y3 y4 y5 y6 y7 y8 y9 y10
   unfold history_Same.l1
   repeat' first
   | (with_reducible exact ih0 _ _ _ _)
   | (with_reducible exact ih1 _ _ _ _ _ _ _ _ _ _ _ _ _)
   | (with_reducible exact ih2 _ _ _ _ _ _ _ _ _ _ _)
   | (with_reducible exact LeO.refl _)
   | (with_reducible exact LeO.none _)
   | (with_reducible refine LeO.ite ?_ ?_)
   | (with_reducible refine LeO.bind ?_ (fun _ => ?_))
   | exact ih0 _ _ _ _
   | exact ih1 _ _ _ _ _ _ _ _ _ _ _ _ _
   | exact ih2 _ _ _ _ _ _ _ _ _ _ _
   | exact LeO.none _
   | refine LeO.ite ?_ ?_
   | refine LeO.bind ?_ (fun _ => ?_)
theorem history_Same.mono : ∀ a0 a1 k, LeO (history_Same.f k a0 a1) (history_Same.f (k + 1) a0 a1) := by
 intro a0 a1 k
 obtain ⟨ih0, ih1, ih2⟩ := history_Same.mono_l k
 unfold history_Same.f
 repeat' first
   | (with_reducible exact ih0 _ _ _ _)
   | (with_reducible exact ih1 _ _ _ _ _ _ _ _ _ _ _ _ _)
   | (with_reducible exact ih2 _ _ _ _ _ _ _ _ _ _ _)
   | (with_reducible exact LeO.refl _)
   | (with_reducible exact LeO.none _)
   | (with_reducible refine LeO.ite ?_ ?_)
   | (with_reducible refine LeO.bind ?_ (fun _ => ?_))
   | exact ih0 _ _ _ _
   | exact ih1 _ _ _ _ _ _ _ _ _ _ _ _ _
   | exact ih2 _ _ _ _ _ _ _ _ _ _ _
   | exact LeO.none _
   | refine LeO.ite ?_ ?_
   | refine LeO.bind ?_ (fun _ => ?_)
set_option maxHeartbeats 8000000 in
set_option maxRecDepth 100000 in
theorem history_Same.calls (k : Nat) (A0 : Option Addr) (c0 : Nat) (l0 : List (S38)) (A1 : Option Addr) (c1 : Nat) (l1 : List (S38)) (r : Bool) (w : World) (hr0 : Kd.C k38 w A0 l0.length l0) (hc0 : l0.length ≤ c0) (hr1 : Kd.C k38 w A1 l1.length l1) (hc1 : l1.length ≤ c1) (h : history_Same.f k l0 l1 = some r) (HY : Laid w) :
  Calls Tryd.prog 9 #[.slice A0 l0.length c0, .slice A1 l1.length c1] w fun e w' => e = .returned (.bool r) ∧ Below w.heap.size w w' := by
 have hu38 := Tryd.underlying38
 have hu48 := Tryd.underlying48
 have HR0 := Aside0.mk hr0
 have HC0 := Aside0.mk hc0
 clear hr0 hc0
 have HR1 := Aside0.mk hr1
 have HC1 := Aside0.mk hc1
 clear hr1 hc1
 have HB := Aside0.mk (Below.refl w.heap.size w)
 have H : (if (l0.length : Int) = (l1.length : Int) then (history_Same.l0 k l1 l0 (l0.length : Int) 0) else (some false)) = some r := h
 clear h
 by_cases c3 : (l0.length : Int) = (l1.length : Int)
 ·rw [if_pos c3] at H
  have c3b0 : ((l0.length : Int) == (l1.length : Int)) = true := beq_iff_eq.mpr c3
  have c3b1 : ((l0.length : Int) != (l1.length : Int)) = false := bne_eq_false_iff_eq.mpr c3
  have c3b2 : (l0.length == l1.length) = true := by first | simpa using c3 | (simp at c3 ⊢; omega)
  clear c3
  have H' := Aside0.mk H
  clear H
  go_enter Tryd.func9, Tryd.ntmps9
  go_wp2
  repeat (go_quiet (fail); try go_wp2)
  go_loopg [17] k (fun kq v17 w' => ∃ (x17_1 : Int), v17 = .int .i64 x17_1 ∧ Aside0 (history_Same.l0 kq l1 l0 (l0.length : Int) x17_1 = some r) ∧ Aside0 (kq ≤ k) ∧ Aside0 (Below w.heap.size w w'))
  case atStart => exact ⟨(0), (by first | rfl | (simp; done) | (simp [*]; done)), H', ⟨Nat.le_refl _⟩, ⟨by repeat (first | (with_reducible first | exact HB.out | apply qab | apply qaa | apply qac) | exact HB.out)⟩⟩
  case round =>
   clear H'
   try clear c1
   try clear p2
   try clear c3
   try clear c3b0
   try clear c3b1
   try clear c3b2
   obtain ⟨x17_1, rfl, HA, HK1, HB⟩ := hrel
   cases gk with
   | zero => exact absurd HA.out (by simp [history_Same.l0])
   | succ k1 =>
    have H := HA.out
    clear HA
    simp only [history_Same.l0] at H
    by_cases c4 : x17_1 < (l0.length : Int)
    ·rw [if_pos c4] at H
     have c4b0 : decide (x17_1 < (l0.length : Int)) = true := decide_eq_true c4
     clear c4
     by_cases c5 : 0 ≤ x17_1
     ·rw [if_pos c5] at H
      have c5b0 : decide (0 ≤ x17_1) = true := decide_eq_true c5
      clear c5
      by_cases c6 : x17_1 < (l0.length : Int)
      ·rw [if_pos c6] at H
       have c6b0 : decide (x17_1 < (l0.length : Int)) = true := decide_eq_true c6
       clear c6
       by_cases c7 : x17_1 < (l1.length : Int)
       ·rw [if_pos c7] at H
        have c7b0 : decide (x17_1 < (l1.length : Int)) = true := decide_eq_true c7
        clear c7
        have HC8 := Aside0.mk H
        clear H
        have p243 : 0 ≤ (x17_1 : Int) := of_decide_eq_true (by first | (with_reducible assumption) | assumption)
        have q243 : x17_1 < (l0.length : Int) := of_decide_eq_true (by first | (with_reducible assumption) | assumption)
        obtain ⟨ad243, A243_3, c243_3, e243, hx243_0, hx243_1, hx243_2, hx243_3, hl243_3, hi243_3⟩ := qbi HR0.out x17_1 p243 q243
        cases e243
        replace hx243_0 := (HB.out.cell (World.block_lt_of_cell? w _ hx243_0)).trans hx243_0
        replace hx243_1 := (HB.out.cell (World.block_lt_of_cell? w _ hx243_1)).trans hx243_1
        replace hx243_2 := (HB.out.cell (World.block_lt_of_cell? w _ hx243_2)).trans hx243_2
        replace hx243_3 := (HB.out.cell (World.block_lt_of_cell? w _ hx243_3)).trans hx243_3
        have HR243_3 := Aside0.mk hi243_3
        have HC243_3 := Aside0.mk hl243_3
        clear hi243_3 hl243_3
        replace p243 := eq_true p243
        replace q243 := eq_true q243
        go_upto_region 7 with (first | ((with_reducible refine qat (N := 6) rfl ?_); (try (refine qa7 (by rfl) ?_; dsimp only)); refine qas ?hg (N := 6) ?hd (cs := #[.int .i64 0, .int .i64 0, .int .i64 0, .slice none 0 0]) (t := 38) ?hr ?_; (case hd => rfl); (case hg => rfl); (case hr => first | (go_simp; done) | (go_simp; rfl)); intro gb244 hg w9 hbox hb; have n0_ := Aside0.mk (qal (by repeat (first | (with_reducible first | exact HB.out | apply qab | apply qaa | apply qac) | exact HB.out)) hb); have n1_ := Aside0.mk (hbox); have n2_ := Aside0.mk ((by rw [hg]; exact (qak (by repeat (first | (with_reducible first | exact HB.out | apply qab | apply qaa | apply qac) | exact HB.out))) : w.heap.size ≤ gb244)); have n3_ := Aside0.mk ((by rw [hg]; exact (qak (by repeat (first | (with_reducible first | exact HB.out | apply qab | apply qaa | apply qac) | exact HB.out))) : w.heap.size ≤ gb244)); clear HB; have HB := n0_; have BK244 := n1_; have GW244 := n2_; have GE244 := n3_; clear n0_ n1_ n2_ n3_; clear hb hbox hg; have hcz10_0 : w9.cell? ⟨gb244, 0, none⟩ = some (.int .i64 0) := (qah BK244.out 0).trans rfl; have hcz10_1 : w9.cell? ⟨gb244, 1, none⟩ = some (.int .i64 0) := (qah BK244.out 1).trans rfl; have hcz10_2 : w9.cell? ⟨gb244, 2, none⟩ = some (.int .i64 0) := (qah BK244.out 2).trans rfl; have hcz10_3 : w9.cell? ⟨gb244, 3, none⟩ = some (.slice none 0 0) := (qah BK244.out 3).trans rfl; have hfz10_0 := qae BK244.out 0; have hfz10_1 := qae BK244.out 1; have hfz10_2 := qae BK244.out 2; have hfz10_3 := qae BK244.out 3; have p245 : 0 ≤ (x17_1 : Int) := of_decide_eq_true (by first | (with_reducible assumption) | assumption); have q245 : x17_1 < (l1.length : Int) := of_decide_eq_true (by first | (with_reducible assumption) | assumption); obtain ⟨ad245, A245_3, c245_3, e245, hx245_0, hx245_1, hx245_2, hx245_3, hl245_3, hi245_3⟩ := qbi HR1.out x17_1 p245 q245; cases e245; have hn245_0 : ad245.block ≠ gb244 := Nat.ne_of_lt (Nat.lt_of_lt_of_le (by have := World.block_lt_of_cell? _ _ hx245_0; first | rwa [add_block] at this | exact this) GW244.out); have hn245_1 : ad245.block ≠ gb244 := Nat.ne_of_lt (Nat.lt_of_lt_of_le (by have := World.block_lt_of_cell? _ _ hx245_0; first | rwa [add_block] at this | exact this) GW244.out); have hn245_2 : ad245.block ≠ gb244 := Nat.ne_of_lt (Nat.lt_of_lt_of_le (by have := World.block_lt_of_cell? _ _ hx245_0; first | rwa [add_block] at this | exact this) GW244.out); have hn245_3 : ad245.block ≠ gb244 := Nat.ne_of_lt (Nat.lt_of_lt_of_le (by have := World.block_lt_of_cell? _ _ hx245_0; first | rwa [add_block] at this | exact this) GW244.out); replace hx245_0 := (HB.out.cell (World.block_lt_of_cell? w _ hx245_0)).trans hx245_0; replace hx245_1 := (HB.out.cell (World.block_lt_of_cell? w _ hx245_1)).trans hx245_1; replace hx245_2 := (HB.out.cell (World.block_lt_of_cell? w _ hx245_2)).trans hx245_2; replace hx245_3 := (HB.out.cell (World.block_lt_of_cell? w _ hx245_3)).trans hx245_3; have HR245_3 := Aside0.mk hi245_3; have HC245_3 := Aside0.mk hl245_3; clear hi245_3 hl245_3; replace hx245_0 := (cell_far (p := ⟨gb244, 0, none⟩) (by first | (rw [add_block]; exact hn245_0) | (show (Addr.add _ _).block ≠ _; rw [add_block]; exact hn245_0) | exact hn245_0) (.int .i64 ((qad l0 x17_1).f0))).trans hx245_0; replace hx245_1 := (cell_far (p := ⟨gb244, 0, none⟩) (by first | (rw [add_block]; exact hn245_0) | (show (Addr.add _ _).block ≠ _; rw [add_block]; exact hn245_0) | exact hn245_0) (.int .i64 ((qad l0 x17_1).f0))).trans hx245_1; replace hx245_2 := (cell_far (p := ⟨gb244, 0, none⟩) (by first | (rw [add_block]; exact hn245_0) | (show (Addr.add _ _).block ≠ _; rw [add_block]; exact hn245_0) | exact hn245_0) (.int .i64 ((qad l0 x17_1).f0))).trans hx245_2; replace hx245_3 := (cell_far (p := ⟨gb244, 0, none⟩) (by first | (rw [add_block]; exact hn245_0) | (show (Addr.add _ _).block ≠ _; rw [add_block]; exact hn245_0) | exact hn245_0) (.int .i64 ((qad l0 x17_1).f0))).trans hx245_3; replace hx245_0 := (cell_far (p := ⟨gb244, 1, none⟩) (by first | (rw [add_block]; exact hn245_1) | (show (Addr.add _ _).block ≠ _; rw [add_block]; exact hn245_1) | exact hn245_1) (.int .i64 ((qad l0 x17_1).f1))).trans hx245_0; replace hx245_1 := (cell_far (p := ⟨gb244, 1, none⟩) (by first | (rw [add_block]; exact hn245_1) | (show (Addr.add _ _).block ≠ _; rw [add_block]; exact hn245_1) | exact hn245_1) (.int .i64 ((qad l0 x17_1).f1))).trans hx245_1; replace hx245_2 := (cell_far (p := ⟨gb244, 1, none⟩) (by first | (rw [add_block]; exact hn245_1) | (show (Addr.add _ _).block ≠ _; rw [add_block]; exact hn245_1) | exact hn245_1) (.int .i64 ((qad l0 x17_1).f1))).trans hx245_2; replace hx245_3 := (cell_far (p := ⟨gb244, 1, none⟩) (by first | (rw [add_block]; exact hn245_1) | (show (Addr.add _ _).block ≠ _; rw [add_block]; exact hn245_1) | exact hn245_1) (.int .i64 ((qad l0 x17_1).f1))).trans hx245_3; replace hx245_0 := (cell_far (p := ⟨gb244, 2, none⟩) (by first | (rw [add_block]; exact hn245_2) | (show (Addr.add _ _).block ≠ _; rw [add_block]; exact hn245_2) | exact hn245_2) (.int .i64 ((qad l0 x17_1).f2))).trans hx245_0; replace hx245_1 := (cell_far (p := ⟨gb244, 2, none⟩) (by first | (rw [add_block]; exact hn245_2) | (show (Addr.add _ _).block ≠ _; rw [add_block]; exact hn245_2) | exact hn245_2) (.int .i64 ((qad l0 x17_1).f2))).trans hx245_1; replace hx245_2 := (cell_far (p := ⟨gb244, 2, none⟩) (by first | (rw [add_block]; exact hn245_2) | (show (Addr.add _ _).block ≠ _; rw [add_block]; exact hn245_2) | exact hn245_2) (.int .i64 ((qad l0 x17_1).f2))).trans hx245_2; replace hx245_3 := (cell_far (p := ⟨gb244, 2, none⟩) (by first | (rw [add_block]; exact hn245_2) | (show (Addr.add _ _).block ≠ _; rw [add_block]; exact hn245_2) | exact hn245_2) (.int .i64 ((qad l0 x17_1).f2))).trans hx245_3; replace hx245_0 := (cell_far (p := ⟨gb244, 3, none⟩) (by first | (rw [add_block]; exact hn245_3) | (show (Addr.add _ _).block ≠ _; rw [add_block]; exact hn245_3) | exact hn245_3) (.slice A243_3 ((qad l0 x17_1).f3).length c243_3)).trans hx245_0; replace hx245_1 := (cell_far (p := ⟨gb244, 3, none⟩) (by first | (rw [add_block]; exact hn245_3) | (show (Addr.add _ _).block ≠ _; rw [add_block]; exact hn245_3) | exact hn245_3) (.slice A243_3 ((qad l0 x17_1).f3).length c243_3)).trans hx245_1; replace hx245_2 := (cell_far (p := ⟨gb244, 3, none⟩) (by first | (rw [add_block]; exact hn245_3) | (show (Addr.add _ _).block ≠ _; rw [add_block]; exact hn245_3) | exact hn245_3) (.slice A243_3 ((qad l0 x17_1).f3).length c243_3)).trans hx245_2; replace hx245_3 := (cell_far (p := ⟨gb244, 3, none⟩) (by first | (rw [add_block]; exact hn245_3) | (show (Addr.add _ _).block ≠ _; rw [add_block]; exact hn245_3) | exact hn245_3) (.slice A243_3 ((qad l0 x17_1).f3).length c243_3)).trans hx245_3; (try have hy245_0 := fun (n_ : Nat) => (show ((((((w9.drewN n_).setCell ⟨gb244, 0, none⟩ (.int .i64 ((qad l0 x17_1).f0))).setCell ⟨gb244, 1, none⟩ (.int .i64 ((qad l0 x17_1).f1))).setCell ⟨gb244, 2, none⟩ (.int .i64 ((qad l0 x17_1).f2))).setCell ⟨gb244, 3, none⟩ (.slice A243_3 ((qad l0 x17_1).f3).length c243_3))).cell? _ = some _ from hx245_0)); (try have hy245_1 := fun (n_ : Nat) => (show ((((((w9.drewN n_).setCell ⟨gb244, 0, none⟩ (.int .i64 ((qad l0 x17_1).f0))).setCell ⟨gb244, 1, none⟩ (.int .i64 ((qad l0 x17_1).f1))).setCell ⟨gb244, 2, none⟩ (.int .i64 ((qad l0 x17_1).f2))).setCell ⟨gb244, 3, none⟩ (.slice A243_3 ((qad l0 x17_1).f3).length c243_3))).cell? _ = some _ from hx245_1)); (try have hy245_2 := fun (n_ : Nat) => (show ((((((w9.drewN n_).setCell ⟨gb244, 0, none⟩ (.int .i64 ((qad l0 x17_1).f0))).setCell ⟨gb244, 1, none⟩ (.int .i64 ((qad l0 x17_1).f1))).setCell ⟨gb244, 2, none⟩ (.int .i64 ((qad l0 x17_1).f2))).setCell ⟨gb244, 3, none⟩ (.slice A243_3 ((qad l0 x17_1).f3).length c243_3))).cell? _ = some _ from hx245_2)); (try have hy245_3 := fun (n_ : Nat) => (show ((((((w9.drewN n_).setCell ⟨gb244, 0, none⟩ (.int .i64 ((qad l0 x17_1).f0))).setCell ⟨gb244, 1, none⟩ (.int .i64 ((qad l0 x17_1).f1))).setCell ⟨gb244, 2, none⟩ (.int .i64 ((qad l0 x17_1).f2))).setCell ⟨gb244, 3, none⟩ (.slice A243_3 ((qad l0 x17_1).f3).length c243_3))).cell? _ = some _ from hx245_3)); clear hn245_0; clear hn245_1; clear hn245_2; clear hn245_3; replace p245 := eq_true p245; replace q245 := eq_true q245) | ((with_reducible refine qat (N := 7) rfl ?_); (try (refine qa7 (by rfl) ?_; dsimp only)); refine qas ?hg (N := 7) ?hd (cs := #[.int .i64 0, .int .i64 0, .int .i64 0, .slice none 0 0]) (t := 38) ?hr ?_; (case hd => rfl); (case hg => rfl); (case hr => first | (go_simp; done) | (go_simp; rfl)); intro gb246 hg w11 hbox hb; have n0_ := Aside0.mk (qar (g := gb244) (o := .cells #[.int .i64 ((qad l0 x17_1).f0), .int .i64 ((qad l0 x17_1).f1), .int .i64 ((qad l0 x17_1).f2), .slice A243_3 ((qad l0 x17_1).f3).length c243_3] 38 (0, 0)) (by (with_reducible repeat (first | refine qaf ?_ _ | refine qaj ?_ | refine qag ?_ _)); refine qaq (cs := #[.int .i64 ((qad l0 x17_1).f0), .int .i64 ((qad l0 x17_1).f1), .int .i64 ((qad l0 x17_1).f2), .slice none 0 0]) ?_ 3 _ rfl; (with_reducible repeat (first | refine qaf ?_ _ | refine qaj ?_ | refine qag ?_ _)); refine qaq (cs := #[.int .i64 ((qad l0 x17_1).f0), .int .i64 ((qad l0 x17_1).f1), .int .i64 0, .slice none 0 0]) ?_ 2 _ rfl; (with_reducible repeat (first | refine qaf ?_ _ | refine qaj ?_ | refine qag ?_ _)); refine qaq (cs := #[.int .i64 ((qad l0 x17_1).f0), .int .i64 0, .int .i64 0, .slice none 0 0]) ?_ 1 _ rfl; (with_reducible repeat (first | refine qaf ?_ _ | refine qaj ?_ | refine qag ?_ _)); refine qaq (cs := #[.int .i64 0, .int .i64 0, .int .i64 0, .slice none 0 0]) ?_ 0 _ rfl; (with_reducible repeat (first | refine qaf ?_ _ | refine qaj ?_ | refine qag ?_ _)); exact BK244.out) hb); have n1_ := Aside0.mk (qal (by repeat (first | (with_reducible first | exact HB.out | apply qab | apply qaa | apply qac | refine qai ?_ GE244.out) | exact HB.out)) hb); have n2_ := Aside0.mk (hbox); have n3_ := Aside0.mk ((by rw [hg]; exact (qak (by repeat (first | (with_reducible first | exact HB.out | apply qab | apply qaa | apply qac | refine qai ?_ GE244.out) | exact HB.out))) : w.heap.size ≤ gb246)); have n4_ := Aside0.mk ((by rw [hg]; exact (qak (by repeat (first | (with_reducible first | exact HB.out | apply qab | apply qaa | apply qac | refine qai ?_ GE244.out) | exact HB.out))) : w.heap.size ≤ gb246)); have n5_ := Aside0.mk ((by rw [hg]; exact Nat.ne_of_lt (qa4 (g := gb244) (o := .cells #[.int .i64 ((qad l0 x17_1).f0), .int .i64 ((qad l0 x17_1).f1), .int .i64 ((qad l0 x17_1).f2), .slice A243_3 ((qad l0 x17_1).f3).length c243_3] 38 (0, 0)) (by (with_reducible repeat (first | refine qaf ?_ _ | refine qaj ?_ | refine qag ?_ _)); refine qaq (cs := #[.int .i64 ((qad l0 x17_1).f0), .int .i64 ((qad l0 x17_1).f1), .int .i64 ((qad l0 x17_1).f2), .slice none 0 0]) ?_ 3 _ rfl; (with_reducible repeat (first | refine qaf ?_ _ | refine qaj ?_ | refine qag ?_ _)); refine qaq (cs := #[.int .i64 ((qad l0 x17_1).f0), .int .i64 ((qad l0 x17_1).f1), .int .i64 0, .slice none 0 0]) ?_ 2 _ rfl; (with_reducible repeat (first | refine qaf ?_ _ | refine qaj ?_ | refine qag ?_ _)); refine qaq (cs := #[.int .i64 ((qad l0 x17_1).f0), .int .i64 0, .int .i64 0, .slice none 0 0]) ?_ 1 _ rfl; (with_reducible repeat (first | refine qaf ?_ _ | refine qaj ?_ | refine qag ?_ _)); refine qaq (cs := #[.int .i64 0, .int .i64 0, .int .i64 0, .slice none 0 0]) ?_ 0 _ rfl; (with_reducible repeat (first | refine qaf ?_ _ | refine qaj ?_ | refine qag ?_ _)); exact BK244.out)) : gb244 ≠ gb246)); have n6_ := Aside0.mk ((by rw [hg]; exact Nat.ne_of_gt (qa4 (g := gb244) (o := .cells #[.int .i64 ((qad l0 x17_1).f0), .int .i64 ((qad l0 x17_1).f1), .int .i64 ((qad l0 x17_1).f2), .slice A243_3 ((qad l0 x17_1).f3).length c243_3] 38 (0, 0)) (by (with_reducible repeat (first | refine qaf ?_ _ | refine qaj ?_ | refine qag ?_ _)); refine qaq (cs := #[.int .i64 ((qad l0 x17_1).f0), .int .i64 ((qad l0 x17_1).f1), .int .i64 ((qad l0 x17_1).f2), .slice none 0 0]) ?_ 3 _ rfl; (with_reducible repeat (first | refine qaf ?_ _ | refine qaj ?_ | refine qag ?_ _)); refine qaq (cs := #[.int .i64 ((qad l0 x17_1).f0), .int .i64 ((qad l0 x17_1).f1), .int .i64 0, .slice none 0 0]) ?_ 2 _ rfl; (with_reducible repeat (first | refine qaf ?_ _ | refine qaj ?_ | refine qag ?_ _)); refine qaq (cs := #[.int .i64 ((qad l0 x17_1).f0), .int .i64 0, .int .i64 0, .slice none 0 0]) ?_ 1 _ rfl; (with_reducible repeat (first | refine qaf ?_ _ | refine qaj ?_ | refine qag ?_ _)); refine qaq (cs := #[.int .i64 0, .int .i64 0, .int .i64 0, .slice none 0 0]) ?_ 0 _ rfl; (with_reducible repeat (first | refine qaf ?_ _ | refine qaj ?_ | refine qag ?_ _)); exact BK244.out)) : gb246 ≠ gb244)); clear BK244; clear HB; have BK244 := n0_; have HB := n1_; have BK246 := n2_; have GW246 := n3_; have GE246 := n4_; have NB244_246 := n5_; have NB246_244 := n6_; clear n0_ n1_ n2_ n3_ n4_ n5_ n6_; clear hb hbox hg; have hnb12 := NB246_244.out; have hnc12 := NB244_246.out; have hcz13_0 : w11.cell? ⟨gb246, 0, none⟩ = some (.int .i64 0) := (qah BK246.out 0).trans rfl; have hcz13_1 : w11.cell? ⟨gb246, 1, none⟩ = some (.int .i64 0) := (qah BK246.out 1).trans rfl; have hcz13_2 : w11.cell? ⟨gb246, 2, none⟩ = some (.int .i64 0) := (qah BK246.out 2).trans rfl; have hcz13_3 : w11.cell? ⟨gb246, 3, none⟩ = some (.slice none 0 0) := (qah BK246.out 3).trans rfl; have hfz13_0 := qae BK246.out 0; have hfz13_1 := qae BK246.out 1; have hfz13_2 := qae BK246.out 2; have hfz13_3 := qae BK246.out 3))
        repeat (go_quiet (first | ((with_reducible refine qat (N := 6) rfl ?_); (try (refine qa7 (by rfl) ?_; dsimp only)); refine qas ?hg (N := 6) ?hd (cs := #[.int .i64 0, .int .i64 0, .int .i64 0, .slice none 0 0]) (t := 38) ?hr ?_; (case hd => rfl); (case hg => rfl); (case hr => first | (go_simp; done) | (go_simp; rfl)); intro gb244 hg w9 hbox hb; have n0_ := Aside0.mk (qal (by repeat (first | (with_reducible first | exact HB.out | apply qab | apply qaa | apply qac) | exact HB.out)) hb); have n1_ := Aside0.mk (hbox); have n2_ := Aside0.mk ((by rw [hg]; exact (qak (by repeat (first | (with_reducible first | exact HB.out | apply qab | apply qaa | apply qac) | exact HB.out))) : w.heap.size ≤ gb244)); have n3_ := Aside0.mk ((by rw [hg]; exact (qak (by repeat (first | (with_reducible first | exact HB.out | apply qab | apply qaa | apply qac) | exact HB.out))) : w.heap.size ≤ gb244)); clear HB; have HB := n0_; have BK244 := n1_; have GW244 := n2_; have GE244 := n3_; clear n0_ n1_ n2_ n3_; clear hb hbox hg; have hcz10_0 : w9.cell? ⟨gb244, 0, none⟩ = some (.int .i64 0) := (qah BK244.out 0).trans rfl; have hcz10_1 : w9.cell? ⟨gb244, 1, none⟩ = some (.int .i64 0) := (qah BK244.out 1).trans rfl; have hcz10_2 : w9.cell? ⟨gb244, 2, none⟩ = some (.int .i64 0) := (qah BK244.out 2).trans rfl; have hcz10_3 : w9.cell? ⟨gb244, 3, none⟩ = some (.slice none 0 0) := (qah BK244.out 3).trans rfl; have hfz10_0 := qae BK244.out 0; have hfz10_1 := qae BK244.out 1; have hfz10_2 := qae BK244.out 2; have hfz10_3 := qae BK244.out 3; have p245 : 0 ≤ (x17_1 : Int) := of_decide_eq_true (by first | (with_reducible assumption) | assumption); have q245 : x17_1 < (l1.length : Int) := of_decide_eq_true (by first | (with_reducible assumption) | assumption); obtain ⟨ad245, A245_3, c245_3, e245, hx245_0, hx245_1, hx245_2, hx245_3, hl245_3, hi245_3⟩ := qbi HR1.out x17_1 p245 q245; cases e245; have hn245_0 : ad245.block ≠ gb244 := Nat.ne_of_lt (Nat.lt_of_lt_of_le (by have := World.block_lt_of_cell? _ _ hx245_0; first | rwa [add_block] at this | exact this) GW244.out); have hn245_1 : ad245.block ≠ gb244 := Nat.ne_of_lt (Nat.lt_of_lt_of_le (by have := World.block_lt_of_cell? _ _ hx245_0; first | rwa [add_block] at this | exact this) GW244.out); have hn245_2 : ad245.block ≠ gb244 := Nat.ne_of_lt (Nat.lt_of_lt_of_le (by have := World.block_lt_of_cell? _ _ hx245_0; first | rwa [add_block] at this | exact this) GW244.out); have hn245_3 : ad245.block ≠ gb244 := Nat.ne_of_lt (Nat.lt_of_lt_of_le (by have := World.block_lt_of_cell? _ _ hx245_0; first | rwa [add_block] at this | exact this) GW244.out); replace hx245_0 := (HB.out.cell (World.block_lt_of_cell? w _ hx245_0)).trans hx245_0; replace hx245_1 := (HB.out.cell (World.block_lt_of_cell? w _ hx245_1)).trans hx245_1; replace hx245_2 := (HB.out.cell (World.block_lt_of_cell? w _ hx245_2)).trans hx245_2; replace hx245_3 := (HB.out.cell (World.block_lt_of_cell? w _ hx245_3)).trans hx245_3; have HR245_3 := Aside0.mk hi245_3; have HC245_3 := Aside0.mk hl245_3; clear hi245_3 hl245_3; replace hx245_0 := (cell_far (p := ⟨gb244, 0, none⟩) (by first | (rw [add_block]; exact hn245_0) | (show (Addr.add _ _).block ≠ _; rw [add_block]; exact hn245_0) | exact hn245_0) (.int .i64 ((qad l0 x17_1).f0))).trans hx245_0; replace hx245_1 := (cell_far (p := ⟨gb244, 0, none⟩) (by first | (rw [add_block]; exact hn245_0) | (show (Addr.add _ _).block ≠ _; rw [add_block]; exact hn245_0) | exact hn245_0) (.int .i64 ((qad l0 x17_1).f0))).trans hx245_1; replace hx245_2 := (cell_far (p := ⟨gb244, 0, none⟩) (by first | (rw [add_block]; exact hn245_0) | (show (Addr.add _ _).block ≠ _; rw [add_block]; exact hn245_0) | exact hn245_0) (.int .i64 ((qad l0 x17_1).f0))).trans hx245_2; replace hx245_3 := (cell_far (p := ⟨gb244, 0, none⟩) (by first | (rw [add_block]; exact hn245_0) | (show (Addr.add _ _).block ≠ _; rw [add_block]; exact hn245_0) | exact hn245_0) (.int .i64 ((qad l0 x17_1).f0))).trans hx245_3; replace hx245_0 := (cell_far (p := ⟨gb244, 1, none⟩) (by first | (rw [add_block]; exact hn245_1) | (show (Addr.add _ _).block ≠ _; rw [add_block]; exact hn245_1) | exact hn245_1) (.int .i64 ((qad l0 x17_1).f1))).trans hx245_0; replace hx245_1 := (cell_far (p := ⟨gb244, 1, none⟩) (by first | (rw [add_block]; exact hn245_1) | (show (Addr.add _ _).block ≠ _; rw [add_block]; exact hn245_1) | exact hn245_1) (.int .i64 ((qad l0 x17_1).f1))).trans hx245_1; replace hx245_2 := (cell_far (p := ⟨gb244, 1, none⟩) (by first | (rw [add_block]; exact hn245_1) | (show (Addr.add _ _).block ≠ _; rw [add_block]; exact hn245_1) | exact hn245_1) (.int .i64 ((qad l0 x17_1).f1))).trans hx245_2; replace hx245_3 := (cell_far (p := ⟨gb244, 1, none⟩) (by first | (rw [add_block]; exact hn245_1) | (show (Addr.add _ _).block ≠ _; rw [add_block]; exact hn245_1) | exact hn245_1) (.int .i64 ((qad l0 x17_1).f1))).trans hx245_3; replace hx245_0 := (cell_far (p := ⟨gb244, 2, none⟩) (by first | (rw [add_block]; exact hn245_2) | (show (Addr.add _ _).block ≠ _; rw [add_block]; exact hn245_2) | exact hn245_2) (.int .i64 ((qad l0 x17_1).f2))).trans hx245_0; replace hx245_1 := (cell_far (p := ⟨gb244, 2, none⟩) (by first | (rw [add_block]; exact hn245_2) | (show (Addr.add _ _).block ≠ _; rw [add_block]; exact hn245_2) | exact hn245_2) (.int .i64 ((qad l0 x17_1).f2))).trans hx245_1; replace hx245_2 := (cell_far (p := ⟨gb244, 2, none⟩) (by first | (rw [add_block]; exact hn245_2) | (show (Addr.add _ _).block ≠ _; rw [add_block]; exact hn245_2) | exact hn245_2) (.int .i64 ((qad l0 x17_1).f2))).trans hx245_2; replace hx245_3 := (cell_far (p := ⟨gb244, 2, none⟩) (by first | (rw [add_block]; exact hn245_2) | (show (Addr.add _ _).block ≠ _; rw [add_block]; exact hn245_2) | exact hn245_2) (.int .i64 ((qad l0 x17_1).f2))).trans hx245_3; replace hx245_0 := (cell_far (p := ⟨gb244, 3, none⟩) (by first | (rw [add_block]; exact hn245_3) | (show (Addr.add _ _).block ≠ _; rw [add_block]; exact hn245_3) | exact hn245_3) (.slice A243_3 ((qad l0 x17_1).f3).length c243_3)).trans hx245_0; replace hx245_1 := (cell_far (p := ⟨gb244, 3, none⟩) (by first | (rw [add_block]; exact hn245_3) | (show (Addr.add _ _).block ≠ _; rw [add_block]; exact hn245_3) | exact hn245_3) (.slice A243_3 ((qad l0 x17_1).f3).length c243_3)).trans hx245_1; replace hx245_2 := (cell_far (p := ⟨gb244, 3, none⟩) (by first | (rw [add_block]; exact hn245_3) | (show (Addr.add _ _).block ≠ _; rw [add_block]; exact hn245_3) | exact hn245_3) (.slice A243_3 ((qad l0 x17_1).f3).length c243_3)).trans hx245_2; replace hx245_3 := (cell_far (p := ⟨gb244, 3, none⟩) (by first | (rw [add_block]; exact hn245_3) | (show (Addr.add _ _).block ≠ _; rw [add_block]; exact hn245_3) | exact hn245_3) (.slice A243_3 ((qad l0 x17_1).f3).length c243_3)).trans hx245_3; (try have hy245_0 := fun (n_ : Nat) => (show ((((((w9.drewN n_).setCell ⟨gb244, 0, none⟩ (.int .i64 ((qad l0 x17_1).f0))).setCell ⟨gb244, 1, none⟩ (.int .i64 ((qad l0 x17_1).f1))).setCell ⟨gb244, 2, none⟩ (.int .i64 ((qad l0 x17_1).f2))).setCell ⟨gb244, 3, none⟩ (.slice A243_3 ((qad l0 x17_1).f3).length c243_3))).cell? _ = some _ from hx245_0)); (try have hy245_1 := fun (n_ : Nat) => (show ((((((w9.drewN n_).setCell ⟨gb244, 0, none⟩ (.int .i64 ((qad l0 x17_1).f0))).setCell ⟨gb244, 1, none⟩ (.int .i64 ((qad l0 x17_1).f1))).setCell ⟨gb244, 2, none⟩ (.int .i64 ((qad l0 x17_1).f2))).setCell ⟨gb244, 3, none⟩ (.slice A243_3 ((qad l0 x17_1).f3).length c243_3))).cell? _ = some _ from hx245_1)); (try have hy245_2 := fun (n_ : Nat) => (show ((((((w9.drewN n_).setCell ⟨gb244, 0, none⟩ (.int .i64 ((qad l0 x17_1).f0))).setCell ⟨gb244, 1, none⟩ (.int .i64 ((qad l0 x17_1).f1))).setCell ⟨gb244, 2, none⟩ (.int .i64 ((qad l0 x17_1).f2))).setCell ⟨gb244, 3, none⟩ (.slice A243_3 ((qad l0 x17_1).f3).length c243_3))).cell? _ = some _ from hx245_2)); (try have hy245_3 := fun (n_ : Nat) => (show ((((((w9.drewN n_).setCell ⟨gb244, 0, none⟩ (.int .i64 ((qad l0 x17_1).f0))).setCell ⟨gb244, 1, none⟩ (.int .i64 ((qad l0 x17_1).f1))).setCell ⟨gb244, 2, none⟩ (.int .i64 ((qad l0 x17_1).f2))).setCell ⟨gb244, 3, none⟩ (.slice A243_3 ((qad l0 x17_1).f3).length c243_3))).cell? _ = some _ from hx245_3)); clear hn245_0; clear hn245_1; clear hn245_2; clear hn245_3; replace p245 := eq_true p245; replace q245 := eq_true q245) | ((with_reducible refine qat (N := 7) rfl ?_); (try (refine qa7 (by rfl) ?_; dsimp only)); refine qas ?hg (N := 7) ?hd (cs := #[.int .i64 0, .int .i64 0, .int .i64 0, .slice none 0 0]) (t := 38) ?hr ?_; (case hd => rfl); (case hg => rfl); (case hr => first | (go_simp; done) | (go_simp; rfl)); intro gb246 hg w11 hbox hb; have n0_ := Aside0.mk (qar (g := gb244) (o := .cells #[.int .i64 ((qad l0 x17_1).f0), .int .i64 ((qad l0 x17_1).f1), .int .i64 ((qad l0 x17_1).f2), .slice A243_3 ((qad l0 x17_1).f3).length c243_3] 38 (0, 0)) (by (with_reducible repeat (first | refine qaf ?_ _ | refine qaj ?_ | refine qag ?_ _)); refine qaq (cs := #[.int .i64 ((qad l0 x17_1).f0), .int .i64 ((qad l0 x17_1).f1), .int .i64 ((qad l0 x17_1).f2), .slice none 0 0]) ?_ 3 _ rfl; (with_reducible repeat (first | refine qaf ?_ _ | refine qaj ?_ | refine qag ?_ _)); refine qaq (cs := #[.int .i64 ((qad l0 x17_1).f0), .int .i64 ((qad l0 x17_1).f1), .int .i64 0, .slice none 0 0]) ?_ 2 _ rfl; (with_reducible repeat (first | refine qaf ?_ _ | refine qaj ?_ | refine qag ?_ _)); refine qaq (cs := #[.int .i64 ((qad l0 x17_1).f0), .int .i64 0, .int .i64 0, .slice none 0 0]) ?_ 1 _ rfl; (with_reducible repeat (first | refine qaf ?_ _ | refine qaj ?_ | refine qag ?_ _)); refine qaq (cs := #[.int .i64 0, .int .i64 0, .int .i64 0, .slice none 0 0]) ?_ 0 _ rfl; (with_reducible repeat (first | refine qaf ?_ _ | refine qaj ?_ | refine qag ?_ _)); exact BK244.out) hb); have n1_ := Aside0.mk (qal (by repeat (first | (with_reducible first | exact HB.out | apply qab | apply qaa | apply qac | refine qai ?_ GE244.out) | exact HB.out)) hb); have n2_ := Aside0.mk (hbox); have n3_ := Aside0.mk ((by rw [hg]; exact (qak (by repeat (first | (with_reducible first | exact HB.out | apply qab | apply qaa | apply qac | refine qai ?_ GE244.out) | exact HB.out))) : w.heap.size ≤ gb246)); have n4_ := Aside0.mk ((by rw [hg]; exact (qak (by repeat (first | (with_reducible first | exact HB.out | apply qab | apply qaa | apply qac | refine qai ?_ GE244.out) | exact HB.out))) : w.heap.size ≤ gb246)); have n5_ := Aside0.mk ((by rw [hg]; exact Nat.ne_of_lt (qa4 (g := gb244) (o := .cells #[.int .i64 ((qad l0 x17_1).f0), .int .i64 ((qad l0 x17_1).f1), .int .i64 ((qad l0 x17_1).f2), .slice A243_3 ((qad l0 x17_1).f3).length c243_3] 38 (0, 0)) (by (with_reducible repeat (first | refine qaf ?_ _ | refine qaj ?_ | refine qag ?_ _)); refine qaq (cs := #[.int .i64 ((qad l0 x17_1).f0), .int .i64 ((qad l0 x17_1).f1), .int .i64 ((qad l0 x17_1).f2), .slice none 0 0]) ?_ 3 _ rfl; (with_reducible repeat (first | refine qaf ?_ _ | refine qaj ?_ | refine qag ?_ _)); refine qaq (cs := #[.int .i64 ((qad l0 x17_1).f0), .int .i64 ((qad l0 x17_1).f1), .int .i64 0, .slice none 0 0]) ?_ 2 _ rfl; (with_reducible repeat (first | refine qaf ?_ _ | refine qaj ?_ | refine qag ?_ _)); refine qaq (cs := #[.int .i64 ((qad l0 x17_1).f0), .int .i64 0, .int .i64 0, .slice none 0 0]) ?_ 1 _ rfl; (with_reducible repeat (first | refine qaf ?_ _ | refine qaj ?_ | refine qag ?_ _)); refine qaq (cs := #[.int .i64 0, .int .i64 0, .int .i64 0, .slice none 0 0]) ?_ 0 _ rfl; (with_reducible repeat (first | refine qaf ?_ _ | refine qaj ?_ | refine qag ?_ _)); exact BK244.out)) : gb244 ≠ gb246)); have n6_ := Aside0.mk ((by rw [hg]; exact Nat.ne_of_gt (qa4 (g := gb244) (o := .cells #[.int .i64 ((qad l0 x17_1).f0), .int .i64 ((qad l0 x17_1).f1), .int .i64 ((qad l0 x17_1).f2), .slice A243_3 ((qad l0 x17_1).f3).length c243_3] 38 (0, 0)) (by (with_reducible repeat (first | refine qaf ?_ _ | refine qaj ?_ | refine qag ?_ _)); refine qaq (cs := #[.int .i64 ((qad l0 x17_1).f0), .int .i64 ((qad l0 x17_1).f1), .int .i64 ((qad l0 x17_1).f2), .slice none 0 0]) ?_ 3 _ rfl; (with_reducible repeat (first | refine qaf ?_ _ | refine qaj ?_ | refine qag ?_ _)); refine qaq (cs := #[.int .i64 ((qad l0 x17_1).f0), .int .i64 ((qad l0 x17_1).f1), .int .i64 0, .slice none 0 0]) ?_ 2 _ rfl; (with_reducible repeat (first | refine qaf ?_ _ | refine qaj ?_ | refine qag ?_ _)); refine qaq (cs := #[.int .i64 ((qad l0 x17_1).f0), .int .i64 0, .int .i64 0, .slice none 0 0]) ?_ 1 _ rfl; (with_reducible repeat (first | refine qaf ?_ _ | refine qaj ?_ | refine qag ?_ _)); refine qaq (cs := #[.int .i64 0, .int .i64 0, .int .i64 0, .slice none 0 0]) ?_ 0 _ rfl; (with_reducible repeat (first | refine qaf ?_ _ | refine qaj ?_ | refine qag ?_ _)); exact BK244.out)) : gb246 ≠ gb244)); clear BK244; clear HB; have BK244 := n0_; have HB := n1_; have BK246 := n2_; have GW246 := n3_; have GE246 := n4_; have NB244_246 := n5_; have NB246_244 := n6_; clear n0_ n1_ n2_ n3_ n4_ n5_ n6_; clear hb hbox hg; have hnb12 := NB246_244.out; have hnc12 := NB244_246.out; have hcz13_0 : w11.cell? ⟨gb246, 0, none⟩ = some (.int .i64 0) := (qah BK246.out 0).trans rfl; have hcz13_1 : w11.cell? ⟨gb246, 1, none⟩ = some (.int .i64 0) := (qah BK246.out 1).trans rfl; have hcz13_2 : w11.cell? ⟨gb246, 2, none⟩ = some (.int .i64 0) := (qah BK246.out 2).trans rfl; have hcz13_3 : w11.cell? ⟨gb246, 3, none⟩ = some (.slice none 0 0) := (qah BK246.out 3).trans rfl; have hfz13_0 := qae BK246.out 0; have hfz13_1 := qae BK246.out 1; have hfz13_2 := qae BK246.out 2; have hfz13_3 := qae BK246.out 3)); go_upto_region 7 with (first | ((with_reducible refine qat (N := 6) rfl ?_); (try (refine qa7 (by rfl) ?_; dsimp only)); refine qas ?hg (N := 6) ?hd (cs := #[.int .i64 0, .int .i64 0, .int .i64 0, .slice none 0 0]) (t := 38) ?hr ?_; (case hd => rfl); (case hg => rfl); (case hr => first | (go_simp; done) | (go_simp; rfl)); intro gb244 hg w9 hbox hb; have n0_ := Aside0.mk (qal (by repeat (first | (with_reducible first | exact HB.out | apply qab | apply qaa | apply qac) | exact HB.out)) hb); have n1_ := Aside0.mk (hbox); have n2_ := Aside0.mk ((by rw [hg]; exact (qak (by repeat (first | (with_reducible first | exact HB.out | apply qab | apply qaa | apply qac) | exact HB.out))) : w.heap.size ≤ gb244)); have n3_ := Aside0.mk ((by rw [hg]; exact (qak (by repeat (first | (with_reducible first | exact HB.out | apply qab | apply qaa | apply qac) | exact HB.out))) : w.heap.size ≤ gb244)); clear HB; have HB := n0_; have BK244 := n1_; have GW244 := n2_; have GE244 := n3_; clear n0_ n1_ n2_ n3_; clear hb hbox hg; have hcz10_0 : w9.cell? ⟨gb244, 0, none⟩ = some (.int .i64 0) := (qah BK244.out 0).trans rfl; have hcz10_1 : w9.cell? ⟨gb244, 1, none⟩ = some (.int .i64 0) := (qah BK244.out 1).trans rfl; have hcz10_2 : w9.cell? ⟨gb244, 2, none⟩ = some (.int .i64 0) := (qah BK244.out 2).trans rfl; have hcz10_3 : w9.cell? ⟨gb244, 3, none⟩ = some (.slice none 0 0) := (qah BK244.out 3).trans rfl; have hfz10_0 := qae BK244.out 0; have hfz10_1 := qae BK244.out 1; have hfz10_2 := qae BK244.out 2; have hfz10_3 := qae BK244.out 3; have p245 : 0 ≤ (x17_1 : Int) := of_decide_eq_true (by first | (with_reducible assumption) | assumption); have q245 : x17_1 < (l1.length : Int) := of_decide_eq_true (by first | (with_reducible assumption) | assumption); obtain ⟨ad245, A245_3, c245_3, e245, hx245_0, hx245_1, hx245_2, hx245_3, hl245_3, hi245_3⟩ := qbi HR1.out x17_1 p245 q245; cases e245; have hn245_0 : ad245.block ≠ gb244 := Nat.ne_of_lt (Nat.lt_of_lt_of_le (by have := World.block_lt_of_cell? _ _ hx245_0; first | rwa [add_block] at this | exact this) GW244.out); have hn245_1 : ad245.block ≠ gb244 := Nat.ne_of_lt (Nat.lt_of_lt_of_le (by have := World.block_lt_of_cell? _ _ hx245_0; first | rwa [add_block] at this | exact this) GW244.out); have hn245_2 : ad245.block ≠ gb244 := Nat.ne_of_lt (Nat.lt_of_lt_of_le (by have := World.block_lt_of_cell? _ _ hx245_0; first | rwa [add_block] at this | exact this) GW244.out); have hn245_3 : ad245.block ≠ gb244 := Nat.ne_of_lt (Nat.lt_of_lt_of_le (by have := World.block_lt_of_cell? _ _ hx245_0; first | rwa [add_block] at this | exact this) GW244.out); replace hx245_0 := (HB.out.cell (World.block_lt_of_cell? w _ hx245_0)).trans hx245_0; replace hx245_1 := (HB.out.cell (World.block_lt_of_cell? w _ hx245_1)).trans hx245_1; replace hx245_2 := (HB.out.cell (World.block_lt_of_cell? w _ hx245_2)).trans hx245_2; replace hx245_3 := (HB.out.cell (World.block_lt_of_cell? w _ hx245_3)).trans hx245_3; have HR245_3 := Aside0.mk hi245_3; have HC245_3 := Aside0.mk hl245_3; clear hi245_3 hl245_3; replace hx245_0 := (cell_far (p := ⟨gb244, 0, none⟩) (by first | (rw [add_block]; exact hn245_0) | (show (Addr.add _ _).block ≠ _; rw [add_block]; exact hn245_0) | exact hn245_0) (.int .i64 ((qad l0 x17_1).f0))).trans hx245_0; replace hx245_1 := (cell_far (p := ⟨gb244, 0, none⟩) (by first | (rw [add_block]; exact hn245_0) | (show (Addr.add _ _).block ≠ _; rw [add_block]; exact hn245_0) | exact hn245_0) (.int .i64 ((qad l0 x17_1).f0))).trans hx245_1; replace hx245_2 := (cell_far (p := ⟨gb244, 0, none⟩) (by first | (rw [add_block]; exact hn245_0) | (show (Addr.add _ _).block ≠ _; rw [add_block]; exact hn245_0) | exact hn245_0) (.int .i64 ((qad l0 x17_1).f0))).trans hx245_2; replace hx245_3 := (cell_far (p := ⟨gb244, 0, none⟩) (by first | (rw [add_block]; exact hn245_0) | (show (Addr.add _ _).block ≠ _; rw [add_block]; exact hn245_0) | exact hn245_0) (.int .i64 ((qad l0 x17_1).f0))).trans hx245_3; replace hx245_0 := (cell_far (p := ⟨gb244, 1, none⟩) (by first | (rw [add_block]; exact hn245_1) | (show (Addr.add _ _).block ≠ _; rw [add_block]; exact hn245_1) | exact hn245_1) (.int .i64 ((qad l0 x17_1).f1))).trans hx245_0; replace hx245_1 := (cell_far (p := ⟨gb244, 1, none⟩) (by first | (rw [add_block]; exact hn245_1) | (show (Addr.add _ _).block ≠ _; rw [add_block]; exact hn245_1) | exact hn245_1) (.int .i64 ((qad l0 x17_1).f1))).trans hx245_1; replace hx245_2 := (cell_far (p := ⟨gb244, 1, none⟩) (by first | (rw [add_block]; exact hn245_1) | (show (Addr.add _ _).block ≠ _; rw [add_block]; exact hn245_1) | exact hn245_1) (.int .i64 ((qad l0 x17_1).f1))).trans hx245_2; replace hx245_3 := (cell_far (p := ⟨gb244, 1, none⟩) (by first | (rw [add_block]; exact hn245_1) | (show (Addr.add _ _).block ≠ _; rw [add_block]; exact hn245_1) | exact hn245_1) (.int .i64 ((qad l0 x17_1).f1))).trans hx245_3; replace hx245_0 := (cell_far (p := ⟨gb244, 2, none⟩) (by first | (rw [add_block]; exact hn245_2) | (show (Addr.add _ _).block ≠ _; rw [add_block]; exact hn245_2) | exact hn245_2) (.int .i64 ((qad l0 x17_1).f2))).trans hx245_0; replace hx245_1 := (cell_far (p := ⟨gb244, 2, none⟩) (by first | (rw [add_block]; exact hn245_2) | (show (Addr.add _ _).block ≠ _; rw [add_block]; exact hn245_2) | exact hn245_2) (.int .i64 ((qad l0 x17_1).f2))).trans hx245_1; replace hx245_2 := (cell_far (p := ⟨gb244, 2, none⟩) (by first | (rw [add_block]; exact hn245_2) | (show (Addr.add _ _).block ≠ _; rw [add_block]; exact hn245_2) | exact hn245_2) (.int .i64 ((qad l0 x17_1).f2))).trans hx245_2; replace hx245_3 := (cell_far (p := ⟨gb244, 2, none⟩) (by first | (rw [add_block]; exact hn245_2) | (show (Addr.add _ _).block ≠ _; rw [add_block]; exact hn245_2) | exact hn245_2) (.int .i64 ((qad l0 x17_1).f2))).trans hx245_3; replace hx245_0 := (cell_far (p := ⟨gb244, 3, none⟩) (by first | (rw [add_block]; exact hn245_3) | (show (Addr.add _ _).block ≠ _; rw [add_block]; exact hn245_3) | exact hn245_3) (.slice A243_3 ((qad l0 x17_1).f3).length c243_3)).trans hx245_0; replace hx245_1 := (cell_far (p := ⟨gb244, 3, none⟩) (by first | (rw [add_block]; exact hn245_3) | (show (Addr.add _ _).block ≠ _; rw [add_block]; exact hn245_3) | exact hn245_3) (.slice A243_3 ((qad l0 x17_1).f3).length c243_3)).trans hx245_1; replace hx245_2 := (cell_far (p := ⟨gb244, 3, none⟩) (by first | (rw [add_block]; exact hn245_3) | (show (Addr.add _ _).block ≠ _; rw [add_block]; exact hn245_3) | exact hn245_3) (.slice A243_3 ((qad l0 x17_1).f3).length c243_3)).trans hx245_2; replace hx245_3 := (cell_far (p := ⟨gb244, 3, none⟩) (by first | (rw [add_block]; exact hn245_3) | (show (Addr.add _ _).block ≠ _; rw [add_block]; exact hn245_3) | exact hn245_3) (.slice A243_3 ((qad l0 x17_1).f3).length c243_3)).trans hx245_3; (try have hy245_0 := fun (n_ : Nat) => (show ((((((w9.drewN n_).setCell ⟨gb244, 0, none⟩ (.int .i64 ((qad l0 x17_1).f0))).setCell ⟨gb244, 1, none⟩ (.int .i64 ((qad l0 x17_1).f1))).setCell ⟨gb244, 2, none⟩ (.int .i64 ((qad l0 x17_1).f2))).setCell ⟨gb244, 3, none⟩ (.slice A243_3 ((qad l0 x17_1).f3).length c243_3))).cell? _ = some _ from hx245_0)); (try have hy245_1 := fun (n_ : Nat) => (show ((((((w9.drewN n_).setCell ⟨gb244, 0, none⟩ (.int .i64 ((qad l0 x17_1).f0))).setCell ⟨gb244, 1, none⟩ (.int .i64 ((qad l0 x17_1).f1))).setCell ⟨gb244, 2, none⟩ (.int .i64 ((qad l0 x17_1).f2))).setCell ⟨gb244, 3, none⟩ (.slice A243_3 ((qad l0 x17_1).f3).length c243_3))).cell? _ = some _ from hx245_1)); (try have hy245_2 := fun (n_ : Nat) => (show ((((((w9.drewN n_).setCell ⟨gb244, 0, none⟩ (.int .i64 ((qad l0 x17_1).f0))).setCell ⟨gb244, 1, none⟩ (.int .i64 ((qad l0 x17_1).f1))).setCell ⟨gb244, 2, none⟩ (.int .i64 ((qad l0 x17_1).f2))).setCell ⟨gb244, 3, none⟩ (.slice A243_3 ((qad l0 x17_1).f3).length c243_3))).cell? _ = some _ from hx245_2)); (try have hy245_3 := fun (n_ : Nat) => (show ((((((w9.drewN n_).setCell ⟨gb244, 0, none⟩ (.int .i64 ((qad l0 x17_1).f0))).setCell ⟨gb244, 1, none⟩ (.int .i64 ((qad l0 x17_1).f1))).setCell ⟨gb244, 2, none⟩ (.int .i64 ((qad l0 x17_1).f2))).setCell ⟨gb244, 3, none⟩ (.slice A243_3 ((qad l0 x17_1).f3).length c243_3))).cell? _ = some _ from hx245_3)); clear hn245_0; clear hn245_1; clear hn245_2; clear hn245_3; replace p245 := eq_true p245; replace q245 := eq_true q245) | ((with_reducible refine qat (N := 7) rfl ?_); (try (refine qa7 (by rfl) ?_; dsimp only)); refine qas ?hg (N := 7) ?hd (cs := #[.int .i64 0, .int .i64 0, .int .i64 0, .slice none 0 0]) (t := 38) ?hr ?_; (case hd => rfl); (case hg => rfl); (case hr => first | (go_simp; done) | (go_simp; rfl)); intro gb246 hg w11 hbox hb; have n0_ := Aside0.mk (qar (g := gb244) (o := .cells #[.int .i64 ((qad l0 x17_1).f0), .int .i64 ((qad l0 x17_1).f1), .int .i64 ((qad l0 x17_1).f2), .slice A243_3 ((qad l0 x17_1).f3).length c243_3] 38 (0, 0)) (by (with_reducible repeat (first | refine qaf ?_ _ | refine qaj ?_ | refine qag ?_ _)); refine qaq (cs := #[.int .i64 ((qad l0 x17_1).f0), .int .i64 ((qad l0 x17_1).f1), .int .i64 ((qad l0 x17_1).f2), .slice none 0 0]) ?_ 3 _ rfl; (with_reducible repeat (first | refine qaf ?_ _ | refine qaj ?_ | refine qag ?_ _)); refine qaq (cs := #[.int .i64 ((qad l0 x17_1).f0), .int .i64 ((qad l0 x17_1).f1), .int .i64 0, .slice none 0 0]) ?_ 2 _ rfl; (with_reducible repeat (first | refine qaf ?_ _ | refine qaj ?_ | refine qag ?_ _)); refine qaq (cs := #[.int .i64 ((qad l0 x17_1).f0), .int .i64 0, .int .i64 0, .slice none 0 0]) ?_ 1 _ rfl; (with_reducible repeat (first | refine qaf ?_ _ | refine qaj ?_ | refine qag ?_ _)); refine qaq (cs := #[.int .i64 0, .int .i64 0, .int .i64 0, .slice none 0 0]) ?_ 0 _ rfl; (with_reducible repeat (first | refine qaf ?_ _ | refine qaj ?_ | refine qag ?_ _)); exact BK244.out) hb); have n1_ := Aside0.mk (qal (by repeat (first | (with_reducible first | exact HB.out | apply qab | apply qaa | apply qac | refine qai ?_ GE244.out) | exact HB.out)) hb); have n2_ := Aside0.mk (hbox); have n3_ := Aside0.mk ((by rw [hg]; exact (qak (by repeat (first | (with_reducible first | exact HB.out | apply qab | apply qaa | apply qac | refine qai ?_ GE244.out) | exact HB.out))) : w.heap.size ≤ gb246)); have n4_ := Aside0.mk ((by rw [hg]; exact (qak (by repeat (first | (with_reducible first | exact HB.out | apply qab | apply qaa | apply qac | refine qai ?_ GE244.out) | exact HB.out))) : w.heap.size ≤ gb246)); have n5_ := Aside0.mk ((by rw [hg]; exact Nat.ne_of_lt (qa4 (g := gb244) (o := .cells #[.int .i64 ((qad l0 x17_1).f0), .int .i64 ((qad l0 x17_1).f1), .int .i64 ((qad l0 x17_1).f2), .slice A243_3 ((qad l0 x17_1).f3).length c243_3] 38 (0, 0)) (by (with_reducible repeat (first | refine qaf ?_ _ | refine qaj ?_ | refine qag ?_ _)); refine qaq (cs := #[.int .i64 ((qad l0 x17_1).f0), .int .i64 ((qad l0 x17_1).f1), .int .i64 ((qad l0 x17_1).f2), .slice none 0 0]) ?_ 3 _ rfl; (with_reducible repeat (first | refine qaf ?_ _ | refine qaj ?_ | refine qag ?_ _)); refine qaq (cs := #[.int .i64 ((qad l0 x17_1).f0), .int .i64 ((qad l0 x17_1).f1), .int .i64 0, .slice none 0 0]) ?_ 2 _ rfl; (with_reducible repeat (first | refine qaf ?_ _ | refine qaj ?_ | refine qag ?_ _)); refine qaq (cs := #[.int .i64 ((qad l0 x17_1).f0), .int .i64 0, .int .i64 0, .slice none 0 0]) ?_ 1 _ rfl; (with_reducible repeat (first | refine qaf ?_ _ | refine qaj ?_ | refine qag ?_ _)); refine qaq (cs := #[.int .i64 0, .int .i64 0, .int .i64 0, .slice none 0 0]) ?_ 0 _ rfl; (with_reducible repeat (first | refine qaf ?_ _ | refine qaj ?_ | refine qag ?_ _)); exact BK244.out)) : gb244 ≠ gb246)); have n6_ := Aside0.mk ((by rw [hg]; exact Nat.ne_of_gt (qa4 (g := gb244) (o := .cells #[.int .i64 ((qad l0 x17_1).f0), .int .i64 ((qad l0 x17_1).f1), .int .i64 ((qad l0 x17_1).f2), .slice A243_3 ((qad l0 x17_1).f3).length c243_3] 38 (0, 0)) (by (with_reducible repeat (first | refine qaf ?_ _ | refine qaj ?_ | refine qag ?_ _)); refine qaq (cs := #[.int .i64 ((qad l0 x17_1).f0), .int .i64 ((qad l0 x17_1).f1), .int .i64 ((qad l0 x17_1).f2), .slice none 0 0]) ?_ 3 _ rfl; (with_reducible repeat (first | refine qaf ?_ _ | refine qaj ?_ | refine qag ?_ _)); refine qaq (cs := #[.int .i64 ((qad l0 x17_1).f0), .int .i64 ((qad l0 x17_1).f1), .int .i64 0, .slice none 0 0]) ?_ 2 _ rfl; (with_reducible repeat (first | refine qaf ?_ _ | refine qaj ?_ | refine qag ?_ _)); refine qaq (cs := #[.int .i64 ((qad l0 x17_1).f0), .int .i64 0, .int .i64 0, .slice none 0 0]) ?_ 1 _ rfl; (with_reducible repeat (first | refine qaf ?_ _ | refine qaj ?_ | refine qag ?_ _)); refine qaq (cs := #[.int .i64 0, .int .i64 0, .int .i64 0, .slice none 0 0]) ?_ 0 _ rfl; (with_reducible repeat (first | refine qaf ?_ _ | refine qaj ?_ | refine qag ?_ _)); exact BK244.out)) : gb246 ≠ gb244)); clear BK244; clear HB; have BK244 := n0_; have HB := n1_; have BK246 := n2_; have GW246 := n3_; have GE246 := n4_; have NB244_246 := n5_; have NB246_244 := n6_; clear n0_ n1_ n2_ n3_ n4_ n5_ n6_; clear hb hbox hg; have hnb12 := NB246_244.out; have hnc12 := NB244_246.out; have hcz13_0 : w11.cell? ⟨gb246, 0, none⟩ = some (.int .i64 0) := (qah BK246.out 0).trans rfl; have hcz13_1 : w11.cell? ⟨gb246, 1, none⟩ = some (.int .i64 0) := (qah BK246.out 1).trans rfl; have hcz13_2 : w11.cell? ⟨gb246, 2, none⟩ = some (.int .i64 0) := (qah BK246.out 2).trans rfl; have hcz13_3 : w11.cell? ⟨gb246, 3, none⟩ = some (.slice none 0 0) := (qah BK246.out 3).trans rfl; have hfz13_0 := qae BK246.out 0; have hfz13_1 := qae BK246.out 1; have hfz13_2 := qae BK246.out 2; have hfz13_3 := qae BK246.out 3)))
        (try simp only [Act.put, List.setIfInBounds_toArray, List.set_cons_zero, List.set_cons_succ])
        go_cut [53] (fun v53 wc => ∃ (kq : Nat) (x53_7 : Bool), v53 = .bool x53_7 ∧ Aside0 (history_Same.j1 kq l1 l0 (l0.length : Int) x17_1 x53_7 ((qad l0 x17_1).f0) ((qad l0 x17_1).f1) ((qad l0 x17_1).f2) ((qad l0 x17_1).f3) ((qad l1 x17_1).f0) ((qad l1 x17_1).f1) ((qad l1 x17_1).f2) ((qad l1 x17_1).f3) = some r) ∧ Aside0 (kq ≤ k1) ∧ Aside0 (wc.heap[gb244]? = some (.cells #[.int .i64 ((qad l0 x17_1).f0), .int .i64 ((qad l0 x17_1).f1), .int .i64 ((qad l0 x17_1).f2), (.slice A243_3 ((qad l0 x17_1).f3).length c243_3)] 38 (0, 0))) ∧ Aside0 (wc.heap[gb246]? = some (.cells #[.int .i64 ((qad l1 x17_1).f0), .int .i64 ((qad l1 x17_1).f1), .int .i64 ((qad l1 x17_1).f2), (.slice A245_3 ((qad l1 x17_1).f3).length c245_3)] 38 (0, 0))) ∧ Aside0 (Below w.heap.size w wc))
        case first =>
         have H := HC8.out
         clear HC8
         by_cases c14 : ((qad l0 x17_1).f0) = ((qad l1 x17_1).f0)
         ·rw [if_pos c14] at H
          have c14b0 : (((qad l0 x17_1).f0) == ((qad l1 x17_1).f0)) = true := beq_iff_eq.mpr c14
          have c14b1 : (((qad l0 x17_1).f0) != ((qad l1 x17_1).f0)) = false := bne_eq_false_iff_eq.mpr c14
          clear c14
          (first | rw [c14b0] | (simp only [qax, qay]; rw [c14b0]) | skip)
          by_cases c15 : ((qad l0 x17_1).f1) = ((qad l1 x17_1).f1)
          ·rw [if_pos c15] at H
           have c15b0 : (((qad l0 x17_1).f1) == ((qad l1 x17_1).f1)) = true := beq_iff_eq.mpr c15
           have c15b1 : (((qad l0 x17_1).f1) != ((qad l1 x17_1).f1)) = false := bne_eq_false_iff_eq.mpr c15
           clear c15
           by_cases c16 : ((qad l0 x17_1).f2) = ((qad l1 x17_1).f2)
           ·rw [if_pos c16] at H
            have c16b0 : (((qad l0 x17_1).f2) == ((qad l1 x17_1).f2)) = true := beq_iff_eq.mpr c16
            have c16b1 : (((qad l0 x17_1).f2) != ((qad l1 x17_1).f2)) = false := bne_eq_false_iff_eq.mpr c16
            clear c16
            have H' := Aside0.mk H
            clear H
            have hnb17 := NB244_246.out
            have hnc17 := NB246_244.out
            have hcz18_0 : w11.cell? ⟨gb244, 0, none⟩ = some (.int .i64 ((qad l0 x17_1).f0)) := (qah BK244.out 0).trans rfl
            have hcz18_1 : w11.cell? ⟨gb244, 1, none⟩ = some (.int .i64 ((qad l0 x17_1).f1)) := (qah BK244.out 1).trans rfl
            have hcz18_2 : w11.cell? ⟨gb244, 2, none⟩ = some (.int .i64 ((qad l0 x17_1).f2)) := (qah BK244.out 2).trans rfl
            have hcz18_3 : w11.cell? ⟨gb244, 3, none⟩ = some (.slice A243_3 ((qad l0 x17_1).f3).length c243_3) := (qah BK244.out 3).trans rfl
            have hfz18_0 := qae BK244.out 0
            have hfz18_1 := qae BK244.out 1
            have hfz18_2 := qae BK244.out 2
            have hfz18_3 := qae BK244.out 3
            have hcz19_0 : w11.cell? ⟨gb246, 0, none⟩ = some (.int .i64 0) := (qah BK246.out 0).trans rfl
            have hcz19_1 : w11.cell? ⟨gb246, 1, none⟩ = some (.int .i64 0) := (qah BK246.out 1).trans rfl
            have hcz19_2 : w11.cell? ⟨gb246, 2, none⟩ = some (.int .i64 0) := (qah BK246.out 2).trans rfl
            have hcz19_3 : w11.cell? ⟨gb246, 3, none⟩ = some (.slice none 0 0) := (qah BK246.out 3).trans rfl
            have hfz19_0 := qae BK246.out 0
            have hfz19_1 := qae BK246.out 1
            have hfz19_2 := qae BK246.out 2
            have hfz19_3 := qae BK246.out 3
            go_wp2
            repeat (go_quiet (fail); try go_wp2)
            go_meet
            case rel => exact ⟨_, (((((qad l0 x17_1).f3).length : Int) != (((qad l1 x17_1).f3).length : Int))), (by first | rfl | (simp; done) | (simp [*]; done)), H', ⟨by have := HK1.out; first | omega | exact Nat.le_refl _⟩, ⟨by (with_reducible repeat (first | refine qaf ?_ _ | refine qaj ?_ | refine qag ?_ _)); refine qa1 ?_ NB244_246.out _; (with_reducible repeat (first | refine qaf ?_ _ | refine qaj ?_ | refine qag ?_ _)); refine qa1 ?_ NB244_246.out _; (with_reducible repeat (first | refine qaf ?_ _ | refine qaj ?_ | refine qag ?_ _)); refine qa1 ?_ NB244_246.out _; (with_reducible repeat (first | refine qaf ?_ _ | refine qaj ?_ | refine qag ?_ _)); refine qa1 ?_ NB244_246.out _; (with_reducible repeat (first | refine qaf ?_ _ | refine qaj ?_ | refine qag ?_ _)); exact BK244.out⟩, ⟨by (with_reducible repeat (first | refine qaf ?_ _ | refine qaj ?_ | refine qag ?_ _)); refine qaq (cs := #[.int .i64 ((qad l1 x17_1).f0), .int .i64 ((qad l1 x17_1).f1), .int .i64 ((qad l1 x17_1).f2), .slice none 0 0]) ?_ 3 _ rfl; (with_reducible repeat (first | refine qaf ?_ _ | refine qaj ?_ | refine qag ?_ _)); refine qaq (cs := #[.int .i64 ((qad l1 x17_1).f0), .int .i64 ((qad l1 x17_1).f1), .int .i64 0, .slice none 0 0]) ?_ 2 _ rfl; (with_reducible repeat (first | refine qaf ?_ _ | refine qaj ?_ | refine qag ?_ _)); refine qaq (cs := #[.int .i64 ((qad l1 x17_1).f0), .int .i64 0, .int .i64 0, .slice none 0 0]) ?_ 1 _ rfl; (with_reducible repeat (first | refine qaf ?_ _ | refine qaj ?_ | refine qag ?_ _)); refine qaq (cs := #[.int .i64 0, .int .i64 0, .int .i64 0, .slice none 0 0]) ?_ 0 _ rfl; (with_reducible repeat (first | refine qaf ?_ _ | refine qaj ?_ | refine qag ?_ _)); exact BK246.out⟩, ⟨by repeat (first | (with_reducible first | exact HB.out | apply qab | apply qaa | apply qac | refine qai ?_ GE244.out | refine qai ?_ GE246.out) | exact HB.out)⟩⟩
           ·rw [if_neg c16] at H
            have c16b0 : (((qad l0 x17_1).f2) == ((qad l1 x17_1).f2)) = false := beq_eq_false_iff_ne.mpr c16
            have c16b1 : (((qad l0 x17_1).f2) != ((qad l1 x17_1).f2)) = true := bne_iff_ne.mpr c16
            have H' := Aside0.mk H
            clear H
            have hnb20 := NB244_246.out
            have hnc20 := NB246_244.out
            have hcz21_0 : w11.cell? ⟨gb244, 0, none⟩ = some (.int .i64 ((qad l0 x17_1).f0)) := (qah BK244.out 0).trans rfl
            have hcz21_1 : w11.cell? ⟨gb244, 1, none⟩ = some (.int .i64 ((qad l0 x17_1).f1)) := (qah BK244.out 1).trans rfl
            have hcz21_2 : w11.cell? ⟨gb244, 2, none⟩ = some (.int .i64 ((qad l0 x17_1).f2)) := (qah BK244.out 2).trans rfl
            have hcz21_3 : w11.cell? ⟨gb244, 3, none⟩ = some (.slice A243_3 ((qad l0 x17_1).f3).length c243_3) := (qah BK244.out 3).trans rfl
            have hfz21_0 := qae BK244.out 0
            have hfz21_1 := qae BK244.out 1
            have hfz21_2 := qae BK244.out 2
            have hfz21_3 := qae BK244.out 3
            have hcz22_0 : w11.cell? ⟨gb246, 0, none⟩ = some (.int .i64 0) := (qah BK246.out 0).trans rfl
            have hcz22_1 : w11.cell? ⟨gb246, 1, none⟩ = some (.int .i64 0) := (qah BK246.out 1).trans rfl
            have hcz22_2 : w11.cell? ⟨gb246, 2, none⟩ = some (.int .i64 0) := (qah BK246.out 2).trans rfl
            have hcz22_3 : w11.cell? ⟨gb246, 3, none⟩ = some (.slice none 0 0) := (qah BK246.out 3).trans rfl
            have hfz22_0 := qae BK246.out 0
            have hfz22_1 := qae BK246.out 1
            have hfz22_2 := qae BK246.out 2
            have hfz22_3 := qae BK246.out 3
            go_wp2
            repeat (go_quiet (fail); try go_wp2)
            go_meet
            case rel => exact ⟨_, (true), (by first | rfl | (simp; done) | (simp [*]; done)), H', ⟨by have := HK1.out; first | omega | exact Nat.le_refl _⟩, ⟨by (with_reducible repeat (first | refine qaf ?_ _ | refine qaj ?_ | refine qag ?_ _)); refine qa1 ?_ NB244_246.out _; (with_reducible repeat (first | refine qaf ?_ _ | refine qaj ?_ | refine qag ?_ _)); refine qa1 ?_ NB244_246.out _; (with_reducible repeat (first | refine qaf ?_ _ | refine qaj ?_ | refine qag ?_ _)); refine qa1 ?_ NB244_246.out _; (with_reducible repeat (first | refine qaf ?_ _ | refine qaj ?_ | refine qag ?_ _)); refine qa1 ?_ NB244_246.out _; (with_reducible repeat (first | refine qaf ?_ _ | refine qaj ?_ | refine qag ?_ _)); exact BK244.out⟩, ⟨by (with_reducible repeat (first | refine qaf ?_ _ | refine qaj ?_ | refine qag ?_ _)); refine qaq (cs := #[.int .i64 ((qad l1 x17_1).f0), .int .i64 ((qad l1 x17_1).f1), .int .i64 ((qad l1 x17_1).f2), .slice none 0 0]) ?_ 3 _ rfl; (with_reducible repeat (first | refine qaf ?_ _ | refine qaj ?_ | refine qag ?_ _)); refine qaq (cs := #[.int .i64 ((qad l1 x17_1).f0), .int .i64 ((qad l1 x17_1).f1), .int .i64 0, .slice none 0 0]) ?_ 2 _ rfl; (with_reducible repeat (first | refine qaf ?_ _ | refine qaj ?_ | refine qag ?_ _)); refine qaq (cs := #[.int .i64 ((qad l1 x17_1).f0), .int .i64 0, .int .i64 0, .slice none 0 0]) ?_ 1 _ rfl; (with_reducible repeat (first | refine qaf ?_ _ | refine qaj ?_ | refine qag ?_ _)); refine qaq (cs := #[.int .i64 0, .int .i64 0, .int .i64 0, .slice none 0 0]) ?_ 0 _ rfl; (with_reducible repeat (first | refine qaf ?_ _ | refine qaj ?_ | refine qag ?_ _)); exact BK246.out⟩, ⟨by repeat (first | (with_reducible first | exact HB.out | apply qab | apply qaa | apply qac | refine qai ?_ GE244.out | refine qai ?_ GE246.out) | exact HB.out)⟩⟩
          ·rw [if_neg c15] at H
           have c15b0 : (((qad l0 x17_1).f1) == ((qad l1 x17_1).f1)) = false := beq_eq_false_iff_ne.mpr c15
           have c15b1 : (((qad l0 x17_1).f1) != ((qad l1 x17_1).f1)) = true := bne_iff_ne.mpr c15
           have H' := Aside0.mk H
           clear H
           have hnb23 := NB244_246.out
           have hnc23 := NB246_244.out
           have hcz24_0 : w11.cell? ⟨gb244, 0, none⟩ = some (.int .i64 ((qad l0 x17_1).f0)) := (qah BK244.out 0).trans rfl
           have hcz24_1 : w11.cell? ⟨gb244, 1, none⟩ = some (.int .i64 ((qad l0 x17_1).f1)) := (qah BK244.out 1).trans rfl
           have hcz24_2 : w11.cell? ⟨gb244, 2, none⟩ = some (.int .i64 ((qad l0 x17_1).f2)) := (qah BK244.out 2).trans rfl
           have hcz24_3 : w11.cell? ⟨gb244, 3, none⟩ = some (.slice A243_3 ((qad l0 x17_1).f3).length c243_3) := (qah BK244.out 3).trans rfl
           have hfz24_0 := qae BK244.out 0
           have hfz24_1 := qae BK244.out 1
           have hfz24_2 := qae BK244.out 2
           have hfz24_3 := qae BK244.out 3
           have hcz25_0 : w11.cell? ⟨gb246, 0, none⟩ = some (.int .i64 0) := (qah BK246.out 0).trans rfl
           have hcz25_1 : w11.cell? ⟨gb246, 1, none⟩ = some (.int .i64 0) := (qah BK246.out 1).trans rfl
           have hcz25_2 : w11.cell? ⟨gb246, 2, none⟩ = some (.int .i64 0) := (qah BK246.out 2).trans rfl
           have hcz25_3 : w11.cell? ⟨gb246, 3, none⟩ = some (.slice none 0 0) := (qah BK246.out 3).trans rfl
           have hfz25_0 := qae BK246.out 0
           have hfz25_1 := qae BK246.out 1
           have hfz25_2 := qae BK246.out 2
           have hfz25_3 := qae BK246.out 3
           go_wp2
           repeat (go_quiet (fail); try go_wp2)
           go_meet
           case rel => exact ⟨_, (true), (by first | rfl | (simp; done) | (simp [*]; done)), H', ⟨by have := HK1.out; first | omega | exact Nat.le_refl _⟩, ⟨by (with_reducible repeat (first | refine qaf ?_ _ | refine qaj ?_ | refine qag ?_ _)); refine qa1 ?_ NB244_246.out _; (with_reducible repeat (first | refine qaf ?_ _ | refine qaj ?_ | refine qag ?_ _)); refine qa1 ?_ NB244_246.out _; (with_reducible repeat (first | refine qaf ?_ _ | refine qaj ?_ | refine qag ?_ _)); refine qa1 ?_ NB244_246.out _; (with_reducible repeat (first | refine qaf ?_ _ | refine qaj ?_ | refine qag ?_ _)); refine qa1 ?_ NB244_246.out _; (with_reducible repeat (first | refine qaf ?_ _ | refine qaj ?_ | refine qag ?_ _)); exact BK244.out⟩, ⟨by (with_reducible repeat (first | refine qaf ?_ _ | refine qaj ?_ | refine qag ?_ _)); refine qaq (cs := #[.int .i64 ((qad l1 x17_1).f0), .int .i64 ((qad l1 x17_1).f1), .int .i64 ((qad l1 x17_1).f2), .slice none 0 0]) ?_ 3 _ rfl; (with_reducible repeat (first | refine qaf ?_ _ | refine qaj ?_ | refine qag ?_ _)); refine qaq (cs := #[.int .i64 ((qad l1 x17_1).f0), .int .i64 ((qad l1 x17_1).f1), .int .i64 0, .slice none 0 0]) ?_ 2 _ rfl; (with_reducible repeat (first | refine qaf ?_ _ | refine qaj ?_ | refine qag ?_ _)); refine qaq (cs := #[.int .i64 ((qad l1 x17_1).f0), .int .i64 0, .int .i64 0, .slice none 0 0]) ?_ 1 _ rfl; (with_reducible repeat (first | refine qaf ?_ _ | refine qaj ?_ | refine qag ?_ _)); refine qaq (cs := #[.int .i64 0, .int .i64 0, .int .i64 0, .slice none 0 0]) ?_ 0 _ rfl; (with_reducible repeat (first | refine qaf ?_ _ | refine qaj ?_ | refine qag ?_ _)); exact BK246.out⟩, ⟨by repeat (first | (with_reducible first | exact HB.out | apply qab | apply qaa | apply qac | refine qai ?_ GE244.out | refine qai ?_ GE246.out) | exact HB.out)⟩⟩
         ·rw [if_neg c14] at H
          have c14b0 : (((qad l0 x17_1).f0) == ((qad l1 x17_1).f0)) = false := beq_eq_false_iff_ne.mpr c14
          have c14b1 : (((qad l0 x17_1).f0) != ((qad l1 x17_1).f0)) = true := bne_iff_ne.mpr c14
          (first | rw [c14b0] | (simp only [qax, qay]; rw [c14b0]) | skip)
          have H' := Aside0.mk H
          clear H
          have hnb26 := NB244_246.out
          have hnc26 := NB246_244.out
          have hcz27_0 : w11.cell? ⟨gb244, 0, none⟩ = some (.int .i64 ((qad l0 x17_1).f0)) := (qah BK244.out 0).trans rfl
          have hcz27_1 : w11.cell? ⟨gb244, 1, none⟩ = some (.int .i64 ((qad l0 x17_1).f1)) := (qah BK244.out 1).trans rfl
          have hcz27_2 : w11.cell? ⟨gb244, 2, none⟩ = some (.int .i64 ((qad l0 x17_1).f2)) := (qah BK244.out 2).trans rfl
          have hcz27_3 : w11.cell? ⟨gb244, 3, none⟩ = some (.slice A243_3 ((qad l0 x17_1).f3).length c243_3) := (qah BK244.out 3).trans rfl
          have hfz27_0 := qae BK244.out 0
          have hfz27_1 := qae BK244.out 1
          have hfz27_2 := qae BK244.out 2
          have hfz27_3 := qae BK244.out 3
          have hcz28_0 : w11.cell? ⟨gb246, 0, none⟩ = some (.int .i64 0) := (qah BK246.out 0).trans rfl
          have hcz28_1 : w11.cell? ⟨gb246, 1, none⟩ = some (.int .i64 0) := (qah BK246.out 1).trans rfl
          have hcz28_2 : w11.cell? ⟨gb246, 2, none⟩ = some (.int .i64 0) := (qah BK246.out 2).trans rfl
          have hcz28_3 : w11.cell? ⟨gb246, 3, none⟩ = some (.slice none 0 0) := (qah BK246.out 3).trans rfl
          have hfz28_0 := qae BK246.out 0
          have hfz28_1 := qae BK246.out 1
          have hfz28_2 := qae BK246.out 2
          have hfz28_3 := qae BK246.out 3
          go_wp2
          repeat (go_quiet (fail); try go_wp2)
          go_meet
          case rel => exact ⟨_, (true), (by first | rfl | (simp; done) | (simp [*]; done)), H', ⟨by have := HK1.out; first | omega | exact Nat.le_refl _⟩, ⟨by (with_reducible repeat (first | refine qaf ?_ _ | refine qaj ?_ | refine qag ?_ _)); refine qa1 ?_ NB244_246.out _; (with_reducible repeat (first | refine qaf ?_ _ | refine qaj ?_ | refine qag ?_ _)); refine qa1 ?_ NB244_246.out _; (with_reducible repeat (first | refine qaf ?_ _ | refine qaj ?_ | refine qag ?_ _)); refine qa1 ?_ NB244_246.out _; (with_reducible repeat (first | refine qaf ?_ _ | refine qaj ?_ | refine qag ?_ _)); refine qa1 ?_ NB244_246.out _; (with_reducible repeat (first | refine qaf ?_ _ | refine qaj ?_ | refine qag ?_ _)); exact BK244.out⟩, ⟨by (with_reducible repeat (first | refine qaf ?_ _ | refine qaj ?_ | refine qag ?_ _)); refine qaq (cs := #[.int .i64 ((qad l1 x17_1).f0), .int .i64 ((qad l1 x17_1).f1), .int .i64 ((qad l1 x17_1).f2), .slice none 0 0]) ?_ 3 _ rfl; (with_reducible repeat (first | refine qaf ?_ _ | refine qaj ?_ | refine qag ?_ _)); refine qaq (cs := #[.int .i64 ((qad l1 x17_1).f0), .int .i64 ((qad l1 x17_1).f1), .int .i64 0, .slice none 0 0]) ?_ 2 _ rfl; (with_reducible repeat (first | refine qaf ?_ _ | refine qaj ?_ | refine qag ?_ _)); refine qaq (cs := #[.int .i64 ((qad l1 x17_1).f0), .int .i64 0, .int .i64 0, .slice none 0 0]) ?_ 1 _ rfl; (with_reducible repeat (first | refine qaf ?_ _ | refine qaj ?_ | refine qag ?_ _)); refine qaq (cs := #[.int .i64 0, .int .i64 0, .int .i64 0, .slice none 0 0]) ?_ 0 _ rfl; (with_reducible repeat (first | refine qaf ?_ _ | refine qaj ?_ | refine qag ?_ _)); exact BK246.out⟩, ⟨by repeat (first | (with_reducible first | exact HB.out | apply qab | apply qaa | apply qac | refine qai ?_ GE244.out | refine qai ?_ GE246.out) | exact HB.out)⟩⟩
        case rest =>
         clear HC8
         try clear c1
         try clear c2
         try clear p2
         try clear q2
         try clear hx2
         try clear c3
         try clear c3b0
         try clear c3b1
         try clear c3b2
         try clear c4
         try clear c4b0
         try clear c5
         try clear c5b0
         try clear c6
         try clear c6b0
         try clear c7
         try clear c7b0
         try clear c9
         try clear c12
         try clear c14
         try clear c14b0
         try clear c14b1
         try clear c15
         try clear c15b0
         try clear c15b1
         try clear c16
         try clear c16b0
         try clear c16b1
         try clear c17
         try clear c20
         try clear c23
         try clear c24
         try clear p24
         try clear q24
         try clear hx24
         try clear c26
         try clear hcz10_0
         try clear hcz10_1
         try clear hcz10_2
         try clear hcz10_3
         try clear hcz13_0
         try clear hcz13_1
         try clear hcz13_2
         try clear hcz13_3
         try clear hcz18_0
         try clear hcz18_1
         try clear hcz18_2
         try clear hcz18_3
         try clear hcz19_0
         try clear hcz19_1
         try clear hcz19_2
         try clear hcz19_3
         try clear hcz21_0
         try clear hcz21_1
         try clear hcz21_2
         try clear hcz21_3
         try clear hcz22_0
         try clear hcz22_1
         try clear hcz22_2
         try clear hcz22_3
         try clear hcz24_0
         try clear hcz24_1
         try clear hcz24_2
         try clear hcz24_3
         try clear hcz25_0
         try clear hcz25_1
         try clear hcz25_2
         try clear hcz25_3
         try clear hcz27_0
         try clear hcz27_1
         try clear hcz27_2
         try clear hcz27_3
         try clear hcz28_0
         try clear hcz28_1
         try clear hcz28_2
         try clear hcz28_3
         try clear hfz10_0
         try clear hfz10_1
         try clear hfz10_2
         try clear hfz10_3
         try clear hfz13_0
         try clear hfz13_1
         try clear hfz13_2
         try clear hfz13_3
         try clear hfz18_0
         try clear hfz18_1
         try clear hfz18_2
         try clear hfz18_3
         try clear hfz19_0
         try clear hfz19_1
         try clear hfz19_2
         try clear hfz19_3
         try clear hfz21_0
         try clear hfz21_1
         try clear hfz21_2
         try clear hfz21_3
         try clear hfz22_0
         try clear hfz22_1
         try clear hfz22_2
         try clear hfz22_3
         try clear hfz24_0
         try clear hfz24_1
         try clear hfz24_2
         try clear hfz24_3
         try clear hfz25_0
         try clear hfz25_1
         try clear hfz25_2
         try clear hfz25_3
         try clear hfz27_0
         try clear hfz27_1
         try clear hfz27_2
         try clear hfz27_3
         try clear hfz28_0
         try clear hfz28_1
         try clear hfz28_2
         try clear hfz28_3
         try clear hx243_0
         try clear hx243_1
         try clear hx243_2
         try clear hx243_3
         try clear hx245_0
         try clear hx245_1
         try clear hx245_2
         try clear hx245_3
         try clear p2
         try clear p243
         try clear p245
         try clear q243
         try clear q245
         obtain ⟨kq, x53_7, rfl, HA, HJ7, BK244, BK246, HB⟩ := hcut
         cases kq with
         | zero => exact absurd HA.out (by simp [history_Same.j1])
         | succ kj7 =>
          have H := HA.out
          clear HA
          simp only [history_Same.j1] at H
          by_cases c29 : x53_7 = true
          ·subst c29
           have H1 : (some false) = some r := by rw [if_pos rfl] at H; exact H
           clear H
           have H := H1
           clear H1
           obtain rfl := Option.some.inj H
           go_wp2
           repeat (go_quiet (fail); try go_wp2)
           go_ret
           exact ⟨by first | rfl | (simp [qan, qam] <;> rfl) | (simp [*, qan, qam] <;> rfl), by repeat (first | (with_reducible first | exact HB.out | apply qab | apply qaa | apply qac | refine qai ?_ GE244.out | refine qai ?_ GE246.out) | exact HB.out)⟩
          ·replace c29 := Bool.eq_false_iff.mpr c29
           subst c29
           have H1 : (history_Same.l1 kj7 l1 l0 (l0.length : Int) x17_1 ((qad l0 x17_1).f3) (((qad l0 x17_1).f3).length : Int) 0 ((qad l1 x17_1).f0) ((qad l1 x17_1).f1) ((qad l1 x17_1).f2) ((qad l1 x17_1).f3)) = some r := by rw [if_neg (show ¬ (false = true) by decide)] at H; exact H
           clear H
           have H := H1
           clear H1
           have H' := Aside0.mk H
           clear H
           have hnb30 := NB244_246.out
           have hnc30 := NB246_244.out
           have hcz31_0 : wc.cell? ⟨gb244, 0, none⟩ = some (.int .i64 ((qad l0 x17_1).f0)) := (qah BK244.out 0).trans rfl
           have hcz31_1 : wc.cell? ⟨gb244, 1, none⟩ = some (.int .i64 ((qad l0 x17_1).f1)) := (qah BK244.out 1).trans rfl
           have hcz31_2 : wc.cell? ⟨gb244, 2, none⟩ = some (.int .i64 ((qad l0 x17_1).f2)) := (qah BK244.out 2).trans rfl
           have hcz31_3 : wc.cell? ⟨gb244, 3, none⟩ = some (.slice A243_3 ((qad l0 x17_1).f3).length c243_3) := (qah BK244.out 3).trans rfl
           have hfz31_0 := qae BK244.out 0
           have hfz31_1 := qae BK244.out 1
           have hfz31_2 := qae BK244.out 2
           have hfz31_3 := qae BK244.out 3
           go_wp2
           repeat (go_quiet (fail); try go_wp2)
           go_loopg [57] kj7 (fun kq v57 w' => ∃ (x57_3 : Int), v57 = .int .i64 x57_3 ∧ Aside0 (history_Same.l1 kq l1 l0 (l0.length : Int) x17_1 ((qad l0 x17_1).f3) (((qad l0 x17_1).f3).length : Int) x57_3 ((qad l1 x17_1).f0) ((qad l1 x17_1).f1) ((qad l1 x17_1).f2) ((qad l1 x17_1).f3) = some r) ∧ Aside0 (kq ≤ kj7) ∧ Aside0 (w'.heap[gb244]? = some (.cells #[.int .i64 ((qad l0 x17_1).f0), .int .i64 ((qad l0 x17_1).f1), .int .i64 ((qad l0 x17_1).f2), (.slice A243_3 ((qad l0 x17_1).f3).length c243_3)] 38 (0, 0))) ∧ Aside0 (w'.heap[gb246]? = some (.cells #[.int .i64 ((qad l1 x17_1).f0), .int .i64 ((qad l1 x17_1).f1), .int .i64 ((qad l1 x17_1).f2), (.slice A245_3 ((qad l1 x17_1).f3).length c245_3)] 38 (0, 0))) ∧ Aside0 (Below w.heap.size w w'))
           case atStart => exact ⟨(0), (by first | rfl | (simp; done) | (simp [*]; done)), H', ⟨Nat.le_refl _⟩, ⟨by (with_reducible repeat (first | refine qaf ?_ _ | refine qaj ?_ | refine qag ?_ _)); exact BK244.out⟩, ⟨by (with_reducible repeat (first | refine qaf ?_ _ | refine qaj ?_ | refine qag ?_ _)); exact BK246.out⟩, ⟨by repeat (first | (with_reducible first | exact HB.out | apply qab | apply qaa | apply qac | refine qai ?_ GE244.out | refine qai ?_ GE246.out) | exact HB.out)⟩⟩
           case round =>
            clear H'
            try clear c1
            try clear c2
            try clear p2
            try clear q2
            try clear hx2
            try clear c3
            try clear c3b0
            try clear c3b1
            try clear c3b2
            try clear c4
            try clear c4b0
            try clear c5
            try clear c5b0
            try clear c6
            try clear c6b0
            try clear c7
            try clear c7b0
            try clear c9
            try clear c12
            try clear c14
            try clear c14b0
            try clear c14b1
            try clear c15
            try clear c15b0
            try clear c15b1
            try clear c16
            try clear c16b0
            try clear c16b1
            try clear c17
            try clear c20
            try clear c23
            try clear c24
            try clear p24
            try clear q24
            try clear hx24
            try clear c26
            try clear c29
            try clear c30
            try clear hcz10_0
            try clear hcz10_1
            try clear hcz10_2
            try clear hcz10_3
            try clear hcz13_0
            try clear hcz13_1
            try clear hcz13_2
            try clear hcz13_3
            try clear hcz18_0
            try clear hcz18_1
            try clear hcz18_2
            try clear hcz18_3
            try clear hcz19_0
            try clear hcz19_1
            try clear hcz19_2
            try clear hcz19_3
            try clear hcz21_0
            try clear hcz21_1
            try clear hcz21_2
            try clear hcz21_3
            try clear hcz22_0
            try clear hcz22_1
            try clear hcz22_2
            try clear hcz22_3
            try clear hcz24_0
            try clear hcz24_1
            try clear hcz24_2
            try clear hcz24_3
            try clear hcz25_0
            try clear hcz25_1
            try clear hcz25_2
            try clear hcz25_3
            try clear hcz27_0
            try clear hcz27_1
            try clear hcz27_2
            try clear hcz27_3
            try clear hcz28_0
            try clear hcz28_1
            try clear hcz28_2
            try clear hcz28_3
            try clear hcz31_0
            try clear hcz31_1
            try clear hcz31_2
            try clear hcz31_3
            try clear hfz10_0
            try clear hfz10_1
            try clear hfz10_2
            try clear hfz10_3
            try clear hfz13_0
            try clear hfz13_1
            try clear hfz13_2
            try clear hfz13_3
            try clear hfz18_0
            try clear hfz18_1
            try clear hfz18_2
            try clear hfz18_3
            try clear hfz19_0
            try clear hfz19_1
            try clear hfz19_2
            try clear hfz19_3
            try clear hfz21_0
            try clear hfz21_1
            try clear hfz21_2
            try clear hfz21_3
            try clear hfz22_0
            try clear hfz22_1
            try clear hfz22_2
            try clear hfz22_3
            try clear hfz24_0
            try clear hfz24_1
            try clear hfz24_2
            try clear hfz24_3
            try clear hfz25_0
            try clear hfz25_1
            try clear hfz25_2
            try clear hfz25_3
            try clear hfz27_0
            try clear hfz27_1
            try clear hfz27_2
            try clear hfz27_3
            try clear hfz28_0
            try clear hfz28_1
            try clear hfz28_2
            try clear hfz28_3
            try clear hfz31_0
            try clear hfz31_1
            try clear hfz31_2
            try clear hfz31_3
            try clear hx243_0
            try clear hx243_1
            try clear hx243_2
            try clear hx243_3
            try clear hx245_0
            try clear hx245_1
            try clear hx245_2
            try clear hx245_3
            try clear p2
            try clear p24
            try clear p243
            try clear p245
            try clear q2
            try clear q24
            try clear q243
            try clear q245
            obtain ⟨x57_3, rfl, HA, HK3, BK244, BK246, HB⟩ := hrel
            cases gk with
            | zero => exact absurd HA.out (by simp [history_Same.l1])
            | succ k3 =>
             have H := HA.out
             clear HA
             simp only [history_Same.l1] at H
             by_cases c32 : x57_3 < (((qad l0 x17_1).f3).length : Int)
             ·rw [if_pos c32] at H
              have c32b0 : decide (x57_3 < (((qad l0 x17_1).f3).length : Int)) = true := decide_eq_true c32
              clear c32
              by_cases c33 : 0 ≤ x57_3
              ·rw [if_pos c33] at H
               have c33b0 : decide (0 ≤ x57_3) = true := decide_eq_true c33
               clear c33
               by_cases c34 : x57_3 < (((qad l0 x17_1).f3).length : Int)
               ·rw [if_pos c34] at H
                have c34b0 : decide (x57_3 < (((qad l0 x17_1).f3).length : Int)) = true := decide_eq_true c34
                clear c34
                by_cases c35 : x57_3 < (((qad l1 x17_1).f3).length : Int)
                ·rw [if_pos c35] at H
                 have c35b0 : decide (x57_3 < (((qad l1 x17_1).f3).length : Int)) = true := decide_eq_true c35
                 clear c35
                 by_cases c36 : (!(((qap ((qad l1 x17_1).f3) x57_3).f0) == ((qap ((qad l0 x17_1).f3) x57_3).f0)) || (!(((qap ((qad l1 x17_1).f3) x57_3).f1) == ((qap ((qad l0 x17_1).f3) x57_3).f1)) || (!(((qap ((qad l1 x17_1).f3) x57_3).f2) == ((qap ((qad l0 x17_1).f3) x57_3).f2))))) = true
                 ·rw [if_pos c36] at H
                  have c36b0 : (!(((qap ((qad l1 x17_1).f3) x57_3).f0) == ((qap ((qad l0 x17_1).f3) x57_3).f0)) || (!(((qap ((qad l1 x17_1).f3) x57_3).f1) == ((qap ((qad l0 x17_1).f3) x57_3).f1)) || (!(((qap ((qad l1 x17_1).f3) x57_3).f2) == ((qap ((qad l0 x17_1).f3) x57_3).f2))))) = true := c36
                  clear c36
                  obtain rfl := Option.some.inj H
                  have p247 : 0 ≤ (x57_3 : Int) := of_decide_eq_true (by first | (with_reducible assumption) | assumption)
                  have q247 : x57_3 < (((qad l0 x17_1).f3).length : Int) := of_decide_eq_true (by first | (with_reducible assumption) | assumption)
                  obtain ⟨ad247, e247, hx247_0, hx247_1, hx247_2⟩ := qbx HR243_3.out x57_3 p247 q247
                  cases e247
                  replace hx247_0 := (HB.out.cell (World.block_lt_of_cell? w _ hx247_0)).trans hx247_0
                  replace hx247_1 := (HB.out.cell (World.block_lt_of_cell? w _ hx247_1)).trans hx247_1
                  replace hx247_2 := (HB.out.cell (World.block_lt_of_cell? w _ hx247_2)).trans hx247_2
                  replace p247 := eq_true p247
                  replace q247 := eq_true q247
                  go_wp2_with (first | ((with_reducible refine qat (N := 9) rfl ?_); (try (refine qa7 (by rfl) ?_; dsimp only)); refine qas ?hg (N := 9) ?hd (cs := #[.bool false, .int .i64 0, .int .i64 0]) (t := 48) ?hr ?_; (case hd => rfl); (case hg => rfl); (case hr => first | (go_simp; done) | (go_simp; rfl)); intro gb248 hg w37 hbox hb; have n0_ := Aside0.mk (qar (g := gb244) (o := .cells #[.int .i64 ((qad l0 x17_1).f0), .int .i64 ((qad l0 x17_1).f1), .int .i64 ((qad l0 x17_1).f2), .slice (some ad247) ((qad l0 x17_1).f3).length c243_3] 38 (0, 0)) (by (with_reducible repeat (first | refine qaf ?_ _ | refine qaj ?_ | refine qag ?_ _)); exact BK244.out) hb); have n1_ := Aside0.mk (qar (g := gb246) (o := .cells #[.int .i64 ((qad l1 x17_1).f0), .int .i64 ((qad l1 x17_1).f1), .int .i64 ((qad l1 x17_1).f2), .slice A245_3 ((qad l1 x17_1).f3).length c245_3] 38 (0, 0)) (by (with_reducible repeat (first | refine qaf ?_ _ | refine qaj ?_ | refine qag ?_ _)); exact BK246.out) hb); have n2_ := Aside0.mk (qal (by repeat (first | (with_reducible first | exact HB.out | apply qab | apply qaa | apply qac | refine qai ?_ GE244.out | refine qai ?_ GE246.out) | exact HB.out)) hb); have n3_ := Aside0.mk (hbox); have n4_ := Aside0.mk ((by rw [hg]; exact (qak (by repeat (first | (with_reducible first | exact HB.out | apply qab | apply qaa | apply qac | refine qai ?_ GE244.out | refine qai ?_ GE246.out) | exact HB.out))) : w.heap.size ≤ gb248)); have n5_ := Aside0.mk ((by rw [hg]; exact (qak (by repeat (first | (with_reducible first | exact HB.out | apply qab | apply qaa | apply qac | refine qai ?_ GE244.out | refine qai ?_ GE246.out) | exact HB.out))) : w.heap.size ≤ gb248)); have n6_ := Aside0.mk ((by rw [hg]; exact Nat.ne_of_lt (qa4 (g := gb244) (o := .cells #[.int .i64 ((qad l0 x17_1).f0), .int .i64 ((qad l0 x17_1).f1), .int .i64 ((qad l0 x17_1).f2), .slice (some ad247) ((qad l0 x17_1).f3).length c243_3] 38 (0, 0)) (by (with_reducible repeat (first | refine qaf ?_ _ | refine qaj ?_ | refine qag ?_ _)); exact BK244.out)) : gb244 ≠ gb248)); have n7_ := Aside0.mk ((by rw [hg]; exact Nat.ne_of_gt (qa4 (g := gb244) (o := .cells #[.int .i64 ((qad l0 x17_1).f0), .int .i64 ((qad l0 x17_1).f1), .int .i64 ((qad l0 x17_1).f2), .slice (some ad247) ((qad l0 x17_1).f3).length c243_3] 38 (0, 0)) (by (with_reducible repeat (first | refine qaf ?_ _ | refine qaj ?_ | refine qag ?_ _)); exact BK244.out)) : gb248 ≠ gb244)); have n8_ := Aside0.mk ((by rw [hg]; exact Nat.ne_of_lt (qa4 (g := gb246) (o := .cells #[.int .i64 ((qad l1 x17_1).f0), .int .i64 ((qad l1 x17_1).f1), .int .i64 ((qad l1 x17_1).f2), .slice A245_3 ((qad l1 x17_1).f3).length c245_3] 38 (0, 0)) (by (with_reducible repeat (first | refine qaf ?_ _ | refine qaj ?_ | refine qag ?_ _)); exact BK246.out)) : gb246 ≠ gb248)); have n9_ := Aside0.mk ((by rw [hg]; exact Nat.ne_of_gt (qa4 (g := gb246) (o := .cells #[.int .i64 ((qad l1 x17_1).f0), .int .i64 ((qad l1 x17_1).f1), .int .i64 ((qad l1 x17_1).f2), .slice A245_3 ((qad l1 x17_1).f3).length c245_3] 38 (0, 0)) (by (with_reducible repeat (first | refine qaf ?_ _ | refine qaj ?_ | refine qag ?_ _)); exact BK246.out)) : gb248 ≠ gb246)); clear BK244; clear BK246; clear HB; have BK244 := n0_; have BK246 := n1_; have HB := n2_; have BK248 := n3_; have GW248 := n4_; have GE248 := n5_; have NB244_248 := n6_; have NB248_244 := n7_; have NB246_248 := n8_; have NB248_246 := n9_; clear n0_ n1_ n2_ n3_ n4_ n5_ n6_ n7_ n8_ n9_; clear hb hbox hg; have hnb38 := NB248_244.out; have hnc38 := NB244_248.out; have hnb39 := NB248_246.out; have hnc39 := NB246_248.out; have hcz40_0 : w37.cell? ⟨gb248, 0, none⟩ = some (.bool false) := (qah BK248.out 0).trans rfl; have hcz40_1 : w37.cell? ⟨gb248, 1, none⟩ = some (.int .i64 0) := (qah BK248.out 1).trans rfl; have hcz40_2 : w37.cell? ⟨gb248, 2, none⟩ = some (.int .i64 0) := (qah BK248.out 2).trans rfl; have hfz40_0 := qae BK248.out 0; have hfz40_1 := qae BK248.out 1; have hfz40_2 := qae BK248.out 2; have hnb41 := NB246_244.out; have hnc41 := NB244_246.out; have hcz42_0 : w37.cell? ⟨gb246, 0, none⟩ = some (.int .i64 ((qad l1 x17_1).f0)) := (qah BK246.out 0).trans rfl; have hcz42_1 : w37.cell? ⟨gb246, 1, none⟩ = some (.int .i64 ((qad l1 x17_1).f1)) := (qah BK246.out 1).trans rfl; have hcz42_2 : w37.cell? ⟨gb246, 2, none⟩ = some (.int .i64 ((qad l1 x17_1).f2)) := (qah BK246.out 2).trans rfl; have hcz42_3 : w37.cell? ⟨gb246, 3, none⟩ = some (.slice A245_3 ((qad l1 x17_1).f3).length c245_3) := (qah BK246.out 3).trans rfl; have hfz42_0 := qae BK246.out 0; have hfz42_1 := qae BK246.out 1; have hfz42_2 := qae BK246.out 2; have hfz42_3 := qae BK246.out 3; have p249 : 0 ≤ (x57_3 : Int) := of_decide_eq_true (by first | (with_reducible assumption) | assumption); have q249 : x57_3 < (((qad l1 x17_1).f3).length : Int) := of_decide_eq_true (by first | (with_reducible assumption) | assumption); obtain ⟨ad249, e249, hx249_0, hx249_1, hx249_2⟩ := qbx HR245_3.out x57_3 p249 q249; cases e249; have hn249_0 : ad249.block ≠ gb248 := Nat.ne_of_lt (Nat.lt_of_lt_of_le (by have := World.block_lt_of_cell? _ _ hx249_0; first | rwa [add_block] at this | exact this) GW248.out); have hn249_1 : ad249.block ≠ gb248 := Nat.ne_of_lt (Nat.lt_of_lt_of_le (by have := World.block_lt_of_cell? _ _ hx249_0; first | rwa [add_block] at this | exact this) GW248.out); have hn249_2 : ad249.block ≠ gb248 := Nat.ne_of_lt (Nat.lt_of_lt_of_le (by have := World.block_lt_of_cell? _ _ hx249_0; first | rwa [add_block] at this | exact this) GW248.out); replace hx249_0 := (HB.out.cell (World.block_lt_of_cell? w _ hx249_0)).trans hx249_0; replace hx249_1 := (HB.out.cell (World.block_lt_of_cell? w _ hx249_1)).trans hx249_1; replace hx249_2 := (HB.out.cell (World.block_lt_of_cell? w _ hx249_2)).trans hx249_2; replace hx249_0 := (cell_far (p := ⟨gb248, 0, none⟩) (by first | (rw [add_block]; exact hn249_0) | (show (Addr.add _ _).block ≠ _; rw [add_block]; exact hn249_0) | exact hn249_0) (.bool ((qap ((qad l0 x17_1).f3) x57_3).f0))).trans hx249_0; replace hx249_1 := (cell_far (p := ⟨gb248, 0, none⟩) (by first | (rw [add_block]; exact hn249_0) | (show (Addr.add _ _).block ≠ _; rw [add_block]; exact hn249_0) | exact hn249_0) (.bool ((qap ((qad l0 x17_1).f3) x57_3).f0))).trans hx249_1; replace hx249_2 := (cell_far (p := ⟨gb248, 0, none⟩) (by first | (rw [add_block]; exact hn249_0) | (show (Addr.add _ _).block ≠ _; rw [add_block]; exact hn249_0) | exact hn249_0) (.bool ((qap ((qad l0 x17_1).f3) x57_3).f0))).trans hx249_2; replace hx249_0 := (cell_far (p := ⟨gb248, 1, none⟩) (by first | (rw [add_block]; exact hn249_1) | (show (Addr.add _ _).block ≠ _; rw [add_block]; exact hn249_1) | exact hn249_1) (.int .i64 ((qap ((qad l0 x17_1).f3) x57_3).f1))).trans hx249_0; replace hx249_1 := (cell_far (p := ⟨gb248, 1, none⟩) (by first | (rw [add_block]; exact hn249_1) | (show (Addr.add _ _).block ≠ _; rw [add_block]; exact hn249_1) | exact hn249_1) (.int .i64 ((qap ((qad l0 x17_1).f3) x57_3).f1))).trans hx249_1; replace hx249_2 := (cell_far (p := ⟨gb248, 1, none⟩) (by first | (rw [add_block]; exact hn249_1) | (show (Addr.add _ _).block ≠ _; rw [add_block]; exact hn249_1) | exact hn249_1) (.int .i64 ((qap ((qad l0 x17_1).f3) x57_3).f1))).trans hx249_2; replace hx249_0 := (cell_far (p := ⟨gb248, 2, none⟩) (by first | (rw [add_block]; exact hn249_2) | (show (Addr.add _ _).block ≠ _; rw [add_block]; exact hn249_2) | exact hn249_2) (.int .i64 ((qap ((qad l0 x17_1).f3) x57_3).f2))).trans hx249_0; replace hx249_1 := (cell_far (p := ⟨gb248, 2, none⟩) (by first | (rw [add_block]; exact hn249_2) | (show (Addr.add _ _).block ≠ _; rw [add_block]; exact hn249_2) | exact hn249_2) (.int .i64 ((qap ((qad l0 x17_1).f3) x57_3).f2))).trans hx249_1; replace hx249_2 := (cell_far (p := ⟨gb248, 2, none⟩) (by first | (rw [add_block]; exact hn249_2) | (show (Addr.add _ _).block ≠ _; rw [add_block]; exact hn249_2) | exact hn249_2) (.int .i64 ((qap ((qad l0 x17_1).f3) x57_3).f2))).trans hx249_2; (try have hy249_0 := fun (n_ : Nat) => (show (((((w37.drewN n_).setCell ⟨gb248, 0, none⟩ (.bool ((qap ((qad l0 x17_1).f3) x57_3).f0))).setCell ⟨gb248, 1, none⟩ (.int .i64 ((qap ((qad l0 x17_1).f3) x57_3).f1))).setCell ⟨gb248, 2, none⟩ (.int .i64 ((qap ((qad l0 x17_1).f3) x57_3).f2)))).cell? _ = some _ from hx249_0)); (try have hy249_1 := fun (n_ : Nat) => (show (((((w37.drewN n_).setCell ⟨gb248, 0, none⟩ (.bool ((qap ((qad l0 x17_1).f3) x57_3).f0))).setCell ⟨gb248, 1, none⟩ (.int .i64 ((qap ((qad l0 x17_1).f3) x57_3).f1))).setCell ⟨gb248, 2, none⟩ (.int .i64 ((qap ((qad l0 x17_1).f3) x57_3).f2)))).cell? _ = some _ from hx249_1)); (try have hy249_2 := fun (n_ : Nat) => (show (((((w37.drewN n_).setCell ⟨gb248, 0, none⟩ (.bool ((qap ((qad l0 x17_1).f3) x57_3).f0))).setCell ⟨gb248, 1, none⟩ (.int .i64 ((qap ((qad l0 x17_1).f3) x57_3).f1))).setCell ⟨gb248, 2, none⟩ (.int .i64 ((qap ((qad l0 x17_1).f3) x57_3).f2)))).cell? _ = some _ from hx249_2)); clear hn249_0; clear hn249_1; clear hn249_2; replace p249 := eq_true p249; replace q249 := eq_true q249))
                  repeat (go_quiet (first | ((with_reducible refine qat (N := 9) rfl ?_); (try (refine qa7 (by rfl) ?_; dsimp only)); refine qas ?hg (N := 9) ?hd (cs := #[.bool false, .int .i64 0, .int .i64 0]) (t := 48) ?hr ?_; (case hd => rfl); (case hg => rfl); (case hr => first | (go_simp; done) | (go_simp; rfl)); intro gb248 hg w37 hbox hb; have n0_ := Aside0.mk (qar (g := gb244) (o := .cells #[.int .i64 ((qad l0 x17_1).f0), .int .i64 ((qad l0 x17_1).f1), .int .i64 ((qad l0 x17_1).f2), .slice (some ad247) ((qad l0 x17_1).f3).length c243_3] 38 (0, 0)) (by (with_reducible repeat (first | refine qaf ?_ _ | refine qaj ?_ | refine qag ?_ _)); exact BK244.out) hb); have n1_ := Aside0.mk (qar (g := gb246) (o := .cells #[.int .i64 ((qad l1 x17_1).f0), .int .i64 ((qad l1 x17_1).f1), .int .i64 ((qad l1 x17_1).f2), .slice A245_3 ((qad l1 x17_1).f3).length c245_3] 38 (0, 0)) (by (with_reducible repeat (first | refine qaf ?_ _ | refine qaj ?_ | refine qag ?_ _)); exact BK246.out) hb); have n2_ := Aside0.mk (qal (by repeat (first | (with_reducible first | exact HB.out | apply qab | apply qaa | apply qac | refine qai ?_ GE244.out | refine qai ?_ GE246.out) | exact HB.out)) hb); have n3_ := Aside0.mk (hbox); have n4_ := Aside0.mk ((by rw [hg]; exact (qak (by repeat (first | (with_reducible first | exact HB.out | apply qab | apply qaa | apply qac | refine qai ?_ GE244.out | refine qai ?_ GE246.out) | exact HB.out))) : w.heap.size ≤ gb248)); have n5_ := Aside0.mk ((by rw [hg]; exact (qak (by repeat (first | (with_reducible first | exact HB.out | apply qab | apply qaa | apply qac | refine qai ?_ GE244.out | refine qai ?_ GE246.out) | exact HB.out))) : w.heap.size ≤ gb248)); have n6_ := Aside0.mk ((by rw [hg]; exact Nat.ne_of_lt (qa4 (g := gb244) (o := .cells #[.int .i64 ((qad l0 x17_1).f0), .int .i64 ((qad l0 x17_1).f1), .int .i64 ((qad l0 x17_1).f2), .slice (some ad247) ((qad l0 x17_1).f3).length c243_3] 38 (0, 0)) (by (with_reducible repeat (first | refine qaf ?_ _ | refine qaj ?_ | refine qag ?_ _)); exact BK244.out)) : gb244 ≠ gb248)); have n7_ := Aside0.mk ((by rw [hg]; exact Nat.ne_of_gt (qa4 (g := gb244) (o := .cells #[.int .i64 ((qad l0 x17_1).f0), .int .i64 ((qad l0 x17_1).f1), .int .i64 ((qad l0 x17_1).f2), .slice (some ad247) ((qad l0 x17_1).f3).length c243_3] 38 (0, 0)) (by (with_reducible repeat (first | refine qaf ?_ _ | refine qaj ?_ | refine qag ?_ _)); exact BK244.out)) : gb248 ≠ gb244)); have n8_ := Aside0.mk ((by rw [hg]; exact Nat.ne_of_lt (qa4 (g := gb246) (o := .cells #[.int .i64 ((qad l1 x17_1).f0), .int .i64 ((qad l1 x17_1).f1), .int .i64 ((qad l1 x17_1).f2), .slice A245_3 ((qad l1 x17_1).f3).length c245_3] 38 (0, 0)) (by (with_reducible repeat (first | refine qaf ?_ _ | refine qaj ?_ | refine qag ?_ _)); exact BK246.out)) : gb246 ≠ gb248)); have n9_ := Aside0.mk ((by rw [hg]; exact Nat.ne_of_gt (qa4 (g := gb246) (o := .cells #[.int .i64 ((qad l1 x17_1).f0), .int .i64 ((qad l1 x17_1).f1), .int .i64 ((qad l1 x17_1).f2), .slice A245_3 ((qad l1 x17_1).f3).length c245_3] 38 (0, 0)) (by (with_reducible repeat (first | refine qaf ?_ _ | refine qaj ?_ | refine qag ?_ _)); exact BK246.out)) : gb248 ≠ gb246)); clear BK244; clear BK246; clear HB; have BK244 := n0_; have BK246 := n1_; have HB := n2_; have BK248 := n3_; have GW248 := n4_; have GE248 := n5_; have NB244_248 := n6_; have NB248_244 := n7_; have NB246_248 := n8_; have NB248_246 := n9_; clear n0_ n1_ n2_ n3_ n4_ n5_ n6_ n7_ n8_ n9_; clear hb hbox hg; have hnb38 := NB248_244.out; have hnc38 := NB244_248.out; have hnb39 := NB248_246.out; have hnc39 := NB246_248.out; have hcz40_0 : w37.cell? ⟨gb248, 0, none⟩ = some (.bool false) := (qah BK248.out 0).trans rfl; have hcz40_1 : w37.cell? ⟨gb248, 1, none⟩ = some (.int .i64 0) := (qah BK248.out 1).trans rfl; have hcz40_2 : w37.cell? ⟨gb248, 2, none⟩ = some (.int .i64 0) := (qah BK248.out 2).trans rfl; have hfz40_0 := qae BK248.out 0; have hfz40_1 := qae BK248.out 1; have hfz40_2 := qae BK248.out 2; have hnb41 := NB246_244.out; have hnc41 := NB244_246.out; have hcz42_0 : w37.cell? ⟨gb246, 0, none⟩ = some (.int .i64 ((qad l1 x17_1).f0)) := (qah BK246.out 0).trans rfl; have hcz42_1 : w37.cell? ⟨gb246, 1, none⟩ = some (.int .i64 ((qad l1 x17_1).f1)) := (qah BK246.out 1).trans rfl; have hcz42_2 : w37.cell? ⟨gb246, 2, none⟩ = some (.int .i64 ((qad l1 x17_1).f2)) := (qah BK246.out 2).trans rfl; have hcz42_3 : w37.cell? ⟨gb246, 3, none⟩ = some (.slice A245_3 ((qad l1 x17_1).f3).length c245_3) := (qah BK246.out 3).trans rfl; have hfz42_0 := qae BK246.out 0; have hfz42_1 := qae BK246.out 1; have hfz42_2 := qae BK246.out 2; have hfz42_3 := qae BK246.out 3; have p249 : 0 ≤ (x57_3 : Int) := of_decide_eq_true (by first | (with_reducible assumption) | assumption); have q249 : x57_3 < (((qad l1 x17_1).f3).length : Int) := of_decide_eq_true (by first | (with_reducible assumption) | assumption); obtain ⟨ad249, e249, hx249_0, hx249_1, hx249_2⟩ := qbx HR245_3.out x57_3 p249 q249; cases e249; have hn249_0 : ad249.block ≠ gb248 := Nat.ne_of_lt (Nat.lt_of_lt_of_le (by have := World.block_lt_of_cell? _ _ hx249_0; first | rwa [add_block] at this | exact this) GW248.out); have hn249_1 : ad249.block ≠ gb248 := Nat.ne_of_lt (Nat.lt_of_lt_of_le (by have := World.block_lt_of_cell? _ _ hx249_0; first | rwa [add_block] at this | exact this) GW248.out); have hn249_2 : ad249.block ≠ gb248 := Nat.ne_of_lt (Nat.lt_of_lt_of_le (by have := World.block_lt_of_cell? _ _ hx249_0; first | rwa [add_block] at this | exact this) GW248.out); replace hx249_0 := (HB.out.cell (World.block_lt_of_cell? w _ hx249_0)).trans hx249_0; replace hx249_1 := (HB.out.cell (World.block_lt_of_cell? w _ hx249_1)).trans hx249_1; replace hx249_2 := (HB.out.cell (World.block_lt_of_cell? w _ hx249_2)).trans hx249_2; replace hx249_0 := (cell_far (p := ⟨gb248, 0, none⟩) (by first | (rw [add_block]; exact hn249_0) | (show (Addr.add _ _).block ≠ _; rw [add_block]; exact hn249_0) | exact hn249_0) (.bool ((qap ((qad l0 x17_1).f3) x57_3).f0))).trans hx249_0; replace hx249_1 := (cell_far (p := ⟨gb248, 0, none⟩) (by first | (rw [add_block]; exact hn249_0) | (show (Addr.add _ _).block ≠ _; rw [add_block]; exact hn249_0) | exact hn249_0) (.bool ((qap ((qad l0 x17_1).f3) x57_3).f0))).trans hx249_1; replace hx249_2 := (cell_far (p := ⟨gb248, 0, none⟩) (by first | (rw [add_block]; exact hn249_0) | (show (Addr.add _ _).block ≠ _; rw [add_block]; exact hn249_0) | exact hn249_0) (.bool ((qap ((qad l0 x17_1).f3) x57_3).f0))).trans hx249_2; replace hx249_0 := (cell_far (p := ⟨gb248, 1, none⟩) (by first | (rw [add_block]; exact hn249_1) | (show (Addr.add _ _).block ≠ _; rw [add_block]; exact hn249_1) | exact hn249_1) (.int .i64 ((qap ((qad l0 x17_1).f3) x57_3).f1))).trans hx249_0; replace hx249_1 := (cell_far (p := ⟨gb248, 1, none⟩) (by first | (rw [add_block]; exact hn249_1) | (show (Addr.add _ _).block ≠ _; rw [add_block]; exact hn249_1) | exact hn249_1) (.int .i64 ((qap ((qad l0 x17_1).f3) x57_3).f1))).trans hx249_1; replace hx249_2 := (cell_far (p := ⟨gb248, 1, none⟩) (by first | (rw [add_block]; exact hn249_1) | (show (Addr.add _ _).block ≠ _; rw [add_block]; exact hn249_1) | exact hn249_1) (.int .i64 ((qap ((qad l0 x17_1).f3) x57_3).f1))).trans hx249_2; replace hx249_0 := (cell_far (p := ⟨gb248, 2, none⟩) (by first | (rw [add_block]; exact hn249_2) | (show (Addr.add _ _).block ≠ _; rw [add_block]; exact hn249_2) | exact hn249_2) (.int .i64 ((qap ((qad l0 x17_1).f3) x57_3).f2))).trans hx249_0; replace hx249_1 := (cell_far (p := ⟨gb248, 2, none⟩) (by first | (rw [add_block]; exact hn249_2) | (show (Addr.add _ _).block ≠ _; rw [add_block]; exact hn249_2) | exact hn249_2) (.int .i64 ((qap ((qad l0 x17_1).f3) x57_3).f2))).trans hx249_1; replace hx249_2 := (cell_far (p := ⟨gb248, 2, none⟩) (by first | (rw [add_block]; exact hn249_2) | (show (Addr.add _ _).block ≠ _; rw [add_block]; exact hn249_2) | exact hn249_2) (.int .i64 ((qap ((qad l0 x17_1).f3) x57_3).f2))).trans hx249_2; (try have hy249_0 := fun (n_ : Nat) => (show (((((w37.drewN n_).setCell ⟨gb248, 0, none⟩ (.bool ((qap ((qad l0 x17_1).f3) x57_3).f0))).setCell ⟨gb248, 1, none⟩ (.int .i64 ((qap ((qad l0 x17_1).f3) x57_3).f1))).setCell ⟨gb248, 2, none⟩ (.int .i64 ((qap ((qad l0 x17_1).f3) x57_3).f2)))).cell? _ = some _ from hx249_0)); (try have hy249_1 := fun (n_ : Nat) => (show (((((w37.drewN n_).setCell ⟨gb248, 0, none⟩ (.bool ((qap ((qad l0 x17_1).f3) x57_3).f0))).setCell ⟨gb248, 1, none⟩ (.int .i64 ((qap ((qad l0 x17_1).f3) x57_3).f1))).setCell ⟨gb248, 2, none⟩ (.int .i64 ((qap ((qad l0 x17_1).f3) x57_3).f2)))).cell? _ = some _ from hx249_1)); (try have hy249_2 := fun (n_ : Nat) => (show (((((w37.drewN n_).setCell ⟨gb248, 0, none⟩ (.bool ((qap ((qad l0 x17_1).f3) x57_3).f0))).setCell ⟨gb248, 1, none⟩ (.int .i64 ((qap ((qad l0 x17_1).f3) x57_3).f1))).setCell ⟨gb248, 2, none⟩ (.int .i64 ((qap ((qad l0 x17_1).f3) x57_3).f2)))).cell? _ = some _ from hx249_2)); clear hn249_0; clear hn249_1; clear hn249_2; replace p249 := eq_true p249; replace q249 := eq_true q249)); try go_wp2_with (first | ((with_reducible refine qat (N := 9) rfl ?_); (try (refine qa7 (by rfl) ?_; dsimp only)); refine qas ?hg (N := 9) ?hd (cs := #[.bool false, .int .i64 0, .int .i64 0]) (t := 48) ?hr ?_; (case hd => rfl); (case hg => rfl); (case hr => first | (go_simp; done) | (go_simp; rfl)); intro gb248 hg w37 hbox hb; have n0_ := Aside0.mk (qar (g := gb244) (o := .cells #[.int .i64 ((qad l0 x17_1).f0), .int .i64 ((qad l0 x17_1).f1), .int .i64 ((qad l0 x17_1).f2), .slice (some ad247) ((qad l0 x17_1).f3).length c243_3] 38 (0, 0)) (by (with_reducible repeat (first | refine qaf ?_ _ | refine qaj ?_ | refine qag ?_ _)); exact BK244.out) hb); have n1_ := Aside0.mk (qar (g := gb246) (o := .cells #[.int .i64 ((qad l1 x17_1).f0), .int .i64 ((qad l1 x17_1).f1), .int .i64 ((qad l1 x17_1).f2), .slice A245_3 ((qad l1 x17_1).f3).length c245_3] 38 (0, 0)) (by (with_reducible repeat (first | refine qaf ?_ _ | refine qaj ?_ | refine qag ?_ _)); exact BK246.out) hb); have n2_ := Aside0.mk (qal (by repeat (first | (with_reducible first | exact HB.out | apply qab | apply qaa | apply qac | refine qai ?_ GE244.out | refine qai ?_ GE246.out) | exact HB.out)) hb); have n3_ := Aside0.mk (hbox); have n4_ := Aside0.mk ((by rw [hg]; exact (qak (by repeat (first | (with_reducible first | exact HB.out | apply qab | apply qaa | apply qac | refine qai ?_ GE244.out | refine qai ?_ GE246.out) | exact HB.out))) : w.heap.size ≤ gb248)); have n5_ := Aside0.mk ((by rw [hg]; exact (qak (by repeat (first | (with_reducible first | exact HB.out | apply qab | apply qaa | apply qac | refine qai ?_ GE244.out | refine qai ?_ GE246.out) | exact HB.out))) : w.heap.size ≤ gb248)); have n6_ := Aside0.mk ((by rw [hg]; exact Nat.ne_of_lt (qa4 (g := gb244) (o := .cells #[.int .i64 ((qad l0 x17_1).f0), .int .i64 ((qad l0 x17_1).f1), .int .i64 ((qad l0 x17_1).f2), .slice (some ad247) ((qad l0 x17_1).f3).length c243_3] 38 (0, 0)) (by (with_reducible repeat (first | refine qaf ?_ _ | refine qaj ?_ | refine qag ?_ _)); exact BK244.out)) : gb244 ≠ gb248)); have n7_ := Aside0.mk ((by rw [hg]; exact Nat.ne_of_gt (qa4 (g := gb244) (o := .cells #[.int .i64 ((qad l0 x17_1).f0), .int .i64 ((qad l0 x17_1).f1), .int .i64 ((qad l0 x17_1).f2), .slice (some ad247) ((qad l0 x17_1).f3).length c243_3] 38 (0, 0)) (by (with_reducible repeat (first | refine qaf ?_ _ | refine qaj ?_ | refine qag ?_ _)); exact BK244.out)) : gb248 ≠ gb244)); have n8_ := Aside0.mk ((by rw [hg]; exact Nat.ne_of_lt (qa4 (g := gb246) (o := .cells #[.int .i64 ((qad l1 x17_1).f0), .int .i64 ((qad l1 x17_1).f1), .int .i64 ((qad l1 x17_1).f2), .slice A245_3 ((qad l1 x17_1).f3).length c245_3] 38 (0, 0)) (by (with_reducible repeat (first | refine qaf ?_ _ | refine qaj ?_ | refine qag ?_ _)); exact BK246.out)) : gb246 ≠ gb248)); have n9_ := Aside0.mk ((by rw [hg]; exact Nat.ne_of_gt (qa4 (g := gb246) (o := .cells #[.int .i64 ((qad l1 x17_1).f0), .int .i64 ((qad l1 x17_1).f1), .int .i64 ((qad l1 x17_1).f2), .slice A245_3 ((qad l1 x17_1).f3).length c245_3] 38 (0, 0)) (by (with_reducible repeat (first | refine qaf ?_ _ | refine qaj ?_ | refine qag ?_ _)); exact BK246.out)) : gb248 ≠ gb246)); clear BK244; clear BK246; clear HB; have BK244 := n0_; have BK246 := n1_; have HB := n2_; have BK248 := n3_; have GW248 := n4_; have GE248 := n5_; have NB244_248 := n6_; have NB248_244 := n7_; have NB246_248 := n8_; have NB248_246 := n9_; clear n0_ n1_ n2_ n3_ n4_ n5_ n6_ n7_ n8_ n9_; clear hb hbox hg; have hnb38 := NB248_244.out; have hnc38 := NB244_248.out; have hnb39 := NB248_246.out; have hnc39 := NB246_248.out; have hcz40_0 : w37.cell? ⟨gb248, 0, none⟩ = some (.bool false) := (qah BK248.out 0).trans rfl; have hcz40_1 : w37.cell? ⟨gb248, 1, none⟩ = some (.int .i64 0) := (qah BK248.out 1).trans rfl; have hcz40_2 : w37.cell? ⟨gb248, 2, none⟩ = some (.int .i64 0) := (qah BK248.out 2).trans rfl; have hfz40_0 := qae BK248.out 0; have hfz40_1 := qae BK248.out 1; have hfz40_2 := qae BK248.out 2; have hnb41 := NB246_244.out; have hnc41 := NB244_246.out; have hcz42_0 : w37.cell? ⟨gb246, 0, none⟩ = some (.int .i64 ((qad l1 x17_1).f0)) := (qah BK246.out 0).trans rfl; have hcz42_1 : w37.cell? ⟨gb246, 1, none⟩ = some (.int .i64 ((qad l1 x17_1).f1)) := (qah BK246.out 1).trans rfl; have hcz42_2 : w37.cell? ⟨gb246, 2, none⟩ = some (.int .i64 ((qad l1 x17_1).f2)) := (qah BK246.out 2).trans rfl; have hcz42_3 : w37.cell? ⟨gb246, 3, none⟩ = some (.slice A245_3 ((qad l1 x17_1).f3).length c245_3) := (qah BK246.out 3).trans rfl; have hfz42_0 := qae BK246.out 0; have hfz42_1 := qae BK246.out 1; have hfz42_2 := qae BK246.out 2; have hfz42_3 := qae BK246.out 3; have p249 : 0 ≤ (x57_3 : Int) := of_decide_eq_true (by first | (with_reducible assumption) | assumption); have q249 : x57_3 < (((qad l1 x17_1).f3).length : Int) := of_decide_eq_true (by first | (with_reducible assumption) | assumption); obtain ⟨ad249, e249, hx249_0, hx249_1, hx249_2⟩ := qbx HR245_3.out x57_3 p249 q249; cases e249; have hn249_0 : ad249.block ≠ gb248 := Nat.ne_of_lt (Nat.lt_of_lt_of_le (by have := World.block_lt_of_cell? _ _ hx249_0; first | rwa [add_block] at this | exact this) GW248.out); have hn249_1 : ad249.block ≠ gb248 := Nat.ne_of_lt (Nat.lt_of_lt_of_le (by have := World.block_lt_of_cell? _ _ hx249_0; first | rwa [add_block] at this | exact this) GW248.out); have hn249_2 : ad249.block ≠ gb248 := Nat.ne_of_lt (Nat.lt_of_lt_of_le (by have := World.block_lt_of_cell? _ _ hx249_0; first | rwa [add_block] at this | exact this) GW248.out); replace hx249_0 := (HB.out.cell (World.block_lt_of_cell? w _ hx249_0)).trans hx249_0; replace hx249_1 := (HB.out.cell (World.block_lt_of_cell? w _ hx249_1)).trans hx249_1; replace hx249_2 := (HB.out.cell (World.block_lt_of_cell? w _ hx249_2)).trans hx249_2; replace hx249_0 := (cell_far (p := ⟨gb248, 0, none⟩) (by first | (rw [add_block]; exact hn249_0) | (show (Addr.add _ _).block ≠ _; rw [add_block]; exact hn249_0) | exact hn249_0) (.bool ((qap ((qad l0 x17_1).f3) x57_3).f0))).trans hx249_0; replace hx249_1 := (cell_far (p := ⟨gb248, 0, none⟩) (by first | (rw [add_block]; exact hn249_0) | (show (Addr.add _ _).block ≠ _; rw [add_block]; exact hn249_0) | exact hn249_0) (.bool ((qap ((qad l0 x17_1).f3) x57_3).f0))).trans hx249_1; replace hx249_2 := (cell_far (p := ⟨gb248, 0, none⟩) (by first | (rw [add_block]; exact hn249_0) | (show (Addr.add _ _).block ≠ _; rw [add_block]; exact hn249_0) | exact hn249_0) (.bool ((qap ((qad l0 x17_1).f3) x57_3).f0))).trans hx249_2; replace hx249_0 := (cell_far (p := ⟨gb248, 1, none⟩) (by first | (rw [add_block]; exact hn249_1) | (show (Addr.add _ _).block ≠ _; rw [add_block]; exact hn249_1) | exact hn249_1) (.int .i64 ((qap ((qad l0 x17_1).f3) x57_3).f1))).trans hx249_0; replace hx249_1 := (cell_far (p := ⟨gb248, 1, none⟩) (by first | (rw [add_block]; exact hn249_1) | (show (Addr.add _ _).block ≠ _; rw [add_block]; exact hn249_1) | exact hn249_1) (.int .i64 ((qap ((qad l0 x17_1).f3) x57_3).f1))).trans hx249_1; replace hx249_2 := (cell_far (p := ⟨gb248, 1, none⟩) (by first | (rw [add_block]; exact hn249_1) | (show (Addr.add _ _).block ≠ _; rw [add_block]; exact hn249_1) | exact hn249_1) (.int .i64 ((qap ((qad l0 x17_1).f3) x57_3).f1))).trans hx249_2; replace hx249_0 := (cell_far (p := ⟨gb248, 2, none⟩) (by first | (rw [add_block]; exact hn249_2) | (show (Addr.add _ _).block ≠ _; rw [add_block]; exact hn249_2) | exact hn249_2) (.int .i64 ((qap ((qad l0 x17_1).f3) x57_3).f2))).trans hx249_0; replace hx249_1 := (cell_far (p := ⟨gb248, 2, none⟩) (by first | (rw [add_block]; exact hn249_2) | (show (Addr.add _ _).block ≠ _; rw [add_block]; exact hn249_2) | exact hn249_2) (.int .i64 ((qap ((qad l0 x17_1).f3) x57_3).f2))).trans hx249_1; replace hx249_2 := (cell_far (p := ⟨gb248, 2, none⟩) (by first | (rw [add_block]; exact hn249_2) | (show (Addr.add _ _).block ≠ _; rw [add_block]; exact hn249_2) | exact hn249_2) (.int .i64 ((qap ((qad l0 x17_1).f3) x57_3).f2))).trans hx249_2; (try have hy249_0 := fun (n_ : Nat) => (show (((((w37.drewN n_).setCell ⟨gb248, 0, none⟩ (.bool ((qap ((qad l0 x17_1).f3) x57_3).f0))).setCell ⟨gb248, 1, none⟩ (.int .i64 ((qap ((qad l0 x17_1).f3) x57_3).f1))).setCell ⟨gb248, 2, none⟩ (.int .i64 ((qap ((qad l0 x17_1).f3) x57_3).f2)))).cell? _ = some _ from hx249_0)); (try have hy249_1 := fun (n_ : Nat) => (show (((((w37.drewN n_).setCell ⟨gb248, 0, none⟩ (.bool ((qap ((qad l0 x17_1).f3) x57_3).f0))).setCell ⟨gb248, 1, none⟩ (.int .i64 ((qap ((qad l0 x17_1).f3) x57_3).f1))).setCell ⟨gb248, 2, none⟩ (.int .i64 ((qap ((qad l0 x17_1).f3) x57_3).f2)))).cell? _ = some _ from hx249_1)); (try have hy249_2 := fun (n_ : Nat) => (show (((((w37.drewN n_).setCell ⟨gb248, 0, none⟩ (.bool ((qap ((qad l0 x17_1).f3) x57_3).f0))).setCell ⟨gb248, 1, none⟩ (.int .i64 ((qap ((qad l0 x17_1).f3) x57_3).f1))).setCell ⟨gb248, 2, none⟩ (.int .i64 ((qap ((qad l0 x17_1).f3) x57_3).f2)))).cell? _ = some _ from hx249_2)); clear hn249_0; clear hn249_1; clear hn249_2; replace p249 := eq_true p249; replace q249 := eq_true q249)))
                  go_ret
                  exact ⟨by first | rfl | (simp [qan, qam] <;> rfl) | (simp [*, qan, qam] <;> rfl), by repeat (first | (with_reducible first | exact HB.out | apply qab | apply qaa | apply qac | refine qai ?_ GE244.out | refine qai ?_ GE246.out | refine qai ?_ GE248.out) | exact HB.out)⟩
                 ·rw [if_neg c36] at H
                  have c36b0 : (!(((qap ((qad l1 x17_1).f3) x57_3).f0) == ((qap ((qad l0 x17_1).f3) x57_3).f0)) || (!(((qap ((qad l1 x17_1).f3) x57_3).f1) == ((qap ((qad l0 x17_1).f3) x57_3).f1)) || (!(((qap ((qad l1 x17_1).f3) x57_3).f2) == ((qap ((qad l0 x17_1).f3) x57_3).f2))))) = false := by simpa using c36
                  clear c36
                  have H' := Aside0.mk H
                  clear H
                  have p247 : 0 ≤ (x57_3 : Int) := of_decide_eq_true (by first | (with_reducible assumption) | assumption)
                  have q247 : x57_3 < (((qad l0 x17_1).f3).length : Int) := of_decide_eq_true (by first | (with_reducible assumption) | assumption)
                  obtain ⟨ad247, e247, hx247_0, hx247_1, hx247_2⟩ := qbx HR243_3.out x57_3 p247 q247
                  cases e247
                  replace hx247_0 := (HB.out.cell (World.block_lt_of_cell? w _ hx247_0)).trans hx247_0
                  replace hx247_1 := (HB.out.cell (World.block_lt_of_cell? w _ hx247_1)).trans hx247_1
                  replace hx247_2 := (HB.out.cell (World.block_lt_of_cell? w _ hx247_2)).trans hx247_2
                  replace p247 := eq_true p247
                  replace q247 := eq_true q247
                  go_wp2_with (first | ((with_reducible refine qat (N := 9) rfl ?_); (try (refine qa7 (by rfl) ?_; dsimp only)); refine qas ?hg (N := 9) ?hd (cs := #[.bool false, .int .i64 0, .int .i64 0]) (t := 48) ?hr ?_; (case hd => rfl); (case hg => rfl); (case hr => first | (go_simp; done) | (go_simp; rfl)); intro gb248 hg w43 hbox hb; have n0_ := Aside0.mk (qar (g := gb244) (o := .cells #[.int .i64 ((qad l0 x17_1).f0), .int .i64 ((qad l0 x17_1).f1), .int .i64 ((qad l0 x17_1).f2), .slice (some ad247) ((qad l0 x17_1).f3).length c243_3] 38 (0, 0)) (by (with_reducible repeat (first | refine qaf ?_ _ | refine qaj ?_ | refine qag ?_ _)); exact BK244.out) hb); have n1_ := Aside0.mk (qar (g := gb246) (o := .cells #[.int .i64 ((qad l1 x17_1).f0), .int .i64 ((qad l1 x17_1).f1), .int .i64 ((qad l1 x17_1).f2), .slice A245_3 ((qad l1 x17_1).f3).length c245_3] 38 (0, 0)) (by (with_reducible repeat (first | refine qaf ?_ _ | refine qaj ?_ | refine qag ?_ _)); exact BK246.out) hb); have n2_ := Aside0.mk (qal (by repeat (first | (with_reducible first | exact HB.out | apply qab | apply qaa | apply qac | refine qai ?_ GE244.out | refine qai ?_ GE246.out) | exact HB.out)) hb); have n3_ := Aside0.mk (hbox); have n4_ := Aside0.mk ((by rw [hg]; exact (qak (by repeat (first | (with_reducible first | exact HB.out | apply qab | apply qaa | apply qac | refine qai ?_ GE244.out | refine qai ?_ GE246.out) | exact HB.out))) : w.heap.size ≤ gb248)); have n5_ := Aside0.mk ((by rw [hg]; exact (qak (by repeat (first | (with_reducible first | exact HB.out | apply qab | apply qaa | apply qac | refine qai ?_ GE244.out | refine qai ?_ GE246.out) | exact HB.out))) : w.heap.size ≤ gb248)); have n6_ := Aside0.mk ((by rw [hg]; exact Nat.ne_of_lt (qa4 (g := gb244) (o := .cells #[.int .i64 ((qad l0 x17_1).f0), .int .i64 ((qad l0 x17_1).f1), .int .i64 ((qad l0 x17_1).f2), .slice (some ad247) ((qad l0 x17_1).f3).length c243_3] 38 (0, 0)) (by (with_reducible repeat (first | refine qaf ?_ _ | refine qaj ?_ | refine qag ?_ _)); exact BK244.out)) : gb244 ≠ gb248)); have n7_ := Aside0.mk ((by rw [hg]; exact Nat.ne_of_gt (qa4 (g := gb244) (o := .cells #[.int .i64 ((qad l0 x17_1).f0), .int .i64 ((qad l0 x17_1).f1), .int .i64 ((qad l0 x17_1).f2), .slice (some ad247) ((qad l0 x17_1).f3).length c243_3] 38 (0, 0)) (by (with_reducible repeat (first | refine qaf ?_ _ | refine qaj ?_ | refine qag ?_ _)); exact BK244.out)) : gb248 ≠ gb244)); have n8_ := Aside0.mk ((by rw [hg]; exact Nat.ne_of_lt (qa4 (g := gb246) (o := .cells #[.int .i64 ((qad l1 x17_1).f0), .int .i64 ((qad l1 x17_1).f1), .int .i64 ((qad l1 x17_1).f2), .slice A245_3 ((qad l1 x17_1).f3).length c245_3] 38 (0, 0)) (by (with_reducible repeat (first | refine qaf ?_ _ | refine qaj ?_ | refine qag ?_ _)); exact BK246.out)) : gb246 ≠ gb248)); have n9_ := Aside0.mk ((by rw [hg]; exact Nat.ne_of_gt (qa4 (g := gb246) (o := .cells #[.int .i64 ((qad l1 x17_1).f0), .int .i64 ((qad l1 x17_1).f1), .int .i64 ((qad l1 x17_1).f2), .slice A245_3 ((qad l1 x17_1).f3).length c245_3] 38 (0, 0)) (by (with_reducible repeat (first | refine qaf ?_ _ | refine qaj ?_ | refine qag ?_ _)); exact BK246.out)) : gb248 ≠ gb246)); clear BK244; clear BK246; clear HB; have BK244 := n0_; have BK246 := n1_; have HB := n2_; have BK248 := n3_; have GW248 := n4_; have GE248 := n5_; have NB244_248 := n6_; have NB248_244 := n7_; have NB246_248 := n8_; have NB248_246 := n9_; clear n0_ n1_ n2_ n3_ n4_ n5_ n6_ n7_ n8_ n9_; clear hb hbox hg; have hnb44 := NB248_244.out; have hnc44 := NB244_248.out; have hnb45 := NB248_246.out; have hnc45 := NB246_248.out; have hcz46_0 : w43.cell? ⟨gb248, 0, none⟩ = some (.bool false) := (qah BK248.out 0).trans rfl; have hcz46_1 : w43.cell? ⟨gb248, 1, none⟩ = some (.int .i64 0) := (qah BK248.out 1).trans rfl; have hcz46_2 : w43.cell? ⟨gb248, 2, none⟩ = some (.int .i64 0) := (qah BK248.out 2).trans rfl; have hfz46_0 := qae BK248.out 0; have hfz46_1 := qae BK248.out 1; have hfz46_2 := qae BK248.out 2; have hnb47 := NB246_244.out; have hnc47 := NB244_246.out; have hcz48_0 : w43.cell? ⟨gb246, 0, none⟩ = some (.int .i64 ((qad l1 x17_1).f0)) := (qah BK246.out 0).trans rfl; have hcz48_1 : w43.cell? ⟨gb246, 1, none⟩ = some (.int .i64 ((qad l1 x17_1).f1)) := (qah BK246.out 1).trans rfl; have hcz48_2 : w43.cell? ⟨gb246, 2, none⟩ = some (.int .i64 ((qad l1 x17_1).f2)) := (qah BK246.out 2).trans rfl; have hcz48_3 : w43.cell? ⟨gb246, 3, none⟩ = some (.slice A245_3 ((qad l1 x17_1).f3).length c245_3) := (qah BK246.out 3).trans rfl; have hfz48_0 := qae BK246.out 0; have hfz48_1 := qae BK246.out 1; have hfz48_2 := qae BK246.out 2; have hfz48_3 := qae BK246.out 3; have p249 : 0 ≤ (x57_3 : Int) := of_decide_eq_true (by first | (with_reducible assumption) | assumption); have q249 : x57_3 < (((qad l1 x17_1).f3).length : Int) := of_decide_eq_true (by first | (with_reducible assumption) | assumption); obtain ⟨ad249, e249, hx249_0, hx249_1, hx249_2⟩ := qbx HR245_3.out x57_3 p249 q249; cases e249; have hn249_0 : ad249.block ≠ gb248 := Nat.ne_of_lt (Nat.lt_of_lt_of_le (by have := World.block_lt_of_cell? _ _ hx249_0; first | rwa [add_block] at this | exact this) GW248.out); have hn249_1 : ad249.block ≠ gb248 := Nat.ne_of_lt (Nat.lt_of_lt_of_le (by have := World.block_lt_of_cell? _ _ hx249_0; first | rwa [add_block] at this | exact this) GW248.out); have hn249_2 : ad249.block ≠ gb248 := Nat.ne_of_lt (Nat.lt_of_lt_of_le (by have := World.block_lt_of_cell? _ _ hx249_0; first | rwa [add_block] at this | exact this) GW248.out); replace hx249_0 := (HB.out.cell (World.block_lt_of_cell? w _ hx249_0)).trans hx249_0; replace hx249_1 := (HB.out.cell (World.block_lt_of_cell? w _ hx249_1)).trans hx249_1; replace hx249_2 := (HB.out.cell (World.block_lt_of_cell? w _ hx249_2)).trans hx249_2; replace hx249_0 := (cell_far (p := ⟨gb248, 0, none⟩) (by first | (rw [add_block]; exact hn249_0) | (show (Addr.add _ _).block ≠ _; rw [add_block]; exact hn249_0) | exact hn249_0) (.bool ((qap ((qad l0 x17_1).f3) x57_3).f0))).trans hx249_0; replace hx249_1 := (cell_far (p := ⟨gb248, 0, none⟩) (by first | (rw [add_block]; exact hn249_0) | (show (Addr.add _ _).block ≠ _; rw [add_block]; exact hn249_0) | exact hn249_0) (.bool ((qap ((qad l0 x17_1).f3) x57_3).f0))).trans hx249_1; replace hx249_2 := (cell_far (p := ⟨gb248, 0, none⟩) (by first | (rw [add_block]; exact hn249_0) | (show (Addr.add _ _).block ≠ _; rw [add_block]; exact hn249_0) | exact hn249_0) (.bool ((qap ((qad l0 x17_1).f3) x57_3).f0))).trans hx249_2; replace hx249_0 := (cell_far (p := ⟨gb248, 1, none⟩) (by first | (rw [add_block]; exact hn249_1) | (show (Addr.add _ _).block ≠ _; rw [add_block]; exact hn249_1) | exact hn249_1) (.int .i64 ((qap ((qad l0 x17_1).f3) x57_3).f1))).trans hx249_0; replace hx249_1 := (cell_far (p := ⟨gb248, 1, none⟩) (by first | (rw [add_block]; exact hn249_1) | (show (Addr.add _ _).block ≠ _; rw [add_block]; exact hn249_1) | exact hn249_1) (.int .i64 ((qap ((qad l0 x17_1).f3) x57_3).f1))).trans hx249_1; replace hx249_2 := (cell_far (p := ⟨gb248, 1, none⟩) (by first | (rw [add_block]; exact hn249_1) | (show (Addr.add _ _).block ≠ _; rw [add_block]; exact hn249_1) | exact hn249_1) (.int .i64 ((qap ((qad l0 x17_1).f3) x57_3).f1))).trans hx249_2; replace hx249_0 := (cell_far (p := ⟨gb248, 2, none⟩) (by first | (rw [add_block]; exact hn249_2) | (show (Addr.add _ _).block ≠ _; rw [add_block]; exact hn249_2) | exact hn249_2) (.int .i64 ((qap ((qad l0 x17_1).f3) x57_3).f2))).trans hx249_0; replace hx249_1 := (cell_far (p := ⟨gb248, 2, none⟩) (by first | (rw [add_block]; exact hn249_2) | (show (Addr.add _ _).block ≠ _; rw [add_block]; exact hn249_2) | exact hn249_2) (.int .i64 ((qap ((qad l0 x17_1).f3) x57_3).f2))).trans hx249_1; replace hx249_2 := (cell_far (p := ⟨gb248, 2, none⟩) (by first | (rw [add_block]; exact hn249_2) | (show (Addr.add _ _).block ≠ _; rw [add_block]; exact hn249_2) | exact hn249_2) (.int .i64 ((qap ((qad l0 x17_1).f3) x57_3).f2))).trans hx249_2; (try have hy249_0 := fun (n_ : Nat) => (show (((((w43.drewN n_).setCell ⟨gb248, 0, none⟩ (.bool ((qap ((qad l0 x17_1).f3) x57_3).f0))).setCell ⟨gb248, 1, none⟩ (.int .i64 ((qap ((qad l0 x17_1).f3) x57_3).f1))).setCell ⟨gb248, 2, none⟩ (.int .i64 ((qap ((qad l0 x17_1).f3) x57_3).f2)))).cell? _ = some _ from hx249_0)); (try have hy249_1 := fun (n_ : Nat) => (show (((((w43.drewN n_).setCell ⟨gb248, 0, none⟩ (.bool ((qap ((qad l0 x17_1).f3) x57_3).f0))).setCell ⟨gb248, 1, none⟩ (.int .i64 ((qap ((qad l0 x17_1).f3) x57_3).f1))).setCell ⟨gb248, 2, none⟩ (.int .i64 ((qap ((qad l0 x17_1).f3) x57_3).f2)))).cell? _ = some _ from hx249_1)); (try have hy249_2 := fun (n_ : Nat) => (show (((((w43.drewN n_).setCell ⟨gb248, 0, none⟩ (.bool ((qap ((qad l0 x17_1).f3) x57_3).f0))).setCell ⟨gb248, 1, none⟩ (.int .i64 ((qap ((qad l0 x17_1).f3) x57_3).f1))).setCell ⟨gb248, 2, none⟩ (.int .i64 ((qap ((qad l0 x17_1).f3) x57_3).f2)))).cell? _ = some _ from hx249_2)); clear hn249_0; clear hn249_1; clear hn249_2; replace p249 := eq_true p249; replace q249 := eq_true q249))
                  repeat (go_quiet (first | ((with_reducible refine qat (N := 9) rfl ?_); (try (refine qa7 (by rfl) ?_; dsimp only)); refine qas ?hg (N := 9) ?hd (cs := #[.bool false, .int .i64 0, .int .i64 0]) (t := 48) ?hr ?_; (case hd => rfl); (case hg => rfl); (case hr => first | (go_simp; done) | (go_simp; rfl)); intro gb248 hg w43 hbox hb; have n0_ := Aside0.mk (qar (g := gb244) (o := .cells #[.int .i64 ((qad l0 x17_1).f0), .int .i64 ((qad l0 x17_1).f1), .int .i64 ((qad l0 x17_1).f2), .slice (some ad247) ((qad l0 x17_1).f3).length c243_3] 38 (0, 0)) (by (with_reducible repeat (first | refine qaf ?_ _ | refine qaj ?_ | refine qag ?_ _)); exact BK244.out) hb); have n1_ := Aside0.mk (qar (g := gb246) (o := .cells #[.int .i64 ((qad l1 x17_1).f0), .int .i64 ((qad l1 x17_1).f1), .int .i64 ((qad l1 x17_1).f2), .slice A245_3 ((qad l1 x17_1).f3).length c245_3] 38 (0, 0)) (by (with_reducible repeat (first | refine qaf ?_ _ | refine qaj ?_ | refine qag ?_ _)); exact BK246.out) hb); have n2_ := Aside0.mk (qal (by repeat (first | (with_reducible first | exact HB.out | apply qab | apply qaa | apply qac | refine qai ?_ GE244.out | refine qai ?_ GE246.out) | exact HB.out)) hb); have n3_ := Aside0.mk (hbox); have n4_ := Aside0.mk ((by rw [hg]; exact (qak (by repeat (first | (with_reducible first | exact HB.out | apply qab | apply qaa | apply qac | refine qai ?_ GE244.out | refine qai ?_ GE246.out) | exact HB.out))) : w.heap.size ≤ gb248)); have n5_ := Aside0.mk ((by rw [hg]; exact (qak (by repeat (first | (with_reducible first | exact HB.out | apply qab | apply qaa | apply qac | refine qai ?_ GE244.out | refine qai ?_ GE246.out) | exact HB.out))) : w.heap.size ≤ gb248)); have n6_ := Aside0.mk ((by rw [hg]; exact Nat.ne_of_lt (qa4 (g := gb244) (o := .cells #[.int .i64 ((qad l0 x17_1).f0), .int .i64 ((qad l0 x17_1).f1), .int .i64 ((qad l0 x17_1).f2), .slice (some ad247) ((qad l0 x17_1).f3).length c243_3] 38 (0, 0)) (by (with_reducible repeat (first | refine qaf ?_ _ | refine qaj ?_ | refine qag ?_ _)); exact BK244.out)) : gb244 ≠ gb248)); have n7_ := Aside0.mk ((by rw [hg]; exact Nat.ne_of_gt (qa4 (g := gb244) (o := .cells #[.int .i64 ((qad l0 x17_1).f0), .int .i64 ((qad l0 x17_1).f1), .int .i64 ((qad l0 x17_1).f2), .slice (some ad247) ((qad l0 x17_1).f3).length c243_3] 38 (0, 0)) (by (with_reducible repeat (first | refine qaf ?_ _ | refine qaj ?_ | refine qag ?_ _)); exact BK244.out)) : gb248 ≠ gb244)); have n8_ := Aside0.mk ((by rw [hg]; exact Nat.ne_of_lt (qa4 (g := gb246) (o := .cells #[.int .i64 ((qad l1 x17_1).f0), .int .i64 ((qad l1 x17_1).f1), .int .i64 ((qad l1 x17_1).f2), .slice A245_3 ((qad l1 x17_1).f3).length c245_3] 38 (0, 0)) (by (with_reducible repeat (first | refine qaf ?_ _ | refine qaj ?_ | refine qag ?_ _)); exact BK246.out)) : gb246 ≠ gb248)); have n9_ := Aside0.mk ((by rw [hg]; exact Nat.ne_of_gt (qa4 (g := gb246) (o := .cells #[.int .i64 ((qad l1 x17_1).f0), .int .i64 ((qad l1 x17_1).f1), .int .i64 ((qad l1 x17_1).f2), .slice A245_3 ((qad l1 x17_1).f3).length c245_3] 38 (0, 0)) (by (with_reducible repeat (first | refine qaf ?_ _ | refine qaj ?_ | refine qag ?_ _)); exact BK246.out)) : gb248 ≠ gb246)); clear BK244; clear BK246; clear HB; have BK244 := n0_; have BK246 := n1_; have HB := n2_; have BK248 := n3_; have GW248 := n4_; have GE248 := n5_; have NB244_248 := n6_; have NB248_244 := n7_; have NB246_248 := n8_; have NB248_246 := n9_; clear n0_ n1_ n2_ n3_ n4_ n5_ n6_ n7_ n8_ n9_; clear hb hbox hg; have hnb44 := NB248_244.out; have hnc44 := NB244_248.out; have hnb45 := NB248_246.out; have hnc45 := NB246_248.out; have hcz46_0 : w43.cell? ⟨gb248, 0, none⟩ = some (.bool false) := (qah BK248.out 0).trans rfl; have hcz46_1 : w43.cell? ⟨gb248, 1, none⟩ = some (.int .i64 0) := (qah BK248.out 1).trans rfl; have hcz46_2 : w43.cell? ⟨gb248, 2, none⟩ = some (.int .i64 0) := (qah BK248.out 2).trans rfl; have hfz46_0 := qae BK248.out 0; have hfz46_1 := qae BK248.out 1; have hfz46_2 := qae BK248.out 2; have hnb47 := NB246_244.out; have hnc47 := NB244_246.out; have hcz48_0 : w43.cell? ⟨gb246, 0, none⟩ = some (.int .i64 ((qad l1 x17_1).f0)) := (qah BK246.out 0).trans rfl; have hcz48_1 : w43.cell? ⟨gb246, 1, none⟩ = some (.int .i64 ((qad l1 x17_1).f1)) := (qah BK246.out 1).trans rfl; have hcz48_2 : w43.cell? ⟨gb246, 2, none⟩ = some (.int .i64 ((qad l1 x17_1).f2)) := (qah BK246.out 2).trans rfl; have hcz48_3 : w43.cell? ⟨gb246, 3, none⟩ = some (.slice A245_3 ((qad l1 x17_1).f3).length c245_3) := (qah BK246.out 3).trans rfl; have hfz48_0 := qae BK246.out 0; have hfz48_1 := qae BK246.out 1; have hfz48_2 := qae BK246.out 2; have hfz48_3 := qae BK246.out 3; have p249 : 0 ≤ (x57_3 : Int) := of_decide_eq_true (by first | (with_reducible assumption) | assumption); have q249 : x57_3 < (((qad l1 x17_1).f3).length : Int) := of_decide_eq_true (by first | (with_reducible assumption) | assumption); obtain ⟨ad249, e249, hx249_0, hx249_1, hx249_2⟩ := qbx HR245_3.out x57_3 p249 q249; cases e249; have hn249_0 : ad249.block ≠ gb248 := Nat.ne_of_lt (Nat.lt_of_lt_of_le (by have := World.block_lt_of_cell? _ _ hx249_0; first | rwa [add_block] at this | exact this) GW248.out); have hn249_1 : ad249.block ≠ gb248 := Nat.ne_of_lt (Nat.lt_of_lt_of_le (by have := World.block_lt_of_cell? _ _ hx249_0; first | rwa [add_block] at this | exact this) GW248.out); have hn249_2 : ad249.block ≠ gb248 := Nat.ne_of_lt (Nat.lt_of_lt_of_le (by have := World.block_lt_of_cell? _ _ hx249_0; first | rwa [add_block] at this | exact this) GW248.out); replace hx249_0 := (HB.out.cell (World.block_lt_of_cell? w _ hx249_0)).trans hx249_0; replace hx249_1 := (HB.out.cell (World.block_lt_of_cell? w _ hx249_1)).trans hx249_1; replace hx249_2 := (HB.out.cell (World.block_lt_of_cell? w _ hx249_2)).trans hx249_2; replace hx249_0 := (cell_far (p := ⟨gb248, 0, none⟩) (by first | (rw [add_block]; exact hn249_0) | (show (Addr.add _ _).block ≠ _; rw [add_block]; exact hn249_0) | exact hn249_0) (.bool ((qap ((qad l0 x17_1).f3) x57_3).f0))).trans hx249_0; replace hx249_1 := (cell_far (p := ⟨gb248, 0, none⟩) (by first | (rw [add_block]; exact hn249_0) | (show (Addr.add _ _).block ≠ _; rw [add_block]; exact hn249_0) | exact hn249_0) (.bool ((qap ((qad l0 x17_1).f3) x57_3).f0))).trans hx249_1; replace hx249_2 := (cell_far (p := ⟨gb248, 0, none⟩) (by first | (rw [add_block]; exact hn249_0) | (show (Addr.add _ _).block ≠ _; rw [add_block]; exact hn249_0) | exact hn249_0) (.bool ((qap ((qad l0 x17_1).f3) x57_3).f0))).trans hx249_2; replace hx249_0 := (cell_far (p := ⟨gb248, 1, none⟩) (by first | (rw [add_block]; exact hn249_1) | (show (Addr.add _ _).block ≠ _; rw [add_block]; exact hn249_1) | exact hn249_1) (.int .i64 ((qap ((qad l0 x17_1).f3) x57_3).f1))).trans hx249_0; replace hx249_1 := (cell_far (p := ⟨gb248, 1, none⟩) (by first | (rw [add_block]; exact hn249_1) | (show (Addr.add _ _).block ≠ _; rw [add_block]; exact hn249_1) | exact hn249_1) (.int .i64 ((qap ((qad l0 x17_1).f3) x57_3).f1))).trans hx249_1; replace hx249_2 := (cell_far (p := ⟨gb248, 1, none⟩) (by first | (rw [add_block]; exact hn249_1) | (show (Addr.add _ _).block ≠ _; rw [add_block]; exact hn249_1) | exact hn249_1) (.int .i64 ((qap ((qad l0 x17_1).f3) x57_3).f1))).trans hx249_2; replace hx249_0 := (cell_far (p := ⟨gb248, 2, none⟩) (by first | (rw [add_block]; exact hn249_2) | (show (Addr.add _ _).block ≠ _; rw [add_block]; exact hn249_2) | exact hn249_2) (.int .i64 ((qap ((qad l0 x17_1).f3) x57_3).f2))).trans hx249_0; replace hx249_1 := (cell_far (p := ⟨gb248, 2, none⟩) (by first | (rw [add_block]; exact hn249_2) | (show (Addr.add _ _).block ≠ _; rw [add_block]; exact hn249_2) | exact hn249_2) (.int .i64 ((qap ((qad l0 x17_1).f3) x57_3).f2))).trans hx249_1; replace hx249_2 := (cell_far (p := ⟨gb248, 2, none⟩) (by first | (rw [add_block]; exact hn249_2) | (show (Addr.add _ _).block ≠ _; rw [add_block]; exact hn249_2) | exact hn249_2) (.int .i64 ((qap ((qad l0 x17_1).f3) x57_3).f2))).trans hx249_2; (try have hy249_0 := fun (n_ : Nat) => (show (((((w43.drewN n_).setCell ⟨gb248, 0, none⟩ (.bool ((qap ((qad l0 x17_1).f3) x57_3).f0))).setCell ⟨gb248, 1, none⟩ (.int .i64 ((qap ((qad l0 x17_1).f3) x57_3).f1))).setCell ⟨gb248, 2, none⟩ (.int .i64 ((qap ((qad l0 x17_1).f3) x57_3).f2)))).cell? _ = some _ from hx249_0)); (try have hy249_1 := fun (n_ : Nat) => (show (((((w43.drewN n_).setCell ⟨gb248, 0, none⟩ (.bool ((qap ((qad l0 x17_1).f3) x57_3).f0))).setCell ⟨gb248, 1, none⟩ (.int .i64 ((qap ((qad l0 x17_1).f3) x57_3).f1))).setCell ⟨gb248, 2, none⟩ (.int .i64 ((qap ((qad l0 x17_1).f3) x57_3).f2)))).cell? _ = some _ from hx249_1)); (try have hy249_2 := fun (n_ : Nat) => (show (((((w43.drewN n_).setCell ⟨gb248, 0, none⟩ (.bool ((qap ((qad l0 x17_1).f3) x57_3).f0))).setCell ⟨gb248, 1, none⟩ (.int .i64 ((qap ((qad l0 x17_1).f3) x57_3).f1))).setCell ⟨gb248, 2, none⟩ (.int .i64 ((qap ((qad l0 x17_1).f3) x57_3).f2)))).cell? _ = some _ from hx249_2)); clear hn249_0; clear hn249_1; clear hn249_2; replace p249 := eq_true p249; replace q249 := eq_true q249)); try go_wp2_with (first | ((with_reducible refine qat (N := 9) rfl ?_); (try (refine qa7 (by rfl) ?_; dsimp only)); refine qas ?hg (N := 9) ?hd (cs := #[.bool false, .int .i64 0, .int .i64 0]) (t := 48) ?hr ?_; (case hd => rfl); (case hg => rfl); (case hr => first | (go_simp; done) | (go_simp; rfl)); intro gb248 hg w43 hbox hb; have n0_ := Aside0.mk (qar (g := gb244) (o := .cells #[.int .i64 ((qad l0 x17_1).f0), .int .i64 ((qad l0 x17_1).f1), .int .i64 ((qad l0 x17_1).f2), .slice (some ad247) ((qad l0 x17_1).f3).length c243_3] 38 (0, 0)) (by (with_reducible repeat (first | refine qaf ?_ _ | refine qaj ?_ | refine qag ?_ _)); exact BK244.out) hb); have n1_ := Aside0.mk (qar (g := gb246) (o := .cells #[.int .i64 ((qad l1 x17_1).f0), .int .i64 ((qad l1 x17_1).f1), .int .i64 ((qad l1 x17_1).f2), .slice A245_3 ((qad l1 x17_1).f3).length c245_3] 38 (0, 0)) (by (with_reducible repeat (first | refine qaf ?_ _ | refine qaj ?_ | refine qag ?_ _)); exact BK246.out) hb); have n2_ := Aside0.mk (qal (by repeat (first | (with_reducible first | exact HB.out | apply qab | apply qaa | apply qac | refine qai ?_ GE244.out | refine qai ?_ GE246.out) | exact HB.out)) hb); have n3_ := Aside0.mk (hbox); have n4_ := Aside0.mk ((by rw [hg]; exact (qak (by repeat (first | (with_reducible first | exact HB.out | apply qab | apply qaa | apply qac | refine qai ?_ GE244.out | refine qai ?_ GE246.out) | exact HB.out))) : w.heap.size ≤ gb248)); have n5_ := Aside0.mk ((by rw [hg]; exact (qak (by repeat (first | (with_reducible first | exact HB.out | apply qab | apply qaa | apply qac | refine qai ?_ GE244.out | refine qai ?_ GE246.out) | exact HB.out))) : w.heap.size ≤ gb248)); have n6_ := Aside0.mk ((by rw [hg]; exact Nat.ne_of_lt (qa4 (g := gb244) (o := .cells #[.int .i64 ((qad l0 x17_1).f0), .int .i64 ((qad l0 x17_1).f1), .int .i64 ((qad l0 x17_1).f2), .slice (some ad247) ((qad l0 x17_1).f3).length c243_3] 38 (0, 0)) (by (with_reducible repeat (first | refine qaf ?_ _ | refine qaj ?_ | refine qag ?_ _)); exact BK244.out)) : gb244 ≠ gb248)); have n7_ := Aside0.mk ((by rw [hg]; exact Nat.ne_of_gt (qa4 (g := gb244) (o := .cells #[.int .i64 ((qad l0 x17_1).f0), .int .i64 ((qad l0 x17_1).f1), .int .i64 ((qad l0 x17_1).f2), .slice (some ad247) ((qad l0 x17_1).f3).length c243_3] 38 (0, 0)) (by (with_reducible repeat (first | refine qaf ?_ _ | refine qaj ?_ | refine qag ?_ _)); exact BK244.out)) : gb248 ≠ gb244)); have n8_ := Aside0.mk ((by rw [hg]; exact Nat.ne_of_lt (qa4 (g := gb246) (o := .cells #[.int .i64 ((qad l1 x17_1).f0), .int .i64 ((qad l1 x17_1).f1), .int .i64 ((qad l1 x17_1).f2), .slice A245_3 ((qad l1 x17_1).f3).length c245_3] 38 (0, 0)) (by (with_reducible repeat (first | refine qaf ?_ _ | refine qaj ?_ | refine qag ?_ _)); exact BK246.out)) : gb246 ≠ gb248)); have n9_ := Aside0.mk ((by rw [hg]; exact Nat.ne_of_gt (qa4 (g := gb246) (o := .cells #[.int .i64 ((qad l1 x17_1).f0), .int .i64 ((qad l1 x17_1).f1), .int .i64 ((qad l1 x17_1).f2), .slice A245_3 ((qad l1 x17_1).f3).length c245_3] 38 (0, 0)) (by (with_reducible repeat (first | refine qaf ?_ _ | refine qaj ?_ | refine qag ?_ _)); exact BK246.out)) : gb248 ≠ gb246)); clear BK244; clear BK246; clear HB; have BK244 := n0_; have BK246 := n1_; have HB := n2_; have BK248 := n3_; have GW248 := n4_; have GE248 := n5_; have NB244_248 := n6_; have NB248_244 := n7_; have NB246_248 := n8_; have NB248_246 := n9_; clear n0_ n1_ n2_ n3_ n4_ n5_ n6_ n7_ n8_ n9_; clear hb hbox hg; have hnb44 := NB248_244.out; have hnc44 := NB244_248.out; have hnb45 := NB248_246.out; have hnc45 := NB246_248.out; have hcz46_0 : w43.cell? ⟨gb248, 0, none⟩ = some (.bool false) := (qah BK248.out 0).trans rfl; have hcz46_1 : w43.cell? ⟨gb248, 1, none⟩ = some (.int .i64 0) := (qah BK248.out 1).trans rfl; have hcz46_2 : w43.cell? ⟨gb248, 2, none⟩ = some (.int .i64 0) := (qah BK248.out 2).trans rfl; have hfz46_0 := qae BK248.out 0; have hfz46_1 := qae BK248.out 1; have hfz46_2 := qae BK248.out 2; have hnb47 := NB246_244.out; have hnc47 := NB244_246.out; have hcz48_0 : w43.cell? ⟨gb246, 0, none⟩ = some (.int .i64 ((qad l1 x17_1).f0)) := (qah BK246.out 0).trans rfl; have hcz48_1 : w43.cell? ⟨gb246, 1, none⟩ = some (.int .i64 ((qad l1 x17_1).f1)) := (qah BK246.out 1).trans rfl; have hcz48_2 : w43.cell? ⟨gb246, 2, none⟩ = some (.int .i64 ((qad l1 x17_1).f2)) := (qah BK246.out 2).trans rfl; have hcz48_3 : w43.cell? ⟨gb246, 3, none⟩ = some (.slice A245_3 ((qad l1 x17_1).f3).length c245_3) := (qah BK246.out 3).trans rfl; have hfz48_0 := qae BK246.out 0; have hfz48_1 := qae BK246.out 1; have hfz48_2 := qae BK246.out 2; have hfz48_3 := qae BK246.out 3; have p249 : 0 ≤ (x57_3 : Int) := of_decide_eq_true (by first | (with_reducible assumption) | assumption); have q249 : x57_3 < (((qad l1 x17_1).f3).length : Int) := of_decide_eq_true (by first | (with_reducible assumption) | assumption); obtain ⟨ad249, e249, hx249_0, hx249_1, hx249_2⟩ := qbx HR245_3.out x57_3 p249 q249; cases e249; have hn249_0 : ad249.block ≠ gb248 := Nat.ne_of_lt (Nat.lt_of_lt_of_le (by have := World.block_lt_of_cell? _ _ hx249_0; first | rwa [add_block] at this | exact this) GW248.out); have hn249_1 : ad249.block ≠ gb248 := Nat.ne_of_lt (Nat.lt_of_lt_of_le (by have := World.block_lt_of_cell? _ _ hx249_0; first | rwa [add_block] at this | exact this) GW248.out); have hn249_2 : ad249.block ≠ gb248 := Nat.ne_of_lt (Nat.lt_of_lt_of_le (by have := World.block_lt_of_cell? _ _ hx249_0; first | rwa [add_block] at this | exact this) GW248.out); replace hx249_0 := (HB.out.cell (World.block_lt_of_cell? w _ hx249_0)).trans hx249_0; replace hx249_1 := (HB.out.cell (World.block_lt_of_cell? w _ hx249_1)).trans hx249_1; replace hx249_2 := (HB.out.cell (World.block_lt_of_cell? w _ hx249_2)).trans hx249_2; replace hx249_0 := (cell_far (p := ⟨gb248, 0, none⟩) (by first | (rw [add_block]; exact hn249_0) | (show (Addr.add _ _).block ≠ _; rw [add_block]; exact hn249_0) | exact hn249_0) (.bool ((qap ((qad l0 x17_1).f3) x57_3).f0))).trans hx249_0; replace hx249_1 := (cell_far (p := ⟨gb248, 0, none⟩) (by first | (rw [add_block]; exact hn249_0) | (show (Addr.add _ _).block ≠ _; rw [add_block]; exact hn249_0) | exact hn249_0) (.bool ((qap ((qad l0 x17_1).f3) x57_3).f0))).trans hx249_1; replace hx249_2 := (cell_far (p := ⟨gb248, 0, none⟩) (by first | (rw [add_block]; exact hn249_0) | (show (Addr.add _ _).block ≠ _; rw [add_block]; exact hn249_0) | exact hn249_0) (.bool ((qap ((qad l0 x17_1).f3) x57_3).f0))).trans hx249_2; replace hx249_0 := (cell_far (p := ⟨gb248, 1, none⟩) (by first | (rw [add_block]; exact hn249_1) | (show (Addr.add _ _).block ≠ _; rw [add_block]; exact hn249_1) | exact hn249_1) (.int .i64 ((qap ((qad l0 x17_1).f3) x57_3).f1))).trans hx249_0; replace hx249_1 := (cell_far (p := ⟨gb248, 1, none⟩) (by first | (rw [add_block]; exact hn249_1) | (show (Addr.add _ _).block ≠ _; rw [add_block]; exact hn249_1) | exact hn249_1) (.int .i64 ((qap ((qad l0 x17_1).f3) x57_3).f1))).trans hx249_1; replace hx249_2 := (cell_far (p := ⟨gb248, 1, none⟩) (by first | (rw [add_block]; exact hn249_1) | (show (Addr.add _ _).block ≠ _; rw [add_block]; exact hn249_1) | exact hn249_1) (.int .i64 ((qap ((qad l0 x17_1).f3) x57_3).f1))).trans hx249_2; replace hx249_0 := (cell_far (p := ⟨gb248, 2, none⟩) (by first | (rw [add_block]; exact hn249_2) | (show (Addr.add _ _).block ≠ _; rw [add_block]; exact hn249_2) | exact hn249_2) (.int .i64 ((qap ((qad l0 x17_1).f3) x57_3).f2))).trans hx249_0; replace hx249_1 := (cell_far (p := ⟨gb248, 2, none⟩) (by first | (rw [add_block]; exact hn249_2) | (show (Addr.add _ _).block ≠ _; rw [add_block]; exact hn249_2) | exact hn249_2) (.int .i64 ((qap ((qad l0 x17_1).f3) x57_3).f2))).trans hx249_1; replace hx249_2 := (cell_far (p := ⟨gb248, 2, none⟩) (by first | (rw [add_block]; exact hn249_2) | (show (Addr.add _ _).block ≠ _; rw [add_block]; exact hn249_2) | exact hn249_2) (.int .i64 ((qap ((qad l0 x17_1).f3) x57_3).f2))).trans hx249_2; (try have hy249_0 := fun (n_ : Nat) => (show (((((w43.drewN n_).setCell ⟨gb248, 0, none⟩ (.bool ((qap ((qad l0 x17_1).f3) x57_3).f0))).setCell ⟨gb248, 1, none⟩ (.int .i64 ((qap ((qad l0 x17_1).f3) x57_3).f1))).setCell ⟨gb248, 2, none⟩ (.int .i64 ((qap ((qad l0 x17_1).f3) x57_3).f2)))).cell? _ = some _ from hx249_0)); (try have hy249_1 := fun (n_ : Nat) => (show (((((w43.drewN n_).setCell ⟨gb248, 0, none⟩ (.bool ((qap ((qad l0 x17_1).f3) x57_3).f0))).setCell ⟨gb248, 1, none⟩ (.int .i64 ((qap ((qad l0 x17_1).f3) x57_3).f1))).setCell ⟨gb248, 2, none⟩ (.int .i64 ((qap ((qad l0 x17_1).f3) x57_3).f2)))).cell? _ = some _ from hx249_1)); (try have hy249_2 := fun (n_ : Nat) => (show (((((w43.drewN n_).setCell ⟨gb248, 0, none⟩ (.bool ((qap ((qad l0 x17_1).f3) x57_3).f0))).setCell ⟨gb248, 1, none⟩ (.int .i64 ((qap ((qad l0 x17_1).f3) x57_3).f1))).setCell ⟨gb248, 2, none⟩ (.int .i64 ((qap ((qad l0 x17_1).f3) x57_3).f2)))).cell? _ = some _ from hx249_2)); clear hn249_0; clear hn249_1; clear hn249_2; replace p249 := eq_true p249; replace q249 := eq_true q249)))
                  go_roundg k3
                  case measure => have := HK1.out; have := HJ7.out; have := HK3.out; omega
                  case rel => exact ⟨(wrap64 (x57_3 + 1)), (by first | rfl | (simp; done) | (simp [*]; done)), H', ⟨by have := HK1.out; have := HJ7.out; have := HK3.out; omega⟩, ⟨by (with_reducible repeat (first | refine qaf ?_ _ | refine qaj ?_ | refine qag ?_ _)); refine qa1 ?_ NB244_248.out _; (with_reducible repeat (first | refine qaf ?_ _ | refine qaj ?_ | refine qag ?_ _)); refine qa1 ?_ NB244_248.out _; (with_reducible repeat (first | refine qaf ?_ _ | refine qaj ?_ | refine qag ?_ _)); refine qa1 ?_ NB244_248.out _; (with_reducible repeat (first | refine qaf ?_ _ | refine qaj ?_ | refine qag ?_ _)); exact BK244.out⟩, ⟨by (with_reducible repeat (first | refine qaf ?_ _ | refine qaj ?_ | refine qag ?_ _)); refine qa1 ?_ NB246_248.out _; (with_reducible repeat (first | refine qaf ?_ _ | refine qaj ?_ | refine qag ?_ _)); refine qa1 ?_ NB246_248.out _; (with_reducible repeat (first | refine qaf ?_ _ | refine qaj ?_ | refine qag ?_ _)); refine qa1 ?_ NB246_248.out _; (with_reducible repeat (first | refine qaf ?_ _ | refine qaj ?_ | refine qag ?_ _)); exact BK246.out⟩, ⟨by repeat (first | (with_reducible first | exact HB.out | apply qab | apply qaa | apply qac | refine qai ?_ GE244.out | refine qai ?_ GE246.out | refine qai ?_ GE248.out) | exact HB.out)⟩⟩
                ·rw [if_neg c35] at H
                 exact absurd H (by simp)
               ·rw [if_neg c34] at H
                exact absurd H (by simp)
              ·rw [if_neg c33] at H
               exact absurd H (by simp)
             ·rw [if_neg c32] at H
              have c32b0 : decide (x57_3 < (((qad l0 x17_1).f3).length : Int)) = false := decide_eq_false c32
              clear c32
              have H' := Aside0.mk H
              clear H
              go_wp2
              repeat (go_quiet (fail); try go_wp2)
              go_roundg k3
              case measure => have := HK1.out; have := HJ7.out; have := HK3.out; omega
              case rel => exact ⟨(wrap64 (x17_1 + 1)), (by first | rfl | (simp; done) | (simp [*]; done)), H', ⟨by have := HK1.out; have := HJ7.out; have := HK3.out; omega⟩, ⟨by repeat (first | (with_reducible first | exact HB.out | apply qab | apply qaa | apply qac | refine qai ?_ GE244.out | refine qai ?_ GE246.out) | exact HB.out)⟩⟩
       ·rw [if_neg c7] at H
        exact absurd H (by simp)
      ·rw [if_neg c6] at H
       exact absurd H (by simp)
     ·rw [if_neg c5] at H
      exact absurd H (by simp)
    ·rw [if_neg c4] at H
     have c4b0 : decide (x17_1 < (l0.length : Int)) = false := decide_eq_false c4
     clear c4
     obtain rfl := Option.some.inj H
     go_wp2
     repeat (go_quiet (fail); try go_wp2)
     go_ret
     exact ⟨by first | rfl | (simp [qan, qam] <;> rfl) | (simp [*, qan, qam] <;> rfl), by repeat (first | (with_reducible first | exact HB.out | apply qab | apply qaa | apply qac) | exact HB.out)⟩
 ·rw [if_neg c3] at H
  have c3b0 : ((l0.length : Int) == (l1.length : Int)) = false := beq_eq_false_iff_ne.mpr c3
  have c3b1 : ((l0.length : Int) != (l1.length : Int)) = true := bne_iff_ne.mpr c3
  have c3b2 : (l0.length == l1.length) = false := by first | simpa using c3 | (simp at c3 ⊢; omega)
  obtain rfl := Option.some.inj H
  go_enter Tryd.func9, Tryd.ntmps9
  go_wp2
  repeat (go_quiet (fail); try go_wp2)
  go_ret
  exact ⟨by first | rfl | (simp [qan, qam] <;> rfl) | (simp [*, qan, qam] <;> rfl), by repeat (first | (with_reducible first | exact HB.out | apply qab | apply qaa | apply qac) | exact HB.out)⟩
end Go.Proofs.YtanofkgnjmegdaaDoor.Q
end
section
namespace Go.Proofs.YtanofkgnjmegdaaDoor.Script
open Go Go.Lib Go.RowKit Go.Proofs.YtanofkgnjmegdaaDoor Go.Proofs.YtanofkgnjmegdaaDoor.Hand Go.Proofs.YtanofkgnjmegdaaDoor.Plain Go.Proofs.YtanofkgnjmegdaaDoor.Hist Go.Proofs.YtanofkgnjmegdaaDoor.Row3 Go.Proofs.YtanofkgnjmegdaaDoorW.PrintWords
open Go.Proofs.YtanofkgnjmegdaaDoor.K (S38 S48 qad qap)
theorem mkB_size (l : List UInt8) : (mkB l).size = l.length := ba_size l
theorem mkB_append (a b : List UInt8) : mkB a ++ mkB b = mkB (a ++ b) := ba_append a b
theorem right_wf {o : O3} (h : qb0 o.w o.k o.v = true) : (0 ≤ o.k ∧ o.k ≤ 63) ∧ In31 o.v := by
 unfold qb0 at h
 rw [decide_eq_true_iff] at h
 exact ⟨⟨h.1, by omega⟩, ⟨h.2.2.1, h.2.2.2.1⟩⟩
theorem textO_f {o : O3} (h : qb0 o.w o.k o.v = true) : Q.op_Text.f o.w o.k o.v = some (mkB (qce o)) := by
 obtain ⟨h1, h2⟩ := right_wf h
 obtain ⟨h2, h3⟩ := h2
 have hin : inI64 [o.k, o.v] = true := by unfold inI64; simp; omega
 have hj : ∀ c : UInt8, token_Join.f ⟨#[c]⟩ [o.k, o.v] = some (mkB (c :: qbw [o.k, o.v])) := by
  intro c
  unfold token_Join.f
  rw [if_pos ⟨by simp [ByteArray.size], hin⟩]
  rfl
 unfold Q.op_Text.f qce opText
 cases o.w with
 | true => rw [if_pos rfl, hj]; rfl
 | false => rw [if_neg (by simp), hj]; rfl
theorem textL_cons (l : List UInt8) (ls : List (List UInt8)) : qbz (l :: ls) = l ++ 10 :: qbz ls := by simp [qbz]
theorem textL_append (a b : List (List UInt8)) : qbz (a ++ b) = qbz a ++ qbz b := by simp [qbz]
theorem txn_l0 (ops : List O3) (hr : ∀ o ∈ ops, qb0 o.w o.k o.v = true) (hn : ops.length ≤ 4611686018427387904) : ∀ (d j : Nat) (acc : List UInt8), j + d = ops.length → acc.length + (qbz ((ops.drop j).map qce)).length ≤ 4611686018427387904 →
  Ev (fun k => Q.txn_Text.l0 k (mkB acc) (ops.map ofO) (ops.length : Int) (j : Int)) (mkB (acc ++ qbz ((ops.drop j).map qce))) := by
 intro d
 induction d with
 | zero =>
  intro j acc hj hb
  refine Ev.step (f := fun _ => some (mkB acc)) (fun k => by rw [Q.txn_Text.l0]; rw [if_neg (by omega)]) ?_
  rw [List.drop_of_length_le (by omega)]
  simp only [List.map_nil, qbz, List.flatMap_nil, List.append_nil]
  exact Ev.now _
 | succ d ih =>
  intro j acc hj hb
  have hlt : j < ops.length := by omega
  have hd : ops.drop j = ops[j] :: ops.drop (j + 1) := List.drop_eq_getElem_cons hlt
  rw [hd, List.map_cons, textL_cons] at hb ⊢
  have hr1 := hr ops[j] (List.getElem_mem hlt)
  simp only [List.length_append, List.length_cons] at hb
  refine Ev.step (f := fun k => Q.txn_Text.l0 k (mkB (acc ++ (qce ops[j] ++ [10]))) (ops.map ofO) (ops.length : Int) ((j + 1 : Nat) : Int)) (fun k => ?_) ?_
  ·rw [Q.txn_Text.l0]
   rw [if_pos (by omega), if_pos (by omega), if_pos (by rw [List.length_map]; omega), rdO_at ops j hlt, Hist.wrap_nat (x := j) (by omega)]
   show (Q.op_Text.f ops[j].w ops[j].k ops[j].v).bind _ = _
   rw [textO_f hr1, Option.bind_some, if_pos (by rw [mkB_size]; omega)]
   have e : mkB (qce ops[j]) ++ (⟨#[10]⟩ : ByteArray) = mkB (qce ops[j] ++ [10]) := mkB_append _ [10]
   rw [e, if_pos (by rw [mkB_size, mkB_size]; simp; omega), mkB_append]
  ·have := ih (j + 1) (acc ++ (qce ops[j] ++ [10])) (by omega) (by simp only [List.length_append, List.length_cons, List.length_nil]; omega)
   simp only [List.append_assoc, List.singleton_append] at this ⊢
   exact this
theorem txn_f (t : T4) (hn : NumT t) (hl : t.ops.length ≤ 4611686018427387904) (hb : (qbz (qbe t)).length ≤ 4611686018427387904) : Ev (fun k => Q.txn_Text.f k t.s t.b t.c (t.ops.map ofO)) (mkB (qbz (qbe t))) := by
 obtain ⟨⟨h1, h1'⟩, ⟨h2, h2'⟩, ⟨h3, h3'⟩, h4⟩ := hn
 have hin : inI64 [t.s, t.b, t.c] = true := by unfold inI64; simp; omega
 have hj : token_Join.f ⟨#[116, 120, 110]⟩ [t.s, t.b, t.c] = some (mkB (qcg t.s t.b t.c)) := by
  unfold token_Join.f
  rw [if_pos ⟨by show 3 + 21 * 3 ≤ _; omega, hin⟩]
  rfl
 unfold qbe at hb ⊢
 rw [textL_cons] at hb ⊢
 simp only [List.length_append, List.length_cons] at hb
 refine Ev.congr (f := fun k => Q.txn_Text.l0 k (mkB (qcg t.s t.b t.c ++ [10])) (t.ops.map ofO) (t.ops.length : Int) ((0 : Nat) : Int)) (fun k => ?_) ?_
 ·unfold Q.txn_Text.f
  rw [hj, Option.bind_some, if_pos (by rw [mkB_size]; omega)]
  have e : mkB (qcg t.s t.b t.c) ++ (⟨#[10]⟩ : ByteArray) = mkB (qcg t.s t.b t.c ++ [10]) := mkB_append _ [10]
  rw [e, List.length_map]
  rfl
 ·have := txn_l0 t.ops h4 hl t.ops.length 0 (qcg t.s t.b t.c ++ [10]) (by omega) (by simp; omega)
  simp only [List.drop_zero, List.append_assoc, List.singleton_append] at this
  exact this
theorem le_text {t : T4} {h : List T4} (ht : t ∈ h) : (qbz (qbe t)).length ≤ (qbz (qa6 h)).length := by
 induction h with
 | nil => cases ht
 | cons u h ih =>
  have e : qa6 (u :: h) = qbe u ++ qa6 h := by simp [qa6]
  rw [e, textL_append, List.length_append]
  rcases List.mem_cons.1 ht with rfl | ht
  ·omega
  ·have := ih ht; omega
theorem lines_le : ∀ ls : List (List UInt8), ls.length ≤ (qbz ls).length
 | [] => Nat.zero_le _
 | l :: ls => by
  rw [textL_cons]
  have := lines_le ls
  simp
  omega
theorem print_l0 (h : List T4) (hn : ∀ t ∈ h, NumT t) (hb : (qbz (qa6 h)).length ≤ 2000000000) : ∀ (d j : Nat) (acc : List UInt8), j + d = h.length → acc.length + (qbz (qa6 (h.drop j))).length ≤ 2000000000 →
  Ev (fun k => Q.script_Print.l0 k (mkB acc) (h.map ofT) (h.length : Int) (j : Int)) (mkB (acc ++ qbz (qa6 (h.drop j)))) := by
 have hlen : h.length ≤ 2000000000 := by
  have h1 := linesT_length h
  have h2 := lines_le (qa6 h)
  omega
 intro d
 induction d with
 | zero =>
  intro j acc hj hc
  refine Ev.step (f := fun _ => some (mkB acc)) (fun k => by rw [Q.script_Print.l0]; rw [if_neg (by omega)]) ?_
  rw [List.drop_of_length_le (by omega)]
  simp only [qa6, qbz, List.flatMap_nil, List.append_nil]
  exact Ev.now _
 | succ d ih =>
  intro j acc hj hc
  have hlt : j < h.length := by omega
  have hd : h.drop j = h[j] :: h.drop (j + 1) := List.drop_eq_getElem_cons hlt
  have e : qa6 (h[j] :: h.drop (j + 1)) = qbe h[j] ++ qa6 (h.drop (j + 1)) := rfl
  rw [hd, e, textL_append] at hc ⊢
  rw [List.length_append] at hc
  have hm := List.getElem_mem hlt
  have hle := le_text hm
  have hops : h[j].ops.length ≤ 4611686018427387904 := by
   have h1 := lines_le (qbe h[j])
   have h2 : h[j].ops.length ≤ (qbe h[j]).length := by simp [qbe]
   omega
  refine Ev.step (f := fun k => (Q.txn_Text.f k h[j].s h[j].b h[j].c (h[j].ops.map ofO)).bind fun t => if (mkB acc).size + t.size ≤ 9223372036854775807 then Q.script_Print.l0 k (mkB acc ++ t) (h.map ofT) (h.length : Int) ((j + 1 : Nat) : Int) else none) (fun k => ?_) ?_
  ·rw [Q.script_Print.l0]
   rw [if_pos (by omega), if_pos (by omega), if_pos (by rw [List.length_map]; omega), rdT_at h j hlt, Hist.wrap_nat (x := j) (by omega)]
   rfl
  ·refine Ev.bind (txn_f h[j] (hn _ hm) hops (by omega)) ?_
   refine Ev.congr (f := fun k => Q.script_Print.l0 k (mkB (acc ++ qbz (qbe h[j]))) (h.map ofT) (h.length : Int) ((j + 1 : Nat) : Int)) (fun k => ?_) ?_
   ·rw [if_pos (by rw [mkB_size, mkB_size]; omega), mkB_append]
   ·have := ih (j + 1) (acc ++ qbz (qbe h[j])) (by omega) (by rw [List.length_append]; omega)
    simp only [List.append_assoc] at this
    exact this
theorem print_f (h : List T4) (hn : ∀ t ∈ h, NumT t) (hb : (qbz (qa6 h)).length ≤ 2000000000) : Ev (fun k => Q.script_Print.f k (h.map ofT)) (mkB (qbz (qa6 h))) := by
 unfold Q.script_Print.f
 rw [List.length_map]
 exact print_l0 h hn hb h.length 0 [] (by omega) (by simpa using hb)
theorem nlines_cut (a : ByteArray) : qca a = (cutL 10 a.data.toList).map mkB := by
 rw [← splitB_cutL 10 a]
 exact (map_mkB _).symm
def qa8 (a : ByteArray) : List ByteArray := (qca a).dropLast
def qbj (a : ByteArray) : List T4 × Int × Int :=
 let r := qaz [] 0 (qa8 a)
 if 0 < r.2 then ([], r.2, 1) else if qcb a = true then (if qbp r.1 = 0 then (r.1, 0, 0) else ([], 0, qbp r.1)) else ([], ((qa8 a).length : Int) + 1, 1)
theorem linesP_le (a : ByteArray) : (qa8 a).length ≤ a.size ∧ ∀ s ∈ qa8 a, s.size ≤ a.size := by
 unfold qa8
 rw [nlines_cut]
 obtain ⟨h1, h2⟩ := cutL_len 10 a.data.toList
 have hs : a.data.toList.length = a.size := by simp
 refine ⟨by simp; omega, fun s hm => ?_⟩
 have hm := List.dropLast_subset _ hm
 obtain ⟨p, hp, rfl⟩ := List.mem_map.1 hm
 rw [mkB_size]
 have := h2 p hp
 omega
theorem lines_small (a : ByteArray) : (qaz [] 0 (qa8 a)).1.length + qa2 (qaz [] 0 (qa8 a)).1 ≤ a.size := by
 have hl := (linesP_le a).1
 rcases linesF_lines (qa8 a) [] 0 (fun t ht => by cases ht) with ⟨_, h2, _⟩ | ⟨_, _, h3⟩
 ·have := linesT_length (qaz [] 0 (qa8 a)).1
  rw [h2] at this
  simp [qa6] at this
  omega
 ·rw [h3]
  simp [qa2]
theorem smallT {h : List T4} (h1 : h.length ≤ 4611686018427387904) (h2 : qa2 h ≤ 4611686018427387904) : Give.Small (h.map ofT) = true := by
 unfold Give.Small
 rw [toT_ofT_map, List.length_map]
 simp [h1, h2]
theorem parse_f' (a : ByteArray) (hs : a.size ≤ 1048576) (k : Nat) : Q.script_Parse.f k a = some ((qbj a).1.map ofT, (qbj a).2.1, (qbj a).2.2) := by
 obtain ⟨h1, h2⟩ := linesP_le a
 have h3 := lines_small a
 have e1 : token_Lines.f a = some (qa8 a, qcb a) := by
  unfold token_Lines.f
  rw [if_pos (by omega)]
  rfl
 have e2 : Give.script_Lines.f k (qa8 a) = some ((qaz [] 0 (qa8 a)).1.map ofT, (qaz [] 0 (qa8 a)).2) := by
  unfold Give.script_Lines.f
  rw [if_pos (by unfold Give.Fit; simp only [Bool.and_eq_true, decide_eq_true_eq, List.all_eq_true]; exact ⟨by omega, fun s hm => by have := h2 s hm; omega⟩)]
 have e3 : Give.history_Check.f k ((qaz [] 0 (qa8 a)).1.map ofT) = some (qbp (qaz [] 0 (qa8 a)).1) := by
  unfold Give.history_Check.f
  rw [if_pos (smallT (by omega) (by omega)), toT_ofT_map]
 unfold Q.script_Parse.f
 rw [if_neg (by omega), e1, Option.bind_some, e2, Option.bind_some]
 unfold qbj
 dsimp only
 by_cases c1 : 0 < (qaz [] 0 (qa8 a)).2
 ·rw [if_pos (show _ > (0 : Int) from c1), if_pos c1]
  rfl
 ·rw [if_neg (show ¬ _ > (0 : Int) from c1), if_neg c1]
  by_cases c2 : qcb a = true
  ·rw [if_pos c2, if_pos c2, e3, Option.bind_some]
   by_cases c3 : qbp (qaz [] 0 (qa8 a)).1 = 0
   ·rw [if_pos c3, if_pos c3]
   ·rw [if_neg c3, if_neg c3]
    rfl
  ·rw [if_neg c2, if_neg c2, Plain.wrap_id (by omega) (by omega)]
   rfl
theorem parse_text (h : List T4) (hc : qbp h = 0) (hn : ∀ t ∈ h, NumT t) : qbj (mkB (qbz (qa6 h))) = (h, 0, 0) := by
 have hcut : cutL 10 (mkB (qbz (qa6 h))).data.toList = qa6 h ++ [[]] := cutL_lines 10 (qa6 h) (line_free h)
 have hP : qa8 (mkB (qbz (qa6 h))) = (qa6 h).map mkB := by
  unfold qa8
  rw [nlines_cut, hcut]
  simp
 have hE : qcb (mkB (qbz (qa6 h))) = true := by
  unfold qcb
  rw [nlines_cut, hcut]
  simp only [List.map_append, List.map_cons, List.map_nil, List.getLastD_concat]
  rw [toList_data]
  rfl
 have hL : qaz [] 0 (qa8 (mkB (qbz (qa6 h)))) = (h, 0) := by
  rw [hP]
  have := linesF_back [] h [] 0 hn
  rw [List.append_nil, List.nil_append] at this
  rw [this]
  rfl
 unfold qbj
 rw [hL, hE]
 dsimp only
 rw [if_neg (by omega), if_pos rfl, if_pos hc]
theorem text_parse (a : ByteArray) (h0 : (qbj a).2.2 = 0) (h1 : (qbj a).2.1 = 0) : mkB (qbz (qa6 (qbj a).1)) = a ∧ (∀ t ∈ (qbj a).1, NumT t) := by
 obtain ⟨r, hr⟩ : ∃ r, qbj a = r := ⟨_, rfl⟩
 rw [hr] at h0 h1 ⊢
 unfold qbj at hr
 dsimp only at hr
 split at hr
 ·subst hr
  simp at h0
 ·rename_i c1
  split at hr
  ·rename_i c2
   split at hr
   ·subst hr
    rcases linesF_lines (qa8 a) [] 0 (fun t ht => by cases ht) with ⟨_, h2, h3⟩ | ⟨h2, _, _⟩
    ·refine ⟨?_, h3⟩
     dsimp only
     rw [h2]
     simp only [qa6, List.flatMap_nil, List.nil_append]
     have hne := cutL_ne 10 a.data.toList
     have hj := joinC_cutL 10 a.data.toList
     have hl : (cutL 10 a.data.toList).getLast hne = [] := by
      unfold qcb at c2
      rw [nlines_cut, List.getLastD_eq_getLast?, List.getLast?_map, List.getLast?_eq_some_getLast hne] at c2
      simp only [Option.map_some, Option.getD_some] at c2
      rw [toList_data] at c2
      simpa [mkB] using c2
     have hsplit := List.dropLast_concat_getLast hne
     rw [hl] at hsplit
     have hP : (qa8 a).map (·.data.toList) = (cutL 10 a.data.toList).dropLast := by
      unfold qa8
      rw [nlines_cut, ← List.map_dropLast, List.map_map]
      conv => rhs; rw [← List.map_id (cutL 10 a.data.toList).dropLast]
      apply List.map_congr_left
      intro x _
      simp [mkB]
     rw [hP]
     refine ba_ext ?_
     rw [← hsplit, joinC_last] at hj
     simpa [mkB, qbz] using hj
    ·exact absurd h2 c1
   ·subst hr
    rename_i c3
    exact absurd h0 c3
  ·subst hr
   simp at h0
end Go.Proofs.YtanofkgnjmegdaaDoor.Script
end
section
namespace Go.Proofs.YtanofkgnjmegdaaDoor.Q
open Go.Proofs.YtanofkgnjmegdaaDoor Go.Proofs.YtanofkgnjmegdaaDoor.Hand Go.Proofs.YtanofkgnjmegdaaDoor.Give Go.Proofs.YtanofkgnjmegdaaDoor.K
open Go.RowKit Go.Proofs.YtanofkgnjmegdaaDoorW.PrintWords Go.Proofs.YtanofkgnjmegdaaDoorW.PrintLast Go.Proofs.YtanofkgnjmegdaaDoorW.PrintMore
attribute [local go_sem] qbv qbt qb3 qb2 qbl qbk qbu qbs   -- for this text's walks alone
set_option linter.unusedVariables false
set_option linter.unusedSimpArgs false
def burgagelaw07_ScriptParses.f (k : Nat) (a0 : ByteArray) : Option (Bool) := (burgagelaw07_speaks.f k).bind fun t250 => (if t250 = true then (if (a0.size : Int) > 3000 then (some true) else ((script_Parse.f k a0).bind fun bt251 => ((burgageref07_Parse.f k a0).bind fun bt256 => (if bt251.2.1 = bt256.2.1 then (if bt251.2.2 = bt256.2.2 then ((history_Same.f k bt251.1 bt256.1).bind fun t261 => (if t261 = true then (if bt251.2.2 = 0 then ((script_Print.f k bt251.1).bind fun t262 => (some (t262.toList == a0.toList))) else (some true)) else (some false))) else (some false)) else (some false))))) else (some false))
theorem burgagelaw07_ScriptParses.mono : ∀ a0 k, LeO (burgagelaw07_ScriptParses.f k a0) (burgagelaw07_ScriptParses.f (k + 1) a0) := by
 intro a0 k
 unfold burgagelaw07_ScriptParses.f
 repeat' first
   | (with_reducible exact burgagelaw07_speaks.mono _)
   | (with_reducible exact burgageref07_Parse.mono _ _)
   | (with_reducible exact history_Same.mono _ _ _)
   | (with_reducible exact script_Parse.mono _ _)
   | (with_reducible exact script_Print.mono _ _)
   | (with_reducible exact LeO.refl _)
   | (with_reducible exact LeO.none _)
   | (with_reducible refine LeO.ite ?_ ?_)
   | (with_reducible refine LeO.bind ?_ (fun _ => ?_))
   | exact burgagelaw07_speaks.mono _
   | exact burgageref07_Parse.mono _ _
   | exact history_Same.mono _ _ _
   | exact script_Parse.mono _ _
   | exact script_Print.mono _ _
   | exact LeO.none _
   | refine LeO.ite ?_ ?_
   | refine LeO.bind ?_ (fun _ => ?_)
set_option maxHeartbeats 8000000 in
set_option maxRecDepth 100000 in
theorem burgagelaw07_ScriptParses.calls (k : Nat) (a0 : ByteArray) (r : Bool) (w : World) (h : burgagelaw07_ScriptParses.f k a0 = some r) (HY : Laid w) :
  Calls Tryd.prog 3 #[.string a0] w fun e w' => e = .returned (.bool r) ∧ Below w.heap.size w w' := by
 have HB := Aside0.mk (Below.refl w.heap.size w)
 have H : ((burgagelaw07_speaks.f k).bind fun t250 => (if t250 = true then (if (a0.size : Int) > 3000 then (some true) else ((script_Parse.f k a0).bind fun bt251 => ((burgageref07_Parse.f k a0).bind fun bt256 => (if bt251.2.1 = bt256.2.1 then (if bt251.2.2 = bt256.2.2 then ((history_Same.f k bt251.1 bt256.1).bind fun t261 => (if t261 = true then (if bt251.2.2 = 0 then ((script_Print.f k bt251.1).bind fun t262 => (some (t262.toList == a0.toList))) else (some true)) else (some false))) else (some false)) else (some false))))) else (some false))) = some r := h
 clear h
 replace H := Option.bind_eq_some_iff.mp H
 obtain ⟨t250, A20, H⟩ := H
 replace H : (if t250 = true then (if (a0.size : Int) > 3000 then (some true) else ((script_Parse.f k a0).bind fun bt251 => ((burgageref07_Parse.f k a0).bind fun bt256 => (if bt251.2.1 = bt256.2.1 then (if bt251.2.2 = bt256.2.2 then ((history_Same.f k bt251.1 bt256.1).bind fun t261 => (if t261 = true then (if bt251.2.2 = 0 then ((script_Print.f k bt251.1).bind fun t262 => (some (t262.toList == a0.toList))) else (some true)) else (some false))) else (some false)) else (some false))))) else (some false)) = some r := H
 have A2 := Aside0.mk A20
 clear A20
 by_cases c3 : t250 = true
 ·subst c3
  have H1 : (if (a0.size : Int) > 3000 then (some true) else ((script_Parse.f k a0).bind fun bt251 => ((burgageref07_Parse.f k a0).bind fun bt256 => (if bt251.2.1 = bt256.2.1 then (if bt251.2.2 = bt256.2.2 then ((history_Same.f k bt251.1 bt256.1).bind fun t261 => (if t261 = true then (if bt251.2.2 = 0 then ((script_Print.f k bt251.1).bind fun t262 => (some (t262.toList == a0.toList))) else (some true)) else (some false))) else (some false)) else (some false))))) = some r := by rw [if_pos rfl] at H; exact H
  clear H
  have H := H1
  clear H1
  by_cases c4 : (a0.size : Int) > 3000
  ·rw [if_pos c4] at H
   have c4b0 : decide (3000 < (a0.size : Int)) = true := decide_eq_true c4
   have c4b1 : decide (3000 < a0.size) = true := decide_eq_true (by omega)
   clear c4
   obtain rfl := Option.some.inj H
   go_enter Tryd.func3, Tryd.ntmps3
   go_wp2_with (first | ((with_reducible refine qao (f := 6) rfl ?_); refine qav (some 9) rfl rfl Tryd.func6 (by kernel_rfl) rfl #[] rfl (by (try simp only [List.map_toArray, List.map_cons, List.map_nil]); first | done | rfl | (simp only [List.length_drop, List.length_take]; rfl)) ?_; (with_reducible refine (burgagelaw07_speaks.calls k  true _ A2.out (Laid.below HY (by repeat (first | (with_reducible first | exact HB.out | apply qab | apply qaa | apply qac) | exact HB.out)))).mono ?_); rintro e w5 ⟨rfl, hb⟩; refine ⟨_, rfl, ?_⟩; have n0_ := Aside0.mk (qal (by repeat (first | (with_reducible first | exact HB.out | apply qab | apply qaa | apply qac) | exact HB.out)) hb); clear HB; have HB := n0_; clear n0_; (try clear hb); (try clear hb2); (try clear hk); (try clear hi)))
   go_ret
   exact ⟨by first | rfl | (simp [qan, qam] <;> rfl) | (simp [*, qan, qam] <;> rfl), by repeat (first | (with_reducible first | exact HB.out | apply qab | apply qaa | apply qac) | exact HB.out)⟩
  ·rw [if_neg c4] at H
   have c4b0 : decide (3000 < (a0.size : Int)) = false := decide_eq_false c4
   have c4b1 : decide (3000 < a0.size) = false := decide_eq_false (by omega)
   clear c4
   replace H := Option.bind_eq_some_iff.mp H
   obtain ⟨⟨t251, t252, t253⟩, A60, H⟩ := H
   replace H : ((burgageref07_Parse.f k a0).bind fun bt256 => (if t252 = bt256.2.1 then (if t253 = bt256.2.2 then ((history_Same.f k t251 bt256.1).bind fun t261 => (if t261 = true then (if t253 = 0 then ((script_Print.f k t251).bind fun t262 => (some (t262.toList == a0.toList))) else (some true)) else (some false))) else (some false)) else (some false))) = some r := H
   have A6 := Aside0.mk A60
   clear A60
   replace H := Option.bind_eq_some_iff.mp H
   obtain ⟨⟨t256, t259, t260⟩, A70, H⟩ := H
   replace H : (if t252 = t259 then (if t253 = t260 then ((history_Same.f k t251 t256).bind fun t261 => (if t261 = true then (if t253 = 0 then ((script_Print.f k t251).bind fun t262 => (some (t262.toList == a0.toList))) else (some true)) else (some false))) else (some false)) else (some false)) = some r := H
   have A7 := Aside0.mk A70
   clear A70
   by_cases c8 : t252 = t259
   ·rw [if_pos c8] at H
    have c8b0 : (t252 == t259) = true := beq_iff_eq.mpr c8
    have c8b1 : (t252 != t259) = false := bne_eq_false_iff_eq.mpr c8
    clear c8
    by_cases c9 : t253 = t260
    ·rw [if_pos c9] at H
     have c9b0 : (t253 == t260) = true := beq_iff_eq.mpr c9
     have c9b1 : (t253 != t260) = false := bne_eq_false_iff_eq.mpr c9
     clear c9
     replace H := Option.bind_eq_some_iff.mp H
     obtain ⟨t261, A100, H⟩ := H
     replace H : (if t261 = true then (if t253 = 0 then ((script_Print.f k t251).bind fun t262 => (some (t262.toList == a0.toList))) else (some true)) else (some false)) = some r := H
     have A10 := Aside0.mk A100
     clear A100
     by_cases c11 : t261 = true
     ·subst c11
      have H1 : (if t253 = 0 then ((script_Print.f k t251).bind fun t262 => (some (t262.toList == a0.toList))) else (some true)) = some r := by rw [if_pos rfl] at H; exact H
      clear H
      have H := H1
      clear H1
      by_cases c12 : t253 = 0
      ·rw [if_pos c12] at H
       have c12b0 : (t253 == 0) = true := beq_iff_eq.mpr c12
       have c12b1 : (t253 != 0) = false := bne_eq_false_iff_eq.mpr c12
       clear c12
       replace H := Option.bind_eq_some_iff.mp H
       obtain ⟨t262, A130, H⟩ := H
       replace H : (some (t262.toList == a0.toList)) = some r := H
       have A13 := Aside0.mk A130
       clear A130
       obtain rfl := Option.some.inj H
       go_enter Tryd.func3, Tryd.ntmps3
       go_wp2_with (first | ((with_reducible refine qao (f := 6) rfl ?_); refine qav (some 9) rfl rfl Tryd.func6 (by kernel_rfl) rfl #[] rfl (by (try simp only [List.map_toArray, List.map_cons, List.map_nil]); first | done | rfl | (simp only [List.length_drop, List.length_take]; rfl)) ?_; (with_reducible refine (burgagelaw07_speaks.calls k  true _ A2.out (Laid.below HY (by repeat (first | (with_reducible first | exact HB.out | apply qab | apply qaa | apply qac) | exact HB.out)))).mono ?_); rintro e w14 ⟨rfl, hb⟩; refine ⟨_, rfl, ?_⟩; have n0_ := Aside0.mk (qal (by repeat (first | (with_reducible first | exact HB.out | apply qab | apply qaa | apply qac) | exact HB.out)) hb); clear HB; have HB := n0_; clear n0_; (try clear hb); (try clear hb2); (try clear hk); (try clear hi)) | ((with_reducible refine qao (f := 7) rfl ?_); refine qav (some 16) rfl rfl Tryd.func7 (by kernel_rfl) rfl #[.string a0] rfl (by (try simp only [List.map_toArray, List.map_cons, List.map_nil]); first | done | rfl | (simp only [List.length_drop, List.length_take]; rfl)) ?_; (with_reducible refine (script_Parse.calls k a0 t251 t252 t253 _ A6.out (Laid.below HY (by repeat (first | (with_reducible first | exact HB.out | apply qab | apply qaa | apply qac) | exact HB.out)))).mono ?_); rintro e w15 ⟨v254, rfl, ho0, hb⟩; refine ⟨_, rfl, ?_⟩; have n0_ := Aside0.mk (Kd.N_lower (Kd.N_mono (ok' := fun k_ => True) (Kd.S_N (Kd.S_bound ho0)) (fun k_ hk_ => trivial)) (qak (by repeat (first | (with_reducible first | exact HB.out | apply qab | apply qaa | apply qac) | exact HB.out)))); have n1_ := Aside0.mk (qal (by repeat (first | (with_reducible first | exact HB.out | apply qab | apply qaa | apply qac) | exact HB.out)) hb); clear HB; have HO255 := n0_; have HB := n1_; clear n0_ n1_; (try clear hb); (try clear hb2); (try clear hk); (try clear hi); (try clear ho0)) | ((with_reducible refine qao (f := 8) rfl ?_); refine qav (some 22) rfl rfl Tryd.func8 (by kernel_rfl) rfl #[.string a0] rfl (by (try simp only [List.map_toArray, List.map_cons, List.map_nil]); first | done | rfl | (simp only [List.length_drop, List.length_take]; rfl)) ?_; (with_reducible refine (burgageref07_Parse.calls k a0 t256 t259 t260 _ A7.out (Laid.below HY (by repeat (first | (with_reducible first | exact HB.out | apply qab | apply qaa | apply qac) | exact HB.out)))).mono ?_); rintro e w16 ⟨v257, rfl, ho0, hb⟩; refine ⟨_, rfl, ?_⟩; have n0_ := Aside0.mk (Kd.qb1 (by (with_reducible repeat (first | apply Kd.N_alloc | apply Kd.N_drewN | apply Kd.N_drew)); exact HO255.out) (Kd.N_base ho0) hb); have n1_ := Aside0.mk (Kd.N_lower (Kd.N_mono (ok' := fun k_ => some k_ ≠ (v254 : Value).ownBlock) ho0 (fun k_ hk_ => (Kd.fresh' (Kd.N_lt (by (with_reducible repeat (first | apply Kd.N_alloc | apply Kd.N_drewN | apply Kd.N_drew)); exact HO255.out)) k_ hk_))) (qak (by repeat (first | (with_reducible first | exact HB.out | apply qab | apply qaa | apply qac) | exact HB.out)))); have n2_ := Aside0.mk (qal (by repeat (first | (with_reducible first | exact HB.out | apply qab | apply qaa | apply qac) | exact HB.out)) hb); clear HO255; clear HB; have HO255 := n0_; have HO258 := n1_; have HB := n2_; clear n0_ n1_ n2_; (try clear hb); (try clear hb2); (try clear hk); (try clear hi); (try clear ho0); obtain ⟨Ao17, co17, eo17⟩ := Kd.N_slice HO255.out; subst eo17; obtain ⟨Ao18, co18, eo18⟩ := Kd.N_slice HO258.out; subst eo18) | (go_at_call 9; (with_reducible refine (history_Same.calls k _ _ t251 _ _ t256 true _ ?side1 ?side2 ?side3 ?side4 A10.out (Laid.below HY (by repeat (first | (with_reducible first | exact HB.out | apply qab | apply qaa | apply qac) | exact HB.out)))).mono ?_); (case side1 => repeat (first | exact (Kd.qba HO255.out).2.2 | (with_reducible refine Kd.C_alloc ?_ _) | (with_reducible refine Kd.C_drewN ?_ _) | (with_reducible refine Kd.C_drew ?_))); (case side2 => exact (Kd.qba HO255.out).2.1); (case side3 => repeat (first | exact (Kd.qba HO258.out).2.2 | (with_reducible refine Kd.C_alloc ?_ _) | (with_reducible refine Kd.C_drewN ?_ _) | (with_reducible refine Kd.C_drew ?_))); (case side4 => exact (Kd.qba HO258.out).2.1); rintro e w19 ⟨rfl, hb⟩; have n0_ := Aside0.mk (Kd.N_below (by (with_reducible repeat (first | apply Kd.N_alloc | apply Kd.N_drewN | apply Kd.N_drew)); exact HO255.out) hb); have n1_ := Aside0.mk (Kd.N_below (by (with_reducible repeat (first | apply Kd.N_alloc | apply Kd.N_drewN | apply Kd.N_drew)); exact HO258.out) hb); have n2_ := Aside0.mk (qal (by repeat (first | (with_reducible first | exact HB.out | apply qab | apply qaa | apply qac) | exact HB.out)) hb); clear HO255; clear HO258; clear HB; have HO255 := n0_; have HO258 := n1_; have HB := n2_; clear n0_ n1_ n2_; (try clear hb); (try clear hb2); (try clear hk); (try clear hi)) | (go_at_call 10; (with_reducible refine (script_Print.calls k _ _ t251 t262 _ ?side1 ?side2 A13.out (Laid.below HY (by repeat (first | (with_reducible first | exact HB.out | apply qab | apply qaa | apply qac) | exact HB.out)))).mono ?_); (case side1 => repeat (first | exact (Kd.qba HO255.out).2.2 | (with_reducible refine Kd.C_alloc ?_ _) | (with_reducible refine Kd.C_drewN ?_ _) | (with_reducible refine Kd.C_drew ?_))); (case side2 => exact (Kd.qba HO255.out).2.1); rintro e w20 ⟨rfl, hb⟩; have n0_ := Aside0.mk (Kd.N_below (by (with_reducible repeat (first | apply Kd.N_alloc | apply Kd.N_drewN | apply Kd.N_drew)); exact HO255.out) hb); have n1_ := Aside0.mk (Kd.N_below (by (with_reducible repeat (first | apply Kd.N_alloc | apply Kd.N_drewN | apply Kd.N_drew)); exact HO258.out) hb); have n2_ := Aside0.mk (qal (by repeat (first | (with_reducible first | exact HB.out | apply qab | apply qaa | apply qac) | exact HB.out)) hb); clear HO255; clear HO258; clear HB; have HO255 := n0_; have HO258 := n1_; have HB := n2_; clear n0_ n1_ n2_; (try clear hb); (try clear hb2); (try clear hk); (try clear hi)))
       go_ret
       exact ⟨by first | rfl | (simp [qan, qam] <;> rfl) | (simp [*, qan, qam] <;> rfl), by repeat (first | (with_reducible first | exact HB.out | apply qab | apply qaa | apply qac) | exact HB.out)⟩
      ·rw [if_neg c12] at H
       have c12b0 : (t253 == 0) = false := beq_eq_false_iff_ne.mpr c12
       have c12b1 : (t253 != 0) = true := bne_iff_ne.mpr c12
       obtain rfl := Option.some.inj H
       go_enter Tryd.func3, Tryd.ntmps3
       go_wp2_with (first | ((with_reducible refine qao (f := 6) rfl ?_); refine qav (some 9) rfl rfl Tryd.func6 (by kernel_rfl) rfl #[] rfl (by (try simp only [List.map_toArray, List.map_cons, List.map_nil]); first | done | rfl | (simp only [List.length_drop, List.length_take]; rfl)) ?_; (with_reducible refine (burgagelaw07_speaks.calls k  true _ A2.out (Laid.below HY (by repeat (first | (with_reducible first | exact HB.out | apply qab | apply qaa | apply qac) | exact HB.out)))).mono ?_); rintro e w21 ⟨rfl, hb⟩; refine ⟨_, rfl, ?_⟩; have n0_ := Aside0.mk (qal (by repeat (first | (with_reducible first | exact HB.out | apply qab | apply qaa | apply qac) | exact HB.out)) hb); clear HB; have HB := n0_; clear n0_; (try clear hb); (try clear hb2); (try clear hk); (try clear hi)) | ((with_reducible refine qao (f := 7) rfl ?_); refine qav (some 16) rfl rfl Tryd.func7 (by kernel_rfl) rfl #[.string a0] rfl (by (try simp only [List.map_toArray, List.map_cons, List.map_nil]); first | done | rfl | (simp only [List.length_drop, List.length_take]; rfl)) ?_; (with_reducible refine (script_Parse.calls k a0 t251 t252 t253 _ A6.out (Laid.below HY (by repeat (first | (with_reducible first | exact HB.out | apply qab | apply qaa | apply qac) | exact HB.out)))).mono ?_); rintro e w22 ⟨v254, rfl, ho0, hb⟩; refine ⟨_, rfl, ?_⟩; have n0_ := Aside0.mk (Kd.N_lower (Kd.N_mono (ok' := fun k_ => True) (Kd.S_N (Kd.S_bound ho0)) (fun k_ hk_ => trivial)) (qak (by repeat (first | (with_reducible first | exact HB.out | apply qab | apply qaa | apply qac) | exact HB.out)))); have n1_ := Aside0.mk (qal (by repeat (first | (with_reducible first | exact HB.out | apply qab | apply qaa | apply qac) | exact HB.out)) hb); clear HB; have HO255 := n0_; have HB := n1_; clear n0_ n1_; (try clear hb); (try clear hb2); (try clear hk); (try clear hi); (try clear ho0)) | ((with_reducible refine qao (f := 8) rfl ?_); refine qav (some 22) rfl rfl Tryd.func8 (by kernel_rfl) rfl #[.string a0] rfl (by (try simp only [List.map_toArray, List.map_cons, List.map_nil]); first | done | rfl | (simp only [List.length_drop, List.length_take]; rfl)) ?_; (with_reducible refine (burgageref07_Parse.calls k a0 t256 t259 t260 _ A7.out (Laid.below HY (by repeat (first | (with_reducible first | exact HB.out | apply qab | apply qaa | apply qac) | exact HB.out)))).mono ?_); rintro e w23 ⟨v257, rfl, ho0, hb⟩; refine ⟨_, rfl, ?_⟩; have n0_ := Aside0.mk (Kd.qb1 (by (with_reducible repeat (first | apply Kd.N_alloc | apply Kd.N_drewN | apply Kd.N_drew)); exact HO255.out) (Kd.N_base ho0) hb); have n1_ := Aside0.mk (Kd.N_lower (Kd.N_mono (ok' := fun k_ => some k_ ≠ (v254 : Value).ownBlock) ho0 (fun k_ hk_ => (Kd.fresh' (Kd.N_lt (by (with_reducible repeat (first | apply Kd.N_alloc | apply Kd.N_drewN | apply Kd.N_drew)); exact HO255.out)) k_ hk_))) (qak (by repeat (first | (with_reducible first | exact HB.out | apply qab | apply qaa | apply qac) | exact HB.out)))); have n2_ := Aside0.mk (qal (by repeat (first | (with_reducible first | exact HB.out | apply qab | apply qaa | apply qac) | exact HB.out)) hb); clear HO255; clear HB; have HO255 := n0_; have HO258 := n1_; have HB := n2_; clear n0_ n1_ n2_; (try clear hb); (try clear hb2); (try clear hk); (try clear hi); (try clear ho0); obtain ⟨Ao24, co24, eo24⟩ := Kd.N_slice HO255.out; subst eo24; obtain ⟨Ao25, co25, eo25⟩ := Kd.N_slice HO258.out; subst eo25) | (go_at_call 9; (with_reducible refine (history_Same.calls k _ _ t251 _ _ t256 true _ ?side1 ?side2 ?side3 ?side4 A10.out (Laid.below HY (by repeat (first | (with_reducible first | exact HB.out | apply qab | apply qaa | apply qac) | exact HB.out)))).mono ?_); (case side1 => repeat (first | exact (Kd.qba HO255.out).2.2 | (with_reducible refine Kd.C_alloc ?_ _) | (with_reducible refine Kd.C_drewN ?_ _) | (with_reducible refine Kd.C_drew ?_))); (case side2 => exact (Kd.qba HO255.out).2.1); (case side3 => repeat (first | exact (Kd.qba HO258.out).2.2 | (with_reducible refine Kd.C_alloc ?_ _) | (with_reducible refine Kd.C_drewN ?_ _) | (with_reducible refine Kd.C_drew ?_))); (case side4 => exact (Kd.qba HO258.out).2.1); rintro e w26 ⟨rfl, hb⟩; have n0_ := Aside0.mk (Kd.N_below (by (with_reducible repeat (first | apply Kd.N_alloc | apply Kd.N_drewN | apply Kd.N_drew)); exact HO255.out) hb); have n1_ := Aside0.mk (Kd.N_below (by (with_reducible repeat (first | apply Kd.N_alloc | apply Kd.N_drewN | apply Kd.N_drew)); exact HO258.out) hb); have n2_ := Aside0.mk (qal (by repeat (first | (with_reducible first | exact HB.out | apply qab | apply qaa | apply qac) | exact HB.out)) hb); clear HO255; clear HO258; clear HB; have HO255 := n0_; have HO258 := n1_; have HB := n2_; clear n0_ n1_ n2_; (try clear hb); (try clear hb2); (try clear hk); (try clear hi)))
       go_ret
       exact ⟨by first | rfl | (simp [qan, qam] <;> rfl) | (simp [*, qan, qam] <;> rfl), by repeat (first | (with_reducible first | exact HB.out | apply qab | apply qaa | apply qac) | exact HB.out)⟩
     ·replace c11 := Bool.eq_false_iff.mpr c11
      subst c11
      have H1 : (some false) = some r := by rw [if_neg (show ¬ (false = true) by decide)] at H; exact H
      clear H
      have H := H1
      clear H1
      obtain rfl := Option.some.inj H
      go_enter Tryd.func3, Tryd.ntmps3
      go_wp2_with (first | ((with_reducible refine qao (f := 6) rfl ?_); refine qav (some 9) rfl rfl Tryd.func6 (by kernel_rfl) rfl #[] rfl (by (try simp only [List.map_toArray, List.map_cons, List.map_nil]); first | done | rfl | (simp only [List.length_drop, List.length_take]; rfl)) ?_; (with_reducible refine (burgagelaw07_speaks.calls k  true _ A2.out (Laid.below HY (by repeat (first | (with_reducible first | exact HB.out | apply qab | apply qaa | apply qac) | exact HB.out)))).mono ?_); rintro e w27 ⟨rfl, hb⟩; refine ⟨_, rfl, ?_⟩; have n0_ := Aside0.mk (qal (by repeat (first | (with_reducible first | exact HB.out | apply qab | apply qaa | apply qac) | exact HB.out)) hb); clear HB; have HB := n0_; clear n0_; (try clear hb); (try clear hb2); (try clear hk); (try clear hi)) | ((with_reducible refine qao (f := 7) rfl ?_); refine qav (some 16) rfl rfl Tryd.func7 (by kernel_rfl) rfl #[.string a0] rfl (by (try simp only [List.map_toArray, List.map_cons, List.map_nil]); first | done | rfl | (simp only [List.length_drop, List.length_take]; rfl)) ?_; (with_reducible refine (script_Parse.calls k a0 t251 t252 t253 _ A6.out (Laid.below HY (by repeat (first | (with_reducible first | exact HB.out | apply qab | apply qaa | apply qac) | exact HB.out)))).mono ?_); rintro e w28 ⟨v254, rfl, ho0, hb⟩; refine ⟨_, rfl, ?_⟩; have n0_ := Aside0.mk (Kd.N_lower (Kd.N_mono (ok' := fun k_ => True) (Kd.S_N (Kd.S_bound ho0)) (fun k_ hk_ => trivial)) (qak (by repeat (first | (with_reducible first | exact HB.out | apply qab | apply qaa | apply qac) | exact HB.out)))); have n1_ := Aside0.mk (qal (by repeat (first | (with_reducible first | exact HB.out | apply qab | apply qaa | apply qac) | exact HB.out)) hb); clear HB; have HO255 := n0_; have HB := n1_; clear n0_ n1_; (try clear hb); (try clear hb2); (try clear hk); (try clear hi); (try clear ho0)) | ((with_reducible refine qao (f := 8) rfl ?_); refine qav (some 22) rfl rfl Tryd.func8 (by kernel_rfl) rfl #[.string a0] rfl (by (try simp only [List.map_toArray, List.map_cons, List.map_nil]); first | done | rfl | (simp only [List.length_drop, List.length_take]; rfl)) ?_; (with_reducible refine (burgageref07_Parse.calls k a0 t256 t259 t260 _ A7.out (Laid.below HY (by repeat (first | (with_reducible first | exact HB.out | apply qab | apply qaa | apply qac) | exact HB.out)))).mono ?_); rintro e w29 ⟨v257, rfl, ho0, hb⟩; refine ⟨_, rfl, ?_⟩; have n0_ := Aside0.mk (Kd.qb1 (by (with_reducible repeat (first | apply Kd.N_alloc | apply Kd.N_drewN | apply Kd.N_drew)); exact HO255.out) (Kd.N_base ho0) hb); have n1_ := Aside0.mk (Kd.N_lower (Kd.N_mono (ok' := fun k_ => some k_ ≠ (v254 : Value).ownBlock) ho0 (fun k_ hk_ => (Kd.fresh' (Kd.N_lt (by (with_reducible repeat (first | apply Kd.N_alloc | apply Kd.N_drewN | apply Kd.N_drew)); exact HO255.out)) k_ hk_))) (qak (by repeat (first | (with_reducible first | exact HB.out | apply qab | apply qaa | apply qac) | exact HB.out)))); have n2_ := Aside0.mk (qal (by repeat (first | (with_reducible first | exact HB.out | apply qab | apply qaa | apply qac) | exact HB.out)) hb); clear HO255; clear HB; have HO255 := n0_; have HO258 := n1_; have HB := n2_; clear n0_ n1_ n2_; (try clear hb); (try clear hb2); (try clear hk); (try clear hi); (try clear ho0); obtain ⟨Ao30, co30, eo30⟩ := Kd.N_slice HO255.out; subst eo30; obtain ⟨Ao31, co31, eo31⟩ := Kd.N_slice HO258.out; subst eo31) | (go_at_call 9; (with_reducible refine (history_Same.calls k _ _ t251 _ _ t256 false _ ?side1 ?side2 ?side3 ?side4 A10.out (Laid.below HY (by repeat (first | (with_reducible first | exact HB.out | apply qab | apply qaa | apply qac) | exact HB.out)))).mono ?_); (case side1 => repeat (first | exact (Kd.qba HO255.out).2.2 | (with_reducible refine Kd.C_alloc ?_ _) | (with_reducible refine Kd.C_drewN ?_ _) | (with_reducible refine Kd.C_drew ?_))); (case side2 => exact (Kd.qba HO255.out).2.1); (case side3 => repeat (first | exact (Kd.qba HO258.out).2.2 | (with_reducible refine Kd.C_alloc ?_ _) | (with_reducible refine Kd.C_drewN ?_ _) | (with_reducible refine Kd.C_drew ?_))); (case side4 => exact (Kd.qba HO258.out).2.1); rintro e w32 ⟨rfl, hb⟩; have n0_ := Aside0.mk (Kd.N_below (by (with_reducible repeat (first | apply Kd.N_alloc | apply Kd.N_drewN | apply Kd.N_drew)); exact HO255.out) hb); have n1_ := Aside0.mk (Kd.N_below (by (with_reducible repeat (first | apply Kd.N_alloc | apply Kd.N_drewN | apply Kd.N_drew)); exact HO258.out) hb); have n2_ := Aside0.mk (qal (by repeat (first | (with_reducible first | exact HB.out | apply qab | apply qaa | apply qac) | exact HB.out)) hb); clear HO255; clear HO258; clear HB; have HO255 := n0_; have HO258 := n1_; have HB := n2_; clear n0_ n1_ n2_; (try clear hb); (try clear hb2); (try clear hk); (try clear hi)))
      go_ret
      exact ⟨by first | rfl | (simp [qan, qam] <;> rfl) | (simp [*, qan, qam] <;> rfl), by repeat (first | (with_reducible first | exact HB.out | apply qab | apply qaa | apply qac) | exact HB.out)⟩
    ·rw [if_neg c9] at H
     have c9b0 : (t253 == t260) = false := beq_eq_false_iff_ne.mpr c9
     have c9b1 : (t253 != t260) = true := bne_iff_ne.mpr c9
     obtain rfl := Option.some.inj H
     go_enter Tryd.func3, Tryd.ntmps3
     go_wp2_with (first | ((with_reducible refine qao (f := 6) rfl ?_); refine qav (some 9) rfl rfl Tryd.func6 (by kernel_rfl) rfl #[] rfl (by (try simp only [List.map_toArray, List.map_cons, List.map_nil]); first | done | rfl | (simp only [List.length_drop, List.length_take]; rfl)) ?_; (with_reducible refine (burgagelaw07_speaks.calls k  true _ A2.out (Laid.below HY (by repeat (first | (with_reducible first | exact HB.out | apply qab | apply qaa | apply qac) | exact HB.out)))).mono ?_); rintro e w33 ⟨rfl, hb⟩; refine ⟨_, rfl, ?_⟩; have n0_ := Aside0.mk (qal (by repeat (first | (with_reducible first | exact HB.out | apply qab | apply qaa | apply qac) | exact HB.out)) hb); clear HB; have HB := n0_; clear n0_; (try clear hb); (try clear hb2); (try clear hk); (try clear hi)) | ((with_reducible refine qao (f := 7) rfl ?_); refine qav (some 16) rfl rfl Tryd.func7 (by kernel_rfl) rfl #[.string a0] rfl (by (try simp only [List.map_toArray, List.map_cons, List.map_nil]); first | done | rfl | (simp only [List.length_drop, List.length_take]; rfl)) ?_; (with_reducible refine (script_Parse.calls k a0 t251 t252 t253 _ A6.out (Laid.below HY (by repeat (first | (with_reducible first | exact HB.out | apply qab | apply qaa | apply qac) | exact HB.out)))).mono ?_); rintro e w34 ⟨v254, rfl, ho0, hb⟩; refine ⟨_, rfl, ?_⟩; have n0_ := Aside0.mk (Kd.N_lower (Kd.N_mono (ok' := fun k_ => True) (Kd.S_N (Kd.S_bound ho0)) (fun k_ hk_ => trivial)) (qak (by repeat (first | (with_reducible first | exact HB.out | apply qab | apply qaa | apply qac) | exact HB.out)))); have n1_ := Aside0.mk (qal (by repeat (first | (with_reducible first | exact HB.out | apply qab | apply qaa | apply qac) | exact HB.out)) hb); clear HB; have HO255 := n0_; have HB := n1_; clear n0_ n1_; (try clear hb); (try clear hb2); (try clear hk); (try clear hi); (try clear ho0)) | ((with_reducible refine qao (f := 8) rfl ?_); refine qav (some 22) rfl rfl Tryd.func8 (by kernel_rfl) rfl #[.string a0] rfl (by (try simp only [List.map_toArray, List.map_cons, List.map_nil]); first | done | rfl | (simp only [List.length_drop, List.length_take]; rfl)) ?_; (with_reducible refine (burgageref07_Parse.calls k a0 t256 t259 t260 _ A7.out (Laid.below HY (by repeat (first | (with_reducible first | exact HB.out | apply qab | apply qaa | apply qac) | exact HB.out)))).mono ?_); rintro e w35 ⟨v257, rfl, ho0, hb⟩; refine ⟨_, rfl, ?_⟩; have n0_ := Aside0.mk (Kd.qb1 (by (with_reducible repeat (first | apply Kd.N_alloc | apply Kd.N_drewN | apply Kd.N_drew)); exact HO255.out) (Kd.N_base ho0) hb); have n1_ := Aside0.mk (Kd.N_lower (Kd.N_mono (ok' := fun k_ => some k_ ≠ (v254 : Value).ownBlock) ho0 (fun k_ hk_ => (Kd.fresh' (Kd.N_lt (by (with_reducible repeat (first | apply Kd.N_alloc | apply Kd.N_drewN | apply Kd.N_drew)); exact HO255.out)) k_ hk_))) (qak (by repeat (first | (with_reducible first | exact HB.out | apply qab | apply qaa | apply qac) | exact HB.out)))); have n2_ := Aside0.mk (qal (by repeat (first | (with_reducible first | exact HB.out | apply qab | apply qaa | apply qac) | exact HB.out)) hb); clear HO255; clear HB; have HO255 := n0_; have HO258 := n1_; have HB := n2_; clear n0_ n1_ n2_; (try clear hb); (try clear hb2); (try clear hk); (try clear hi); (try clear ho0)))
     go_ret
     exact ⟨by first | rfl | (simp [qan, qam] <;> rfl) | (simp [*, qan, qam] <;> rfl), by repeat (first | (with_reducible first | exact HB.out | apply qab | apply qaa | apply qac) | exact HB.out)⟩
   ·rw [if_neg c8] at H
    have c8b0 : (t252 == t259) = false := beq_eq_false_iff_ne.mpr c8
    have c8b1 : (t252 != t259) = true := bne_iff_ne.mpr c8
    obtain rfl := Option.some.inj H
    go_enter Tryd.func3, Tryd.ntmps3
    go_wp2_with (first | ((with_reducible refine qao (f := 6) rfl ?_); refine qav (some 9) rfl rfl Tryd.func6 (by kernel_rfl) rfl #[] rfl (by (try simp only [List.map_toArray, List.map_cons, List.map_nil]); first | done | rfl | (simp only [List.length_drop, List.length_take]; rfl)) ?_; (with_reducible refine (burgagelaw07_speaks.calls k  true _ A2.out (Laid.below HY (by repeat (first | (with_reducible first | exact HB.out | apply qab | apply qaa | apply qac) | exact HB.out)))).mono ?_); rintro e w36 ⟨rfl, hb⟩; refine ⟨_, rfl, ?_⟩; have n0_ := Aside0.mk (qal (by repeat (first | (with_reducible first | exact HB.out | apply qab | apply qaa | apply qac) | exact HB.out)) hb); clear HB; have HB := n0_; clear n0_; (try clear hb); (try clear hb2); (try clear hk); (try clear hi)) | ((with_reducible refine qao (f := 7) rfl ?_); refine qav (some 16) rfl rfl Tryd.func7 (by kernel_rfl) rfl #[.string a0] rfl (by (try simp only [List.map_toArray, List.map_cons, List.map_nil]); first | done | rfl | (simp only [List.length_drop, List.length_take]; rfl)) ?_; (with_reducible refine (script_Parse.calls k a0 t251 t252 t253 _ A6.out (Laid.below HY (by repeat (first | (with_reducible first | exact HB.out | apply qab | apply qaa | apply qac) | exact HB.out)))).mono ?_); rintro e w37 ⟨v254, rfl, ho0, hb⟩; refine ⟨_, rfl, ?_⟩; have n0_ := Aside0.mk (Kd.N_lower (Kd.N_mono (ok' := fun k_ => True) (Kd.S_N (Kd.S_bound ho0)) (fun k_ hk_ => trivial)) (qak (by repeat (first | (with_reducible first | exact HB.out | apply qab | apply qaa | apply qac) | exact HB.out)))); have n1_ := Aside0.mk (qal (by repeat (first | (with_reducible first | exact HB.out | apply qab | apply qaa | apply qac) | exact HB.out)) hb); clear HB; have HO255 := n0_; have HB := n1_; clear n0_ n1_; (try clear hb); (try clear hb2); (try clear hk); (try clear hi); (try clear ho0)) | ((with_reducible refine qao (f := 8) rfl ?_); refine qav (some 22) rfl rfl Tryd.func8 (by kernel_rfl) rfl #[.string a0] rfl (by (try simp only [List.map_toArray, List.map_cons, List.map_nil]); first | done | rfl | (simp only [List.length_drop, List.length_take]; rfl)) ?_; (with_reducible refine (burgageref07_Parse.calls k a0 t256 t259 t260 _ A7.out (Laid.below HY (by repeat (first | (with_reducible first | exact HB.out | apply qab | apply qaa | apply qac) | exact HB.out)))).mono ?_); rintro e w38 ⟨v257, rfl, ho0, hb⟩; refine ⟨_, rfl, ?_⟩; have n0_ := Aside0.mk (Kd.qb1 (by (with_reducible repeat (first | apply Kd.N_alloc | apply Kd.N_drewN | apply Kd.N_drew)); exact HO255.out) (Kd.N_base ho0) hb); have n1_ := Aside0.mk (Kd.N_lower (Kd.N_mono (ok' := fun k_ => some k_ ≠ (v254 : Value).ownBlock) ho0 (fun k_ hk_ => (Kd.fresh' (Kd.N_lt (by (with_reducible repeat (first | apply Kd.N_alloc | apply Kd.N_drewN | apply Kd.N_drew)); exact HO255.out)) k_ hk_))) (qak (by repeat (first | (with_reducible first | exact HB.out | apply qab | apply qaa | apply qac) | exact HB.out)))); have n2_ := Aside0.mk (qal (by repeat (first | (with_reducible first | exact HB.out | apply qab | apply qaa | apply qac) | exact HB.out)) hb); clear HO255; clear HB; have HO255 := n0_; have HO258 := n1_; have HB := n2_; clear n0_ n1_ n2_; (try clear hb); (try clear hb2); (try clear hk); (try clear hi); (try clear ho0)))
    go_ret
    exact ⟨by first | rfl | (simp [qan, qam] <;> rfl) | (simp [*, qan, qam] <;> rfl), by repeat (first | (with_reducible first | exact HB.out | apply qab | apply qaa | apply qac) | exact HB.out)⟩
 ·replace c3 := Bool.eq_false_iff.mpr c3
  subst c3
  have H1 : (some false) = some r := by rw [if_neg (show ¬ (false = true) by decide)] at H; exact H
  clear H
  have H := H1
  clear H1
  obtain rfl := Option.some.inj H
  go_enter Tryd.func3, Tryd.ntmps3
  go_wp2_with (first | ((with_reducible refine qao (f := 6) rfl ?_); refine qav (some 9) rfl rfl Tryd.func6 (by kernel_rfl) rfl #[] rfl (by (try simp only [List.map_toArray, List.map_cons, List.map_nil]); first | done | rfl | (simp only [List.length_drop, List.length_take]; rfl)) ?_; (with_reducible refine (burgagelaw07_speaks.calls k  false _ A2.out (Laid.below HY (by repeat (first | (with_reducible first | exact HB.out | apply qab | apply qaa | apply qac) | exact HB.out)))).mono ?_); rintro e w39 ⟨rfl, hb⟩; refine ⟨_, rfl, ?_⟩; have n0_ := Aside0.mk (qal (by repeat (first | (with_reducible first | exact HB.out | apply qab | apply qaa | apply qac) | exact HB.out)) hb); clear HB; have HB := n0_; clear n0_; (try clear hb); (try clear hb2); (try clear hk); (try clear hi)))
  go_ret
  exact ⟨by first | rfl | (simp [qan, qam] <;> rfl) | (simp [*, qan, qam] <;> rfl), by repeat (first | (with_reducible first | exact HB.out | apply qab | apply qaa | apply qac) | exact HB.out)⟩
def burgagelaw07_ScriptParses.Pure : Prop := ∀ (a0 : ByteArray), a0.size ≤ 140737488351232 → ∃ k, burgagelaw07_ScriptParses.f k a0 = some true
theorem burgagelaw07_ScriptParses.walk (P : burgagelaw07_ScriptParses.Pure) (a0 : ByteArray) (w : World) (w0 : a0.size ≤ 140737488351232) (HY : Laid w) :
  Calls Tryd.prog 3 #[.string a0] w fun e w' => e = .returned (.bool true) ∧ Below w.heap.size w w' := by
 obtain ⟨k, h⟩ := P a0 w0
 refine (burgagelaw07_ScriptParses.calls k a0 true w h HY).mono ?_
 rintro e w' ⟨rfl, hd⟩
 exact ⟨rfl, hd⟩
def burgagelaw06_Big.l0 : Nat → Int → List (S38) → Int → Int → Option (Int)
 | 0, _, _, _, _ => none
 | k + 1, x3, x9, x10, x11 => if x11 < x10 then (if 0 ≤ x11 then (if x11 < (x9.length : Int) then (if (wrap64 (x3 + (((qad x9 x11).f3).length : Int))) > 1200 then (some 1) else (burgagelaw06_Big.l0 k (wrap64 (x3 + (((qad x9 x11).f3).length : Int))) x9 x10 (wrap64 (x11 + 1)))) else (none)) else (none)) else (some 0)
def burgagelaw06_Big.f (k : Nat) (l0 : List (S38)) : Option (Int) := if (l0.length : Int) > 100 then (some 1) else (burgagelaw06_Big.l0 k 0 l0 (l0.length : Int) 0)
theorem burgagelaw06_Big.mono_l : ∀ k, (∀ y0 y1 y2 y3, LeO (burgagelaw06_Big.l0 k y0 y1 y2 y3) (burgagelaw06_Big.l0 (k + 1) y0 y1 y2 y3))
 | 0 => fun _ _ _ _ r h => by simp [burgagelaw06_Big.l0] at h
 | k + 1 => by
  have ih0 := burgagelaw06_Big.mono_l k
  ·intro y0 y1 y2 y3
   unfold burgagelaw06_Big.l0
   repeat' first
   | (with_reducible exact ih0 _ _ _ _)
   | (with_reducible exact LeO.refl _)
   | (with_reducible exact LeO.none _)
   | (with_reducible refine LeO.ite ?_ ?_)
   | (with_reducible refine LeO.bind ?_ (fun _ => ?_))
   | exact ih0 _ _ _ _
   | exact LeO.none _
   | refine LeO.ite ?_ ?_
   | refine LeO.bind ?_ (fun _ => ?_)
theorem burgagelaw06_Big.mono : ∀ a0 k, LeO (burgagelaw06_Big.f k a0) (burgagelaw06_Big.f (k + 1) a0) := by
 intro a0 k
 have ih0 := burgagelaw06_Big.mono_l k
 unfold burgagelaw06_Big.f
 repeat' first
   | (with_reducible exact ih0 _ _ _ _)
   | (with_reducible exact LeO.refl _)
   | (with_reducible exact LeO.none _)
   | (with_reducible refine LeO.ite ?_ ?_)
   | (with_reducible refine LeO.bind ?_ (fun _ => ?_))
   | exact ih0 _ _ _ _
   | exact LeO.none _
   | refine LeO.ite ?_ ?_
   | refine LeO.bind ?_ (fun _ => ?_)
def burgagelaw07_ScriptBack.j0 : Nat → List (S38) → Bool → Option (Bool)
 | 0, _, _ => none
 | k + 1, x0, x15 => if x15 = true then (some true) else ((script_Print.f k x0).bind fun t268 => ((script_Parse.f k t268).bind fun bt269 => (if bt269.2.2 = 0 then (if bt269.2.1 = 0 then ((history_Same.f k bt269.1 x0).bind fun t274 => (some t274)) else (some false)) else (some false))))
def burgagelaw07_ScriptBack.f (k : Nat) (l0 : List (S38)) : Option (Bool) := (burgagelaw07_speaks.f k).bind fun t265 => (if t265 = true then ((burgagelaw06_Big.f k l0).bind fun t266 => (if t266 = 1 then (burgagelaw07_ScriptBack.j0 k l0 true) else ((burgageref06_Check.f k l0).bind fun t267 => (burgagelaw07_ScriptBack.j0 k l0 (t267 != 0))))) else (some false))
theorem burgagelaw07_ScriptBack.mono_l : ∀ k, (∀ y0 y1, LeO (burgagelaw07_ScriptBack.j0 k y0 y1) (burgagelaw07_ScriptBack.j0 (k + 1) y0 y1))
 | 0 => fun _ _ r h => by simp [burgagelaw07_ScriptBack.j0] at h
 | k + 1 => by
  have ih0 := burgagelaw07_ScriptBack.mono_l k
  ·intro y0 y1
   unfold burgagelaw07_ScriptBack.j0
   repeat' first
   | (with_reducible exact ih0 _ _)
   | (with_reducible exact burgagelaw06_Big.mono _ _)
   | (with_reducible exact burgagelaw07_speaks.mono _)
   | (with_reducible exact burgageref06_Check.mono _ _)
   | (with_reducible exact history_Same.mono _ _ _)
   | (with_reducible exact script_Parse.mono _ _)
   | (with_reducible exact script_Print.mono _ _)
   | (with_reducible exact LeO.refl _)
   | (with_reducible exact LeO.none _)
   | (with_reducible refine LeO.ite ?_ ?_)
   | (with_reducible refine LeO.bind ?_ (fun _ => ?_))
   | exact ih0 _ _
   | exact burgagelaw06_Big.mono _ _
   | exact burgagelaw07_speaks.mono _
   | exact burgageref06_Check.mono _ _
   | exact history_Same.mono _ _ _
   | exact script_Parse.mono _ _
   | exact script_Print.mono _ _
   | exact LeO.none _
   | refine LeO.ite ?_ ?_
   | refine LeO.bind ?_ (fun _ => ?_)
theorem burgagelaw07_ScriptBack.mono : ∀ a0 k, LeO (burgagelaw07_ScriptBack.f k a0) (burgagelaw07_ScriptBack.f (k + 1) a0) := by
 intro a0 k
 have ih0 := burgagelaw07_ScriptBack.mono_l k
 unfold burgagelaw07_ScriptBack.f
 repeat' first
   | (with_reducible exact ih0 _ _)
   | (with_reducible exact burgagelaw06_Big.mono _ _)
   | (with_reducible exact burgagelaw07_speaks.mono _)
   | (with_reducible exact burgageref06_Check.mono _ _)
   | (with_reducible exact history_Same.mono _ _ _)
   | (with_reducible exact script_Parse.mono _ _)
   | (with_reducible exact script_Print.mono _ _)
   | (with_reducible exact LeO.refl _)
   | (with_reducible exact LeO.none _)
   | (with_reducible refine LeO.ite ?_ ?_)
   | (with_reducible refine LeO.bind ?_ (fun _ => ?_))
   | exact ih0 _ _
   | exact burgagelaw06_Big.mono _ _
   | exact burgagelaw07_speaks.mono _
   | exact burgageref06_Check.mono _ _
   | exact history_Same.mono _ _ _
   | exact script_Parse.mono _ _
   | exact script_Print.mono _ _
   | exact LeO.none _
   | refine LeO.ite ?_ ?_
   | refine LeO.bind ?_ (fun _ => ?_)
end Go.Proofs.YtanofkgnjmegdaaDoor.Q
end
section
namespace Go.Proofs.YtanofkgnjmegdaaDoor.Script
open Go Go.RowKit Go.Proofs.YtanofkgnjmegdaaDoor Go.Proofs.YtanofkgnjmegdaaDoor.Hist Go.Proofs.YtanofkgnjmegdaaDoor.Row3 Go.Proofs.YtanofkgnjmegdaaDoorW.PrintWords
open Go.Proofs.YtanofkgnjmegdaaDoor.K (S38 S48 qad qap)
theorem ofO_beq (x y : O3) : (!((ofO x).f0 == (ofO y).f0) || (!((ofO x).f1 == (ofO y).f1) || (!((ofO x).f2 == (ofO y).f2)))) = !decide (x = y) := by
 obtain ⟨a, b, c⟩ := x
 obtain ⟨a', b', c'⟩ := y
 show (!(a == a') || (!(b == b') || !(c == c'))) = _
 by_cases h1 : a = a' <;> by_cases h2 : b = b' <;> by_cases h3 : c = c' <;> simp [h1, h2, h3]
theorem same_l1 (a b : List T4) (n i : Int) (u v : List O3) (hl : u.length = v.length) (hb : u.length ≤ 4611686018427387904) (s0 b0 c0 : Int) (r : Bool) (hK : Ev (fun k => Q.history_Same.l0 k (b.map ofT) (a.map ofT) n (wrap64 (i + 1))) r) :
  ∀ (d j : Nat), j + d = u.length → Ev (fun k => Q.history_Same.l1 k (b.map ofT) (a.map ofT) n i (u.map ofO) (u.length : Int) (j : Int) s0 b0 c0 (v.map ofO)) (decide (u.drop j = v.drop j) && r) := by
 intro d
 induction d with
 | zero =>
  intro j hj
  refine Ev.step (fun k => by simp only [Q.history_Same.l1]; rw [if_neg (by omega)]) ?_
  rw [List.drop_of_length_le (by omega), List.drop_of_length_le (by omega)]
  simpa using hK
 | succ d ih =>
  intro j hj
  have h1 : j < u.length := by omega
  have h2 : j < v.length := by omega
  have hd : decide (u.drop j = v.drop j) = (decide (v[j] = u[j]) && decide (u.drop (j + 1) = v.drop (j + 1))) := by
   rw [Bool.eq_iff_iff]
   simp only [decide_eq_true_eq, Bool.and_eq_true]
   rw [List.drop_eq_getElem_cons h1, List.drop_eq_getElem_cons h2, List.cons.injEq]
   exact ⟨fun ⟨a, b⟩ => ⟨a.symm, b⟩, fun ⟨a, b⟩ => ⟨a.symm, b⟩⟩
  refine Ev.step (f := fun k => if (!decide (v[j] = u[j])) = true then some false else Q.history_Same.l1 k (b.map ofT) (a.map ofT) n i (u.map ofO) (u.length : Int) ((j + 1 : Nat) : Int) s0 b0 c0 (v.map ofO)) (fun k => ?_) ?_
  ·simp only [Q.history_Same.l1]
   rw [if_pos (by omega), if_pos (by omega), if_pos (by rw [List.length_map]; omega), if_pos (by rw [List.length_map]; omega), rdO_at v j h2, rdO_at u j h1, ofO_beq, Hist.wrap_nat (by omega)]
  ·rw [hd]
   by_cases e : v[j] = u[j]
   ·have := ih (j + 1) (by omega)
    refine Ev.congr (f := fun k => Q.history_Same.l1 k (b.map ofT) (a.map ofT) n i (u.map ofO) (u.length : Int) ((j + 1 : Nat) : Int) s0 b0 c0 (v.map ofO)) (fun k => by rw [decide_eq_true e]; rfl) ?_
    rw [decide_eq_true e, Bool.true_and]
    exact this
   ·refine Ev.congr (f := fun _ => some false) (fun k => by rw [decide_eq_false e]; rfl) ?_
    rw [decide_eq_false e]
    exact Ev.now false
theorem T4_eq (t u : T4) : decide (t = u) = (decide (t.s = u.s) && (decide (t.b = u.b) && (decide (t.c = u.c) && decide (t.ops = u.ops)))) := by
 obtain ⟨s, b, c, o⟩ := t
 obtain ⟨s', b', c', o'⟩ := u
 by_cases h1 : s = s' <;> by_cases h2 : b = b' <;> by_cases h3 : c = c' <;> by_cases h4 : o = o' <;> simp [h1, h2, h3, h4]
theorem same_l0 (a b : List T4) (hl : a.length = b.length) (hm : a.length ≤ 4611686018427387904) (hc : qa2 a ≤ 4611686018427387904) : ∀ (d i : Nat), i + d = a.length →
  Ev (fun k => Q.history_Same.l0 k (b.map ofT) (a.map ofT) (a.length : Int) (i : Int)) (decide (a.drop i = b.drop i)) := by
 intro d
 induction d with
 | zero =>
  intro i hi
  refine Ev.step (fun k => by simp only [Q.history_Same.l0]; rw [if_neg (by omega)]) ?_
  rw [List.drop_of_length_le (by omega), List.drop_of_length_le (by omega)]
  exact Ev.now true
 | succ d ih =>
  intro i hi
  have h1 : i < a.length := by omega
  have h2 : i < b.length := by omega
  have hoc : a[i].ops.length ≤ 4611686018427387904 := Nat.le_trans (le_countT (List.getElem_mem h1)) hc
  have hd : decide (a.drop i = b.drop i) = (decide (a[i] = b[i]) && decide (a.drop (i + 1) = b.drop (i + 1))) := by
   rw [Bool.eq_iff_iff]
   simp only [decide_eq_true_eq, Bool.and_eq_true]
   rw [List.drop_eq_getElem_cons h1, List.drop_eq_getElem_cons h2, List.cons.injEq]
  have ihw := ih (i + 1) (by omega)
  rw [← Hist.wrap_nat (x := i) (by omega)] at ihw
  have hj : ∀ x53 : Bool, Ev (fun k => Q.history_Same.j1 k (b.map ofT) (a.map ofT) (a.length : Int) (i : Int) x53 a[i].s a[i].b a[i].c (a[i].ops.map ofO) b[i].s b[i].b b[i].c (b[i].ops.map ofO)) (if x53 then false else if a[i].ops.length = b[i].ops.length then decide (a[i].ops = b[i].ops) && decide (a.drop (i + 1) = b.drop (i + 1)) else false) ∨ (x53 = false ∧ a[i].ops.length ≠ b[i].ops.length) := by
   intro x53
   cases x53 with
   | true => exact .inl (Ev.step (f := fun _ => some false) (fun k => by simp only [Q.history_Same.j1]; rfl) (Ev.now false))
   | false =>
    by_cases e : a[i].ops.length = b[i].ops.length
    ·refine .inl ?_
     rw [if_pos e]
     have := same_l1 a b (a.length : Int) (i : Int) a[i].ops b[i].ops e hoc b[i].s b[i].b b[i].c _ ihw a[i].ops.length 0 (by omega)
     refine Ev.step (fun k => by simp only [Q.history_Same.j1]; rw [List.length_map]; rfl) this
    ·exact .inr ⟨rfl, e⟩
  have e0 : ∀ k, Q.history_Same.l0 (k + 1) (b.map ofT) (a.map ofT) (a.length : Int) (i : Int) = Q.history_Same.j1 k (b.map ofT) (a.map ofT) (a.length : Int) (i : Int) (!(decide (a[i].s = b[i].s) && (decide (a[i].b = b[i].b) && (decide (a[i].c = b[i].c) && decide (a[i].ops.length = b[i].ops.length))))) a[i].s a[i].b a[i].c (a[i].ops.map ofO) b[i].s b[i].b b[i].c (b[i].ops.map ofO) := by
   intro k
   simp only [Q.history_Same.l0]
   rw [if_pos (by omega), if_pos (by omega), if_pos (by rw [List.length_map]; omega), if_pos (by rw [List.length_map]; omega), rdT_at a i h1, rdT_at b i h2]
   show (if a[i].s = b[i].s then if a[i].b = b[i].b then if a[i].c = b[i].c then Q.history_Same.j1 k _ _ _ _ (((a[i].ops.map ofO).length : Int) != ((b[i].ops.map ofO).length : Int)) _ _ _ _ _ _ _ _ else _ else _ else _) = _
   rw [List.length_map, List.length_map]
   by_cases c1 : a[i].s = b[i].s
   ·rw [if_pos c1, decide_eq_true c1]
    by_cases c2 : a[i].b = b[i].b
    ·rw [if_pos c2, decide_eq_true c2]
     by_cases c3 : a[i].c = b[i].c
     ·rw [if_pos c3, decide_eq_true c3]
      by_cases c4 : a[i].ops.length = b[i].ops.length
      ·rw [decide_eq_true c4, c4]; simp; rfl
      ·have : ((a[i].ops.length : Int) != (b[i].ops.length : Int)) = true := by simp; omega
       rw [decide_eq_false c4, this]; rfl
     ·rw [if_neg c3, decide_eq_false c3]; rfl
    ·rw [if_neg c2, decide_eq_false c2]; rfl
   ·rw [if_neg c1, decide_eq_false c1]; rfl
  refine Ev.step e0 ?_
  rw [hd, T4_eq]
  rcases hj (!(decide (a[i].s = b[i].s) && (decide (a[i].b = b[i].b) && (decide (a[i].c = b[i].c) && decide (a[i].ops.length = b[i].ops.length))))) with h | ⟨h, e⟩
  ·refine Eq.mp (congrArg (Ev _) (?_ : _ = _)) h
   by_cases c1 : a[i].s = b[i].s <;> by_cases c2 : a[i].b = b[i].b <;> by_cases c3 : a[i].c = b[i].c <;> by_cases c4 : a[i].ops.length = b[i].ops.length
   all_goals first
    | (have c5 : a[i].ops ≠ b[i].ops := fun e => c4 (by rw [e])
       simp [c1, c2, c3, c4, c5]; done)
    | simp [c1, c2, c3, c4]
  ·rw [decide_eq_false e] at h
   simp at h
theorem same_f (a b : List T4) (hm : a.length ≤ 4611686018427387904) (hc : qa2 a ≤ 4611686018427387904) : Ev (fun k => Q.history_Same.f k (a.map ofT) (b.map ofT)) (decide (a = b)) := by
 unfold Q.history_Same.f
 rw [List.length_map, List.length_map]
 by_cases e : (a.length : Int) = (b.length : Int)
 ·refine Ev.congr (fun k => if_pos e) ?_
  have := same_l0 a b (by omega) hm hc a.length 0 (by omega)
  exact this
 ·refine Ev.congr (f := fun _ => some false) (fun k => if_neg e) ?_
  rw [decide_eq_false (fun h => e (by rw [h]))]
  exact Ev.now false
end Go.Proofs.YtanofkgnjmegdaaDoor.Script
end
section
namespace Go.Proofs.YtanofkgnjmegdaaDoor.Script
open Go Go.Lib Go.RowKit Go.Proofs.YtanofkgnjmegdaaDoor Go.Proofs.YtanofkgnjmegdaaDoor.Hand Go.Proofs.YtanofkgnjmegdaaDoor.Plain Go.Proofs.YtanofkgnjmegdaaDoor.Hist Go.Proofs.YtanofkgnjmegdaaDoor.Row3 Go.Proofs.YtanofkgnjmegdaaDoorW.PrintWords
open Go.Proofs.YtanofkgnjmegdaaDoor.K (S38 S48 qad qap)
theorem opOf_f (s : ByteArray) (hs : s.size ≤ 140737488) (k : Nat) (hk : s.size + 70 ≤ k) : Q.burgageref07_opOf.f k s = some (qbm s) := by
 unfold Q.burgageref07_opOf.f
 rw [words_ref s 2 (by omega) (by omega) hs k hk, Option.bind_some]
 have hl := words_two s
 have hb : ∀ wd l, qa9 s 2 = (wd, l, true) → ∀ x ∈ l, 0 ≤ x ∧ x ≤ 2147483647 := fun wd l h => (words_back h).2
 unfold qbm
 generalize qa9 s 2 = r at *
 obtain ⟨w, l, b⟩ := r
 simp only at *
 rw [toList_data]
 cases b with
 | false => rw [if_neg (by simp), if_neg (by simp)]
 | true =>
  rw [if_pos rfl]
  obtain ⟨x, y, rfl⟩ : ∃ x y, l = [x, y] := by
   match l, hl rfl with
   | [x, y], _ => exact ⟨x, y, rfl⟩
  have hx := hb w [x, y] rfl x (by simp)
  have hy := hb w [x, y] rfl y (by simp)
  have e0 : rd [x, y] 0 = x := rfl
  have e1 : rd [x, y] 1 = y := rfl
  have l0 : (0 : Int) < (([x, y] : List Int).length : Int) := by simp
  have l1 : (1 : Int) < (([x, y] : List Int).length : Int) := by simp
  have hR : ∀ b : Bool, qb0 b x y = true ↔ x ≤ 63 ∧ (b = true → y ≠ 0) := by
   intro b
   unfold qb0
   rw [decide_eq_true_iff]
   exact ⟨fun h => ⟨by omega, h.2.2.2.2⟩, fun h => ⟨hx.1, by omega, hy.1, hy.2, h.2⟩⟩
  rw [e0, e1]
  by_cases c1 : w.data.toList = [114]
  ·have n1 : ¬ w.data.toList = [119] := by rw [c1]; decide
   have b1 : (w.data.toList == [119]) = false := by rw [c1]; rfl
   have d1 : decide (w.data.toList = [119]) = false := decide_eq_false n1
   rw [if_pos c1, if_pos l0, if_neg n1, if_pos l1, b1, d1]
   by_cases c2 : x > 63
   ·rw [if_pos c2, if_neg (fun h => by have := ((hR false).1 h.2.2).1; omega)]
   ·rw [if_neg c2, if_pos ⟨rfl, .inl c1, (hR false).2 ⟨by omega, fun h => by cases h⟩⟩]
  ·rw [if_neg c1]
   by_cases c3 : w.data.toList = [119]
   ·have b1 : (w.data.toList == [119]) = true := by rw [c3]; rfl
    have d1 : decide (w.data.toList = [119]) = true := decide_eq_true c3
    rw [if_pos c3, if_pos l0, if_pos l1, b1, d1]
    by_cases c2 : x > 63
    ·rw [if_pos c2, if_neg (fun h => by have := ((hR true).1 h.2.2).1; omega)]
    ·rw [if_neg c2]
     by_cases c4 : y = 0
     ·rw [if_pos c4, if_neg (fun h => ((hR true).1 h.2.2).2 rfl c4)]
     ·rw [if_neg c4, if_pos ⟨rfl, .inr c3, (hR true).2 ⟨by omega, fun _ => c4⟩⟩]
   ·rw [if_neg c3, if_neg (fun h => by rcases h.2.1 with h | h; exact c1 h; exact c3 h)]
theorem Ev_late {α : Type} {g f : Nat → Option α} {r : α} (K : Nat) (h : ∀ k, K ≤ k → g k = f k) (k : Ev f r) : Ev g r := by
 obtain ⟨n, hn⟩ := k
 exact ⟨max K n, fun k hk => by rw [h k (by omega)]; exact hn k (by omega)⟩
theorem rd_last (g : List T4) (t : T4) (hl : g.length ≤ 4611686018427387904) : (0 : Int) ≤ wrap64 (((g ++ [t]).length : Int) - 1) ∧ wrap64 (((g ++ [t]).length : Int) - 1) = (g.length : Int) := by
 have : wrap64 (((g ++ [t]).length : Int) - 1) = (g.length : Int) := by
  rw [List.length_append, List.length_singleton, Hist.wrap_id (by omega) (by omega)]
  omega
 rw [this]
 exact ⟨by omega, rfl⟩
theorem ref_lines (l : List ByteArray) (hl : l.length ≤ 2000000) (hs : ∀ s ∈ l, s.size ≤ 140737488) : ∀ (d i : Nat) (h : List T4), i + d = l.length → h.length ≤ i → (∀ t ∈ h, t.ops.length ≤ i) →
  Ev (fun k => Q.burgageref07_Lines.l0 k l (h.map ofT) (i : Int)) ((qaz h i (l.drop i)).1.map ofT, (qaz h i (l.drop i)).2) := by
 intro d
 induction d with
 | zero =>
  intro i h hi hh ho
  refine Ev.step (f := fun _ => some (h.map ofT, 0)) (fun k => by rw [Q.burgageref07_Lines.l0]; rw [if_neg (by omega)]) ?_
  rw [List.drop_of_length_le (by omega)]
  exact Ev.now _
 | succ d ih =>
  intro i h hi hh ho
  have hlt : i < l.length := by omega
  have hd : l.drop i = l[i] :: l.drop (i + 1) := List.drop_eq_getElem_cons hlt
  have hsz := hs l[i] (List.getElem_mem hlt)
  have hrd : rdOf ByteArray.empty l (i : Int) = l[i] := by simp [rdOf, hlt]
  have hw := Hist.wrap_nat (x := i) (by omega)
  have HW := Lib.hid hw
  clear hw
  obtain ⟨S, hS⟩ : ∃ S, l[i] = S := ⟨_, rfl⟩
  rw [hS] at hsz hrd hd
  have hhd := @head_some S
  have hhn := @head_none S
  have hw3 := words_three S
  -- the words, the operation
  refine Ev.step (f := fun k => (Q.burgageref03_Words.f k S 3).bind fun b => (Q.burgageref07_opOf.f k S).bind fun o => if b.2.2 = true then (Q.burgageref07_Lines.j1 k l (h.map ofT) (i : Int) b.2.1 o.2.2.2 (b.1.toList == ([116, 120, 110] : List UInt8)) o.1 o.2.1 o.2.2.1) else (Q.burgageref07_Lines.j1 k l (h.map ofT) (i : Int) b.2.1 o.2.2.2 false o.1 o.2.1 o.2.2.1)) (fun k => ?_) ?_
  ·rw [Q.burgageref07_Lines.l0]
   rw [if_pos (by omega), if_pos (by omega), hrd]
  refine Ev_late (S.size + 70) (f := fun k => Q.burgageref07_Lines.j1 k l (h.map ofT) (i : Int) (qa9 S 3).2.1 (qbm S).2.2.2 (qb7 S).isSome (qbm S).1 (qbm S).2.1 (qbm S).2.2.1) (fun k hk => ?_) ?_
  ·rw [words_ref S 3 (by omega) (by omega) hsz k hk, Option.bind_some, opOf_f S hsz k hk, Option.bind_some]
   have e : (if (qa9 S 3).2.2 = true then ((qa9 S 3).1.toList == ([116, 120, 110] : List UInt8)) else false) = (qb7 S).isSome := by
    unfold qb7
    dsimp only
    rw [toList_data]
    by_cases c : (qa9 S 3).2.2 = true
    ·rw [if_pos c]
     by_cases c2 : (qa9 S 3).1.data.toList = txnB
     ·rw [if_pos ⟨c, c2⟩, c2]; rfl
     ·rw [if_neg (fun h => c2 h.2)]
      simpa [txnB] using c2
    ·rw [if_neg c, if_neg (fun h => c h.1)]; rfl
   rw [← e]
   by_cases c : (qa9 S 3).2.2 = true
   ·rw [if_pos c, if_pos c]
   ·rw [if_neg c, if_neg c]
  rw [hd, qaz]
  unfold qci
  cases hh1 : qb7 S with
  | some t =>
   dsimp only
   have h3 : (qa9 S 3).2.1.length = 3 ∧ t = ⟨rd (qa9 S 3).2.1 0, rd (qa9 S 3).2.1 1, rd (qa9 S 3).2.1 2, []⟩ := by
    unfold qb7 at hh1
    dsimp only at hh1
    split at hh1
    ·rename_i hc
     cases hh1
     exact ⟨hw3 hc.1, rfl⟩
    ·cases hh1
   obtain ⟨h3, ht⟩ := h3
   refine Ev.step (f := fun k => Q.burgageref07_Lines.l0 k l ((h ++ [t]).map ofT) ((i + 1 : Nat) : Int)) (fun k => ?_) ?_
   ·rw [Q.burgageref07_Lines.j1]
    rw [if_pos (show (some t).isSome = true from rfl), h3, if_pos (show (0 : Int) < ((3 : Nat) : Int) by omega), if_pos (show (1 : Int) < ((3 : Nat) : Int) by omega), if_pos (show (2 : Int) < ((3 : Nat) : Int) by omega), Option.bind_some, List.length_map]
    rw [if_pos (by simp; omega), HW.out, List.map_append, ht]
    rfl
   ·refine ih (i + 1) (h ++ [t]) (by omega) (by simp; omega) (fun u hu => ?_)
    rcases List.mem_append.1 hu with hu | hu
    ·have := ho u hu; omega
    ·simp at hu; subst hu; rw [ht]; simp
  | none =>
   dsimp only
   cases ho1 : opP S with
   | none =>
    obtain ⟨a, b, c, hp⟩ := op_none ho1
    dsimp only
    refine Ev.step (f := fun _ => some ([], ((i + 1 : Nat) : Int))) (fun k => ?_) (Ev.now _)
    rw [Q.burgageref07_Lines.j1]
    rw [if_neg (by simp), hp]
    dsimp only
    rw [if_neg (by simp), HW.out]
   | some o =>
    have hp := op_some ho1
    dsimp only
    by_cases hne : h = []
    ·subst hne
     rw [if_pos rfl]
     dsimp only
     refine Ev.step (f := fun _ => some ([], ((i + 1 : Nat) : Int))) (fun k => ?_) (Ev.now _)
     rw [Q.burgageref07_Lines.j1]
     rw [if_neg (by simp), hp]
     dsimp only
     rw [if_pos rfl, if_neg (by simp), HW.out]
    ·rw [if_neg hne]
     dsimp only
     obtain ⟨g, t, rfl⟩ : ∃ g t, h = g ++ [t] := ⟨h.dropLast, h.getLast hne, (List.dropLast_concat_getLast hne).symm⟩
     rw [addO_snoc]
     have hg : g.length + 1 ≤ i := by simpa using hh
     have hto := ho t (by simp)
     obtain ⟨r1, r2⟩ := rd_last g t (by omega)
     have hrdl : qad ((g ++ [t]).map ofT) (g.length : Int) = ofT t := by
      rw [rdT_at (g ++ [t]) g.length (by simp)]
      simp
     refine Ev.step (f := fun k => Q.burgageref07_Lines.l0 k l ((g ++ [{ t with ops := t.ops ++ [o] }]).map ofT) ((i + 1 : Nat) : Int)) (fun k => ?_) ?_
     ·rw [Q.burgageref07_Lines.j1]
      rw [if_neg (by simp), hp]
      dsimp only
      rw [if_pos rfl, List.length_map, if_pos (by simp), if_pos r1, r2, if_pos (by simp; omega), hrdl, Option.bind_some, if_pos (show ([] : List S48).length + (ofT t).f3.length < 5864062014805 by simp [ofT]; omega), Option.bind_some, Option.bind_some,
       if_pos (show ([] ++ (ofT t).f3 : List S48).length + ([⟨o.w, o.k, o.v⟩] : List S48).length < 5864062014805 by simp [ofT]; omega), HW.out]
      congr 1
      rw [List.map_append, List.map_append, Int.toNat_natCast, List.set_append_right _ _ (by simp)]
      simp [ofT, ofO]
     ·refine ih (i + 1) _ (by omega) (by simp; omega) (fun u hu => ?_)
      rcases List.mem_append.1 hu with hu | hu
      ·have := ho u (List.mem_append_left _ hu); omega
      ·simp at hu; subst hu; simp; omega
theorem refParse_f (a : ByteArray) (hs : a.size ≤ 1000000) : Ev (fun k => Q.burgageref07_Parse.f k a) ((qbj a).1.map ofT, (qbj a).2.1, (qbj a).2.2) := by
 obtain ⟨h1, h2⟩ := linesP_le a
 have h3 := lines_small a
 have hne := cutL_ne 10 a.data.toList
 have hN : (qca a).length = (qa8 a).length + 1 := by
  unfold qa8
  rw [nlines_cut]
  have : 0 < (cutL 10 a.data.toList).length := List.length_pos_iff.2 hne
  simp
  omega
 have hw : wrap64 (((qca a).length : Int) - 1) = ((qa8 a).length : Int) := by
  rw [hN, Hist.wrap_id (by omega) (by omega)]
  omega
 have HW := Lib.hid hw
 clear hw
 have htake : (qca a).take (qa8 a).length = qa8 a := by
  unfold qa8
  rw [List.length_dropLast, List.dropLast_eq_take]
 have hL := ref_lines (qa8 a) (by omega) (fun s hm => by have := h2 s hm; omega) (qa8 a).length 0 [] (by omega) (by simp) (fun t ht => by cases ht)
 rw [List.drop_zero] at hL
 have hlast : rdOf ByteArray.empty (qca a) ((qa8 a).length : Int) = (qca a).getLastD ByteArray.empty := by
  unfold rdOf
  rw [Int.toNat_natCast, List.getD_eq_getElem?_getD, List.getLastD_eq_getLast?, List.getLast?_eq_getElem?, hN]
  rfl
 have hE : ((rdOf ByteArray.empty (qca a) ((qa8 a).length : Int)).toList = []) ↔ qcb a = true := by
  rw [hlast]
  unfold qcb
  simp
 have e3 : ∀ k, Give.burgageref06_Check.f k ((qaz [] 0 (qa8 a)).1.map ofT) = some (qbp (qaz [] 0 (qa8 a)).1) := by
  intro k
  unfold Give.burgageref06_Check.f
  rw [if_pos (smallT (by omega) (by omega)), toT_ofT_map, ref_check]
 unfold Q.burgageref07_Parse.f
 refine Ev_late (a.size + 2) (f := fun k => (Q.burgageref07_Lines.f k (qa8 a)).bind fun bt236 => (if bt236.2 > 0 then (some (([] : List (S38)), bt236.2, 1)) else (if qcb a = true then ((Give.burgageref06_Check.f k bt236.1).bind fun t241 => (if t241 = 0 then (some (bt236.1, 0, 0)) else ((Give.burgageref06_Check.f k bt236.1).bind fun t242 => (some (([] : List (S38)), 0, t242))))) else (some (([] : List (S38)), ((qa8 a).length : Int) + 1, 1))))) (fun k hk => ?_) ?_
 ·rw [cut_any a 10 (by omega) k hk 10 rfl, Option.bind_some, ← nlines_cut, HW.out, if_pos (by omega), if_pos (by rw [hN]; omega), Int.toNat_natCast, htake]
  congr 1
  funext b
  by_cases c : b.2 > 0
  ·rw [if_pos c, if_pos c]
  ·rw [if_neg c, if_neg c, if_pos (by rw [hN]; omega)]
   by_cases c2 : qcb a = true
   ·rw [if_pos (hE.2 c2), if_pos c2]
   ·rw [if_neg (fun h => c2 (hE.1 h)), if_neg c2, hN]
    rfl
 ·refine Ev.bind (a := ((qaz [] 0 (qa8 a)).1.map ofT, (qaz [] 0 (qa8 a)).2)) hL ?_
  dsimp only
  unfold qbj
  dsimp only
  by_cases c1 : 0 < (qaz [] 0 (qa8 a)).2
  ·rw [if_pos c1]
   refine Ev.congr (fun k => if_pos c1) (Ev.now _)
  ·rw [if_neg c1]
   refine Ev.congr (fun k => if_neg c1) ?_
   by_cases c2 : qcb a = true
   ·rw [if_pos c2]
    by_cases c3 : qbp (qaz [] 0 (qa8 a)).1 = 0
    ·rw [if_pos c3]
     refine Ev.congr (f := fun _ => some ((qaz [] 0 (qa8 a)).1.map ofT, 0, 0)) (fun k => ?_) (Ev.now _)
     rw [if_pos c2, e3, Option.bind_some, if_pos c3]
    ·rw [if_neg c3]
     refine Ev.congr (f := fun _ => some ([], 0, qbp (qaz [] 0 (qa8 a)).1)) (fun k => ?_) (Ev.now _)
     rw [if_pos c2, e3, Option.bind_some, if_neg c3, Option.bind_some]
   ·rw [if_neg c2]
    refine Ev.congr (fun k => if_neg c2) (Ev.now _)
def one3 : List T4 := [⟨0, 1, 2, [⟨true, 3, 5⟩]⟩]
theorem one3_text : mkB (qbz (qa6 one3)) = ⟨#[116, 120, 110, 32, 48, 32, 49, 32, 50, 10, 119, 32, 51, 32, 53, 10]⟩ := by
 have i : ∀ u : Nat, u < 10 → itoa (u : Int) = [UInt8.ofNat (48 + u)] := fun u hu => by rw [itoa_nat, decDigits_small hu]
 have i0 : itoa 0 = [48] := i 0 (by omega)
 have i1 : itoa 1 = [49] := i 1 (by omega)
 have i2 : itoa 2 = [50] := i 2 (by omega)
 have i3 : itoa 3 = [51] := i 3 (by omega)
 have i5 : itoa 5 = [53] := i 5 (by omega)
 unfold mkB qbz qa6 one3
 simp only [List.flatMap_cons, List.flatMap_nil, qbe, qcg, qce, opText, qbw, List.map_cons, List.map_nil, i0, i1, i2, i3, i5]
 rfl
theorem one3_check : qbp one3 = 0 := by decide
theorem one3_num : ∀ t ∈ one3, NumT t := by
 intro t ht
 simp [one3] at ht
 subst ht
 exact ⟨⟨by decide, by decide⟩, ⟨by decide, by decide⟩, ⟨by decide, by decide⟩, fun o ho => by simp at ho; subst ho; decide⟩
theorem speaks_f : Ev (fun k => Q.burgagelaw07_speaks.f k) true := by
 have p1 : qbj ⟨#[116, 120, 110, 32, 48, 32, 49, 32, 50, 10, 119, 32, 51, 32, 53, 10]⟩ = (one3, 0, 0) := by
  rw [← one3_text]
  exact parse_text one3 one3_check one3_num
 have p2 : qbj ⟨#[116, 120, 110, 32, 48, 32, 49, 32, 50, 10, 119, 32, 51, 10]⟩ = ([], 2, 1) := by
  have hl : qa8 ⟨#[116, 120, 110, 32, 48, 32, 49, 32, 50, 10, 119, 32, 51, 10]⟩ = [mkB (qcg 0 1 2), mkB [119, 32, 51]] := by
   have i : ∀ u : Nat, u < 10 → itoa (u : Int) = [UInt8.ofNat (48 + u)] := fun u hu => by rw [itoa_nat, decDigits_small hu]
   have i0 : itoa 0 = [48] := i 0 (by omega)
   have i1 : itoa 1 = [49] := i 1 (by omega)
   have i2 : itoa 2 = [50] := i 2 (by omega)
   unfold qa8
   rw [nlines_cut]
   unfold qcg qbw
   simp only [List.flatMap_cons, List.flatMap_nil, i0, i1, i2]
   rfl
  have hw : ∀ n : Int, n ≠ 1 → qa9 (mkB [119, 32, 51]) n = (⟨#[]⟩, [], false) := by
   intro n hn
   unfold qa9
   have hp : (pieces (mkB [119, 32, 51])).length = 2 := by rw [← pieces_cut]; rfl
   rw [if_neg (by rw [hp]; omega)]
  unfold qbj
  rw [hl]
  have hL : qaz [] 0 [mkB (qcg 0 1 2), mkB [119, 32, 51]] = ([], 2) := by
   rw [qaz]
   unfold qci
   rw [head_back ⟨by decide, by decide⟩ ⟨by decide, by decide⟩ ⟨by decide, by decide⟩]
   dsimp only
   rw [qaz]
   unfold qci qb7 opP qbm
   rw [hw 3 (by omega), hw 2 (by omega)]
   rfl
  rw [hL]
  dsimp only
  rw [if_pos (by omega)]
 unfold Q.burgagelaw07_speaks.f
 have s1 : ByteArray.size ⟨#[116, 120, 110, 32, 48, 32, 49, 32, 50, 10, 119, 32, 51, 32, 53, 10]⟩ = 16 := rfl
 have s2 : ByteArray.size ⟨#[116, 120, 110, 32, 48, 32, 49, 32, 50, 10, 119, 32, 51, 10]⟩ = 14 := rfl
 refine Ev.congr (f := fun k => (Q.script_Print.f k (one3.map ofT)).bind fun t141 => if t141.toList = ([116, 120, 110, 32, 48, 32, 49, 32, 50, 10, 119, 32, 51, 32, 53, 10] : List UInt8) then some true else some false) (fun k => ?_) ?_
 ·rw [parse_f' _ (by rw [s1]; omega), Option.bind_some, parse_f' _ (by rw [s2]; omega), Option.bind_some, p1, p2]
  rfl
 ·refine Ev.bind (print_f one3 one3_num (by rw [← mkB_size, one3_text]; show 16 ≤ _; omega)) ?_
  rw [one3_text]
  refine Ev.congr (fun k => if_pos (by rw [toList_data])) (Ev.now _)
end Go.Proofs.YtanofkgnjmegdaaDoor.Script
end
section
namespace Go.Proofs.YtanofkgnjmegdaaDoor.Pure
open Go Go.Lib Go.RowKit Go.Proofs.YtanofkgnjmegdaaDoor Go.Proofs.YtanofkgnjmegdaaDoor.Hand Go.Proofs.YtanofkgnjmegdaaDoor.Plain Go.Proofs.YtanofkgnjmegdaaDoor.Hist Go.Proofs.YtanofkgnjmegdaaDoor.Row3 Go.Proofs.YtanofkgnjmegdaaDoor.Script Go.Proofs.YtanofkgnjmegdaaDoorW.PrintWords
theorem parse_zero (a : ByteArray) (h : (qbj a).2.2 = 0) : (qbj a).2.1 = 0 := by
 unfold qbj at h ⊢
 dsimp only at h ⊢
 split
 ·rename_i c
  rw [if_pos c] at h
  simp at h
 ·rename_i c
  rw [if_neg c] at h
  split
  ·rename_i d
   rw [if_pos d] at h
   split
   ·rfl
   ·rfl
  ·rename_i d
   rw [if_neg d] at h
   simp at h
theorem parse_count (a : ByteArray) : (qbj a).1.length + qa2 (qbj a).1 ≤ a.size := by
 have := lines_small a
 unfold qbj
 dsimp only
 split
 ·simp [qa2]
 ·split
  ·split
   ·exact this
   ·simp [qa2]
  ·simp [qa2]
theorem ScriptParses : Q.burgagelaw07_ScriptParses.Pure := by
 intro a ha
 have e : Ev (fun k => Q.burgagelaw07_ScriptParses.f k a) true := by
  unfold Q.burgagelaw07_ScriptParses.f
  refine Ev.bind speaks_f ?_
  refine Ev.congr (fun k => if_pos rfl) ?_
  by_cases hs : a.size ≤ 3000
  ·refine Ev.congr (fun k => by rw [if_neg (by omega), parse_f' a (by omega), Option.bind_some]) ?_
   refine Ev.bind (refParse_f a (by omega)) ?_
   refine Ev.congr (fun k => by rw [if_pos rfl, if_pos rfl]) ?_
   have hc := parse_count a
   refine Ev.bind (same_f (qbj a).1 (qbj a).1 (by omega) (by omega)) ?_
   refine Ev.congr (fun k => if_pos (decide_eq_true rfl)) ?_
   by_cases h0 : (qbj a).2.2 = 0
   ·obtain ⟨t1, t2⟩ := text_parse a h0 (parse_zero a h0)
    refine Ev.congr (fun k => if_pos h0) ?_
    refine Ev.bind (print_f (qbj a).1 t2 (by rw [← mkB_size, t1]; omega)) ?_
    rw [t1]
    refine Ev.congr (f := fun _ => some true) (fun k => by rw [show (a.toList == a.toList) = true from beq_self_eq_true _]) (Ev.now _)
   ·refine Ev.congr (fun k => if_neg h0) (Ev.now _)
  ·refine Ev.congr (fun k => if_pos (by omega)) (Ev.now _)
 exact e.rounds
end Go.Proofs.YtanofkgnjmegdaaDoor.Pure
end
