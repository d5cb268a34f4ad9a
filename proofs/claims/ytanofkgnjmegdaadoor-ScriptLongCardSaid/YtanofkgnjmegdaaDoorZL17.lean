/- Texts of this claim, joined by a program of this session: the declarations that its theorem uses. -/
import Derived.Test.YtanofkgnjmegdaaDoorZL2
import Derived.Test.YtanofkgnjmegdaaDoorZL3
import Derived.Test.YtanofkgnjmegdaaDoorZL6
import Derived.Test.YtanofkgnjmegdaaDoorZL7
import Derived.Test.YtanofkgnjmegdaaDoorZL10
import Derived.Test.YtanofkgnjmegdaaDoorZL16
import Derived.Deep.QuietTactic
import Derived.BigQuiet
import Derived.WalkSpells
import Derived.Outline
import Derived.Test.YtanofkgnjmegdaaDoorProg
import Derived.Below
import Derived.Deep.Draws
import Derived.Deep.AppendLies
import Derived.Maps.AppendAt
import Derived.OwnWalk
import Derived.Laws.BytesArg
import Derived.Laws.MakeOwn
import Derived.Laws.OwnMore
import Derived.Deep.OwnRows
import Derived.Tactics
import Derived.Lib.ConvBytes
import Derived.Laws.Slices
import Derived.WalkKit
import Derived.KernelRfl
import Derived.RowKit3
import Derived.Deep.LoopGhost
import Derived.WideLaws
import Derived.Deep.DeepCutAuto
import Derived.Deep.CutBlock
import Derived.Deep.RegionHeld3
import Derived.Laws.Rows
import Derived.Lib.AppendStr
import Derived.ArgAppend
import Derived.Laws.IdiomCopy
import Derived.OrdersHeld
import Derived.Laws.BitsLemmas
import Derived.RowKit
set_option linter.unusedVariables false
set_option linter.unusedSimpArgs false
section
namespace Go.Proofs.YtanofkgnjmegdaaDoor.Hand
open Go Go.RowKit Go.Shelf Go.Proofs.YtanofkgnjmegdaaDoor Plain Go.Proofs.YtanofkgnjmegdaaDoorW.PrintWords
def newline : ByteArray := ⟨#[10]⟩
def nlines (a0 : ByteArray) : List ByteArray := Lib.splitB newline 0 (Lib.countB a0 newline) a0
def endedB (a0 : ByteArray) : Bool := ((nlines a0).getLastD ByteArray.empty).toList.isEmpty
def token_Lines.f (a0 : ByteArray) : Option (List ByteArray × Bool) := if a0.size < 4294967281 then some ((nlines a0).dropLast, endedB a0) else none
theorem nlines_length (a0 : ByteArray) : (nlines a0).length = Lib.countB a0 newline + 1 := Lib.splitB_all newline (by decide) 0 _ a0 rfl
set_option maxHeartbeats 400000 in
theorem token_Lines.calls (a0 : ByteArray) (r1 : List ByteArray) (r2 : Bool) (w : World) (h : token_Lines.f a0 = some (r1, r2)) (HY : Laid w) :
    Calls Tryd.prog 14 #[.string a0] w fun e w' => ∃ v0_ : Value, e = .returned (.tuple #[v0_, .bool r2]) ∧ Kd.R Kd.string 9 w' w.heap.size (fun _ => True) v0_ r1 ∧ Below w.heap.size w w' := by
  unfold token_Lines.f at h
  split at h
  · rename_i hs
    injection h with h
    obtain ⟨rfl, rfl⟩ := Prod.mk.inj h
    clear h
    have hf : strings_Split.f a0 ⟨#[10]⟩ = some (nlines a0) := by
      unfold strings_Split.f
      rw [if_pos ⟨hs, by decide⟩]
      rfl
    have hl := nlines_length a0
    have hle : Lib.countB a0 newline ≤ a0.size := Lib.countB_le newline (by decide) a0.size a0 (Nat.le_refl _)
    have hsplit := strings_Split.calls a0 ⟨#[10]⟩ (nlines a0) w hf HY
    obtain ⟨ps, hps⟩ : ∃ ps, nlines a0 = ps := ⟨_, rfl⟩
    have HE := Lib.hid (show endedB a0 = (ps.getLastD ByteArray.empty).toList.isEmpty by unfold endedB; rw [hps])
    have HP := Lib.hid hps
    rw [hps] at hsplit hl
    obtain ⟨n, hn⟩ : ∃ n, ps.length = n + 1 := ⟨_, hl⟩
    have hn2 : n ≤ 4294967281 := by omega
    have HN := Lib.hid hn
    clear hps hf hl hle hn
    go_enter Tryd.func14, Tryd.ntmps14
    go_wp2_with fail
    refine hsplit.mono ?_
    rintro e w1 ⟨v, rfl, hv, hb⟩
    obtain ⟨g, c, hv0, hB, hlt, _⟩ := Kd.R_form hv (by rw [HN.out]; omega)
    rw [HN.out] at hv0
    subst hv0
    obtain ⟨_, hc, hr⟩ := Kd.R_reads' hv
    have hcell := Kd.at_string hr (n : Int) (by omega) (by rw [HN.out]; omega)
    obtain ⟨ad, e0, hcell⟩ := hcell
    cases e0
    simp only [Int.toNat_natCast] at hcell
    have HC := Lib.hid hc
    clear hc
    go_wp2_with fail
    have e1 : (ps.length : Int) - 1 = (n : Int) := by rw [HN.out]; omega
    rw [e1]
    have e2 : (n : Int) ≤ (ps.length : Int) := by rw [HN.out]; omega
    have e3 : (n : Int) < (ps.length : Int) := by rw [HN.out]; omega
    have e4 : (0 : Int) ≤ (n : Int) := by omega
    have e5 : (n : Int) ≤ (c : Int) := by have := HC.out; have := HN.out; omega
    have hcell2 : w1.cell? { block := g, off := n } = some (.string (rdOf ByteArray.empty ps n)) := by
      rw [← hcell]; unfold Addr.add; simp only [Nat.zero_add]; split
      · rename_i h0; rw [h0]
      · rfl
    clear hcell
    refine wp_region_quiet_lit (by kernel_rfl) (by kernel_rfl) ?_
    go_big_quiet_step (fail)
    go_big_quiet_step (fail)
    repeat (first | go_big_quiet_step (fail) | quiet_step (fail))
    refine wpQuiet_nil ?_
    intro _ hw'
    obtain ⟨nq, hw''⟩ := hw'
    subst hw''
    have e6 : rdOf ByteArray.empty ps n = ps.getLastD ByteArray.empty := by
      have hq := HN.out
      unfold rdOf
      simp [List.getLastD_eq_getLast?, List.getLast?_eq_getElem?, hq, List.getD_eq_getElem?_getD]
    have e7 : ps.dropLast = ps.take n := by
      have hq := HN.out
      rw [List.dropLast_eq_take, hq]; rfl
    go_wp2_with fail
    go_ret2
    refine ⟨.slice (some { block := g, off := 0 }) n c, ?_, ?_, ?_⟩
    · rw [HE.out, e6]; rfl
    · rw [HP.out, e7]
      exact Kd.R_drewN (Kd.R_take hv (by rw [HN.out]; omega)) nq
    · exact pw_below_drewN hb nq
  · cases h
end Go.Proofs.YtanofkgnjmegdaaDoor.Hand
end
section
namespace Go.Proofs.YtanofkgnjmegdaaDoor.O
open Go.Proofs.YtanofkgnjmegdaaDoor Go.Proofs.YtanofkgnjmegdaaDoor.Hand Go.Proofs.YtanofkgnjmegdaaDoor.K
open Go.RowKit Go.Proofs.YtanofkgnjmegdaaDoorW.PrintWords Go.Proofs.YtanofkgnjmegdaaDoorW.PrintLast Go.Proofs.YtanofkgnjmegdaaDoorW.PrintMore
attribute [local go_sem] max2_int min2_int max_two min_two max_three min_three max_four min_four   -- for this text's walks alone
set_option linter.unusedVariables false
set_option linter.unusedSimpArgs false
def script_head.f (a0 : ByteArray) : Option (Int × Int × Int × (List (S48)) × Bool) := (token_Words.f a0 3).bind fun bt102 => (if bt102.2.2 = true then (if bt102.1.toList = ([116, 120, 110] : List UInt8) then (if 0 < (bt102.2.1.length : Int) then (if 1 < (bt102.2.1.length : Int) then (if 2 < (bt102.2.1.length : Int) then (some (rd bt102.2.1 0, rd bt102.2.1 1, rd bt102.2.1 2, ([] : List (S48)), true)) else (none)) else (none)) else (none)) else (some (0, 0, 0, ([] : List (S48)), false))) else (some (0, 0, 0, ([] : List (S48)), false)))
def script_head.T4 : Bool × List (List Nat × List Nat) := (true, [([], []), ([0], [0]), ([1], [1]), ([], []), ([3], [3]), ([4], [4]), ([], []), ([6], [6]), ([7], [7]), ([2, 5, 8], [2, 5, 8]), ([9, 0, 1, 2, 3, 4, 5, 6, 7, 8, 9], [9]), ([10, 0, 1, 2, 3, 4, 5, 6, 7, 8, 9, 10], [])])
def script_head.B4 : List Nat := [0, 1, 3, 0, 8, 24, 0, 64, 192, 511, 1023, 2047]
theorem script_head.tab4 : rtab .any (opsOf Tryd.f29 4) = script_head.T4 := by kernel_rfl
theorem script_head.bits4 : waitsOk script_head.T4.2 script_head.B4 = true := by kernel_rfl
set_option maxHeartbeats 8000000 in
set_option maxRecDepth 100000 in
theorem script_head.calls (a0 : ByteArray) (r1 : Int) (r2 : Int) (r3 : Int) (r4 : List (S48)) (r5 : Bool) (w : World) (h : script_head.f a0 = some (r1, r2, r3, r4, r5)) (HY : Laid w) :
    Calls Tryd.prog 29 #[.string a0] w fun e w' => ∃ v3_ : Value, e = .returned (.tuple #[.agg #[.int .i64 r1, .int .i64 r2, .int .i64 r3, v3_], .bool r5]) ∧ Kd.R k48 48 w' w.heap.size (fun _ => True) v3_ r4 ∧ Below w.heap.size w w' := by
  have hu38 := Tryd.underlying38
  have HB := Aside0.mk (Below.refl w.heap.size w)
  have H : ((token_Words.f a0 3).bind fun bt102 => (if bt102.2.2 = true then (if bt102.1.toList = ([116, 120, 110] : List UInt8) then (if 0 < (bt102.2.1.length : Int) then (if 1 < (bt102.2.1.length : Int) then (if 2 < (bt102.2.1.length : Int) then (some (rd bt102.2.1 0, rd bt102.2.1 1, rd bt102.2.1 2, ([] : List (S48)), true)) else (none)) else (none)) else (none)) else (some (0, 0, 0, ([] : List (S48)), false))) else (some (0, 0, 0, ([] : List (S48)), false)))) = some (r1, r2, r3, r4, r5) := h
  clear h
  replace H := Option.bind_eq_some_iff.mp H
  obtain ⟨⟨t102, t103, t104⟩, A20, H⟩ := H
  replace H : (if t104 = true then (if t102.toList = ([116, 120, 110] : List UInt8) then (if 0 < (t103.length : Int) then (if 1 < (t103.length : Int) then (if 2 < (t103.length : Int) then (some (rd t103 0, rd t103 1, rd t103 2, ([] : List (S48)), true)) else (none)) else (none)) else (none)) else (some (0, 0, 0, ([] : List (S48)), false))) else (some (0, 0, 0, ([] : List (S48)), false))) = some (r1, r2, r3, r4, r5) := H
  have A2 := Aside0.mk A20
  clear A20
  by_cases c3 : t104 = true
  · subst c3
    have H1 : (if t102.toList = ([116, 120, 110] : List UInt8) then (if 0 < (t103.length : Int) then (if 1 < (t103.length : Int) then (if 2 < (t103.length : Int) then (some (rd t103 0, rd t103 1, rd t103 2, ([] : List (S48)), true)) else (none)) else (none)) else (none)) else (some (0, 0, 0, ([] : List (S48)), false))) = some (r1, r2, r3, r4, r5) := by rw [if_pos rfl] at H; exact H
    clear H
    have H := H1
    clear H1
    by_cases c4 : t102.toList = ([116, 120, 110] : List UInt8)
    · rw [if_pos c4] at H
      have c4b0 : (t102.toList == ([116, 120, 110] : List UInt8)) = true := beq_iff_eq.mpr c4
      have c4b1 : (t102.toList != ([116, 120, 110] : List UInt8)) = false := bne_eq_false_iff_eq.mpr c4
      clear c4
      by_cases c5 : 0 < (t103.length : Int)
      · rw [if_pos c5] at H
        have c5b0 : decide (0 < (t103.length : Int)) = true := decide_eq_true c5
        have c5b1 : decide (0 < t103.length) = true := decide_eq_true (by omega)
        clear c5
        by_cases c6 : 1 < (t103.length : Int)
        · rw [if_pos c6] at H
          have c6b0 : decide (1 < (t103.length : Int)) = true := decide_eq_true c6
          have c6b1 : decide (1 < t103.length) = true := decide_eq_true (by omega)
          clear c6
          by_cases c7 : 2 < (t103.length : Int)
          · rw [if_pos c7] at H
            have c7b0 : decide (2 < (t103.length : Int)) = true := decide_eq_true c7
            have c7b1 : decide (2 < t103.length) = true := decide_eq_true (by omega)
            clear c7
            simp only [Option.some.injEq, Prod.mk.injEq] at H
            obtain ⟨rfl, rfl, rfl, rfl, rfl⟩ := H
            go_enter Tryd.func29, Tryd.ntmps29
            try go_wp2_with (first | ((with_reducible refine gate_dst (N := 2) rfl ?_); refine box_event ?hg (N := 2) ?hd (cs := #[.int .i64 0, .int .i64 0, .int .i64 0, .slice none 0 0]) (t := 38) ?hr ?_; (case hd => rfl); (case hg => rfl); (case hr => first | (go_simp; done) | (go_simp; rfl)); intro gb101 hg w8 hbox hb; have n0_ := Aside0.mk (below_step (by repeat (first | (with_reducible first | exact HB.out | apply below_alloc | apply pw_below_drewN | apply below_drew1) | exact HB.out)) hb); have n1_ := Aside0.mk (hbox); have n2_ := Aside0.mk ((by rw [hg]; exact (below_size (by repeat (first | (with_reducible first | exact HB.out | apply below_alloc | apply pw_below_drewN | apply below_drew1) | exact HB.out))) : w.heap.size ≤ gb101)); have n3_ := Aside0.mk ((by rw [hg]; exact (below_size (by repeat (first | (with_reducible first | exact HB.out | apply below_alloc | apply pw_below_drewN | apply below_drew1) | exact HB.out))) : w.heap.size ≤ gb101)); clear HB; have HB := n0_; have BK101 := n1_; have GW101 := n2_; have GE101 := n3_; clear n0_ n1_ n2_ n3_; clear hb hbox hg) | ((with_reducible refine gate_callee (f := 48) rfl ?_); refine goesL_ (some 9) rfl rfl Tryd.func48 (by kernel_rfl) rfl #[.string a0, .int .i64 3] rfl (by (try simp only [List.map_toArray, List.map_cons, List.map_nil]); first | done | rfl | (simp only [List.length_drop, List.length_take]; rfl)) ?_; (with_reducible refine (token_Words.calls a0 3 t102 t103 true _ A2.out (Laid.below HY (by repeat (first | (with_reducible first | exact HB.out | apply below_alloc | apply pw_below_drewN | apply below_drew1 | refine below_set ?_ GE101.out) | exact HB.out)))).mono ?_); rintro e w9 ⟨v105, rfl, ho0, hb⟩; refine ⟨_, rfl, ?_⟩; have n0_ := Aside0.mk (Kd.R_lower ho0 (below_size (by repeat (first | (with_reducible first | exact HB.out | apply below_alloc | apply pw_below_drewN | apply below_drew1 | refine below_set ?_ GE101.out) | exact HB.out)))); have n1_ := Aside0.mk (blk_below (g := gb101) (o := .cells #[.int .i64 0, .int .i64 0, .int .i64 0, .slice none 0 0] 38 (0, 0)) (by (with_reducible repeat (first | refine blk_drewN ?_ _ | refine blk_drew ?_ | refine blk_alloc ?_ _)); exact BK101.out) hb); have n2_ := Aside0.mk (below_step (by repeat (first | (with_reducible first | exact HB.out | apply below_alloc | apply pw_below_drewN | apply below_drew1 | refine below_set ?_ GE101.out) | exact HB.out)) hb); clear BK101; clear HB; have HO106 := n0_; have BK101 := n1_; have HB := n2_; clear n0_ n1_ n2_; (try clear hb); (try clear hb2); (try clear hk); (try clear hi); (try clear ho0)))
            have n0_ := Aside0.mk (Kd.R_drew HO106.out)
            have n1_ := Aside0.mk (blk_drew BK101.out)
            have n2_ := Aside0.mk (below_drew1 HB.out)
            clear HO106
            clear BK101
            clear HB
            have HO106 := n0_
            have BK101 := n1_
            have HB := n2_
            clear n0_ n1_ n2_
            obtain ⟨Ao11, co11, eo11⟩ := Kd.R_slice HO106.out
            (first | subst eo11 | (injection eo11 with f1_ f2_ f3_; have f4_ := f1_.symm; have f5_ := f3_.symm; clear f1_ f2_ f3_; subst f4_; subst f5_))
            have p107 : 0 ≤ (0 : Int) := (by omega)
            have q107 : 0 < (t103.length : Int) := of_decide_eq_true (by first | (with_reducible assumption) | assumption)
            obtain ⟨ad107, e107, hx107_0⟩ := Kd.at_int (Kd.R_reads' HO106.out).2.2 0 p107 q107
            cases e107
            have qi107 : (0 < t103.length) = True := eq_true (by omega)
            (try rw [show ((0 : Int)).toNat = 0 from rfl] at hx107_0)
            (try rw [Addr.add_zero'] at hx107_0)
            replace p107 := eq_true p107
            replace q107 := eq_true q107
            have p108 : 0 ≤ (1 : Int) := (by omega)
            have q108 : 1 < (t103.length : Int) := of_decide_eq_true (by first | (with_reducible assumption) | assumption)
            obtain ⟨ad108, e108, hx108_0⟩ := Kd.at_int (Kd.R_reads' HO106.out).2.2 1 p108 q108
            obtain rfl : ad107 = ad108 := (by injection e108)
            (try simp only [show (1 : Int).toNat = 1 from rfl, Nat.reduceMul, Nat.reduceEqDiff, Go.Addr.add, ↓reduceIte] at hx108_0)
            have qi108 : (1 < t103.length) = True := eq_true (by omega)
            (try rw [show ((1 : Int)).toNat = 1 from rfl] at hx108_0)
            replace p108 := eq_true p108
            replace q108 := eq_true q108
            have p109 : 0 ≤ (2 : Int) := (by omega)
            have q109 : 2 < (t103.length : Int) := of_decide_eq_true (by first | (with_reducible assumption) | assumption)
            obtain ⟨ad109, e109, hx109_0⟩ := Kd.at_int (Kd.R_reads' HO106.out).2.2 2 p109 q109
            obtain rfl : ad107 = ad109 := (by injection e109)
            (try simp only [show (2 : Int).toNat = 2 from rfl, Nat.reduceMul, Nat.reduceEqDiff, Go.Addr.add, ↓reduceIte] at hx109_0)
            have qi109 : (2 < t103.length) = True := eq_true (by omega)
            (try rw [show ((2 : Int)).toNat = 2 from rfl] at hx109_0)
            replace p109 := eq_true p109
            replace q109 := eq_true q109
            refine start_ (n := 12) (S := fun w' => w'.cell? ad107 = some (.int .i64 (rd t103 0)) ∧ w'.cell? ⟨ad107.block, ad107.off + 1, none⟩ = some (.int .i64 (rd t103 1)) ∧ w'.cell? ⟨ad107.block, ad107.off + 2, none⟩ = some (.int .i64 (rd t103 2))) (ds := []) #[false, false, false, false, false, false, false, false, false, false, false, false] (by kernel_rfl) rfl rfl ⟨hx107_0, hx108_0, hx109_0⟩ (fun hHeld => ?_); refine with_tabW script_head.tab4 script_head.bits4 (fun HT_ HW_ => ?_)
            generalize w9.drew = w10 at HO106 BK101 HB hx107_0 hx108_0 hx109_0 hHeld ⊢
            refine pure_ (i := 0) (N := some 20) (v := ?_) (a' := ?_) #[true, false, false, false, false, false, false, false, false, false, false, false] rfl rfl (any_of HT_.out (by kernel_rfl)) (fun _ _ _ h => h) (Or.inl ⟨by rfl, ?_⟩) ?_ ?_
            rotate_left
            · intro w'
              go_simp
              with_reducible rfl
            rotate_left
            · simp only [Act.put, List.setIfInBounds_toArray, List.set_cons_zero, List.set_cons_succ, i64_w, i32_w]
              rfl
            refine pure_ (i := 1) (N := some 21) (v := ?_) (a' := ?_) #[true, true, false, false, false, false, false, false, false, false, false, false] rfl rfl (any_of HT_.out (by kernel_rfl)) (fun _ _ _ h => h) (Or.inl ⟨by rfl, ?_⟩) ?_ ?_
            rotate_left
            · intro w'
              go_simp
              with_reducible rfl
            rotate_left
            · simp only [Act.put, List.setIfInBounds_toArray, List.set_cons_zero, List.set_cons_succ, i64_w, i32_w]
              rfl
            refine pure_ (i := 3) (N := some 23) (v := ?_) (a' := ?_) #[true, true, false, true, false, false, false, false, false, false, false, false] rfl rfl (any_of HT_.out (by kernel_rfl)) (fun _ _ _ h => h) (Or.inl ⟨by rfl, ?_⟩) ?_ ?_
            rotate_left
            · intro w'
              go_simp
              with_reducible rfl
            rotate_left
            · simp only [Act.put, List.setIfInBounds_toArray, List.set_cons_zero, List.set_cons_succ, i64_w, i32_w]
              rfl
            refine pure_ (i := 4) (N := some 24) (v := ?_) (a' := ?_) #[true, true, false, true, true, false, false, false, false, false, false, false] rfl rfl (any_of HT_.out (by kernel_rfl)) (fun _ _ _ h => h) (Or.inl ⟨by rfl, ?_⟩) ?_ ?_
            rotate_left
            · intro w'
              go_simp
              with_reducible rfl
            rotate_left
            · simp only [Act.put, List.setIfInBounds_toArray, List.set_cons_zero, List.set_cons_succ, i64_w, i32_w]
              rfl
            refine pure_ (i := 6) (N := some 26) (v := ?_) (a' := ?_) #[true, true, false, true, true, false, true, false, false, false, false, false] rfl rfl (any_of HT_.out (by kernel_rfl)) (fun _ _ _ h => h) (Or.inl ⟨by rfl, ?_⟩) ?_ ?_
            rotate_left
            · intro w'
              go_simp
              with_reducible rfl
            rotate_left
            · simp only [Act.put, List.setIfInBounds_toArray, List.set_cons_zero, List.set_cons_succ, i64_w, i32_w]
              rfl
            refine pure_ (i := 7) (N := some 27) (v := ?_) (a' := ?_) #[true, true, false, true, true, false, true, true, false, false, false, false] rfl rfl (any_of HT_.out (by kernel_rfl)) (fun _ _ _ h => h) (Or.inl ⟨by rfl, ?_⟩) ?_ ?_
            rotate_left
            · intro w'
              go_simp
              with_reducible rfl
            rotate_left
            · simp only [Act.put, List.setIfInBounds_toArray, List.set_cons_zero, List.set_cons_succ, i64_w, i32_w]
              rfl
            refine take_ (i := 2) (N := some 22) (v := ?_) (a' := ?_) #[true, true, true, true, true, false, true, true, false, false, false, false] rfl rfl (take_ofW HT_.out HW_.out (by kernel_rfl)) (fun _ _ _ h => h) (Or.inl ⟨by rfl, ?_⟩) hHeld ?_ ?_
            rotate_left
            · rintro w' ⟨s0, s1, s2⟩
              go_simp
              with_reducible rfl
            rotate_left
            · simp only [Act.put, List.setIfInBounds_toArray, List.set_cons_zero, List.set_cons_succ, i64_w, i32_w]
              rfl
            refine take_ (i := 5) (N := some 25) (v := ?_) (a' := ?_) #[true, true, true, true, true, true, true, true, false, false, false, false] rfl rfl (take_ofW HT_.out HW_.out (by kernel_rfl)) (fun _ _ _ h => h) (Or.inl ⟨by rfl, ?_⟩) hHeld ?_ ?_
            rotate_left
            · rintro w' ⟨s0, s1, s2⟩
              go_simp
              with_reducible rfl
            rotate_left
            · simp only [Act.put, List.setIfInBounds_toArray, List.set_cons_zero, List.set_cons_succ, i64_w, i32_w]
              rfl
            refine take_ (i := 8) (N := some 28) (v := ?_) (a' := ?_) #[true, true, true, true, true, true, true, true, true, false, false, false] rfl rfl (take_ofW HT_.out HW_.out (by kernel_rfl)) (fun _ _ _ h => h) (Or.inl ⟨by rfl, ?_⟩) hHeld ?_ ?_
            rotate_left
            · rintro w' ⟨s0, s1, s2⟩
              go_simp
              with_reducible rfl
            rotate_left
            · simp only [Act.put, List.setIfInBounds_toArray, List.set_cons_zero, List.set_cons_succ, i64_w, i32_w]
              rfl
            refine pure_ (i := 9) (N := some 29) (v := ?_) (a' := ?_) #[true, true, true, true, true, true, true, true, true, true, false, false] rfl rfl (any_of HT_.out (by kernel_rfl)) (fun _ _ _ h => h) (Or.inl ⟨by rfl, ?_⟩) ?_ ?_
            rotate_left
            · intro w'
              go_simp
              with_reducible rfl
            rotate_left
            · simp only [Act.put, List.setIfInBounds_toArray, List.set_cons_zero, List.set_cons_succ, i64_w, i32_w]
              rfl
            refine one_ (i := 10) (N := none) #[true, true, true, true, true, true, true, true, true, true, true, false] rfl rfl (one_of HT_.out (by kernel_rfl)) (by decide) (fun K hK => ?_)
            have hs12 : w10.cell? ⟨gb101, 0, none⟩ = some (.int .i64 0) := (blk_cell BK101.out 0).trans rfl
            have hfs12 := blk_frozen BK101.out 0
            have hs13 : w10.cell? ⟨gb101, 1, none⟩ = some (.int .i64 0) := (blk_cell BK101.out 1).trans rfl
            have hfs13 := blk_frozen BK101.out 1
            have hs14 : w10.cell? ⟨gb101, 2, none⟩ = some (.int .i64 0) := (blk_cell BK101.out 2).trans rfl
            have hfs14 := blk_frozen BK101.out 2
            have hs15 : w10.cell? ⟨gb101, 3, none⟩ = some (.slice none 0 0) := (blk_cell BK101.out 3).trans rfl
            have hfs15 := blk_frozen BK101.out 3
            refine skip_ (w1 := ?_) (by rfl) rfl ?_ ?_
            rotate_left
            · go_simp
              rfl
            refine hK.out _ _ ⟨((cell_far (p := ⟨gb101, _, none⟩) (by first | exact Kd.own_blk (Kd.R_ne HO106.out BK101.out (by decide)) | (rw [add_block]; exact Kd.own_blk (Kd.R_ne HO106.out BK101.out (by decide))) | (show (Addr.add _ _).block ≠ _; rw [add_block]; exact Kd.own_blk (Kd.R_ne HO106.out BK101.out (by decide))) | (dsimp only; exact Kd.own_blk (Kd.R_ne HO106.out BK101.out (by decide)))) _).trans (((cell_far (p := ⟨gb101, _, none⟩) (by first | exact Kd.own_blk (Kd.R_ne HO106.out BK101.out (by decide)) | (rw [add_block]; exact Kd.own_blk (Kd.R_ne HO106.out BK101.out (by decide))) | (show (Addr.add _ _).block ≠ _; rw [add_block]; exact Kd.own_blk (Kd.R_ne HO106.out BK101.out (by decide))) | (dsimp only; exact Kd.own_blk (Kd.R_ne HO106.out BK101.out (by decide)))) _).trans (((cell_far (p := ⟨gb101, _, none⟩) (by first | exact Kd.own_blk (Kd.R_ne HO106.out BK101.out (by decide)) | (rw [add_block]; exact Kd.own_blk (Kd.R_ne HO106.out BK101.out (by decide))) | (show (Addr.add _ _).block ≠ _; rw [add_block]; exact Kd.own_blk (Kd.R_ne HO106.out BK101.out (by decide))) | (dsimp only; exact Kd.own_blk (Kd.R_ne HO106.out BK101.out (by decide)))) _).trans (((cell_far (p := ⟨gb101, _, none⟩) (by first | exact Kd.own_blk (Kd.R_ne HO106.out BK101.out (by decide)) | (rw [add_block]; exact Kd.own_blk (Kd.R_ne HO106.out BK101.out (by decide))) | (show (Addr.add _ _).block ≠ _; rw [add_block]; exact Kd.own_blk (Kd.R_ne HO106.out BK101.out (by decide))) | (dsimp only; exact Kd.own_blk (Kd.R_ne HO106.out BK101.out (by decide)))) _).trans (hHeld.1)))))))), ((cell_far (p := ⟨gb101, _, none⟩) (by first | exact Kd.own_blk (Kd.R_ne HO106.out BK101.out (by decide)) | (rw [add_block]; exact Kd.own_blk (Kd.R_ne HO106.out BK101.out (by decide))) | (show (Addr.add _ _).block ≠ _; rw [add_block]; exact Kd.own_blk (Kd.R_ne HO106.out BK101.out (by decide))) | (dsimp only; exact Kd.own_blk (Kd.R_ne HO106.out BK101.out (by decide)))) _).trans (((cell_far (p := ⟨gb101, _, none⟩) (by first | exact Kd.own_blk (Kd.R_ne HO106.out BK101.out (by decide)) | (rw [add_block]; exact Kd.own_blk (Kd.R_ne HO106.out BK101.out (by decide))) | (show (Addr.add _ _).block ≠ _; rw [add_block]; exact Kd.own_blk (Kd.R_ne HO106.out BK101.out (by decide))) | (dsimp only; exact Kd.own_blk (Kd.R_ne HO106.out BK101.out (by decide)))) _).trans (((cell_far (p := ⟨gb101, _, none⟩) (by first | exact Kd.own_blk (Kd.R_ne HO106.out BK101.out (by decide)) | (rw [add_block]; exact Kd.own_blk (Kd.R_ne HO106.out BK101.out (by decide))) | (show (Addr.add _ _).block ≠ _; rw [add_block]; exact Kd.own_blk (Kd.R_ne HO106.out BK101.out (by decide))) | (dsimp only; exact Kd.own_blk (Kd.R_ne HO106.out BK101.out (by decide)))) _).trans (((cell_far (p := ⟨gb101, _, none⟩) (by first | exact Kd.own_blk (Kd.R_ne HO106.out BK101.out (by decide)) | (rw [add_block]; exact Kd.own_blk (Kd.R_ne HO106.out BK101.out (by decide))) | (show (Addr.add _ _).block ≠ _; rw [add_block]; exact Kd.own_blk (Kd.R_ne HO106.out BK101.out (by decide))) | (dsimp only; exact Kd.own_blk (Kd.R_ne HO106.out BK101.out (by decide)))) _).trans (hHeld.2.1)))))))), ((cell_far (p := ⟨gb101, _, none⟩) (by first | exact Kd.own_blk (Kd.R_ne HO106.out BK101.out (by decide)) | (rw [add_block]; exact Kd.own_blk (Kd.R_ne HO106.out BK101.out (by decide))) | (show (Addr.add _ _).block ≠ _; rw [add_block]; exact Kd.own_blk (Kd.R_ne HO106.out BK101.out (by decide))) | (dsimp only; exact Kd.own_blk (Kd.R_ne HO106.out BK101.out (by decide)))) _).trans (((cell_far (p := ⟨gb101, _, none⟩) (by first | exact Kd.own_blk (Kd.R_ne HO106.out BK101.out (by decide)) | (rw [add_block]; exact Kd.own_blk (Kd.R_ne HO106.out BK101.out (by decide))) | (show (Addr.add _ _).block ≠ _; rw [add_block]; exact Kd.own_blk (Kd.R_ne HO106.out BK101.out (by decide))) | (dsimp only; exact Kd.own_blk (Kd.R_ne HO106.out BK101.out (by decide)))) _).trans (((cell_far (p := ⟨gb101, _, none⟩) (by first | exact Kd.own_blk (Kd.R_ne HO106.out BK101.out (by decide)) | (rw [add_block]; exact Kd.own_blk (Kd.R_ne HO106.out BK101.out (by decide))) | (show (Addr.add _ _).block ≠ _; rw [add_block]; exact Kd.own_blk (Kd.R_ne HO106.out BK101.out (by decide))) | (dsimp only; exact Kd.own_blk (Kd.R_ne HO106.out BK101.out (by decide)))) _).trans (((cell_far (p := ⟨gb101, _, none⟩) (by first | exact Kd.own_blk (Kd.R_ne HO106.out BK101.out (by decide)) | (rw [add_block]; exact Kd.own_blk (Kd.R_ne HO106.out BK101.out (by decide))) | (show (Addr.add _ _).block ≠ _; rw [add_block]; exact Kd.own_blk (Kd.R_ne HO106.out BK101.out (by decide))) | (dsimp only; exact Kd.own_blk (Kd.R_ne HO106.out BK101.out (by decide)))) _).trans (hHeld.2.2))))))))⟩ (fun hHeld => ?_)
            clear hK K
            refine pure_ (i := 11) (N := some 3) (v := ?_) (a' := ?_) #[true, true, true, true, true, true, true, true, true, true, true, true] rfl rfl (any_of HT_.out (by kernel_rfl)) (fun _ _ _ h => h) (Or.inl ⟨by rfl, ?_⟩) ?_ ?_
            rotate_left
            · intro w'
              go_simp
              with_reducible rfl
            rotate_left
            · simp only [Act.put, List.setIfInBounds_toArray, List.set_cons_zero, List.set_cons_succ, i64_w, i32_w]
              rfl
            refine done_ (done_of HT_.out (by kernel_rfl)) ?_
            try go_wp2
            refine bodyPost_ret (results_ct rfl _ _ gb101 38 #[.int .i64 (rd t103 0), .int .i64 (rd t103 1), .int .i64 (rd t103 2), .slice none 0 0] (0, 0) _ rfl (by (with_reducible repeat (first | refine blk_drewN ?_ _ | refine blk_drew ?_ | refine blk_alloc ?_ _)); refine blk_put (cs := #[.int .i64 (rd t103 0), .int .i64 (rd t103 1), .int .i64 (rd t103 2), .slice none 0 0]) ?_ 3 _ rfl; (with_reducible repeat (first | refine blk_drewN ?_ _ | refine blk_drew ?_ | refine blk_alloc ?_ _)); refine blk_put (cs := #[.int .i64 (rd t103 0), .int .i64 (rd t103 1), .int .i64 0, .slice none 0 0]) ?_ 2 _ rfl; (with_reducible repeat (first | refine blk_drewN ?_ _ | refine blk_drew ?_ | refine blk_alloc ?_ _)); refine blk_put (cs := #[.int .i64 (rd t103 0), .int .i64 0, .int .i64 0, .slice none 0 0]) ?_ 1 _ rfl; (with_reducible repeat (first | refine blk_drewN ?_ _ | refine blk_drew ?_ | refine blk_alloc ?_ _)); refine blk_put (cs := #[.int .i64 0, .int .i64 0, .int .i64 0, .slice none 0 0]) ?_ 0 _ rfl; (with_reducible repeat (first | refine blk_drewN ?_ _ | refine blk_drew ?_ | refine blk_alloc ?_ _)); exact BK101.out) Tryd.underlying38 rfl (by kernel_rfl)) rfl ?_
            exact ⟨_, by first | rfl | (simp [errW_none, errW_some] <;> rfl) | (simp [*, errW_none, errW_some] <;> rfl), by first | exact Kd.R_nil _ _ _ _ _ | exact Kd.N_nil _ _ _ _ _ | exact Kd.V_nil _ _ _ _ _ | exact Kd.Q_nil _ _ _ _ _ | exact Kd.S_nil _ _ _ _ _, by repeat (first | (with_reducible first | exact HB.out | apply below_alloc | apply pw_below_drewN | apply below_drew1 | refine below_set ?_ GE101.out) | exact HB.out)⟩
          · rw [if_neg c7] at H
            exact absurd H (by simp)
        · rw [if_neg c6] at H
          exact absurd H (by simp)
      · rw [if_neg c5] at H
        exact absurd H (by simp)
    · rw [if_neg c4] at H
      have c4b0 : (t102.toList == ([116, 120, 110] : List UInt8)) = false := beq_eq_false_iff_ne.mpr c4
      have c4b1 : (t102.toList != ([116, 120, 110] : List UInt8)) = true := bne_iff_ne.mpr c4
      simp only [Option.some.injEq, Prod.mk.injEq] at H
      obtain ⟨rfl, rfl, rfl, rfl, rfl⟩ := H
      go_enter Tryd.func29, Tryd.ntmps29
      go_wp2_with (first | ((with_reducible refine gate_dst (N := 2) rfl ?_); refine box_event ?hg (N := 2) ?hd (cs := #[.int .i64 0, .int .i64 0, .int .i64 0, .slice none 0 0]) (t := 38) ?hr ?_; (case hd => rfl); (case hg => rfl); (case hr => first | (go_simp; done) | (go_simp; rfl)); intro gb101 hg w16 hbox hb; have n0_ := Aside0.mk (below_step (by repeat (first | (with_reducible first | exact HB.out | apply below_alloc | apply pw_below_drewN | apply below_drew1) | exact HB.out)) hb); have n1_ := Aside0.mk (hbox); have n2_ := Aside0.mk ((by rw [hg]; exact (below_size (by repeat (first | (with_reducible first | exact HB.out | apply below_alloc | apply pw_below_drewN | apply below_drew1) | exact HB.out))) : w.heap.size ≤ gb101)); have n3_ := Aside0.mk ((by rw [hg]; exact (below_size (by repeat (first | (with_reducible first | exact HB.out | apply below_alloc | apply pw_below_drewN | apply below_drew1) | exact HB.out))) : w.heap.size ≤ gb101)); clear HB; have HB := n0_; have BK101 := n1_; have GW101 := n2_; have GE101 := n3_; clear n0_ n1_ n2_ n3_; clear hb hbox hg) | ((with_reducible refine gate_callee (f := 48) rfl ?_); refine goesL_ (some 9) rfl rfl Tryd.func48 (by kernel_rfl) rfl #[.string a0, .int .i64 3] rfl (by (try simp only [List.map_toArray, List.map_cons, List.map_nil]); first | done | rfl | (simp only [List.length_drop, List.length_take]; rfl)) ?_; (with_reducible refine (token_Words.calls a0 3 t102 t103 true _ A2.out (Laid.below HY (by repeat (first | (with_reducible first | exact HB.out | apply below_alloc | apply pw_below_drewN | apply below_drew1 | refine below_set ?_ GE101.out) | exact HB.out)))).mono ?_); rintro e w17 ⟨v105, rfl, ho0, hb⟩; refine ⟨_, rfl, ?_⟩; have n0_ := Aside0.mk (Kd.R_lower ho0 (below_size (by repeat (first | (with_reducible first | exact HB.out | apply below_alloc | apply pw_below_drewN | apply below_drew1 | refine below_set ?_ GE101.out) | exact HB.out)))); have n1_ := Aside0.mk (blk_below (g := gb101) (o := .cells #[.int .i64 0, .int .i64 0, .int .i64 0, .slice none 0 0] 38 (0, 0)) (by (with_reducible repeat (first | refine blk_drewN ?_ _ | refine blk_drew ?_ | refine blk_alloc ?_ _)); exact BK101.out) hb); have n2_ := Aside0.mk (below_step (by repeat (first | (with_reducible first | exact HB.out | apply below_alloc | apply pw_below_drewN | apply below_drew1 | refine below_set ?_ GE101.out) | exact HB.out)) hb); clear BK101; clear HB; have HO106 := n0_; have BK101 := n1_; have HB := n2_; clear n0_ n1_ n2_; (try clear hb); (try clear hb2); (try clear hk); (try clear hi); (try clear ho0); have hcz18_0 : w17.cell? ⟨gb101, 0, none⟩ = some (.int .i64 0) := (blk_cell BK101.out 0).trans rfl; have hcz18_1 : w17.cell? ⟨gb101, 1, none⟩ = some (.int .i64 0) := (blk_cell BK101.out 1).trans rfl; have hcz18_2 : w17.cell? ⟨gb101, 2, none⟩ = some (.int .i64 0) := (blk_cell BK101.out 2).trans rfl; have hcz18_3 : w17.cell? ⟨gb101, 3, none⟩ = some (.slice none 0 0) := (blk_cell BK101.out 3).trans rfl; have hfz18_0 := blk_frozen BK101.out 0; have hfz18_1 := blk_frozen BK101.out 1; have hfz18_2 := blk_frozen BK101.out 2; have hfz18_3 := blk_frozen BK101.out 3))
      refine bodyPost_ret (results_ct rfl _ _ gb101 38 #[.int .i64 0, .int .i64 0, .int .i64 0, .slice none 0 0] (0, 0) _ rfl (by (with_reducible repeat (first | refine blk_drewN ?_ _ | refine blk_drew ?_ | refine blk_alloc ?_ _)); refine blk_put (cs := #[.int .i64 0, .int .i64 0, .int .i64 0, .slice none 0 0]) ?_ 3 _ rfl; (with_reducible repeat (first | refine blk_drewN ?_ _ | refine blk_drew ?_ | refine blk_alloc ?_ _)); refine blk_put (cs := #[.int .i64 0, .int .i64 0, .int .i64 0, .slice none 0 0]) ?_ 2 _ rfl; (with_reducible repeat (first | refine blk_drewN ?_ _ | refine blk_drew ?_ | refine blk_alloc ?_ _)); refine blk_put (cs := #[.int .i64 0, .int .i64 0, .int .i64 0, .slice none 0 0]) ?_ 1 _ rfl; (with_reducible repeat (first | refine blk_drewN ?_ _ | refine blk_drew ?_ | refine blk_alloc ?_ _)); refine blk_put (cs := #[.int .i64 0, .int .i64 0, .int .i64 0, .slice none 0 0]) ?_ 0 _ rfl; (with_reducible repeat (first | refine blk_drewN ?_ _ | refine blk_drew ?_ | refine blk_alloc ?_ _)); exact BK101.out) Tryd.underlying38 rfl (by kernel_rfl)) rfl ?_
      exact ⟨_, by first | rfl | (simp [errW_none, errW_some] <;> rfl) | (simp [*, errW_none, errW_some] <;> rfl), by first | exact Kd.R_nil _ _ _ _ _ | exact Kd.N_nil _ _ _ _ _ | exact Kd.V_nil _ _ _ _ _ | exact Kd.Q_nil _ _ _ _ _ | exact Kd.S_nil _ _ _ _ _, by repeat (first | (with_reducible first | exact HB.out | apply below_alloc | apply pw_below_drewN | apply below_drew1 | refine below_set ?_ GE101.out) | exact HB.out)⟩
  · replace c3 := Bool.eq_false_iff.mpr c3
    subst c3
    have H1 : (some (0, 0, 0, ([] : List (S48)), false)) = some (r1, r2, r3, r4, r5) := by rw [if_neg (show ¬ (false = true) by decide)] at H; exact H
    clear H
    have H := H1
    clear H1
    simp only [Option.some.injEq, Prod.mk.injEq] at H
    obtain ⟨rfl, rfl, rfl, rfl, rfl⟩ := H
    go_enter Tryd.func29, Tryd.ntmps29
    go_wp2_with (first | ((with_reducible refine gate_dst (N := 2) rfl ?_); refine box_event ?hg (N := 2) ?hd (cs := #[.int .i64 0, .int .i64 0, .int .i64 0, .slice none 0 0]) (t := 38) ?hr ?_; (case hd => rfl); (case hg => rfl); (case hr => first | (go_simp; done) | (go_simp; rfl)); intro gb101 hg w19 hbox hb; have n0_ := Aside0.mk (below_step (by repeat (first | (with_reducible first | exact HB.out | apply below_alloc | apply pw_below_drewN | apply below_drew1) | exact HB.out)) hb); have n1_ := Aside0.mk (hbox); have n2_ := Aside0.mk ((by rw [hg]; exact (below_size (by repeat (first | (with_reducible first | exact HB.out | apply below_alloc | apply pw_below_drewN | apply below_drew1) | exact HB.out))) : w.heap.size ≤ gb101)); have n3_ := Aside0.mk ((by rw [hg]; exact (below_size (by repeat (first | (with_reducible first | exact HB.out | apply below_alloc | apply pw_below_drewN | apply below_drew1) | exact HB.out))) : w.heap.size ≤ gb101)); clear HB; have HB := n0_; have BK101 := n1_; have GW101 := n2_; have GE101 := n3_; clear n0_ n1_ n2_ n3_; clear hb hbox hg) | ((with_reducible refine gate_callee (f := 48) rfl ?_); refine goesL_ (some 9) rfl rfl Tryd.func48 (by kernel_rfl) rfl #[.string a0, .int .i64 3] rfl (by (try simp only [List.map_toArray, List.map_cons, List.map_nil]); first | done | rfl | (simp only [List.length_drop, List.length_take]; rfl)) ?_; (with_reducible refine (token_Words.calls a0 3 t102 t103 false _ A2.out (Laid.below HY (by repeat (first | (with_reducible first | exact HB.out | apply below_alloc | apply pw_below_drewN | apply below_drew1 | refine below_set ?_ GE101.out) | exact HB.out)))).mono ?_); rintro e w20 ⟨v105, rfl, ho0, hb⟩; refine ⟨_, rfl, ?_⟩; have n0_ := Aside0.mk (Kd.R_lower ho0 (below_size (by repeat (first | (with_reducible first | exact HB.out | apply below_alloc | apply pw_below_drewN | apply below_drew1 | refine below_set ?_ GE101.out) | exact HB.out)))); have n1_ := Aside0.mk (blk_below (g := gb101) (o := .cells #[.int .i64 0, .int .i64 0, .int .i64 0, .slice none 0 0] 38 (0, 0)) (by (with_reducible repeat (first | refine blk_drewN ?_ _ | refine blk_drew ?_ | refine blk_alloc ?_ _)); exact BK101.out) hb); have n2_ := Aside0.mk (below_step (by repeat (first | (with_reducible first | exact HB.out | apply below_alloc | apply pw_below_drewN | apply below_drew1 | refine below_set ?_ GE101.out) | exact HB.out)) hb); clear BK101; clear HB; have HO106 := n0_; have BK101 := n1_; have HB := n2_; clear n0_ n1_ n2_; (try clear hb); (try clear hb2); (try clear hk); (try clear hi); (try clear ho0); have hcz21_0 : w20.cell? ⟨gb101, 0, none⟩ = some (.int .i64 0) := (blk_cell BK101.out 0).trans rfl; have hcz21_1 : w20.cell? ⟨gb101, 1, none⟩ = some (.int .i64 0) := (blk_cell BK101.out 1).trans rfl; have hcz21_2 : w20.cell? ⟨gb101, 2, none⟩ = some (.int .i64 0) := (blk_cell BK101.out 2).trans rfl; have hcz21_3 : w20.cell? ⟨gb101, 3, none⟩ = some (.slice none 0 0) := (blk_cell BK101.out 3).trans rfl; have hfz21_0 := blk_frozen BK101.out 0; have hfz21_1 := blk_frozen BK101.out 1; have hfz21_2 := blk_frozen BK101.out 2; have hfz21_3 := blk_frozen BK101.out 3))
    refine bodyPost_ret (results_ct rfl _ _ gb101 38 #[.int .i64 0, .int .i64 0, .int .i64 0, .slice none 0 0] (0, 0) _ rfl (by (with_reducible repeat (first | refine blk_drewN ?_ _ | refine blk_drew ?_ | refine blk_alloc ?_ _)); refine blk_put (cs := #[.int .i64 0, .int .i64 0, .int .i64 0, .slice none 0 0]) ?_ 3 _ rfl; (with_reducible repeat (first | refine blk_drewN ?_ _ | refine blk_drew ?_ | refine blk_alloc ?_ _)); refine blk_put (cs := #[.int .i64 0, .int .i64 0, .int .i64 0, .slice none 0 0]) ?_ 2 _ rfl; (with_reducible repeat (first | refine blk_drewN ?_ _ | refine blk_drew ?_ | refine blk_alloc ?_ _)); refine blk_put (cs := #[.int .i64 0, .int .i64 0, .int .i64 0, .slice none 0 0]) ?_ 1 _ rfl; (with_reducible repeat (first | refine blk_drewN ?_ _ | refine blk_drew ?_ | refine blk_alloc ?_ _)); refine blk_put (cs := #[.int .i64 0, .int .i64 0, .int .i64 0, .slice none 0 0]) ?_ 0 _ rfl; (with_reducible repeat (first | refine blk_drewN ?_ _ | refine blk_drew ?_ | refine blk_alloc ?_ _)); exact BK101.out) Tryd.underlying38 rfl (by kernel_rfl)) rfl ?_
    exact ⟨_, by first | rfl | (simp [errW_none, errW_some] <;> rfl) | (simp [*, errW_none, errW_some] <;> rfl), by first | exact Kd.R_nil _ _ _ _ _ | exact Kd.N_nil _ _ _ _ _ | exact Kd.V_nil _ _ _ _ _ | exact Kd.Q_nil _ _ _ _ _ | exact Kd.S_nil _ _ _ _ _, by repeat (first | (with_reducible first | exact HB.out | apply below_alloc | apply pw_below_drewN | apply below_drew1 | refine below_set ?_ GE101.out) | exact HB.out)⟩
def op_Right.f (a0_0 : Bool) (a0_1 : Int) (a0_2 : Int) : Option (Bool) := if a0_1 < 0 then (some false) else (if a0_1 ≥ 64 then (some false) else (if a0_2 < 0 then (some false) else (if a0_2 > 2147483647 then (some false) else (if a0_0 = true then (some (decide (a0_2 > 0))) else (some true)))))
set_option maxHeartbeats 8000000 in
set_option maxRecDepth 100000 in
theorem op_Right.calls (a0_0 : Bool) (a0_1 : Int) (a0_2 : Int) (r : Bool) (w : World) (h : op_Right.f a0_0 a0_1 a0_2 = some r) (HY : Laid w) :
    Calls Tryd.prog 49 #[.agg #[.bool a0_0, .int .i64 a0_1, .int .i64 a0_2]] w fun e w' => e = .returned (.bool r) ∧ Below w.heap.size w w' := by
  have hu48 := Tryd.underlying48
  have HB := Aside0.mk (Below.refl w.heap.size w)
  have H : (if a0_1 < 0 then (some false) else (if a0_1 ≥ 64 then (some false) else (if a0_2 < 0 then (some false) else (if a0_2 > 2147483647 then (some false) else (if a0_0 = true then (some (decide (a0_2 > 0))) else (some true)))))) = some r := h
  clear h
  by_cases c2 : a0_1 < 0
  · rw [if_pos c2] at H
    have c2b0 : decide (a0_1 < 0) = true := decide_eq_true c2
    clear c2
    obtain rfl := Option.some.inj H
    go_enter Tryd.func49, Tryd.ntmps49
    go_wp2_with (first | ((with_reducible refine gate_dst (N := 1) rfl ?_); refine box_event ?hg (N := 1) ?hd (cs := #[.bool a0_0, .int .i64 a0_1, .int .i64 a0_2]) (t := 48) ?hr ?_; (case hd => rfl); (case hg => rfl); (case hr => first | (go_simp; done) | (go_simp; rfl)); intro gb110 hg w3 hbox hb; have n0_ := Aside0.mk (below_step (by repeat (first | (with_reducible first | exact HB.out | apply below_alloc | apply pw_below_drewN | apply below_drew1) | exact HB.out)) hb); have n1_ := Aside0.mk (hbox); have n2_ := Aside0.mk ((by rw [hg]; exact (below_size (by repeat (first | (with_reducible first | exact HB.out | apply below_alloc | apply pw_below_drewN | apply below_drew1) | exact HB.out))) : w.heap.size ≤ gb110)); have n3_ := Aside0.mk ((by rw [hg]; exact (below_size (by repeat (first | (with_reducible first | exact HB.out | apply below_alloc | apply pw_below_drewN | apply below_drew1) | exact HB.out))) : w.heap.size ≤ gb110)); clear HB; have HB := n0_; have BK110 := n1_; have GW110 := n2_; have GE110 := n3_; clear n0_ n1_ n2_ n3_; clear hb hbox hg; have hcz4_0 : w3.cell? ⟨gb110, 0, none⟩ = some (.bool a0_0) := (blk_cell BK110.out 0).trans rfl; have hcz4_1 : w3.cell? ⟨gb110, 1, none⟩ = some (.int .i64 a0_1) := (blk_cell BK110.out 1).trans rfl; have hcz4_2 : w3.cell? ⟨gb110, 2, none⟩ = some (.int .i64 a0_2) := (blk_cell BK110.out 2).trans rfl; have hfz4_0 := blk_frozen BK110.out 0; have hfz4_1 := blk_frozen BK110.out 1; have hfz4_2 := blk_frozen BK110.out 2))
    go_ret
    exact ⟨by first | rfl | (simp [errW_none, errW_some] <;> rfl) | (simp [*, errW_none, errW_some] <;> rfl), by repeat (first | (with_reducible first | exact HB.out | apply below_alloc | apply pw_below_drewN | apply below_drew1 | refine below_set ?_ GE110.out) | exact HB.out)⟩
  · rw [if_neg c2] at H
    have c2b0 : decide (a0_1 < 0) = false := decide_eq_false c2
    clear c2
    by_cases c5 : a0_1 ≥ 64
    · rw [if_pos c5] at H
      have c5b0 : decide (64 ≤ a0_1) = true := decide_eq_true c5
      clear c5
      obtain rfl := Option.some.inj H
      go_enter Tryd.func49, Tryd.ntmps49
      go_wp2_with (first | ((with_reducible refine gate_dst (N := 1) rfl ?_); refine box_event ?hg (N := 1) ?hd (cs := #[.bool a0_0, .int .i64 a0_1, .int .i64 a0_2]) (t := 48) ?hr ?_; (case hd => rfl); (case hg => rfl); (case hr => first | (go_simp; done) | (go_simp; rfl)); intro gb110 hg w6 hbox hb; have n0_ := Aside0.mk (below_step (by repeat (first | (with_reducible first | exact HB.out | apply below_alloc | apply pw_below_drewN | apply below_drew1) | exact HB.out)) hb); have n1_ := Aside0.mk (hbox); have n2_ := Aside0.mk ((by rw [hg]; exact (below_size (by repeat (first | (with_reducible first | exact HB.out | apply below_alloc | apply pw_below_drewN | apply below_drew1) | exact HB.out))) : w.heap.size ≤ gb110)); have n3_ := Aside0.mk ((by rw [hg]; exact (below_size (by repeat (first | (with_reducible first | exact HB.out | apply below_alloc | apply pw_below_drewN | apply below_drew1) | exact HB.out))) : w.heap.size ≤ gb110)); clear HB; have HB := n0_; have BK110 := n1_; have GW110 := n2_; have GE110 := n3_; clear n0_ n1_ n2_ n3_; clear hb hbox hg; have hcz7_0 : w6.cell? ⟨gb110, 0, none⟩ = some (.bool a0_0) := (blk_cell BK110.out 0).trans rfl; have hcz7_1 : w6.cell? ⟨gb110, 1, none⟩ = some (.int .i64 a0_1) := (blk_cell BK110.out 1).trans rfl; have hcz7_2 : w6.cell? ⟨gb110, 2, none⟩ = some (.int .i64 a0_2) := (blk_cell BK110.out 2).trans rfl; have hfz7_0 := blk_frozen BK110.out 0; have hfz7_1 := blk_frozen BK110.out 1; have hfz7_2 := blk_frozen BK110.out 2))
      go_ret
      exact ⟨by first | rfl | (simp [errW_none, errW_some] <;> rfl) | (simp [*, errW_none, errW_some] <;> rfl), by repeat (first | (with_reducible first | exact HB.out | apply below_alloc | apply pw_below_drewN | apply below_drew1 | refine below_set ?_ GE110.out) | exact HB.out)⟩
    · rw [if_neg c5] at H
      have c5b0 : decide (64 ≤ a0_1) = false := decide_eq_false c5
      clear c5
      by_cases c8 : a0_2 < 0
      · rw [if_pos c8] at H
        have c8b0 : decide (a0_2 < 0) = true := decide_eq_true c8
        clear c8
        obtain rfl := Option.some.inj H
        go_enter Tryd.func49, Tryd.ntmps49
        go_wp2_with (first | ((with_reducible refine gate_dst (N := 1) rfl ?_); refine box_event ?hg (N := 1) ?hd (cs := #[.bool a0_0, .int .i64 a0_1, .int .i64 a0_2]) (t := 48) ?hr ?_; (case hd => rfl); (case hg => rfl); (case hr => first | (go_simp; done) | (go_simp; rfl)); intro gb110 hg w9 hbox hb; have n0_ := Aside0.mk (below_step (by repeat (first | (with_reducible first | exact HB.out | apply below_alloc | apply pw_below_drewN | apply below_drew1) | exact HB.out)) hb); have n1_ := Aside0.mk (hbox); have n2_ := Aside0.mk ((by rw [hg]; exact (below_size (by repeat (first | (with_reducible first | exact HB.out | apply below_alloc | apply pw_below_drewN | apply below_drew1) | exact HB.out))) : w.heap.size ≤ gb110)); have n3_ := Aside0.mk ((by rw [hg]; exact (below_size (by repeat (first | (with_reducible first | exact HB.out | apply below_alloc | apply pw_below_drewN | apply below_drew1) | exact HB.out))) : w.heap.size ≤ gb110)); clear HB; have HB := n0_; have BK110 := n1_; have GW110 := n2_; have GE110 := n3_; clear n0_ n1_ n2_ n3_; clear hb hbox hg; have hcz10_0 : w9.cell? ⟨gb110, 0, none⟩ = some (.bool a0_0) := (blk_cell BK110.out 0).trans rfl; have hcz10_1 : w9.cell? ⟨gb110, 1, none⟩ = some (.int .i64 a0_1) := (blk_cell BK110.out 1).trans rfl; have hcz10_2 : w9.cell? ⟨gb110, 2, none⟩ = some (.int .i64 a0_2) := (blk_cell BK110.out 2).trans rfl; have hfz10_0 := blk_frozen BK110.out 0; have hfz10_1 := blk_frozen BK110.out 1; have hfz10_2 := blk_frozen BK110.out 2))
        go_ret
        exact ⟨by first | rfl | (simp [errW_none, errW_some] <;> rfl) | (simp [*, errW_none, errW_some] <;> rfl), by repeat (first | (with_reducible first | exact HB.out | apply below_alloc | apply pw_below_drewN | apply below_drew1 | refine below_set ?_ GE110.out) | exact HB.out)⟩
      · rw [if_neg c8] at H
        have c8b0 : decide (a0_2 < 0) = false := decide_eq_false c8
        clear c8
        by_cases c11 : a0_2 > 2147483647
        · rw [if_pos c11] at H
          have c11b0 : decide (2147483647 < a0_2) = true := decide_eq_true c11
          clear c11
          obtain rfl := Option.some.inj H
          go_enter Tryd.func49, Tryd.ntmps49
          go_wp2_with (first | ((with_reducible refine gate_dst (N := 1) rfl ?_); refine box_event ?hg (N := 1) ?hd (cs := #[.bool a0_0, .int .i64 a0_1, .int .i64 a0_2]) (t := 48) ?hr ?_; (case hd => rfl); (case hg => rfl); (case hr => first | (go_simp; done) | (go_simp; rfl)); intro gb110 hg w12 hbox hb; have n0_ := Aside0.mk (below_step (by repeat (first | (with_reducible first | exact HB.out | apply below_alloc | apply pw_below_drewN | apply below_drew1) | exact HB.out)) hb); have n1_ := Aside0.mk (hbox); have n2_ := Aside0.mk ((by rw [hg]; exact (below_size (by repeat (first | (with_reducible first | exact HB.out | apply below_alloc | apply pw_below_drewN | apply below_drew1) | exact HB.out))) : w.heap.size ≤ gb110)); have n3_ := Aside0.mk ((by rw [hg]; exact (below_size (by repeat (first | (with_reducible first | exact HB.out | apply below_alloc | apply pw_below_drewN | apply below_drew1) | exact HB.out))) : w.heap.size ≤ gb110)); clear HB; have HB := n0_; have BK110 := n1_; have GW110 := n2_; have GE110 := n3_; clear n0_ n1_ n2_ n3_; clear hb hbox hg; have hcz13_0 : w12.cell? ⟨gb110, 0, none⟩ = some (.bool a0_0) := (blk_cell BK110.out 0).trans rfl; have hcz13_1 : w12.cell? ⟨gb110, 1, none⟩ = some (.int .i64 a0_1) := (blk_cell BK110.out 1).trans rfl; have hcz13_2 : w12.cell? ⟨gb110, 2, none⟩ = some (.int .i64 a0_2) := (blk_cell BK110.out 2).trans rfl; have hfz13_0 := blk_frozen BK110.out 0; have hfz13_1 := blk_frozen BK110.out 1; have hfz13_2 := blk_frozen BK110.out 2))
          go_ret
          exact ⟨by first | rfl | (simp [errW_none, errW_some] <;> rfl) | (simp [*, errW_none, errW_some] <;> rfl), by repeat (first | (with_reducible first | exact HB.out | apply below_alloc | apply pw_below_drewN | apply below_drew1 | refine below_set ?_ GE110.out) | exact HB.out)⟩
        · rw [if_neg c11] at H
          have c11b0 : decide (2147483647 < a0_2) = false := decide_eq_false c11
          clear c11
          by_cases c14 : a0_0 = true
          · subst c14
            have H1 : (some (decide (a0_2 > 0))) = some r := by rw [if_pos rfl] at H; exact H
            clear H
            have H := H1
            clear H1
            obtain rfl := Option.some.inj H
            go_enter Tryd.func49, Tryd.ntmps49
            go_wp2_with (first | ((with_reducible refine gate_dst (N := 1) rfl ?_); refine box_event ?hg (N := 1) ?hd (cs := #[.bool true, .int .i64 a0_1, .int .i64 a0_2]) (t := 48) ?hr ?_; (case hd => rfl); (case hg => rfl); (case hr => first | (go_simp; done) | (go_simp; rfl)); intro gb110 hg w15 hbox hb; have n0_ := Aside0.mk (below_step (by repeat (first | (with_reducible first | exact HB.out | apply below_alloc | apply pw_below_drewN | apply below_drew1) | exact HB.out)) hb); have n1_ := Aside0.mk (hbox); have n2_ := Aside0.mk ((by rw [hg]; exact (below_size (by repeat (first | (with_reducible first | exact HB.out | apply below_alloc | apply pw_below_drewN | apply below_drew1) | exact HB.out))) : w.heap.size ≤ gb110)); have n3_ := Aside0.mk ((by rw [hg]; exact (below_size (by repeat (first | (with_reducible first | exact HB.out | apply below_alloc | apply pw_below_drewN | apply below_drew1) | exact HB.out))) : w.heap.size ≤ gb110)); clear HB; have HB := n0_; have BK110 := n1_; have GW110 := n2_; have GE110 := n3_; clear n0_ n1_ n2_ n3_; clear hb hbox hg; have hcz16_0 : w15.cell? ⟨gb110, 0, none⟩ = some (.bool true) := (blk_cell BK110.out 0).trans rfl; have hcz16_1 : w15.cell? ⟨gb110, 1, none⟩ = some (.int .i64 a0_1) := (blk_cell BK110.out 1).trans rfl; have hcz16_2 : w15.cell? ⟨gb110, 2, none⟩ = some (.int .i64 a0_2) := (blk_cell BK110.out 2).trans rfl; have hfz16_0 := blk_frozen BK110.out 0; have hfz16_1 := blk_frozen BK110.out 1; have hfz16_2 := blk_frozen BK110.out 2))
            go_ret
            exact ⟨by first | rfl | (simp [errW_none, errW_some] <;> rfl) | (simp [*, errW_none, errW_some] <;> rfl), by repeat (first | (with_reducible first | exact HB.out | apply below_alloc | apply pw_below_drewN | apply below_drew1 | refine below_set ?_ GE110.out) | exact HB.out)⟩
          · replace c14 := Bool.eq_false_iff.mpr c14
            subst c14
            have H1 : (some true) = some r := by rw [if_neg (show ¬ (false = true) by decide)] at H; exact H
            clear H
            have H := H1
            clear H1
            obtain rfl := Option.some.inj H
            go_enter Tryd.func49, Tryd.ntmps49
            go_wp2_with (first | ((with_reducible refine gate_dst (N := 1) rfl ?_); refine box_event ?hg (N := 1) ?hd (cs := #[.bool false, .int .i64 a0_1, .int .i64 a0_2]) (t := 48) ?hr ?_; (case hd => rfl); (case hg => rfl); (case hr => first | (go_simp; done) | (go_simp; rfl)); intro gb110 hg w17 hbox hb; have n0_ := Aside0.mk (below_step (by repeat (first | (with_reducible first | exact HB.out | apply below_alloc | apply pw_below_drewN | apply below_drew1) | exact HB.out)) hb); have n1_ := Aside0.mk (hbox); have n2_ := Aside0.mk ((by rw [hg]; exact (below_size (by repeat (first | (with_reducible first | exact HB.out | apply below_alloc | apply pw_below_drewN | apply below_drew1) | exact HB.out))) : w.heap.size ≤ gb110)); have n3_ := Aside0.mk ((by rw [hg]; exact (below_size (by repeat (first | (with_reducible first | exact HB.out | apply below_alloc | apply pw_below_drewN | apply below_drew1) | exact HB.out))) : w.heap.size ≤ gb110)); clear HB; have HB := n0_; have BK110 := n1_; have GW110 := n2_; have GE110 := n3_; clear n0_ n1_ n2_ n3_; clear hb hbox hg; have hcz18_0 : w17.cell? ⟨gb110, 0, none⟩ = some (.bool false) := (blk_cell BK110.out 0).trans rfl; have hcz18_1 : w17.cell? ⟨gb110, 1, none⟩ = some (.int .i64 a0_1) := (blk_cell BK110.out 1).trans rfl; have hcz18_2 : w17.cell? ⟨gb110, 2, none⟩ = some (.int .i64 a0_2) := (blk_cell BK110.out 2).trans rfl; have hfz18_0 := blk_frozen BK110.out 0; have hfz18_1 := blk_frozen BK110.out 1; have hfz18_2 := blk_frozen BK110.out 2))
            go_ret
            exact ⟨by first | rfl | (simp [errW_none, errW_some] <;> rfl) | (simp [*, errW_none, errW_some] <;> rfl), by repeat (first | (with_reducible first | exact HB.out | apply below_alloc | apply pw_below_drewN | apply below_drew1 | refine below_set ?_ GE110.out) | exact HB.out)⟩
def op_Parse.j0 : Nat → ByteArray → List Int → Bool → Option (Bool × Int × Int × Bool)
  | 0, _, _, _ => none
  | k + 1, x4, x5, x23 => if x23 = true then (some (false, 0, 0, false)) else (if 0 < (x5.length : Int) then (if 1 < (x5.length : Int) then ((op_Right.f (x4.toList == ([119] : List UInt8)) (rd x5 0) (rd x5 1)).bind fun t120 => (if t120 = true then (some ((x4.toList == ([119] : List UInt8)), rd x5 0, rd x5 1, true)) else (some (false, 0, 0, false)))) else (none)) else (none))
def op_Parse.f (k : Nat) (a0 : ByteArray) : Option (Bool × Int × Int × Bool) := (token_Words.f a0 2).bind fun bt112 => (if bt112.2.2 = true then (if bt112.1.toList = ([114] : List UInt8) then (op_Parse.j0 k bt112.1 bt112.2.1 false) else (op_Parse.j0 k bt112.1 bt112.2.1 (bt112.1.toList != ([119] : List UInt8)))) else (op_Parse.j0 k bt112.1 bt112.2.1 true))
theorem op_Parse.mono_l : ∀ k, (∀ y0 y1 y2, LeO (op_Parse.j0 k y0 y1 y2) (op_Parse.j0 (k + 1) y0 y1 y2))
  | 0 => fun _ _ _ r h => by simp [op_Parse.j0] at h
  | k + 1 => by
    have ih0 := op_Parse.mono_l k
    · intro y0 y1 y2
      unfold op_Parse.j0
      repeat' first
      | (with_reducible exact ih0 _ _ _)
      | (with_reducible exact LeO.refl _)
      | (with_reducible exact LeO.none _)
      | (with_reducible refine LeO.ite ?_ ?_)
      | (with_reducible refine LeO.bind ?_ (fun _ => ?_))
      | exact ih0 _ _ _
      | exact LeO.none _
      | refine LeO.ite ?_ ?_
      | refine LeO.bind ?_ (fun _ => ?_)
theorem op_Parse.mono : ∀ a0 k, LeO (op_Parse.f k a0) (op_Parse.f (k + 1) a0) := by
  intro a0 k
  have ih0 := op_Parse.mono_l k
  unfold op_Parse.f
  repeat' first
      | (with_reducible exact ih0 _ _ _)
      | (with_reducible exact LeO.refl _)
      | (with_reducible exact LeO.none _)
      | (with_reducible refine LeO.ite ?_ ?_)
      | (with_reducible refine LeO.bind ?_ (fun _ => ?_))
      | exact ih0 _ _ _
      | exact LeO.none _
      | refine LeO.ite ?_ ?_
      | refine LeO.bind ?_ (fun _ => ?_)
def op_Parse.T4 : Bool × List (List Nat × List Nat) := (true, [([], []), ([0], [0]), ([], []), ([2], [2]), ([3], [3]), ([], []), ([5], [5]), ([6], [6]), ([1, 4, 7], [1, 4, 7]), ([], []), ([9, 8, 0, 1, 2, 3, 4, 5, 6, 7, 8, 9], [8, 9])])
def op_Parse.B4 : List Nat := [0, 1, 0, 4, 12, 0, 32, 96, 255, 0, 1023]
theorem op_Parse.tab4 : rtab .any (opsOf Tryd.f30 4) = op_Parse.T4 := by kernel_rfl
theorem op_Parse.bits4 : waitsOk op_Parse.T4.2 op_Parse.B4 = true := by kernel_rfl
set_option maxHeartbeats 8000000 in
set_option maxRecDepth 100000 in
theorem op_Parse.calls (k : Nat) (a0 : ByteArray) (r1 : Bool) (r2 : Int) (r3 : Int) (r4 : Bool) (w : World) (h : op_Parse.f k a0 = some (r1, r2, r3, r4)) (HY : Laid w) :
    Calls Tryd.prog 30 #[.string a0] w fun e w' => e = .returned (.tuple #[.agg #[.bool r1, .int .i64 r2, .int .i64 r3], .bool r4]) ∧ Below w.heap.size w w' := by
  have hu48 := Tryd.underlying48
  have HB := Aside0.mk (Below.refl w.heap.size w)
  have H : ((token_Words.f a0 2).bind fun bt112 => (if bt112.2.2 = true then (if bt112.1.toList = ([114] : List UInt8) then (op_Parse.j0 k bt112.1 bt112.2.1 false) else (op_Parse.j0 k bt112.1 bt112.2.1 (bt112.1.toList != ([119] : List UInt8)))) else (op_Parse.j0 k bt112.1 bt112.2.1 true))) = some (r1, r2, r3, r4) := h
  clear h
  replace H := Option.bind_eq_some_iff.mp H
  obtain ⟨⟨t112, t113, t114⟩, A20, H⟩ := H
  replace H : (if t114 = true then (if t112.toList = ([114] : List UInt8) then (op_Parse.j0 k t112 t113 false) else (op_Parse.j0 k t112 t113 (t112.toList != ([119] : List UInt8)))) else (op_Parse.j0 k t112 t113 true)) = some (r1, r2, r3, r4) := H
  have A2 := Aside0.mk A20
  clear A20
  have HC3 := Aside0.mk H
  clear H
  go_enter Tryd.func30, Tryd.ntmps30
  go_upto_region 2 with (first | ((with_reducible refine gate_dst (N := 2) rfl ?_); refine box_event ?hg (N := 2) ?hd (cs := #[.bool false, .int .i64 0, .int .i64 0]) (t := 48) ?hr ?_; (case hd => rfl); (case hg => rfl); (case hr => first | (go_simp; done) | (go_simp; rfl)); intro gb111 hg w4 hbox hb; have n0_ := Aside0.mk (below_step (by repeat (first | (with_reducible first | exact HB.out | apply below_alloc | apply pw_below_drewN | apply below_drew1) | exact HB.out)) hb); have n1_ := Aside0.mk (hbox); have n2_ := Aside0.mk ((by rw [hg]; exact (below_size (by repeat (first | (with_reducible first | exact HB.out | apply below_alloc | apply pw_below_drewN | apply below_drew1) | exact HB.out))) : w.heap.size ≤ gb111)); have n3_ := Aside0.mk ((by rw [hg]; exact (below_size (by repeat (first | (with_reducible first | exact HB.out | apply below_alloc | apply pw_below_drewN | apply below_drew1) | exact HB.out))) : w.heap.size ≤ gb111)); clear HB; have HB := n0_; have BK111 := n1_; have GW111 := n2_; have GE111 := n3_; clear n0_ n1_ n2_ n3_; clear hb hbox hg) | ((with_reducible refine gate_callee (f := 48) rfl ?_); refine goesL_ (some 10) rfl rfl Tryd.func48 (by kernel_rfl) rfl #[.string a0, .int .i64 2] rfl (by (try simp only [List.map_toArray, List.map_cons, List.map_nil]); first | done | rfl | (simp only [List.length_drop, List.length_take]; rfl)) ?_; (with_reducible refine (token_Words.calls a0 2 t112 t113 t114 _ A2.out (Laid.below HY (by repeat (first | (with_reducible first | exact HB.out | apply below_alloc | apply pw_below_drewN | apply below_drew1 | refine below_set ?_ GE111.out) | exact HB.out)))).mono ?_); rintro e w5 ⟨v115, rfl, ho0, hb⟩; refine ⟨_, rfl, ?_⟩; have n0_ := Aside0.mk (Kd.R_lower ho0 (below_size (by repeat (first | (with_reducible first | exact HB.out | apply below_alloc | apply pw_below_drewN | apply below_drew1 | refine below_set ?_ GE111.out) | exact HB.out)))); have n1_ := Aside0.mk (blk_below (g := gb111) (o := .cells #[.bool false, .int .i64 0, .int .i64 0] 48 (0, 0)) (by (with_reducible repeat (first | refine blk_drewN ?_ _ | refine blk_drew ?_ | refine blk_alloc ?_ _)); exact BK111.out) hb); have n2_ := Aside0.mk (below_step (by repeat (first | (with_reducible first | exact HB.out | apply below_alloc | apply pw_below_drewN | apply below_drew1 | refine below_set ?_ GE111.out) | exact HB.out)) hb); clear BK111; clear HB; have HO116 := n0_; have BK111 := n1_; have HB := n2_; clear n0_ n1_ n2_; (try clear hb); (try clear hb2); (try clear hk); (try clear hi); (try clear ho0)))
  (try simp only [Act.put, List.setIfInBounds_toArray, List.set_cons_zero, List.set_cons_succ])
  go_cut [23] (fun v23 wc => ∃ (kq : Nat) (x23_2 : Bool), v23 = .bool x23_2 ∧ Aside0 (op_Parse.j0 kq t112 t113 x23_2 = some (r1, r2, r3, r4)) ∧ Aside0 (kq ≤ k) ∧ Aside0 (Kd.R (Kd.int .i64) 3 wc w.heap.size (fun _ => True) v115 t113) ∧ Aside0 (wc.heap[gb111]? = some (.cells #[.bool false, .int .i64 0, .int .i64 0] 48 (0, 0))) ∧ Aside0 (Below w.heap.size w wc))
  case first =>
    have H := HC3.out
    clear HC3
    by_cases c6 : t114 = true
    · subst c6
      have H1 : (if t112.toList = ([114] : List UInt8) then (op_Parse.j0 k t112 t113 false) else (op_Parse.j0 k t112 t113 (t112.toList != ([119] : List UInt8)))) = some (r1, r2, r3, r4) := by rw [if_pos rfl] at H; exact H
      clear H
      have H := H1
      clear H1
      by_cases c7 : t112.toList = ([114] : List UInt8)
      · rw [if_pos c7] at H
        have c7b0 : (t112.toList == ([114] : List UInt8)) = true := beq_iff_eq.mpr c7
        have c7b1 : (t112.toList != ([114] : List UInt8)) = false := bne_eq_false_iff_eq.mpr c7
        clear c7
        (first | rw [c7b0] | (simp only [i64_w, i32_w]; rw [c7b0]) | skip)
        have H' := Aside0.mk H
        clear H
        go_wp2
        go_meet
        case rel => exact ⟨_, (false), (by first | rfl | (simp; done) | (simp [*]; done)), H', ⟨by first | omega | exact Nat.le_refl _⟩, ⟨by (with_reducible repeat (first | apply Kd.R_alloc | apply Kd.R_drewN | apply Kd.R_drew)); exact HO116.out⟩, ⟨by (with_reducible repeat (first | refine blk_drewN ?_ _ | refine blk_drew ?_ | refine blk_alloc ?_ _)); exact BK111.out⟩, ⟨by repeat (first | (with_reducible first | exact HB.out | apply below_alloc | apply pw_below_drewN | apply below_drew1 | refine below_set ?_ GE111.out) | exact HB.out)⟩⟩
      · rw [if_neg c7] at H
        have c7b0 : (t112.toList == ([114] : List UInt8)) = false := beq_eq_false_iff_ne.mpr c7
        have c7b1 : (t112.toList != ([114] : List UInt8)) = true := bne_iff_ne.mpr c7
        (first | rw [c7b0] | (simp only [i64_w, i32_w]; rw [c7b0]) | skip)
        have H' := Aside0.mk H
        clear H
        go_wp2
        go_meet
        case rel => exact ⟨_, ((t112.toList != ([119] : List UInt8))), (by first | rfl | (simp; done) | (simp [*]; done)), H', ⟨by first | omega | exact Nat.le_refl _⟩, ⟨by (with_reducible repeat (first | apply Kd.R_alloc | apply Kd.R_drewN | apply Kd.R_drew)); exact HO116.out⟩, ⟨by (with_reducible repeat (first | refine blk_drewN ?_ _ | refine blk_drew ?_ | refine blk_alloc ?_ _)); exact BK111.out⟩, ⟨by repeat (first | (with_reducible first | exact HB.out | apply below_alloc | apply pw_below_drewN | apply below_drew1 | refine below_set ?_ GE111.out) | exact HB.out)⟩⟩
    · replace c6 := Bool.eq_false_iff.mpr c6
      subst c6
      have H1 : (op_Parse.j0 k t112 t113 true) = some (r1, r2, r3, r4) := by rw [if_neg (show ¬ (false = true) by decide)] at H; exact H
      clear H
      have H := H1
      clear H1
      have H' := Aside0.mk H
      clear H
      go_wp2
      go_meet
      case rel => exact ⟨_, (true), (by first | rfl | (simp; done) | (simp [*]; done)), H', ⟨by first | omega | exact Nat.le_refl _⟩, ⟨by (with_reducible repeat (first | apply Kd.R_alloc | apply Kd.R_drewN | apply Kd.R_drew)); exact HO116.out⟩, ⟨by (with_reducible repeat (first | refine blk_drewN ?_ _ | refine blk_drew ?_ | refine blk_alloc ?_ _)); exact BK111.out⟩, ⟨by repeat (first | (with_reducible first | exact HB.out | apply below_alloc | apply pw_below_drewN | apply below_drew1 | refine below_set ?_ GE111.out) | exact HB.out)⟩⟩
  case rest =>
    clear HC3
    try clear p2
    try clear c3
    try clear c4
    try clear c6
    try clear c7
    try clear c7b0
    try clear c7b1
    obtain ⟨kq, x23_2, rfl, HA, HJ2, HO_5, BK111, HB⟩ := hcut
    cases kq with
    | zero => exact absurd HA.out (by simp [op_Parse.j0])
    | succ kj2 =>
      have H := HA.out
      clear HA
      simp only [op_Parse.j0] at H
      by_cases c8 : x23_2 = true
      · subst c8
        have H1 : (some (false, 0, 0, false)) = some (r1, r2, r3, r4) := by rw [if_pos rfl] at H; exact H
        clear H
        have H := H1
        clear H1
        simp only [Option.some.injEq, Prod.mk.injEq] at H
        obtain ⟨rfl, rfl, rfl, rfl⟩ := H
        have hcz9_0 : wc.cell? ⟨gb111, 0, none⟩ = some (.bool false) := (blk_cell BK111.out 0).trans rfl
        have hcz9_1 : wc.cell? ⟨gb111, 1, none⟩ = some (.int .i64 0) := (blk_cell BK111.out 1).trans rfl
        have hcz9_2 : wc.cell? ⟨gb111, 2, none⟩ = some (.int .i64 0) := (blk_cell BK111.out 2).trans rfl
        have hfz9_0 := blk_frozen BK111.out 0
        have hfz9_1 := blk_frozen BK111.out 1
        have hfz9_2 := blk_frozen BK111.out 2
        go_wp2
        refine bodyPost_ret (results_ct rfl _ _ gb111 48 #[.bool false, .int .i64 0, .int .i64 0] (0, 0) _ rfl (by (with_reducible repeat (first | refine blk_drewN ?_ _ | refine blk_drew ?_ | refine blk_alloc ?_ _)); refine blk_put (cs := #[.bool false, .int .i64 0, .int .i64 0]) ?_ 2 _ rfl; (with_reducible repeat (first | refine blk_drewN ?_ _ | refine blk_drew ?_ | refine blk_alloc ?_ _)); refine blk_put (cs := #[.bool false, .int .i64 0, .int .i64 0]) ?_ 1 _ rfl; (with_reducible repeat (first | refine blk_drewN ?_ _ | refine blk_drew ?_ | refine blk_alloc ?_ _)); refine blk_put (cs := #[.bool false, .int .i64 0, .int .i64 0]) ?_ 0 _ rfl; (with_reducible repeat (first | refine blk_drewN ?_ _ | refine blk_drew ?_ | refine blk_alloc ?_ _)); exact BK111.out) Tryd.underlying48 rfl (by kernel_rfl)) rfl ?_
        exact ⟨by first | rfl | (simp [errW_none, errW_some] <;> rfl) | (simp [*, errW_none, errW_some] <;> rfl), by repeat (first | (with_reducible first | exact HB.out | apply below_alloc | apply pw_below_drewN | apply below_drew1 | refine below_set ?_ GE111.out) | exact HB.out)⟩
      · replace c8 := Bool.eq_false_iff.mpr c8
        subst c8
        have H1 : (if 0 < (t113.length : Int) then (if 1 < (t113.length : Int) then ((op_Right.f (t112.toList == ([119] : List UInt8)) (rd t113 0) (rd t113 1)).bind fun t120 => (if t120 = true then (some ((t112.toList == ([119] : List UInt8)), rd t113 0, rd t113 1, true)) else (some (false, 0, 0, false)))) else (none)) else (none)) = some (r1, r2, r3, r4) := by rw [if_neg (show ¬ (false = true) by decide)] at H; exact H
        clear H
        have H := H1
        clear H1
        by_cases c10 : 0 < (t113.length : Int)
        · rw [if_pos c10] at H
          have c10b0 : decide (0 < (t113.length : Int)) = true := decide_eq_true c10
          have c10b1 : decide (0 < t113.length) = true := decide_eq_true (by omega)
          clear c10
          by_cases c11 : 1 < (t113.length : Int)
          · rw [if_pos c11] at H
            have c11b0 : decide (1 < (t113.length : Int)) = true := decide_eq_true c11
            have c11b1 : decide (1 < t113.length) = true := decide_eq_true (by omega)
            clear c11
            replace H := Option.bind_eq_some_iff.mp H
            obtain ⟨t120, A120, H⟩ := H
            replace H : (if t120 = true then (some ((t112.toList == ([119] : List UInt8)), rd t113 0, rd t113 1, true)) else (some (false, 0, 0, false))) = some (r1, r2, r3, r4) := H
            have A12 := Aside0.mk A120
            clear A120
            by_cases c13 : t120 = true
            · subst c13
              have H1 : (some ((t112.toList == ([119] : List UInt8)), rd t113 0, rd t113 1, true)) = some (r1, r2, r3, r4) := by rw [if_pos rfl] at H; exact H
              clear H
              have H := H1
              clear H1
              simp only [Option.some.injEq, Prod.mk.injEq] at H
              obtain ⟨rfl, rfl, rfl, rfl⟩ := H
              try go_wp2
              have n0_ := Aside0.mk (Kd.R_drew HO_5.out)
              have n1_ := Aside0.mk (blk_drew BK111.out)
              have n2_ := Aside0.mk (below_drew1 HB.out)
              clear HO_5
              clear BK111
              clear HB
              have HO_5 := n0_
              have BK111 := n1_
              have HB := n2_
              clear n0_ n1_ n2_
              obtain ⟨Ao15, co15, eo15⟩ := Kd.R_slice HO_5.out
              (first | subst eo15 | (injection eo15 with f1_ f2_ f3_; have f4_ := f1_.symm; have f5_ := f3_.symm; clear f1_ f2_ f3_; subst f4_; subst f5_))
              have p117 : 0 ≤ (0 : Int) := (by omega)
              have q117 : 0 < (t113.length : Int) := of_decide_eq_true (by first | (with_reducible assumption) | assumption)
              obtain ⟨ad117, e117, hx117_0⟩ := Kd.at_int (Kd.R_reads' HO_5.out).2.2 0 p117 q117
              cases e117
              have qi117 : (0 < t113.length) = True := eq_true (by omega)
              (try rw [show ((0 : Int)).toNat = 0 from rfl] at hx117_0)
              (try rw [Addr.add_zero'] at hx117_0)
              replace p117 := eq_true p117
              replace q117 := eq_true q117
              have p118 : 0 ≤ (1 : Int) := (by omega)
              have q118 : 1 < (t113.length : Int) := of_decide_eq_true (by first | (with_reducible assumption) | assumption)
              obtain ⟨ad118, e118, hx118_0⟩ := Kd.at_int (Kd.R_reads' HO_5.out).2.2 1 p118 q118
              obtain rfl : ad117 = ad118 := (by injection e118)
              (try simp only [show (1 : Int).toNat = 1 from rfl, Nat.reduceMul, Nat.reduceEqDiff, Go.Addr.add, ↓reduceIte] at hx118_0)
              have qi118 : (1 < t113.length) = True := eq_true (by omega)
              (try rw [show ((1 : Int)).toNat = 1 from rfl] at hx118_0)
              replace p118 := eq_true p118
              replace q118 := eq_true q118
              refine start_ (n := 11) (S := fun w' => w'.cell? ad117 = some (.int .i64 (rd t113 0)) ∧ w'.cell? ⟨ad117.block, ad117.off + 1, none⟩ = some (.int .i64 (rd t113 1))) (ds := []) #[false, false, false, false, false, false, false, false, false, false, false] (by kernel_rfl) rfl rfl ⟨hx117_0, hx118_0⟩ (fun hHeld => ?_); refine with_tabW op_Parse.tab4 op_Parse.bits4 (fun HT_ HW_ => ?_)
              generalize wc.drew = w14 at HO_5 BK111 HB hx117_0 hx118_0 hHeld ⊢
              refine pure_ (i := 0) (N := some 25) (v := ?_) (a' := ?_) #[true, false, false, false, false, false, false, false, false, false, false] rfl rfl (any_of HT_.out (by kernel_rfl)) (fun _ _ _ h => h) (Or.inl ⟨by rfl, ?_⟩) ?_ ?_
              rotate_left
              · intro w'
                go_simp
                with_reducible rfl
              rotate_left
              · simp only [Act.put, List.setIfInBounds_toArray, List.set_cons_zero, List.set_cons_succ, i64_w, i32_w]
                rfl
              refine pure_ (i := 1) (N := some 26) (v := ?_) (a' := ?_) #[true, true, false, false, false, false, false, false, false, false, false] rfl rfl (any_of HT_.out (by kernel_rfl)) (fun _ _ _ h => h) (Or.inl ⟨by rfl, ?_⟩) ?_ ?_
              rotate_left
              · intro w'
                go_simp
                with_reducible rfl
              rotate_left
              · simp only [Act.put, List.setIfInBounds_toArray, List.set_cons_zero, List.set_cons_succ, i64_w, i32_w]
                rfl
              refine pure_ (i := 2) (N := some 27) (v := ?_) (a' := ?_) #[true, true, true, false, false, false, false, false, false, false, false] rfl rfl (any_of HT_.out (by kernel_rfl)) (fun _ _ _ h => h) (Or.inl ⟨by rfl, ?_⟩) ?_ ?_
              rotate_left
              · intro w'
                go_simp
                with_reducible rfl
              rotate_left
              · simp only [Act.put, List.setIfInBounds_toArray, List.set_cons_zero, List.set_cons_succ, i64_w, i32_w]
                rfl
              refine pure_ (i := 3) (N := some 28) (v := ?_) (a' := ?_) #[true, true, true, true, false, false, false, false, false, false, false] rfl rfl (any_of HT_.out (by kernel_rfl)) (fun _ _ _ h => h) (Or.inl ⟨by rfl, ?_⟩) ?_ ?_
              rotate_left
              · intro w'
                go_simp
                with_reducible rfl
              rotate_left
              · simp only [Act.put, List.setIfInBounds_toArray, List.set_cons_zero, List.set_cons_succ, i64_w, i32_w]
                rfl
              refine pure_ (i := 5) (N := some 30) (v := ?_) (a' := ?_) #[true, true, true, true, false, true, false, false, false, false, false] rfl rfl (any_of HT_.out (by kernel_rfl)) (fun _ _ _ h => h) (Or.inl ⟨by rfl, ?_⟩) ?_ ?_
              rotate_left
              · intro w'
                go_simp
                with_reducible rfl
              rotate_left
              · simp only [Act.put, List.setIfInBounds_toArray, List.set_cons_zero, List.set_cons_succ, i64_w, i32_w]
                rfl
              refine pure_ (i := 6) (N := some 31) (v := ?_) (a' := ?_) #[true, true, true, true, false, true, true, false, false, false, false] rfl rfl (any_of HT_.out (by kernel_rfl)) (fun _ _ _ h => h) (Or.inl ⟨by rfl, ?_⟩) ?_ ?_
              rotate_left
              · intro w'
                go_simp
                with_reducible rfl
              rotate_left
              · simp only [Act.put, List.setIfInBounds_toArray, List.set_cons_zero, List.set_cons_succ, i64_w, i32_w]
                rfl
              refine take_ (i := 4) (N := some 29) (v := ?_) (a' := ?_) #[true, true, true, true, true, true, true, false, false, false, false] rfl rfl (take_ofW HT_.out HW_.out (by kernel_rfl)) (fun _ _ _ h => h) (Or.inl ⟨by rfl, ?_⟩) hHeld ?_ ?_
              rotate_left
              · rintro w' ⟨s0, s1⟩
                go_simp
                with_reducible rfl
              rotate_left
              · simp only [Act.put, List.setIfInBounds_toArray, List.set_cons_zero, List.set_cons_succ, i64_w, i32_w]
                rfl
              refine take_ (i := 7) (N := some 32) (v := ?_) (a' := ?_) #[true, true, true, true, true, true, true, true, false, false, false] rfl rfl (take_ofW HT_.out HW_.out (by kernel_rfl)) (fun _ _ _ h => h) (Or.inl ⟨by rfl, ?_⟩) hHeld ?_ ?_
              rotate_left
              · rintro w' ⟨s0, s1⟩
                go_simp
                with_reducible rfl
              rotate_left
              · simp only [Act.put, List.setIfInBounds_toArray, List.set_cons_zero, List.set_cons_succ, i64_w, i32_w]
                rfl
              refine pure_ (i := 8) (N := some 33) (v := ?_) (a' := ?_) #[true, true, true, true, true, true, true, true, true, false, false] rfl rfl (any_of HT_.out (by kernel_rfl)) (fun _ _ _ h => h) (Or.inl ⟨by rfl, ?_⟩) ?_ ?_
              rotate_left
              · intro w'
                go_simp
                with_reducible rfl
              rotate_left
              · simp only [Act.put, List.setIfInBounds_toArray, List.set_cons_zero, List.set_cons_succ, i64_w, i32_w]
                rfl
              refine one_ (i := 9) (N := some 7) #[true, true, true, true, true, true, true, true, true, true, false] rfl rfl (one_of HT_.out (by kernel_rfl)) (by decide) (fun K hK => ?_)
              refine box_step ?hg (N := 7) ?hd (cs := #[.bool false, .int .i64 0, .int .i64 0]) (t := 48) ?hr ?_; (case hd => rfl); (case hg => rfl); (case hr => first | (go_simp; done) | (go_simp; rfl))
              intro gb119 hg w16 hbox hb
              have HS0_ := (hb.cell (World.block_lt_of_cell? _ _ (hHeld.1))).trans (hHeld.1)
              have HS1_ := (hb.cell (World.block_lt_of_cell? _ _ (hHeld.2))).trans (hHeld.2)
              have n0_ := Aside0.mk (Kd.R_below (by (with_reducible repeat (first | apply Kd.R_alloc | apply Kd.R_drewN | apply Kd.R_drew)); exact HO_5.out) hb)
              have n1_ := Aside0.mk (blk_below (g := gb111) (o := .cells #[.bool false, .int .i64 0, .int .i64 0] 48 (0, 0)) (by (with_reducible repeat (first | refine blk_drewN ?_ _ | refine blk_drew ?_ | refine blk_alloc ?_ _)); exact BK111.out) hb)
              have n2_ := Aside0.mk (below_step (by repeat (first | (with_reducible first | exact HB.out | apply below_alloc | apply pw_below_drewN | apply below_drew1 | refine below_set ?_ GE111.out) | exact HB.out)) hb)
              have n3_ := Aside0.mk (hbox)
              have n4_ := Aside0.mk ((by rw [hg]; exact (below_size (by repeat (first | (with_reducible first | exact HB.out | apply below_alloc | apply pw_below_drewN | apply below_drew1 | refine below_set ?_ GE111.out) | exact HB.out))) : w.heap.size ≤ gb119))
              have n5_ := Aside0.mk ((by rw [hg]; exact (below_size (by repeat (first | (with_reducible first | exact HB.out | apply below_alloc | apply pw_below_drewN | apply below_drew1 | refine below_set ?_ GE111.out) | exact HB.out))) : w.heap.size ≤ gb119))
              have n6_ := Aside0.mk ((by rw [hg]; exact Nat.ne_of_lt (blk_lt (g := gb111) (o := .cells #[.bool false, .int .i64 0, .int .i64 0] 48 (0, 0)) (by (with_reducible repeat (first | refine blk_drewN ?_ _ | refine blk_drew ?_ | refine blk_alloc ?_ _)); exact BK111.out)) : gb111 ≠ gb119))
              have n7_ := Aside0.mk ((by rw [hg]; exact Nat.ne_of_gt (blk_lt (g := gb111) (o := .cells #[.bool false, .int .i64 0, .int .i64 0] 48 (0, 0)) (by (with_reducible repeat (first | refine blk_drewN ?_ _ | refine blk_drew ?_ | refine blk_alloc ?_ _)); exact BK111.out)) : gb119 ≠ gb111))
              clear HO_5
              clear BK111
              clear HB
              have HO_5 := n0_
              have BK111 := n1_
              have HB := n2_
              have BK119 := n3_
              have GW119 := n4_
              have GE119 := n5_
              have NB111_119 := n6_
              have NB119_111 := n7_
              clear n0_ n1_ n2_ n3_ n4_ n5_ n6_ n7_
              clear hb hbox hg
              refine hK.out _ _ ⟨HS0_, HS1_⟩ (fun hHeld => ?_)
              clear hK K
              refine norm_ (a' := ?_) ?_ ?_
              rotate_left
              · show Act.put _ (some 7) _ = _
                simp only [Act.put, List.setIfInBounds_toArray, List.set_cons_zero, List.set_cons_succ, i64_w, i32_w]
                rfl
              refine one_ (i := 10) (N := none) #[true, true, true, true, true, true, true, true, true, true, true] rfl rfl (one_of HT_.out (by kernel_rfl)) (by decide) (fun K hK => ?_)
              have hs17 : w16.cell? ⟨gb119, 0, none⟩ = some (.bool false) := (blk_cell BK119.out 0).trans rfl
              have hfs17 := blk_frozen BK119.out 0
              have hns17_0 := NB111_119.out
              have hms17_0 := NB119_111.out
              have hs18 : w16.cell? ⟨gb119, 1, none⟩ = some (.int .i64 0) := (blk_cell BK119.out 1).trans rfl
              have hfs18 := blk_frozen BK119.out 1
              have hns18_0 := NB111_119.out
              have hms18_0 := NB119_111.out
              have hs19 : w16.cell? ⟨gb119, 2, none⟩ = some (.int .i64 0) := (blk_cell BK119.out 2).trans rfl
              have hfs19 := blk_frozen BK119.out 2
              have hns19_0 := NB111_119.out
              have hms19_0 := NB119_111.out
              refine skip_ (w1 := ?_) (by rfl) rfl ?_ ?_
              rotate_left
              · go_simp
                rfl
              refine hK.out _ _ ⟨((cell_far (p := ⟨gb119, _, none⟩) (by first | exact Kd.own_blk (Kd.R_ne HO_5.out BK119.out (by decide)) | (rw [add_block]; exact Kd.own_blk (Kd.R_ne HO_5.out BK119.out (by decide))) | (show (Addr.add _ _).block ≠ _; rw [add_block]; exact Kd.own_blk (Kd.R_ne HO_5.out BK119.out (by decide))) | (dsimp only; exact Kd.own_blk (Kd.R_ne HO_5.out BK119.out (by decide)))) _).trans (((cell_far (p := ⟨gb119, _, none⟩) (by first | exact Kd.own_blk (Kd.R_ne HO_5.out BK119.out (by decide)) | (rw [add_block]; exact Kd.own_blk (Kd.R_ne HO_5.out BK119.out (by decide))) | (show (Addr.add _ _).block ≠ _; rw [add_block]; exact Kd.own_blk (Kd.R_ne HO_5.out BK119.out (by decide))) | (dsimp only; exact Kd.own_blk (Kd.R_ne HO_5.out BK119.out (by decide)))) _).trans (((cell_far (p := ⟨gb119, _, none⟩) (by first | exact Kd.own_blk (Kd.R_ne HO_5.out BK119.out (by decide)) | (rw [add_block]; exact Kd.own_blk (Kd.R_ne HO_5.out BK119.out (by decide))) | (show (Addr.add _ _).block ≠ _; rw [add_block]; exact Kd.own_blk (Kd.R_ne HO_5.out BK119.out (by decide))) | (dsimp only; exact Kd.own_blk (Kd.R_ne HO_5.out BK119.out (by decide)))) _).trans (hHeld.1)))))), ((cell_far (p := ⟨gb119, _, none⟩) (by first | exact Kd.own_blk (Kd.R_ne HO_5.out BK119.out (by decide)) | (rw [add_block]; exact Kd.own_blk (Kd.R_ne HO_5.out BK119.out (by decide))) | (show (Addr.add _ _).block ≠ _; rw [add_block]; exact Kd.own_blk (Kd.R_ne HO_5.out BK119.out (by decide))) | (dsimp only; exact Kd.own_blk (Kd.R_ne HO_5.out BK119.out (by decide)))) _).trans (((cell_far (p := ⟨gb119, _, none⟩) (by first | exact Kd.own_blk (Kd.R_ne HO_5.out BK119.out (by decide)) | (rw [add_block]; exact Kd.own_blk (Kd.R_ne HO_5.out BK119.out (by decide))) | (show (Addr.add _ _).block ≠ _; rw [add_block]; exact Kd.own_blk (Kd.R_ne HO_5.out BK119.out (by decide))) | (dsimp only; exact Kd.own_blk (Kd.R_ne HO_5.out BK119.out (by decide)))) _).trans (((cell_far (p := ⟨gb119, _, none⟩) (by first | exact Kd.own_blk (Kd.R_ne HO_5.out BK119.out (by decide)) | (rw [add_block]; exact Kd.own_blk (Kd.R_ne HO_5.out BK119.out (by decide))) | (show (Addr.add _ _).block ≠ _; rw [add_block]; exact Kd.own_blk (Kd.R_ne HO_5.out BK119.out (by decide))) | (dsimp only; exact Kd.own_blk (Kd.R_ne HO_5.out BK119.out (by decide)))) _).trans (hHeld.2))))))⟩ (fun hHeld => ?_)
              clear hK K
              refine done_ (done_of HT_.out (by kernel_rfl)) ?_
              have hnb20 := NB119_111.out
              have hnc20 := NB111_119.out
              have hcz21_0 : w16.cell? ⟨gb119, 0, none⟩ = some (.bool false) := (blk_cell BK119.out 0).trans rfl
              have hcz21_1 : w16.cell? ⟨gb119, 1, none⟩ = some (.int .i64 0) := (blk_cell BK119.out 1).trans rfl
              have hcz21_2 : w16.cell? ⟨gb119, 2, none⟩ = some (.int .i64 0) := (blk_cell BK119.out 2).trans rfl
              have hfz21_0 := blk_frozen BK119.out 0
              have hfz21_1 := blk_frozen BK119.out 1
              have hfz21_2 := blk_frozen BK119.out 2
              try go_wp2_with (first | ((with_reducible refine gate_callee (f := 49) rfl ?_); refine goesL_ (some 35) rfl rfl Tryd.func49 (by kernel_rfl) rfl #[.agg #[.bool (t112.toList == ([119] : List UInt8)), .int .i64 (rd t113 0), .int .i64 (rd t113 1)]] rfl (by (try simp only [List.map_toArray, List.map_cons, List.map_nil]); first | done | rfl | (simp only [List.length_drop, List.length_take]; rfl)) ?_; (with_reducible refine (op_Right.calls (t112.toList == ([119] : List UInt8)) (rd t113 0) (rd t113 1) true _ A12.out (Laid.below HY (by repeat (first | (with_reducible first | exact HB.out | apply below_alloc | apply pw_below_drewN | apply below_drew1 | refine below_set ?_ GE111.out | refine below_set ?_ GE119.out) | exact HB.out)))).mono ?_); rintro e w22 ⟨rfl, hb⟩; refine ⟨_, rfl, ?_⟩; have n0_ := Aside0.mk (Kd.R_below (by (with_reducible repeat (first | apply Kd.R_alloc | apply Kd.R_drewN | apply Kd.R_drew)); exact (Kd.R_mono (Kd.R_far (p := ⟨gb119, 2, none⟩) (Kd.R_far (p := ⟨gb119, 1, none⟩) (Kd.R_far (p := ⟨gb119, 0, none⟩) (Kd.R_types HO_5.out BK119.out (by decide)) (fun _ hk => hk.2) (.bool (t112.toList == ([119] : List UInt8)))) (fun _ hk => hk.2) (.int .i64 (rd t113 0))) (fun _ hk => hk.2) (.int .i64 (rd t113 1))) (fun _ h_ => h_.1))) hb); have n1_ := Aside0.mk (blk_below (g := gb111) (o := .cells #[.bool false, .int .i64 0, .int .i64 0] 48 (0, 0)) (by (with_reducible repeat (first | refine blk_drewN ?_ _ | refine blk_drew ?_ | refine blk_alloc ?_ _)); refine blk_far ?_ NB111_119.out _; (with_reducible repeat (first | refine blk_drewN ?_ _ | refine blk_drew ?_ | refine blk_alloc ?_ _)); refine blk_far ?_ NB111_119.out _; (with_reducible repeat (first | refine blk_drewN ?_ _ | refine blk_drew ?_ | refine blk_alloc ?_ _)); refine blk_far ?_ NB111_119.out _; (with_reducible repeat (first | refine blk_drewN ?_ _ | refine blk_drew ?_ | refine blk_alloc ?_ _)); exact BK111.out) hb); have n2_ := Aside0.mk (blk_below (g := gb119) (o := .cells #[.bool (t112.toList == ([119] : List UInt8)), .int .i64 (rd t113 0), .int .i64 (rd t113 1)] 48 (0, 0)) (by (with_reducible repeat (first | refine blk_drewN ?_ _ | refine blk_drew ?_ | refine blk_alloc ?_ _)); refine blk_put (cs := #[.bool (t112.toList == ([119] : List UInt8)), .int .i64 (rd t113 0), .int .i64 0]) ?_ 2 _ rfl; (with_reducible repeat (first | refine blk_drewN ?_ _ | refine blk_drew ?_ | refine blk_alloc ?_ _)); refine blk_put (cs := #[.bool (t112.toList == ([119] : List UInt8)), .int .i64 0, .int .i64 0]) ?_ 1 _ rfl; (with_reducible repeat (first | refine blk_drewN ?_ _ | refine blk_drew ?_ | refine blk_alloc ?_ _)); refine blk_put (cs := #[.bool false, .int .i64 0, .int .i64 0]) ?_ 0 _ rfl; (with_reducible repeat (first | refine blk_drewN ?_ _ | refine blk_drew ?_ | refine blk_alloc ?_ _)); exact BK119.out) hb); have n3_ := Aside0.mk (below_step (by repeat (first | (with_reducible first | exact HB.out | apply below_alloc | apply pw_below_drewN | apply below_drew1 | refine below_set ?_ GE111.out | refine below_set ?_ GE119.out) | exact HB.out)) hb); clear HO_5; clear BK111; clear BK119; clear HB; have HO_5 := n0_; have BK111 := n1_; have BK119 := n2_; have HB := n3_; clear n0_ n1_ n2_ n3_; (try clear hb); (try clear hb2); (try clear hk); (try clear hi); have hcz23_0 : w22.cell? ⟨gb119, 0, none⟩ = some (.bool (t112.toList == ([119] : List UInt8))) := (blk_cell BK119.out 0).trans rfl; have hcz23_1 : w22.cell? ⟨gb119, 1, none⟩ = some (.int .i64 (rd t113 0)) := (blk_cell BK119.out 1).trans rfl; have hcz23_2 : w22.cell? ⟨gb119, 2, none⟩ = some (.int .i64 (rd t113 1)) := (blk_cell BK119.out 2).trans rfl; have hfz23_0 := blk_frozen BK119.out 0; have hfz23_1 := blk_frozen BK119.out 1; have hfz23_2 := blk_frozen BK119.out 2; have hcz24_0 : w22.cell? ⟨gb111, 0, none⟩ = some (.bool false) := (blk_cell BK111.out 0).trans rfl; have hcz24_1 : w22.cell? ⟨gb111, 1, none⟩ = some (.int .i64 0) := (blk_cell BK111.out 1).trans rfl; have hcz24_2 : w22.cell? ⟨gb111, 2, none⟩ = some (.int .i64 0) := (blk_cell BK111.out 2).trans rfl; have hfz24_0 := blk_frozen BK111.out 0; have hfz24_1 := blk_frozen BK111.out 1; have hfz24_2 := blk_frozen BK111.out 2))
              refine bodyPost_ret (results_ct rfl _ _ gb111 48 #[.bool (t112.toList == ([119] : List UInt8)), .int .i64 (rd t113 0), .int .i64 (rd t113 1)] (0, 0) _ rfl (by (with_reducible repeat (first | refine blk_drewN ?_ _ | refine blk_drew ?_ | refine blk_alloc ?_ _)); refine blk_put (cs := #[.bool (t112.toList == ([119] : List UInt8)), .int .i64 (rd t113 0), .int .i64 0]) ?_ 2 _ rfl; (with_reducible repeat (first | refine blk_drewN ?_ _ | refine blk_drew ?_ | refine blk_alloc ?_ _)); refine blk_put (cs := #[.bool (t112.toList == ([119] : List UInt8)), .int .i64 0, .int .i64 0]) ?_ 1 _ rfl; (with_reducible repeat (first | refine blk_drewN ?_ _ | refine blk_drew ?_ | refine blk_alloc ?_ _)); refine blk_put (cs := #[.bool false, .int .i64 0, .int .i64 0]) ?_ 0 _ rfl; (with_reducible repeat (first | refine blk_drewN ?_ _ | refine blk_drew ?_ | refine blk_alloc ?_ _)); exact BK111.out) Tryd.underlying48 rfl (by kernel_rfl)) rfl ?_
              exact ⟨by first | rfl | (simp [errW_none, errW_some] <;> rfl) | (simp [*, errW_none, errW_some] <;> rfl), by repeat (first | (with_reducible first | exact HB.out | apply below_alloc | apply pw_below_drewN | apply below_drew1 | refine below_set ?_ GE111.out | refine below_set ?_ GE119.out) | exact HB.out)⟩
            · replace c13 := Bool.eq_false_iff.mpr c13
              subst c13
              have H1 : (some (false, 0, 0, false)) = some (r1, r2, r3, r4) := by rw [if_neg (show ¬ (false = true) by decide)] at H; exact H
              clear H
              have H := H1
              clear H1
              simp only [Option.some.injEq, Prod.mk.injEq] at H
              obtain ⟨rfl, rfl, rfl, rfl⟩ := H
              try go_wp2
              have n0_ := Aside0.mk (Kd.R_drew HO_5.out)
              have n1_ := Aside0.mk (blk_drew BK111.out)
              have n2_ := Aside0.mk (below_drew1 HB.out)
              clear HO_5
              clear BK111
              clear HB
              have HO_5 := n0_
              have BK111 := n1_
              have HB := n2_
              clear n0_ n1_ n2_
              obtain ⟨Ao26, co26, eo26⟩ := Kd.R_slice HO_5.out
              (first | subst eo26 | (injection eo26 with f1_ f2_ f3_; have f4_ := f1_.symm; have f5_ := f3_.symm; clear f1_ f2_ f3_; subst f4_; subst f5_))
              have p117 : 0 ≤ (0 : Int) := (by omega)
              have q117 : 0 < (t113.length : Int) := of_decide_eq_true (by first | (with_reducible assumption) | assumption)
              obtain ⟨ad117, e117, hx117_0⟩ := Kd.at_int (Kd.R_reads' HO_5.out).2.2 0 p117 q117
              cases e117
              have qi117 : (0 < t113.length) = True := eq_true (by omega)
              (try rw [show ((0 : Int)).toNat = 0 from rfl] at hx117_0)
              (try rw [Addr.add_zero'] at hx117_0)
              replace p117 := eq_true p117
              replace q117 := eq_true q117
              have p118 : 0 ≤ (1 : Int) := (by omega)
              have q118 : 1 < (t113.length : Int) := of_decide_eq_true (by first | (with_reducible assumption) | assumption)
              obtain ⟨ad118, e118, hx118_0⟩ := Kd.at_int (Kd.R_reads' HO_5.out).2.2 1 p118 q118
              obtain rfl : ad117 = ad118 := (by injection e118)
              (try simp only [show (1 : Int).toNat = 1 from rfl, Nat.reduceMul, Nat.reduceEqDiff, Go.Addr.add, ↓reduceIte] at hx118_0)
              have qi118 : (1 < t113.length) = True := eq_true (by omega)
              (try rw [show ((1 : Int)).toNat = 1 from rfl] at hx118_0)
              replace p118 := eq_true p118
              replace q118 := eq_true q118
              refine start_ (n := 11) (S := fun w' => w'.cell? ad117 = some (.int .i64 (rd t113 0)) ∧ w'.cell? ⟨ad117.block, ad117.off + 1, none⟩ = some (.int .i64 (rd t113 1))) (ds := []) #[false, false, false, false, false, false, false, false, false, false, false] (by kernel_rfl) rfl rfl ⟨hx117_0, hx118_0⟩ (fun hHeld => ?_); refine with_tabW op_Parse.tab4 op_Parse.bits4 (fun HT_ HW_ => ?_)
              generalize wc.drew = w25 at HO_5 BK111 HB hx117_0 hx118_0 hHeld ⊢
              refine pure_ (i := 0) (N := some 25) (v := ?_) (a' := ?_) #[true, false, false, false, false, false, false, false, false, false, false] rfl rfl (any_of HT_.out (by kernel_rfl)) (fun _ _ _ h => h) (Or.inl ⟨by rfl, ?_⟩) ?_ ?_
              rotate_left
              · intro w'
                go_simp
                with_reducible rfl
              rotate_left
              · simp only [Act.put, List.setIfInBounds_toArray, List.set_cons_zero, List.set_cons_succ, i64_w, i32_w]
                rfl
              refine pure_ (i := 1) (N := some 26) (v := ?_) (a' := ?_) #[true, true, false, false, false, false, false, false, false, false, false] rfl rfl (any_of HT_.out (by kernel_rfl)) (fun _ _ _ h => h) (Or.inl ⟨by rfl, ?_⟩) ?_ ?_
              rotate_left
              · intro w'
                go_simp
                with_reducible rfl
              rotate_left
              · simp only [Act.put, List.setIfInBounds_toArray, List.set_cons_zero, List.set_cons_succ, i64_w, i32_w]
                rfl
              refine pure_ (i := 2) (N := some 27) (v := ?_) (a' := ?_) #[true, true, true, false, false, false, false, false, false, false, false] rfl rfl (any_of HT_.out (by kernel_rfl)) (fun _ _ _ h => h) (Or.inl ⟨by rfl, ?_⟩) ?_ ?_
              rotate_left
              · intro w'
                go_simp
                with_reducible rfl
              rotate_left
              · simp only [Act.put, List.setIfInBounds_toArray, List.set_cons_zero, List.set_cons_succ, i64_w, i32_w]
                rfl
              refine pure_ (i := 3) (N := some 28) (v := ?_) (a' := ?_) #[true, true, true, true, false, false, false, false, false, false, false] rfl rfl (any_of HT_.out (by kernel_rfl)) (fun _ _ _ h => h) (Or.inl ⟨by rfl, ?_⟩) ?_ ?_
              rotate_left
              · intro w'
                go_simp
                with_reducible rfl
              rotate_left
              · simp only [Act.put, List.setIfInBounds_toArray, List.set_cons_zero, List.set_cons_succ, i64_w, i32_w]
                rfl
              refine pure_ (i := 5) (N := some 30) (v := ?_) (a' := ?_) #[true, true, true, true, false, true, false, false, false, false, false] rfl rfl (any_of HT_.out (by kernel_rfl)) (fun _ _ _ h => h) (Or.inl ⟨by rfl, ?_⟩) ?_ ?_
              rotate_left
              · intro w'
                go_simp
                with_reducible rfl
              rotate_left
              · simp only [Act.put, List.setIfInBounds_toArray, List.set_cons_zero, List.set_cons_succ, i64_w, i32_w]
                rfl
              refine pure_ (i := 6) (N := some 31) (v := ?_) (a' := ?_) #[true, true, true, true, false, true, true, false, false, false, false] rfl rfl (any_of HT_.out (by kernel_rfl)) (fun _ _ _ h => h) (Or.inl ⟨by rfl, ?_⟩) ?_ ?_
              rotate_left
              · intro w'
                go_simp
                with_reducible rfl
              rotate_left
              · simp only [Act.put, List.setIfInBounds_toArray, List.set_cons_zero, List.set_cons_succ, i64_w, i32_w]
                rfl
              refine take_ (i := 4) (N := some 29) (v := ?_) (a' := ?_) #[true, true, true, true, true, true, true, false, false, false, false] rfl rfl (take_ofW HT_.out HW_.out (by kernel_rfl)) (fun _ _ _ h => h) (Or.inl ⟨by rfl, ?_⟩) hHeld ?_ ?_
              rotate_left
              · rintro w' ⟨s0, s1⟩
                go_simp
                with_reducible rfl
              rotate_left
              · simp only [Act.put, List.setIfInBounds_toArray, List.set_cons_zero, List.set_cons_succ, i64_w, i32_w]
                rfl
              refine take_ (i := 7) (N := some 32) (v := ?_) (a' := ?_) #[true, true, true, true, true, true, true, true, false, false, false] rfl rfl (take_ofW HT_.out HW_.out (by kernel_rfl)) (fun _ _ _ h => h) (Or.inl ⟨by rfl, ?_⟩) hHeld ?_ ?_
              rotate_left
              · rintro w' ⟨s0, s1⟩
                go_simp
                with_reducible rfl
              rotate_left
              · simp only [Act.put, List.setIfInBounds_toArray, List.set_cons_zero, List.set_cons_succ, i64_w, i32_w]
                rfl
              refine pure_ (i := 8) (N := some 33) (v := ?_) (a' := ?_) #[true, true, true, true, true, true, true, true, true, false, false] rfl rfl (any_of HT_.out (by kernel_rfl)) (fun _ _ _ h => h) (Or.inl ⟨by rfl, ?_⟩) ?_ ?_
              rotate_left
              · intro w'
                go_simp
                with_reducible rfl
              rotate_left
              · simp only [Act.put, List.setIfInBounds_toArray, List.set_cons_zero, List.set_cons_succ, i64_w, i32_w]
                rfl
              refine one_ (i := 9) (N := some 7) #[true, true, true, true, true, true, true, true, true, true, false] rfl rfl (one_of HT_.out (by kernel_rfl)) (by decide) (fun K hK => ?_)
              refine box_step ?hg (N := 7) ?hd (cs := #[.bool false, .int .i64 0, .int .i64 0]) (t := 48) ?hr ?_; (case hd => rfl); (case hg => rfl); (case hr => first | (go_simp; done) | (go_simp; rfl))
              intro gb119 hg w27 hbox hb
              have HS0_ := (hb.cell (World.block_lt_of_cell? _ _ (hHeld.1))).trans (hHeld.1)
              have HS1_ := (hb.cell (World.block_lt_of_cell? _ _ (hHeld.2))).trans (hHeld.2)
              have n0_ := Aside0.mk (Kd.R_below (by (with_reducible repeat (first | apply Kd.R_alloc | apply Kd.R_drewN | apply Kd.R_drew)); exact HO_5.out) hb)
              have n1_ := Aside0.mk (blk_below (g := gb111) (o := .cells #[.bool false, .int .i64 0, .int .i64 0] 48 (0, 0)) (by (with_reducible repeat (first | refine blk_drewN ?_ _ | refine blk_drew ?_ | refine blk_alloc ?_ _)); exact BK111.out) hb)
              have n2_ := Aside0.mk (below_step (by repeat (first | (with_reducible first | exact HB.out | apply below_alloc | apply pw_below_drewN | apply below_drew1 | refine below_set ?_ GE111.out) | exact HB.out)) hb)
              have n3_ := Aside0.mk (hbox)
              have n4_ := Aside0.mk ((by rw [hg]; exact (below_size (by repeat (first | (with_reducible first | exact HB.out | apply below_alloc | apply pw_below_drewN | apply below_drew1 | refine below_set ?_ GE111.out) | exact HB.out))) : w.heap.size ≤ gb119))
              have n5_ := Aside0.mk ((by rw [hg]; exact (below_size (by repeat (first | (with_reducible first | exact HB.out | apply below_alloc | apply pw_below_drewN | apply below_drew1 | refine below_set ?_ GE111.out) | exact HB.out))) : w.heap.size ≤ gb119))
              have n6_ := Aside0.mk ((by rw [hg]; exact Nat.ne_of_lt (blk_lt (g := gb111) (o := .cells #[.bool false, .int .i64 0, .int .i64 0] 48 (0, 0)) (by (with_reducible repeat (first | refine blk_drewN ?_ _ | refine blk_drew ?_ | refine blk_alloc ?_ _)); exact BK111.out)) : gb111 ≠ gb119))
              have n7_ := Aside0.mk ((by rw [hg]; exact Nat.ne_of_gt (blk_lt (g := gb111) (o := .cells #[.bool false, .int .i64 0, .int .i64 0] 48 (0, 0)) (by (with_reducible repeat (first | refine blk_drewN ?_ _ | refine blk_drew ?_ | refine blk_alloc ?_ _)); exact BK111.out)) : gb119 ≠ gb111))
              clear HO_5
              clear BK111
              clear HB
              have HO_5 := n0_
              have BK111 := n1_
              have HB := n2_
              have BK119 := n3_
              have GW119 := n4_
              have GE119 := n5_
              have NB111_119 := n6_
              have NB119_111 := n7_
              clear n0_ n1_ n2_ n3_ n4_ n5_ n6_ n7_
              clear hb hbox hg
              refine hK.out _ _ ⟨HS0_, HS1_⟩ (fun hHeld => ?_)
              clear hK K
              refine norm_ (a' := ?_) ?_ ?_
              rotate_left
              · show Act.put _ (some 7) _ = _
                simp only [Act.put, List.setIfInBounds_toArray, List.set_cons_zero, List.set_cons_succ, i64_w, i32_w]
                rfl
              refine one_ (i := 10) (N := none) #[true, true, true, true, true, true, true, true, true, true, true] rfl rfl (one_of HT_.out (by kernel_rfl)) (by decide) (fun K hK => ?_)
              have hs28 : w27.cell? ⟨gb119, 0, none⟩ = some (.bool false) := (blk_cell BK119.out 0).trans rfl
              have hfs28 := blk_frozen BK119.out 0
              have hns28_0 := NB111_119.out
              have hms28_0 := NB119_111.out
              have hs29 : w27.cell? ⟨gb119, 1, none⟩ = some (.int .i64 0) := (blk_cell BK119.out 1).trans rfl
              have hfs29 := blk_frozen BK119.out 1
              have hns29_0 := NB111_119.out
              have hms29_0 := NB119_111.out
              have hs30 : w27.cell? ⟨gb119, 2, none⟩ = some (.int .i64 0) := (blk_cell BK119.out 2).trans rfl
              have hfs30 := blk_frozen BK119.out 2
              have hns30_0 := NB111_119.out
              have hms30_0 := NB119_111.out
              refine skip_ (w1 := ?_) (by rfl) rfl ?_ ?_
              rotate_left
              · go_simp
                rfl
              refine hK.out _ _ ⟨((cell_far (p := ⟨gb119, _, none⟩) (by first | exact Kd.own_blk (Kd.R_ne HO_5.out BK119.out (by decide)) | (rw [add_block]; exact Kd.own_blk (Kd.R_ne HO_5.out BK119.out (by decide))) | (show (Addr.add _ _).block ≠ _; rw [add_block]; exact Kd.own_blk (Kd.R_ne HO_5.out BK119.out (by decide))) | (dsimp only; exact Kd.own_blk (Kd.R_ne HO_5.out BK119.out (by decide)))) _).trans (((cell_far (p := ⟨gb119, _, none⟩) (by first | exact Kd.own_blk (Kd.R_ne HO_5.out BK119.out (by decide)) | (rw [add_block]; exact Kd.own_blk (Kd.R_ne HO_5.out BK119.out (by decide))) | (show (Addr.add _ _).block ≠ _; rw [add_block]; exact Kd.own_blk (Kd.R_ne HO_5.out BK119.out (by decide))) | (dsimp only; exact Kd.own_blk (Kd.R_ne HO_5.out BK119.out (by decide)))) _).trans (((cell_far (p := ⟨gb119, _, none⟩) (by first | exact Kd.own_blk (Kd.R_ne HO_5.out BK119.out (by decide)) | (rw [add_block]; exact Kd.own_blk (Kd.R_ne HO_5.out BK119.out (by decide))) | (show (Addr.add _ _).block ≠ _; rw [add_block]; exact Kd.own_blk (Kd.R_ne HO_5.out BK119.out (by decide))) | (dsimp only; exact Kd.own_blk (Kd.R_ne HO_5.out BK119.out (by decide)))) _).trans (hHeld.1)))))), ((cell_far (p := ⟨gb119, _, none⟩) (by first | exact Kd.own_blk (Kd.R_ne HO_5.out BK119.out (by decide)) | (rw [add_block]; exact Kd.own_blk (Kd.R_ne HO_5.out BK119.out (by decide))) | (show (Addr.add _ _).block ≠ _; rw [add_block]; exact Kd.own_blk (Kd.R_ne HO_5.out BK119.out (by decide))) | (dsimp only; exact Kd.own_blk (Kd.R_ne HO_5.out BK119.out (by decide)))) _).trans (((cell_far (p := ⟨gb119, _, none⟩) (by first | exact Kd.own_blk (Kd.R_ne HO_5.out BK119.out (by decide)) | (rw [add_block]; exact Kd.own_blk (Kd.R_ne HO_5.out BK119.out (by decide))) | (show (Addr.add _ _).block ≠ _; rw [add_block]; exact Kd.own_blk (Kd.R_ne HO_5.out BK119.out (by decide))) | (dsimp only; exact Kd.own_blk (Kd.R_ne HO_5.out BK119.out (by decide)))) _).trans (((cell_far (p := ⟨gb119, _, none⟩) (by first | exact Kd.own_blk (Kd.R_ne HO_5.out BK119.out (by decide)) | (rw [add_block]; exact Kd.own_blk (Kd.R_ne HO_5.out BK119.out (by decide))) | (show (Addr.add _ _).block ≠ _; rw [add_block]; exact Kd.own_blk (Kd.R_ne HO_5.out BK119.out (by decide))) | (dsimp only; exact Kd.own_blk (Kd.R_ne HO_5.out BK119.out (by decide)))) _).trans (hHeld.2))))))⟩ (fun hHeld => ?_)
              clear hK K
              refine done_ (done_of HT_.out (by kernel_rfl)) ?_
              have hnb31 := NB119_111.out
              have hnc31 := NB111_119.out
              have hcz32_0 : w27.cell? ⟨gb119, 0, none⟩ = some (.bool false) := (blk_cell BK119.out 0).trans rfl
              have hcz32_1 : w27.cell? ⟨gb119, 1, none⟩ = some (.int .i64 0) := (blk_cell BK119.out 1).trans rfl
              have hcz32_2 : w27.cell? ⟨gb119, 2, none⟩ = some (.int .i64 0) := (blk_cell BK119.out 2).trans rfl
              have hfz32_0 := blk_frozen BK119.out 0
              have hfz32_1 := blk_frozen BK119.out 1
              have hfz32_2 := blk_frozen BK119.out 2
              try go_wp2_with (first | ((with_reducible refine gate_callee (f := 49) rfl ?_); refine goesL_ (some 35) rfl rfl Tryd.func49 (by kernel_rfl) rfl #[.agg #[.bool (t112.toList == ([119] : List UInt8)), .int .i64 (rd t113 0), .int .i64 (rd t113 1)]] rfl (by (try simp only [List.map_toArray, List.map_cons, List.map_nil]); first | done | rfl | (simp only [List.length_drop, List.length_take]; rfl)) ?_; (with_reducible refine (op_Right.calls (t112.toList == ([119] : List UInt8)) (rd t113 0) (rd t113 1) false _ A12.out (Laid.below HY (by repeat (first | (with_reducible first | exact HB.out | apply below_alloc | apply pw_below_drewN | apply below_drew1 | refine below_set ?_ GE111.out | refine below_set ?_ GE119.out) | exact HB.out)))).mono ?_); rintro e w33 ⟨rfl, hb⟩; refine ⟨_, rfl, ?_⟩; have n0_ := Aside0.mk (Kd.R_below (by (with_reducible repeat (first | apply Kd.R_alloc | apply Kd.R_drewN | apply Kd.R_drew)); exact (Kd.R_mono (Kd.R_far (p := ⟨gb119, 2, none⟩) (Kd.R_far (p := ⟨gb119, 1, none⟩) (Kd.R_far (p := ⟨gb119, 0, none⟩) (Kd.R_types HO_5.out BK119.out (by decide)) (fun _ hk => hk.2) (.bool (t112.toList == ([119] : List UInt8)))) (fun _ hk => hk.2) (.int .i64 (rd t113 0))) (fun _ hk => hk.2) (.int .i64 (rd t113 1))) (fun _ h_ => h_.1))) hb); have n1_ := Aside0.mk (blk_below (g := gb111) (o := .cells #[.bool false, .int .i64 0, .int .i64 0] 48 (0, 0)) (by (with_reducible repeat (first | refine blk_drewN ?_ _ | refine blk_drew ?_ | refine blk_alloc ?_ _)); refine blk_far ?_ NB111_119.out _; (with_reducible repeat (first | refine blk_drewN ?_ _ | refine blk_drew ?_ | refine blk_alloc ?_ _)); refine blk_far ?_ NB111_119.out _; (with_reducible repeat (first | refine blk_drewN ?_ _ | refine blk_drew ?_ | refine blk_alloc ?_ _)); refine blk_far ?_ NB111_119.out _; (with_reducible repeat (first | refine blk_drewN ?_ _ | refine blk_drew ?_ | refine blk_alloc ?_ _)); exact BK111.out) hb); have n2_ := Aside0.mk (blk_below (g := gb119) (o := .cells #[.bool (t112.toList == ([119] : List UInt8)), .int .i64 (rd t113 0), .int .i64 (rd t113 1)] 48 (0, 0)) (by (with_reducible repeat (first | refine blk_drewN ?_ _ | refine blk_drew ?_ | refine blk_alloc ?_ _)); refine blk_put (cs := #[.bool (t112.toList == ([119] : List UInt8)), .int .i64 (rd t113 0), .int .i64 0]) ?_ 2 _ rfl; (with_reducible repeat (first | refine blk_drewN ?_ _ | refine blk_drew ?_ | refine blk_alloc ?_ _)); refine blk_put (cs := #[.bool (t112.toList == ([119] : List UInt8)), .int .i64 0, .int .i64 0]) ?_ 1 _ rfl; (with_reducible repeat (first | refine blk_drewN ?_ _ | refine blk_drew ?_ | refine blk_alloc ?_ _)); refine blk_put (cs := #[.bool false, .int .i64 0, .int .i64 0]) ?_ 0 _ rfl; (with_reducible repeat (first | refine blk_drewN ?_ _ | refine blk_drew ?_ | refine blk_alloc ?_ _)); exact BK119.out) hb); have n3_ := Aside0.mk (below_step (by repeat (first | (with_reducible first | exact HB.out | apply below_alloc | apply pw_below_drewN | apply below_drew1 | refine below_set ?_ GE111.out | refine below_set ?_ GE119.out) | exact HB.out)) hb); clear HO_5; clear BK111; clear BK119; clear HB; have HO_5 := n0_; have BK111 := n1_; have BK119 := n2_; have HB := n3_; clear n0_ n1_ n2_ n3_; (try clear hb); (try clear hb2); (try clear hk); (try clear hi); have hcz34_0 : w33.cell? ⟨gb111, 0, none⟩ = some (.bool false) := (blk_cell BK111.out 0).trans rfl; have hcz34_1 : w33.cell? ⟨gb111, 1, none⟩ = some (.int .i64 0) := (blk_cell BK111.out 1).trans rfl; have hcz34_2 : w33.cell? ⟨gb111, 2, none⟩ = some (.int .i64 0) := (blk_cell BK111.out 2).trans rfl; have hfz34_0 := blk_frozen BK111.out 0; have hfz34_1 := blk_frozen BK111.out 1; have hfz34_2 := blk_frozen BK111.out 2))
              refine bodyPost_ret (results_ct rfl _ _ gb111 48 #[.bool false, .int .i64 0, .int .i64 0] (0, 0) _ rfl (by (with_reducible repeat (first | refine blk_drewN ?_ _ | refine blk_drew ?_ | refine blk_alloc ?_ _)); refine blk_put (cs := #[.bool false, .int .i64 0, .int .i64 0]) ?_ 2 _ rfl; (with_reducible repeat (first | refine blk_drewN ?_ _ | refine blk_drew ?_ | refine blk_alloc ?_ _)); refine blk_put (cs := #[.bool false, .int .i64 0, .int .i64 0]) ?_ 1 _ rfl; (with_reducible repeat (first | refine blk_drewN ?_ _ | refine blk_drew ?_ | refine blk_alloc ?_ _)); refine blk_put (cs := #[.bool false, .int .i64 0, .int .i64 0]) ?_ 0 _ rfl; (with_reducible repeat (first | refine blk_drewN ?_ _ | refine blk_drew ?_ | refine blk_alloc ?_ _)); exact BK111.out) Tryd.underlying48 rfl (by kernel_rfl)) rfl ?_
              exact ⟨by first | rfl | (simp [errW_none, errW_some] <;> rfl) | (simp [*, errW_none, errW_some] <;> rfl), by repeat (first | (with_reducible first | exact HB.out | apply below_alloc | apply pw_below_drewN | apply below_drew1 | refine below_set ?_ GE111.out | refine below_set ?_ GE119.out) | exact HB.out)⟩
          · rw [if_neg c11] at H
            exact absurd H (by simp)
        · rw [if_neg c10] at H
          exact absurd H (by simp)
end Go.Proofs.YtanofkgnjmegdaaDoor.O
end
section
namespace Go.Proofs.YtanofkgnjmegdaaDoor.Plain
open Go Go.Lib Go.RowKit Go.Proofs.YtanofkgnjmegdaaDoor Go.Proofs.YtanofkgnjmegdaaDoor.Hand Go.Proofs.YtanofkgnjmegdaaDoor.O Go.Proofs.YtanofkgnjmegdaaDoorW.PrintWords
theorem ba_ext {a b : ByteArray} (h : a.data.toList = b.data.toList) : a = b := by
  cases a; cases b; simp at h; rw [h]
theorem ba_mk (s : ByteArray) : (⟨s.data.toList.toArray⟩ : ByteArray) = s := ba_ext (by simp)
theorem ba_append (a b : List UInt8) : (⟨a.toArray⟩ : ByteArray) ++ ⟨b.toArray⟩ = ⟨(a ++ b).toArray⟩ := ba_ext (by simp)
theorem ba_size (l : List UInt8) : (⟨l.toArray⟩ : ByteArray).size = l.length := by simp [ByteArray.size]
theorem wrap_id {x : Int} (h0 : -9223372036854775808 ≤ x) (h1 : x ≤ 9223372036854775807) : wrap64 x = x := by unfold wrap64; omega
def mkB (l : List UInt8) : ByteArray := ⟨l.toArray⟩
theorem map_mkB (l : List ByteArray) : (l.map (·.data.toList)).map mkB = l := by
  rw [List.map_map]
  conv => rhs; rw [← List.map_id l]
  apply List.map_congr_left
  intro a _
  exact ba_mk a
theorem pieces_cut (s : ByteArray) : (cutL 32 s.data.toList).map mkB = pieces s := by
  rw [← splitB_cutL 32 s]
  exact map_mkB _
theorem pieces_data (s : ByteArray) : (pieces s).map (·.data.toList) = cutL 32 s.data.toList := splitB_cutL 32 s
end Go.Proofs.YtanofkgnjmegdaaDoor.Plain
end
section
namespace Go.Proofs.YtanofkgnjmegdaaDoor.Plain
open Go Go.Lib Go.RowKit Go.Proofs.YtanofkgnjmegdaaDoor Go.Proofs.YtanofkgnjmegdaaDoor.Hand Go.Proofs.YtanofkgnjmegdaaDoor.O Go.Proofs.YtanofkgnjmegdaaDoorW.PrintWords
theorem numI_dec (u : Nat) (h : u ≤ 2147483647) : numI (mkB (decDigits u)) = ((u : Int), true) := by
  unfold numI mkB
  simp only
  rw [numP_dec u h]
theorem token_Words_any (s : ByteArray) (a1 : Int) (h0 : -9223372036854775808 ≤ a1) (h1 : a1 ≤ 9223372036854775807) (hs : s.size ≤ 140737488) : token_Words.f s a1 = some (wordsP s a1) := by
  unfold token_Words.f
  rw [if_pos ⟨hs, h0, h1⟩]
end Go.Proofs.YtanofkgnjmegdaaDoor.Plain
end
section
namespace Go.Proofs.YtanofkgnjmegdaaDoor.Plain
open Go Go.Lib Go.RowKit Go.Proofs.YtanofkgnjmegdaaDoor Go.Proofs.YtanofkgnjmegdaaDoor.Hand Go.Proofs.YtanofkgnjmegdaaDoor.O Go.Proofs.YtanofkgnjmegdaaDoorW.PrintWords
def rightB (b : Bool) (key val : Int) : Bool := decide (0 ≤ key ∧ key < 64 ∧ 0 ≤ val ∧ val ≤ 2147483647 ∧ (b = true → val ≠ 0))
theorem right_f (b : Bool) (key val : Int) : op_Right.f b key val = some (rightB b key val) := by
  unfold op_Right.f rightB
  by_cases h1 : key < 0
  · rw [if_pos h1, decide_eq_false (by omega)]
  · rw [if_neg h1]
    by_cases h2 : key ≥ 64
    · rw [if_pos h2, decide_eq_false (by omega)]
    · rw [if_neg h2]
      by_cases h3 : val < 0
      · rw [if_pos h3, decide_eq_false (by omega)]
      · rw [if_neg h3]
        by_cases h4 : val > 2147483647
        · rw [if_pos h4, decide_eq_false (by omega)]
        · rw [if_neg h4]
          cases b with
          | true => rw [if_pos rfl]; congr 1; rw [Bool.eq_iff_iff]; simp; omega
          | false => rw [if_neg (by simp)]; congr 1; symm; simp; omega
def opText (b : Bool) (key val : Int) : List UInt8 := (if b = true then 119 else 114) :: tailL [key, val]
def opParse (s : ByteArray) : Bool × Int × Int × Bool :=
  let r := wordsP s 2
  if r.2.2 = true ∧ (r.1.data.toList = [114] ∨ r.1.data.toList = [119]) ∧ rightB (decide (r.1.data.toList = [119])) (rd r.2.1 0) (rd r.2.1 1) = true then (decide (r.1.data.toList = [119]), rd r.2.1 0, rd r.2.1 1, true) else (false, 0, 0, false)
theorem words_two (s : ByteArray) (h : (wordsP s 2).2.2 = true) : (wordsP s 2).2.1.length = 2 := by
  unfold wordsP at h ⊢
  split at h
  · rename_i hc
    rw [if_pos hc]
    unfold numsOf
    simp only [List.length_map, List.length_tail]
    omega
  · simp at h
theorem parse_f (s : ByteArray) (hs : s.size ≤ 140737488) (k : Nat) (hk : 2 ≤ k) : op_Parse.f k s = some (opParse s) := by
  obtain ⟨k, rfl⟩ : ∃ j, k = j + 1 := ⟨k - 1, by omega⟩
  unfold op_Parse.f
  rw [token_Words_any s 2 (by omega) (by omega) hs]
  simp only [Option.bind_some]
  have hl := words_two s
  unfold opParse
  generalize wordsP s 2 = r at *
  obtain ⟨w, l, b⟩ := r
  simp only at *
  rw [toList_data]
  cases b with
  | false =>
    rw [if_neg (by simp)]
    simp only [op_Parse.j0]
    rw [if_pos trivial, if_neg (by simp)]
  | true =>
    rw [if_pos rfl]
    have hl2 := hl rfl
    by_cases h1 : w.data.toList = [114]
    · rw [if_pos h1]
      simp only [op_Parse.j0]
      rw [if_neg (by simp), if_pos (by omega), if_pos (by omega), toList_data, h1, right_f]
      simp only [Option.bind_some]
      have e1 : (([114] : List UInt8) == [119]) = false := by decide
      have e2 : decide (([114] : List UInt8) = [119]) = false := by decide
      rw [e1, e2]
      by_cases h2 : rightB false (rd l 0) (rd l 1) = true
      · rw [if_pos h2, if_pos ⟨trivial, .inl trivial, h2⟩]
      · rw [if_neg h2, if_neg (fun h => h2 h.2.2)]
    · rw [if_neg h1]
      by_cases h3 : w.data.toList = [119]
      · have e0 : (w.data.toList != [119]) = false := by rw [h3]; rfl
        rw [e0]
        simp only [op_Parse.j0]
        rw [if_neg (by simp), if_pos (by omega), if_pos (by omega), toList_data, h3, right_f]
        simp only [Option.bind_some]
        have e1 : (([119] : List UInt8) == [119]) = true := by decide
        rw [e1, show decide True = true from rfl]
        by_cases h2 : rightB true (rd l 0) (rd l 1) = true
        · rw [if_pos h2, if_pos ⟨trivial, .inr trivial, h2⟩]
        · rw [if_neg h2, if_neg (fun h => h2 h.2.2)]
      · have e0 : (w.data.toList != [119]) = true := by simpa using h3
        rw [e0]
        simp only [op_Parse.j0]
        rw [if_pos trivial, if_neg (by intro h; rcases h.2.1 with h | h; exact h1 h; exact h3 h)]
end Go.Proofs.YtanofkgnjmegdaaDoor.Plain
end
section
namespace Go.Proofs.YtanofkgnjmegdaaDoor.Pure
open Go Go.RowKit Go.Lib Go.Proofs.YtanofkgnjmegdaaDoor Go.Proofs.YtanofkgnjmegdaaDoor.Hand Go.Proofs.YtanofkgnjmegdaaDoor.O Go.Proofs.YtanofkgnjmegdaaDoor.Plain Go.Proofs.YtanofkgnjmegdaaDoorW.PrintWords
theorem itoa_blank (n : Int) : (32 : UInt8) ∉ itoa n := by
  unfold itoa
  split
  · simp only [List.mem_cons, not_or]
    refine ⟨by decide, fun h => ?_⟩
    have := decDigits_digit _ _ h
    simp at this
  · intro h
    have := decDigits_digit _ _ h
    simp at this
def inM (n : Int) : Bool := decide (0 ≤ n ∧ n ≤ 2147483647)
theorem numI_itoa (n : Int) (h1 : n ≤ 9223372036854775807) : numI (mkB (itoa n)) = if inM n = true then (n, true) else (0, false) := by
  by_cases h : inM n = true
  · rw [if_pos h]
    unfold inM at h
    rw [decide_eq_true_iff] at h
    obtain ⟨u, rfl⟩ := Int.eq_ofNat_of_zero_le h.1
    rw [itoa_nat]
    exact numI_dec u (by omega)
  · rw [if_neg h]
    unfold numI mkB
    simp only
    cases hp : numP (itoa n) with
    | none => rfl
    | some u =>
      exfalso
      apply h
      obtain ⟨hu, he⟩ := numP_some hp
      unfold inM
      rw [decide_eq_true_iff]
      by_cases hn : n < 0
      · unfold itoa at he
        rw [if_pos hn] at he
        have := decDigits_digit u 45 (by rw [← he]; simp)
        simp at this
      · obtain ⟨v, rfl⟩ := Int.eq_ofNat_of_zero_le (show 0 ≤ n by omega)
        rw [itoa_nat] at he
        have := decDigits_inj (by omega) (by omega) he
        omega
theorem join_pieces (x : List UInt8) (hx : (32 : UInt8) ∉ x) : ∀ l : List Int, cutL 32 (x ++ tailL l) = x :: l.map itoa
  | [] => by
    have : tailL [] = [] := rfl
    rw [this, List.append_nil, cutL_last 32 x hx]; rfl
  | n :: l => by
    have e : tailL (n :: l) = 32 :: (itoa n ++ tailL l) := by unfold tailL; simp
    rw [e, cutL_append 32 x _ hx, join_pieces (itoa n) (itoa_blank n) l]
    rfl
end Go.Proofs.YtanofkgnjmegdaaDoor.Pure
end
section
namespace Go.Proofs.YtanofkgnjmegdaaDoor.OpTexts
open Go Go.Lib Go.RowKit Go.Proofs.YtanofkgnjmegdaaDoor Go.Proofs.YtanofkgnjmegdaaDoor.Hand Go.Proofs.YtanofkgnjmegdaaDoor.Plain Go.Proofs.YtanofkgnjmegdaaDoor.O Go.Proofs.YtanofkgnjmegdaaDoorW.PrintWords
theorem parse_text (b : Bool) (key val : Int) (h : -9223372036854775808 ≤ key ∧ key ≤ 9223372036854775807 ∧ -9223372036854775808 ≤ val ∧ val ≤ 9223372036854775807) :
    opParse (mkB (opText b key val)) = if rightB b key val = true then (b, key, val, true) else (false, 0, 0, false) := by
  have hp : ∀ c : UInt8, c ≠ 32 → pieces (mkB (c :: tailL [key, val])) = [mkB [c], mkB (itoa key), mkB (itoa val)] := by
    intro c hc
    rw [← pieces_cut]
    show (cutL 32 ([c] ++ tailL [key, val])).map mkB = _
    rw [Pure.join_pieces [c] (by simp; exact fun e => hc e.symm) [key, val]]
    rfl
  have hw : ∀ c : UInt8, c ≠ 32 → wordsP (mkB (c :: tailL [key, val])) 2 = if (Pure.inM key && Pure.inM val) = true then (mkB [c], [key, val], true) else (⟨#[]⟩, [], false) := by
    intro c hc
    unfold wordsP
    rw [hp c hc]
    have hall : allNum [mkB (itoa key), mkB (itoa val)] = (Pure.inM key && Pure.inM val) := by
      unfold allNum
      simp only [List.all_cons, List.all_nil, Bool.and_true, Pure.numI_itoa key h.2.1, Pure.numI_itoa val h.2.2.2]
      by_cases h1 : Pure.inM key = true <;> by_cases h2 : Pure.inM val = true <;> simp [h1, h2]
    by_cases hm : (Pure.inM key && Pure.inM val) = true
    · rw [if_pos ⟨rfl, hall.trans hm⟩, if_pos hm]
      rw [Bool.and_eq_true] at hm
      unfold numsOf
      simp only [List.tail_cons, List.map_cons, List.map_nil, Pure.numI_itoa key h.2.1, Pure.numI_itoa val h.2.2.2, if_pos hm.1, if_pos hm.2]
      rfl
    · rw [if_neg (fun z => hm (hall.symm.trans z.2)), if_neg hm]
  have hr : rightB b key val = true → (Pure.inM key && Pure.inM val) = true := by
    intro hr
    unfold rightB at hr
    rw [decide_eq_true_iff] at hr
    unfold Pure.inM
    simp
    omega
  by_cases hm : (Pure.inM key && Pure.inM val) = true
  · have e0 : rd [key, val] 0 = key := rfl
    have e1 : rd [key, val] 1 = val := rfl
    have key2 : ∀ (c : UInt8) (b : Bool), decide ((mkB [c]).data.toList = [119]) = b → ((mkB [c]).data.toList = [114] ∨ (mkB [c]).data.toList = [119]) → c ≠ 32 →
        opParse (mkB (c :: tailL [key, val])) = if rightB b key val = true then (b, key, val, true) else (false, 0, 0, false) := by
      intro c b hb hc h32
      unfold opParse
      rw [hw c h32, if_pos hm]
      dsimp only
      rw [hb, e0, e1]
      by_cases hr2 : rightB b key val = true
      · rw [if_pos ⟨rfl, hc, hr2⟩, if_pos hr2]
      · rw [if_neg (fun z => hr2 z.2.2), if_neg hr2]
    cases b with
    | true => exact key2 119 true (by decide) (.inr rfl) (by decide)
    | false => exact key2 114 false (by decide) (.inl rfl) (by decide)
  · rw [if_neg (fun z => hm (hr z))]
    have key2 : ∀ c : UInt8, c ≠ 32 → opParse (mkB (c :: tailL [key, val])) = (false, 0, 0, false) := by
      intro c h32
      unfold opParse
      rw [hw c h32, if_neg hm]
      rfl
    cases b with
    | true => exact key2 119 (by decide)
    | false => exact key2 114 (by decide)
theorem itoa_line (n : Int) : (10 : UInt8) ∉ itoa n := by
  unfold itoa
  split
  · simp only [List.mem_cons, not_or]
    refine ⟨by decide, fun h => ?_⟩
    have := decDigits_digit _ _ h
    revert this; decide
  · intro h
    have := decDigits_digit _ _ h
    revert this; decide
end Go.Proofs.YtanofkgnjmegdaaDoor.OpTexts
namespace Go.Proofs.YtanofkgnjmegdaaDoor.OpKinds
end Go.Proofs.YtanofkgnjmegdaaDoor.OpKinds
end
section
namespace Go.Proofs.YtanofkgnjmegdaaDoor.Script
open Go Go.Lib Go.RowKit Go.Proofs.YtanofkgnjmegdaaDoor Go.Proofs.YtanofkgnjmegdaaDoor.Hand Go.Proofs.YtanofkgnjmegdaaDoor.Plain Go.Proofs.YtanofkgnjmegdaaDoor.Hist Go.Proofs.YtanofkgnjmegdaaDoor.Row3 Go.Proofs.YtanofkgnjmegdaaDoorW.PrintWords
def txnB : List UInt8 := [116, 120, 110]
def headP (s : ByteArray) : Option T4 :=
  let r := wordsP s 3
  if r.2.2 = true ∧ r.1.data.toList = txnB then some ⟨rd r.2.1 0, rd r.2.1 1, rd r.2.1 2, []⟩ else none
def opP (s : ByteArray) : Option O3 :=
  let r := opParse s
  if r.2.2.2 = true then some ⟨r.1, r.2.1, r.2.2.1⟩ else none
def addO (h : List T4) (o : O3) : List T4 := h.dropLast ++ (h.getLast?.map fun t => { t with ops := t.ops ++ [o] }).toList
def stepL (h : List T4) (s : ByteArray) : Option (List T4) :=
  match headP s with
  | some t => some (h ++ [t])
  | none =>
    match opP s with
    | none => none
    | some o => if h = [] then none else some (addO h o)
def linesF (h : List T4) (i : Nat) : List ByteArray → List T4 × Int
  | [] => (h, 0)
  | s :: r => match stepL h s with
    | some h' => linesF h' (i + 1) r
    | none => ([], (i + 1 : Nat))
theorem words_three (s : ByteArray) (h : (wordsP s 3).2.2 = true) : (wordsP s 3).2.1.length = 3 := by
  unfold wordsP at h ⊢
  split at h
  · rename_i hc
    rw [if_pos hc]
    unfold numsOf
    simp only [List.length_map, List.length_tail]
    omega
  · simp at h
theorem head_some {s : ByteArray} {t : T4} (h : headP s = some t) : O.script_head.f s = some (t.s, t.b, t.c, [], true) ∨ ¬ s.size ≤ 140737488 := by
  by_cases hs : s.size ≤ 140737488
  · left
    unfold headP at h
    unfold O.script_head.f
    rw [token_Words_any s 3 (by omega) (by omega) hs]
    have hl := words_three s
    generalize wordsP s 3 = r at *
    obtain ⟨w, l, b⟩ := r
    simp only at *
    split at h
    · rename_i hc
      cases h
      have hl3 := hl hc.1
      rw [Option.bind_some]
      rw [if_pos hc.1, toList_data, if_pos (show w.data.toList = [116, 120, 110] from hc.2), if_pos (show (0 : Int) < ((l.length : Nat) : Int) by omega), if_pos (show (1 : Int) < ((l.length : Nat) : Int) by omega), if_pos (show (2 : Int) < ((l.length : Nat) : Int) by omega)]
    · cases h
  · exact .inr hs
theorem head_none {s : ByteArray} (h : headP s = none) (hs : s.size ≤ 140737488) : O.script_head.f s = some (0, 0, 0, [], false) := by
  unfold headP at h
  unfold O.script_head.f
  rw [token_Words_any s 3 (by omega) (by omega) hs]
  generalize wordsP s 3 = r at *
  obtain ⟨w, l, b⟩ := r
  simp only at *
  split at h
  · cases h
  · rename_i hc
    rw [Option.bind_some]
    cases b with
    | false => rw [if_neg (by simp)]
    | true =>
      rw [if_pos rfl, toList_data, if_neg (show ¬ w.data.toList = [116, 120, 110] from fun e => hc ⟨rfl, e⟩)]
theorem op_some {s : ByteArray} {o : O3} (h : opP s = some o) : opParse s = (o.w, o.k, o.v, true) := by
  unfold opP at h
  dsimp only at h
  split at h
  · rename_i hc
    cases h
    generalize opParse s = r at *
    obtain ⟨a, b, c, d⟩ := r
    simp only at *
    rw [hc]
  · cases h
theorem op_none {s : ByteArray} (h : opP s = none) : ∃ a b c, opParse s = (a, b, c, false) := by
  unfold opP at h
  dsimp only at h
  split at h
  · cases h
  · rename_i hc
    generalize opParse s = r at *
    obtain ⟨a, b, c, d⟩ := r
    cases d with
    | true => exact absurd rfl hc
    | false => exact ⟨a, b, c, rfl⟩
theorem op_right {s : ByteArray} {o : O3} (h : opP s = some o) : rightB o.w o.k o.v = true := by
  have := op_some h
  unfold opParse at this
  simp only at this
  split at this
  · rename_i hc
    have e := this
    injection e with e1 e
    injection e with e2 e
    injection e with e3 e
    rw [← e1, ← e2, ← e3]
    exact hc.2.2
  · injection this with e1 e
    injection e with e2 e
    injection e with e3 e
    cases e
theorem addO_snoc (h : List T4) (t : T4) (o : O3) : addO (h ++ [t]) o = h ++ [{ t with ops := t.ops ++ [o] }] := by unfold addO; simp
end Go.Proofs.YtanofkgnjmegdaaDoor.Script
end
section
namespace Go.Proofs.YtanofkgnjmegdaaDoor.Script
open Go Go.Lib Go.RowKit Go.Proofs.YtanofkgnjmegdaaDoor Go.Proofs.YtanofkgnjmegdaaDoor.Hand Go.Proofs.YtanofkgnjmegdaaDoor.Plain Go.Proofs.YtanofkgnjmegdaaDoor.Hist Go.Proofs.YtanofkgnjmegdaaDoor.Row3 Go.Proofs.YtanofkgnjmegdaaDoorW.PrintWords
def joinC (c : UInt8) : List (List UInt8) → List UInt8
  | [] => []
  | [p] => p
  | p :: q :: r => p ++ c :: joinC c (q :: r)
theorem joinC_cutL (c : UInt8) : ∀ l : List UInt8, joinC c (cutL c l) = l
  | [] => rfl
  | x :: r => by
    have ih := joinC_cutL c r
    have hne := cutL_ne c r
    unfold cutL
    split
    · rename_i h
      cases hc : cutL c r with
      | nil => exact absurd hc hne
      | cons p q => rw [hc] at ih; show [] ++ c :: joinC c (p :: q) = x :: r; rw [ih, h]; rfl
    · cases hc : cutL c r with
      | nil => exact absurd hc hne
      | cons p q =>
        rw [hc] at ih
        show joinC c ((x :: p) :: q) = x :: r
        rw [← ih]
        cases q <;> rfl
theorem joinC_cons (c : UInt8) (p : List UInt8) : ∀ ps : List (List UInt8), joinC c (p :: ps) = p ++ ps.flatMap (fun q => c :: q)
  | [] => by simp [joinC]
  | q :: r => by
    show p ++ c :: joinC c (q :: r) = _
    rw [joinC_cons c q r]
    simp
theorem cutL_lines (c : UInt8) : ∀ ls : List (List UInt8), (∀ p ∈ ls, c ∉ p) → cutL c (ls.flatMap (fun q => q ++ [c])) = ls ++ [[]]
  | [], _ => rfl
  | p :: ls, h => by
    have : (p :: ls).flatMap (fun q => q ++ [c]) = p ++ c :: ls.flatMap (fun q => q ++ [c]) := by simp
    rw [this, cutL_append c p _ (h p (by simp)), cutL_lines c ls (fun q hq => h q (by simp [hq]))]
    rfl
theorem cutL_len (c : UInt8) : ∀ l : List UInt8, (cutL c l).length ≤ l.length + 1 ∧ ∀ p ∈ cutL c l, p.length ≤ l.length
  | [] => ⟨by simp [cutL], by simp [cutL]⟩
  | x :: r => by
    obtain ⟨h1, h2⟩ := cutL_len c r
    have hne := cutL_ne c r
    unfold cutL
    split
    · refine ⟨by simp; omega, fun p hp => ?_⟩
      rcases List.mem_cons.1 hp with rfl | hp
      · simp
      · have := h2 p hp; simp; omega
    · cases hc : cutL c r with
      | nil => exact absurd hc hne
      | cons p q =>
        rw [hc] at h1 h2
        refine ⟨by simp at h1 ⊢; omega, fun z hz => ?_⟩
        have hz : z ∈ (x :: p) :: q := hz
        rcases List.mem_cons.1 hz with rfl | hz
        · have := h2 p (by simp); simp; omega
        · have := h2 z (by simp [hz]); simp; omega
theorem num_itoa (z : ByteArray) (hz : (numI z).2 = true) : z.data.toList = itoa (numI z).1 ∧ 0 ≤ (numI z).1 ∧ (numI z).1 ≤ 2147483647 := by
  unfold numI at hz ⊢
  cases hp : numP z.data.toList with
  | none => rw [hp] at hz; simp at hz
  | some u =>
    obtain ⟨h1, h2⟩ := numP_some hp
    simp only
    rw [itoa_nat]
    exact ⟨h2, by omega, by omega⟩
theorem tail_nums : ∀ ps : List ByteArray, allNum ps = true → (ps.map (·.data.toList)).flatMap (fun q => 32 :: q) = tailL (numsOf ps) ∧ ∀ x ∈ numsOf ps, 0 ≤ x ∧ x ≤ 2147483647
  | [], _ => ⟨rfl, fun x hx => by cases hx⟩
  | p :: ps, h => by
    unfold allNum at h
    rw [List.all_cons, Bool.and_eq_true] at h
    obtain ⟨h1, h2⟩ := num_itoa p h.1
    obtain ⟨h3, h4⟩ := tail_nums ps h.2
    refine ⟨?_, fun x hx => ?_⟩
    · show 32 :: (p.data.toList) ++ (ps.map (·.data.toList)).flatMap (fun q => 32 :: q) = tailL ((numI p).1 :: numsOf ps)
      rw [h3, h1]
      rfl
    · have hx : x ∈ (numI p).1 :: numsOf ps := hx
      rcases List.mem_cons.1 hx with rfl | hx
      · exact h2
      · exact h4 x hx
theorem words_back {s wd : ByteArray} {n : Int} {l : List Int} (h : wordsP s n = (wd, l, true)) : s.data.toList = wd.data.toList ++ tailL l ∧ ∀ x ∈ l, 0 ≤ x ∧ x ≤ 2147483647 := by
  unfold wordsP at h
  split at h
  · rename_i hc
    obtain ⟨hl, hall⟩ := hc
    have hd := pieces_data s
    have hj := joinC_cutL 32 s.data.toList
    rw [← hd] at hj
    generalize pieces s = ps at *
    cases ps with
    | nil =>
      have := cutL_ne 32 s.data.toList
      rw [← hd] at this
      exact absurd rfl this
    | cons p ps =>
      simp only [List.headD_cons, List.tail_cons, Prod.mk.injEq, and_true] at h
      obtain ⟨rfl, rfl⟩ := h
      rw [List.tail_cons] at hall
      obtain ⟨h1, h2⟩ := tail_nums ps hall
      refine ⟨?_, h2⟩
      rw [← hj, List.map_cons, joinC_cons, h1]
  · simp at h
def headL (s b c : Int) : List UInt8 := txnB ++ tailL [s, b, c]
def lineO (o : O3) : List UInt8 := opText o.w o.k o.v
def linesOfT (t : T4) : List (List UInt8) := headL t.s t.b t.c :: t.ops.map lineO
def linesT (h : List T4) : List (List UInt8) := h.flatMap linesOfT
def textL (ls : List (List UInt8)) : List UInt8 := ls.flatMap (fun q => q ++ [10])
def In31 (x : Int) : Prop := 0 ≤ x ∧ x ≤ 2147483647
def NumT (t : T4) : Prop := In31 t.s ∧ In31 t.b ∧ In31 t.c ∧ ∀ o ∈ t.ops, rightB o.w o.k o.v = true
theorem head_text {s : ByteArray} {t : T4} (h : headP s = some t) : s.data.toList = headL t.s t.b t.c ∧ t.ops = [] ∧ NumT t := by
  have hl := words_three s
  unfold headP at h
  dsimp only at h
  split at h
  · rename_i hc
    obtain ⟨⟨wd, l, b⟩, hw⟩ : ∃ r, wordsP s 3 = r := ⟨_, rfl⟩
    rw [hw] at hc hl h
    simp only at hc hl
    obtain ⟨rfl, hwd⟩ := hc
    obtain ⟨h1, h2⟩ := words_back hw
    have hl := hl rfl
    obtain ⟨a, b, c, rfl⟩ : ∃ a b c, l = [a, b, c] := by
      match l, hl with
      | [a, b, c], _ => exact ⟨a, b, c, rfl⟩
    cases h
    refine ⟨?_, rfl, h2 a (by simp), h2 b (by simp), h2 c (by simp), fun o ho => by cases ho⟩
    rw [h1, hwd]
    rfl
  · cases h
theorem op_text {s : ByteArray} {o : O3} (h : opP s = some o) : s.data.toList = lineO o := by
  have hr := op_right h
  have h := op_some h
  have hl := words_two s
  unfold opParse at h
  dsimp only at h
  split at h
  · rename_i hc
    obtain ⟨⟨wd, l, b⟩, hw⟩ : ∃ r, wordsP s 2 = r := ⟨_, rfl⟩
    rw [hw] at hc hl h
    simp only at hc hl
    obtain ⟨rfl, hwd, -⟩ := hc
    obtain ⟨h1, h2⟩ := words_back hw
    have hl := hl rfl
    obtain ⟨a, b, rfl⟩ : ∃ a b, l = [a, b] := by
      match l, hl with
      | [a, b], _ => exact ⟨a, b, rfl⟩
    simp only [Prod.mk.injEq] at h
    obtain ⟨e1, e2, e3, _⟩ := h
    rw [h1]
    unfold lineO opText
    rw [← e1, ← e2, ← e3]
    show wd.data.toList ++ tailL [a, b] = (if decide (wd.data.toList = [119]) = true then 119 else 114) :: tailL [a, b]
    rcases hwd with h | h
    · rw [h]; rfl
    · rw [h]; rfl
  · simp at h
theorem pieces_join (x : List UInt8) (hx : (32 : UInt8) ∉ x) (l : List Int) : pieces (mkB (x ++ tailL l)) = mkB x :: l.map (fun n => mkB (itoa n)) := by
  rw [← pieces_cut]
  show (cutL 32 (x ++ tailL l)).map mkB = _
  rw [Pure.join_pieces x hx l]
  simp [Function.comp_def]
theorem numI_in {x : Int} (h : In31 x) : numI (mkB (itoa x)) = (x, true) := by
  rw [Pure.numI_itoa x (by unfold In31 at h; omega), if_pos (by unfold Pure.inM; rw [decide_eq_true_iff]; exact h)]
theorem head_back {s b c : Int} (h1 : In31 s) (h2 : In31 b) (h3 : In31 c) : headP (mkB (headL s b c)) = some ⟨s, b, c, []⟩ := by
  have hw : wordsP (mkB (headL s b c)) 3 = (mkB txnB, [s, b, c], true) := by
    unfold wordsP headL
    rw [pieces_join txnB (by decide)]
    have ha : allNum ([s, b, c].map fun n => mkB (itoa n)) = true := by
      unfold allNum
      simp only [List.map_cons, List.map_nil, List.all_cons, List.all_nil, numI_in h1, numI_in h2, numI_in h3]
      rfl
    rw [if_pos ⟨rfl, ha⟩]
    unfold numsOf
    simp only [List.tail_cons, List.map_cons, List.map_nil, numI_in h1, numI_in h2, numI_in h3]
    rfl
  unfold headP
  rw [hw]
  rfl
theorem op_back {o : O3} (h : rightB o.w o.k o.v = true) : opP (mkB (lineO o)) = some o ∧ headP (mkB (lineO o)) = none := by
  have hb := h
  unfold rightB at hb
  rw [decide_eq_true_iff] at hb
  constructor
  · unfold opP lineO
    rw [OpTexts.parse_text o.w o.k o.v (by omega), if_pos h]
    rfl
  · unfold headP
    have e : wordsP (mkB (lineO o)) 3 = (⟨#[]⟩, [], false) := by
      unfold wordsP lineO opText
      have hx : (32 : UInt8) ∉ [(if o.w = true then 119 else 114 : UInt8)] := by cases o.w <;> decide
      have := pieces_join [(if o.w = true then 119 else 114 : UInt8)] hx [o.k, o.v]
      rw [show (if o.w = true then (119 : UInt8) else 114) :: tailL [o.k, o.v] = [(if o.w = true then 119 else 114 : UInt8)] ++ tailL [o.k, o.v] from rfl, this]
      rw [if_neg (by simp)]
    rw [e]
    rfl
theorem linesT_snoc (h : List T4) (t : T4) : linesT (h ++ [t]) = linesT h ++ linesOfT t := by simp [linesT]
theorem step_lines {h h' : List T4} {s : ByteArray} (e : stepL h s = some h') (hn : ∀ t ∈ h, NumT t) : linesT h' = linesT h ++ [s.data.toList] ∧ ∀ t ∈ h', NumT t := by
  unfold stepL at e
  cases hh : headP s with
  | some t =>
    rw [hh] at e
    cases e
    obtain ⟨h1, h2, h3⟩ := head_text hh
    refine ⟨?_, fun u hu => ?_⟩
    · rw [linesT_snoc]
      unfold linesOfT
      rw [h1, h2]
      rfl
    · rcases List.mem_append.1 hu with hu | hu
      · exact hn u hu
      · simp at hu; subst hu; exact h3
  | none =>
    rw [hh] at e
    dsimp only at e
    cases ho : opP s with
    | none => rw [ho] at e; cases e
    | some o =>
      rw [ho] at e
      dsimp only at e
      split at e
      · cases e
      · rename_i hne
        cases e
        obtain ⟨g, t, rfl⟩ : ∃ g t, h = g ++ [t] := ⟨h.dropLast, h.getLast hne, (List.dropLast_concat_getLast hne).symm⟩
        rw [addO_snoc, linesT_snoc, linesT_snoc]
        refine ⟨?_, fun u hu => ?_⟩
        · unfold linesOfT
          rw [op_text ho]
          simp
        · rcases List.mem_append.1 hu with hu | hu
          · exact hn u (List.mem_append_left _ hu)
          · simp at hu
            subst hu
            obtain ⟨a, b, c, d⟩ := hn t (by simp)
            refine ⟨a, b, c, fun x hx => ?_⟩
            rcases List.mem_append.1 hx with hx | hx
            · exact d x hx
            · simp at hx; subst hx; exact op_right ho
theorem linesF_lines : ∀ (ls : List ByteArray) (h : List T4) (i : Nat), (∀ t ∈ h, NumT t) → ((linesF h i ls).2 = 0 ∧ linesT (linesF h i ls).1 = linesT h ++ ls.map (·.data.toList) ∧ ∀ t ∈ (linesF h i ls).1, NumT t) ∨ (0 < (linesF h i ls).2 ∧ (linesF h i ls).2 ≤ ((i + ls.length : Nat) : Int) ∧ (linesF h i ls).1 = [])
  | [], h, i, hn => .inl ⟨rfl, by simp [linesF], hn⟩
  | s :: r, h, i, hn => by
    unfold linesF
    cases e : stepL h s with
    | none => exact .inr ⟨by dsimp only; omega, by dsimp only; simp; omega, rfl⟩
    | some h' =>
      obtain ⟨h1, h2⟩ := step_lines e hn
      dsimp only
      rcases linesF_lines r h' (i + 1) h2 with ⟨a, b, c⟩ | ⟨a, b, c⟩
      · refine .inl ⟨a, ?_, c⟩
        rw [b, h1]
        simp
      · exact .inr ⟨a, by simp at b ⊢; omega, c⟩
theorem linesF_ops (h : List T4) (s b c : Int) (rest : List ByteArray) : ∀ (ops acc : List O3) (i : Nat), (∀ o ∈ ops, rightB o.w o.k o.v = true) → linesF (h ++ [⟨s, b, c, acc⟩]) i (ops.map (fun o => mkB (lineO o)) ++ rest) = linesF (h ++ [⟨s, b, c, acc ++ ops⟩]) (i + ops.length) rest
  | [], acc, i, _ => by simp
  | o :: ops, acc, i, hr => by
    obtain ⟨h1, h2⟩ := op_back (hr o (by simp))
    rw [List.map_cons, List.cons_append, linesF]
    unfold stepL
    rw [h2, h1]
    dsimp only
    rw [if_neg (by simp), addO_snoc]
    dsimp only
    rw [linesF_ops h s b c rest ops (acc ++ [o]) (i + 1) (fun x hx => hr x (by simp [hx]))]
    simp only [List.append_assoc, List.singleton_append, List.length_cons]
    rw [show i + 1 + ops.length = i + (ops.length + 1) by omega]
theorem linesF_back (rest : List ByteArray) : ∀ (rows h : List T4) (i : Nat), (∀ t ∈ rows, NumT t) → linesF h i ((linesT rows).map mkB ++ rest) = linesF (h ++ rows) (i + (linesT rows).length) rest
  | [], h, i, _ => by simp [linesT]
  | t :: rows, h, i, hn => by
    obtain ⟨h1, h2, h3, h4⟩ := hn t (by simp)
    have e : linesT (t :: rows) = headL t.s t.b t.c :: (t.ops.map lineO ++ linesT rows) := by simp [linesT, linesOfT]
    rw [e, List.map_cons, List.cons_append, linesF]
    unfold stepL
    rw [head_back h1 h2 h3]
    dsimp only
    rw [List.map_append, List.append_assoc, List.map_map]
    have := linesF_ops h t.s t.b t.c ((linesT rows).map mkB ++ rest) t.ops [] (i + 1) h4
    rw [Function.comp_def, this, List.nil_append, linesF_back rest rows _ _ (fun x hx => hn x (by simp [hx]))]
    simp only [List.append_assoc, List.singleton_append, List.length_cons, List.length_append, List.length_map]
    rw [show i + 1 + t.ops.length + (linesT rows).length = i + (t.ops.length + (linesT rows).length + 1) by omega]
theorem linesT_length (h : List T4) : (linesT h).length = h.length + countT h := by
  induction h with
  | nil => rfl
  | cons t h ih =>
    have e : linesT (t :: h) = linesOfT t ++ linesT h := by simp [linesT]
    rw [e, List.length_append, ih, countT_cons]
    simp [linesOfT]
    omega
theorem line_free (h : List T4) : ∀ p ∈ linesT h, (10 : UInt8) ∉ p := by
  have tl : ∀ l : List Int, (10 : UInt8) ∉ tailL l := by
    intro l hm
    unfold tailL at hm
    obtain ⟨n, _, hn⟩ := List.mem_flatMap.1 hm
    rcases List.mem_cons.1 hn with e | hn
    · revert e; decide
    · exact OpTexts.itoa_line n hn
  intro p hp
  obtain ⟨t, _, ht⟩ := List.mem_flatMap.1 hp
  rcases List.mem_cons.1 ht with rfl | ht
  · unfold headL
    intro hm
    rcases List.mem_append.1 hm with hm | hm
    · revert hm; decide
    · exact tl _ hm
  · obtain ⟨o, _, rfl⟩ := List.mem_map.1 ht
    unfold lineO opText
    intro hm
    rcases List.mem_cons.1 hm with hm | hm
    · revert hm; cases o.w <;> decide
    · exact tl _ hm
end Go.Proofs.YtanofkgnjmegdaaDoor.Script
end
