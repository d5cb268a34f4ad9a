/- WholeLines, walked. -/
import Derived.Test.YtegeaomemgcciabDoorWholePlain
import Derived.Deep.RegionHeld3
import Derived.Deep.RegionWith
import Derived.Deep.QuietTactic
import Derived.BigQuiet
import Derived.StillTailTactics
import Derived.Outline
namespace Go.Proofs.YtegeaomemgcciabDoor.WholeLines
open Go Go.Lib Go.RowKit Go.Proofs.YtegeaomemgcciabDoor Go.Proofs.YtegeaomemgcciabDoor.Hand Go.Proofs.YtegeaomemgcciabDoor.Plain Go.Proofs.YtegeaomemgcciabDoor.OpsArg Go.Proofs.YtegeaomemgcciabDoor.Q Go.Proofs.YtegeaomemgcciabDoorW.PrintWords
theorem parseR_any (s : ByteArray) (hs : s.size ≤ 140737488) (b : Bool) (key val : Int) (ok : Bool) (hr : opParse s = (b, key, val, ok)) (w : World) (HY : Laid w) :
    Calls Tryd.prog 14 #[.string s] w fun e w' => e = .returned (.tuple #[.agg #[.bool b, .int .i64 key, .int .i64 val], .bool ok]) ∧ Below w.heap.size w w' := by
  have := parse_any s hs w HY
  rw [hr] at this
  exact this

theorem two_cells {W : World} {B : Nat} {v : Value} {k x : Int} (h : Kd.R (Kd.int .i64) 3 W B (fun _ => True) v [k, x]) :
    ∃ g c, v = .slice (some ⟨g, 0, none⟩) 2 c ∧ 2 ≤ c ∧ B ≤ g ∧ g < W.heap.size ∧ W.cell? ⟨g, 0, none⟩ = some (.int .i64 k) ∧ W.cell? ⟨g, 1, none⟩ = some (.int .i64 x) := by
  obtain ⟨g, c, hv, hB, hlt, _⟩ := Kd.R_form h (by simp)
  subst hv
  obtain ⟨_, hc, hr⟩ := Kd.R_reads' h
  obtain ⟨ad, e0, c0⟩ := Kd.at_int hr 0 (by omega) (by simp)
  obtain ⟨ad1, e1, c1⟩ := Kd.at_int hr 1 (by omega) (by simp)
  cases e0
  cases e1
  exact ⟨g, c, rfl, hc, hB, hlt, by simpa [rd, Addr.add] using c0, by simpa [rd, Addr.add] using c1⟩

theorem rightR_any (b : Bool) (key val : Int) (r : Bool) (h : rightB b key val = r) (w : World) (HY : Laid w) : Calls Tryd.prog 20 #[.agg #[.bool b, .int .i64 key, .int .i64 val]] w fun e w' => e = .returned (.bool r) ∧ Below w.heap.size w w' := by
  have := right_any b key val w HY
  rw [h] at this
  exact this

theorem twords_any (s : ByteArray) (hs : s.size ≤ 140737488) (r : ByteArray × List Int × Bool) (hr : wordsP s 2 = r) (w : World) (HY : Laid w) :
    Calls Tryd.prog 19 #[.string s, .int .i64 2] w fun e w' => ∃ v1_ : Value, e = .returned (.tuple #[.string r.1, v1_, .bool r.2.2]) ∧ Kd.R (Kd.int .i64) 3 w' w.heap.size (fun _ => True) v1_ r.2.1 ∧ Below w.heap.size w w' :=
  token_Words.calls s 2 _ _ _ w (by rw [token_Words_any s 2 (by omega) (by omega) hs, hr]) HY

theorem may_any (A : Option Addr) (c : Nat) (l : List S36) (n : Nat) (hn : l.length = n) (w : World) (hr : Kd.C k36 w A l.length l) (hc : l.length ≤ c) (hl : n ≤ 100) (r : Int) (h : (if l.all mayOne = true then (1 : Int) else 0) = r) (HY : Laid w) :
    Calls Tryd.prog 16 #[.slice A n c] w fun e w' => e = .returned (.int .i64 r) ∧ Below w.heap.size w w' := by
  subst hn
  exact burgagelaw05_May.calls (l.length + 1) A c l r w hr hc (by rw [may_f l (by omega) _ (Nat.le_refl _), h]) HY

/-- Ahead of a round of the first loop: the text of so many operations is joined. -/
def Rel1 (l : List S36) (w : World) (v5 i : Value) (wr : World) : Prop :=
  ∃ k, k ≤ l.length ∧ v5 = .string (mkB (textOf (l.take k))) ∧ i = .int .i64 (k : Int) ∧ Below w.heap.size w wr

/-- .. of the second. -/
def Rel2 (n : Nat) (w3 : World) (i : Value) (wr : World) : Prop :=
  ∃ j, j ≤ n ∧ i = .int .i64 (j : Int) ∧ Below w3.heap.size w3 wr

set_option maxHeartbeats 1000000 in
set_option maxRecDepth 100000 in
theorem walk_all (A : Option Addr) (c : Nat) (l : List S36) (w : World) (hr : Kd.C k36 w A l.length l) (hc : l.length ≤ c) (hw : ∀ o ∈ l, WfOp o) (HY : Laid w) :
    Calls Tryd.prog 5 #[.slice A l.length c] w fun e w' => e = .returned (.bool true) ∧ Below w.heap.size w w' := by
  obtain ⟨n, hn⟩ : ∃ n, l.length = n := ⟨_, rfl⟩
  have HN := Lib.hid hn
  have HW := Lib.hid hw
  have HR := Lib.hid hr
  have HC := Lib.hid hc
  rw [hn]
  clear hw hr hc hn
  go_enter Tryd.func5, Tryd.ntmps5
  go_wp2_with fail
  refine (parse_any ⟨#[119, 32, 51, 32, 49, 55]⟩ (by decide) _ HY).mono ?_
  rw [parse_w317]
  rintro e w1 ⟨rfl, h1⟩
  go_wp2_with fail
  obtain ⟨W, hW⟩ : ∃ W, w1.alloc (.cells #[.bool true, .int .i64 3, .int .i64 17] 36) = W := ⟨_, rfl⟩
  have gW : Below w.heap.size w W := hW ▸ (h1.alloc h1.size _)
  have B1 : W.heap[w1.heap.size]? = some (.cells #[.bool true, .int .i64 3, .int .i64 17] 36) := by
    rw [← hW]; exact alloc_at w1 _
  rw [hW]
  clear hW
  obtain ⟨a0, a1, a2⟩ := OpKinds.op_cells B1
  have hV0 : w1.heap.size < W.heap.size := (Array.getElem?_eq_some_iff.1 B1).1
  have HYV := HY.below gW
  go_region_held3 (fun w' => w'.cell? ⟨w1.heap.size, 0, none⟩ = some (.bool true) ∧ w'.cell? ⟨w1.heap.size, 1, none⟩ = some (.int .i64 3) ∧ w'.cell? ⟨w1.heap.size, 2, none⟩ = some (.int .i64 17) ∧ Below W.heap.size W w') (repeat' (first | assumption | exact Below.refl _ _ | (apply Below.drew) | apply And.intro | (simp [*]; done)))
    (first
      | (go_at_call 15; refine (write_any 3 17 _ (HYV.below (by first | assumption | exact (Below.refl _ W).drew | (apply Below.drew; assumption)))).mono ?_; rintro e w9 ⟨rfl, k9⟩; have kk9 : Below W.heap.size W w9 := Below.trans (b := _) (by first | assumption | exact (Below.refl _ W).drew | (apply Below.drew; assumption)) (k9.mono (by first | exact Nat.le_refl _ | exact kk8.size)); have kk8 := kk9; have q0 := (kk9.cell (p := ⟨w1.heap.size, 0, none⟩) hV0).trans a0; have q1 := (kk9.cell (p := ⟨w1.heap.size, 1, none⟩) hV0).trans a1; have q2 := (kk9.cell (p := ⟨w1.heap.size, 2, none⟩) hV0).trans a2))
  have g9 : Below w.heap.size w w9 := gW.trans (kk9.mono gW.size)
  have HY9 := HY.below g9
  clear q0 q1 q2 a0 a1 a2 kk9 kk8 k9 hV0 HYV B1 gW h1
  by_cases hl : n ≤ 100
  · have hng : ¬ ((n : Int) > 100) := by omega
    by_cases hall : l.all mayOne = true
    · have hrv : (if l.all mayOne = true then (1 : Int) else 0) = 1 := if_pos hall
      have HRV := Lib.hid hrv
      have HALL := Lib.hid hall
      clear hrv hall
      go_wp2_with fail
      refine (may_any A c l n HN.out _ (Kd.C_below HR.out g9) HC.out hl _ HRV.out HY9).mono ?_
      rintro e w2 ⟨rfl, h2⟩
      have g2 : Below w.heap.size w w2 := g9.trans (h2.mono g9.size)
      clear HRV h2 HY9 g9
      go_wp2_with fail
      go_loopw [5, 7, 38] (fun v5 v7 i wr => Rel1 l w v5 i wr) (fun _ _ i _ => n - (RowKit.intOf i).toNat)
      case atStart => exact ⟨0, Nat.zero_le _, rfl, rfl, g2⟩
      case round =>
        obtain ⟨k, hk, rfl, rfl, gk⟩ := hrel
        by_cases hlt : k < n
        · have hkl : k < l.length := by rw [HN.out]; exact hlt
          have hi1 : (k : Int) < (l.length : Int) := by omega
          obtain ⟨ad, e0, x0, x1, x2⟩ := at_T36 HR.out (k : Int) (by omega) hi1
          cases e0
          have hrd : rd_T36 l (k : Int) = l[k] := by
            unfold rd_T36
            simp [List.getD_eq_getElem?_getD, List.getElem?_eq_getElem hkl]
          rw [hrd] at x0 x1 x2
          have hwf := HW.out l[k] (List.getElem_mem hkl)
          have htk : l.take (k + 1) = l.take k ++ [l[k]] := List.take_succ_eq_append_getElem hkl
          clear hrd
          generalize l[k] = o at x0 x1 x2 hwf htk
          obtain ⟨b, key, val⟩ := o
          simp only [Int.toNat_natCast] at x0 x1 x2
          have X0 := (gk.cell (World.block_lt_of_cell? w _ x0)).trans x0
          have X1 := (gk.cell (World.block_lt_of_cell? w _ x1)).trans x1
          have X2 := (gk.cell (World.block_lt_of_cell? w _ x2)).trans x2
          clear x0 x1 x2 hi1 hkl
          have HTK := Lib.hid htk
          have HWF := Lib.hid hwf
          clear htk hwf
          go_wp2_with fail
          obtain ⟨V, hV⟩ : ∃ V, wr.alloc (.cells #[.bool b, .int .i64 key, .int .i64 val] 36) = V := ⟨_, rfl⟩
          have gV : Below w.heap.size w V := hV ▸ (gk.alloc gk.size _)
          rw [hV]
          clear hV
          obtain ⟨y1, y2⟩ := i64_of_wf HWF.out.1
          obtain ⟨y3, y4⟩ := i64_of_wf HWF.out.2
          refine (text_any b key val y1 y2 y3 y4 _ (HY.below gV)).mono ?_
          rintro e w3 ⟨rfl, h3⟩
          have g3 : Below w.heap.size w w3 := gV.trans (h3.mono gV.size)
          have q1 : ¬ 9223372036854775807 < (mkB (opText b key val)).size + 1 := by
            have := line_length ⟨b, key, val⟩ HWF.out
            unfold lineOf at this
            unfold mkB; rw [ba_size]; dsimp only at this; omega
          have q2 : ¬ 9223372036854775807 < (mkB (textOf (l.take k))).size + ((mkB (opText b key val)).size + 1) := by
            have := line_length ⟨b, key, val⟩ HWF.out
            have h5 := text_length (l.take k) (fun o ho => HW.out o (List.mem_of_mem_take ho))
            have h6 := List.length_take_le k l
            unfold lineOf at this
            unfold mkB; rw [ba_size, ba_size]; dsimp only at this; omega
          go_wp2_with fail
          go_roundw
          case rel =>
            refine ⟨k + 1, by rw [HN.out]; omega, ?_, by go_num, g3⟩
            rw [HTK.out]
            have e : textOf (l.take k ++ [⟨b, key, val⟩]) = textOf (l.take k) ++ (opText b key val ++ [10]) := by simp [textOf, lineOf]
            rw [e]
            unfold mkB
            rw [← ba_append, ← ba_append]
          case measure => simp [RowKit.intOf]; omega
        · have hke : k = n := by have := HN.out; omega
          subst hke
          have ht : l.take k = l := by rw [← HN.out, List.take_length]
          rw [ht]
          clear ht
          have hL := lines_text l (by
            have h5 := text_length l HW.out
            have := HN.out
            omega)
          obtain ⟨T, hT⟩ : ∃ T, mkB (textOf l) = T := ⟨_, rfl⟩
          rw [hT] at hL ⊢
          have HL := Lib.hid hL
          clear hL hT
          go_wp2_with fail
          refine (token_Lines.calls T _ _ _ HL.out (HY.below gk)).mono ?_
          rintro e w3 ⟨v, rfl, hv, h3⟩
          have g3 : Below w.heap.size w w3 := gk.trans (h3.mono gk.size)
          obtain ⟨A2, c2, rfl, hc2, hr2⟩ := Kd.R_reads hv
          rw [List.length_map, HN.out]
          rw [List.length_map, HN.out] at hr2 hc2
          clear hv
          have HR2 := Lib.hid hr2
          clear hr2
          go_wp2_with fail
          go_loopw [64] (fun i wr => Rel2 k w3 i wr) (fun i _ => k - (RowKit.intOf i).toNat)
          case atStart => exact ⟨0, Nat.zero_le _, rfl, Below.refl _ _⟩
          case round =>
            obtain ⟨j, hj, rfl, kj⟩ := hrel
            have gj : Below w.heap.size w wr := g3.trans (kj.mono g3.size)
            by_cases hlt : j < k
            · have hjl : j < l.length := by rw [HN.out]; exact hlt
              have hi1 : (j : Int) < (l.length : Int) := by omega
              obtain ⟨ad, e0, x0, x1, x2⟩ := at_T36 HR.out (j : Int) (by omega) hi1
              cases e0
              have hrd : rd_T36 l (j : Int) = l[j] := by
                unfold rd_T36
                simp [List.getD_eq_getElem?_getD, List.getElem?_eq_getElem hjl]
              obtain ⟨ad2, e2, s0⟩ := Kd.at_string HR2.out (j : Int) (by omega) (by omega)
              cases e2
              have hrs : rdOf ByteArray.empty (l.map fun o => mkB (lineOf o)) (j : Int) = mkB (lineOf l[j]) := by
                unfold rdOf
                simp [List.getD_eq_getElem?_getD, List.getElem?_eq_getElem hjl]
              rw [hrs] at s0
              rw [hrd] at x0 x1 x2
              have hwf := HW.out l[j] (List.getElem_mem hjl)
              have hmay := (List.all_eq_true.1 HALL.out) l[j] (List.getElem_mem hjl)
              clear hrd hrs
              generalize l[j] = o at x0 x1 x2 hwf hmay s0
              obtain ⟨b, key, val⟩ := o
              have hmay' : rightB b key val = true := hmay
              have hsz : (mkB (opText b key val)).size ≤ 140737488 := by
                have := line_length ⟨b, key, val⟩ hwf
                unfold lineOf at this
                unfold mkB; rw [ba_size]; dsimp only at this; omega
              obtain ⟨y1, y2⟩ := i64_of_wf hwf.1
              obtain ⟨y3, y4⟩ := i64_of_wf hwf.2
              have hp := OpTexts.parse_text b key val ⟨y1, y2, y3, y4⟩
              rw [if_pos hmay'] at hp
              have hwd := words_text b key val hmay'
              replace s0 : w3.cell? (ad2.add (j : Int).toNat) = some (.string (mkB (opText b key val))) := s0
              simp only [Int.toNat_natCast] at x0 x1 x2 s0
              obtain ⟨S, hS⟩ : ∃ S, mkB (opText b key val) = S := ⟨_, rfl⟩
              obtain ⟨wd, hwdd⟩ : ∃ wd, mkB [if b = true then (119 : UInt8) else 114] = wd := ⟨_, rfl⟩
              rw [hS] at hp hwd s0 hsz
              rw [hwdd] at hwd
              have ew : (wd.toList == [119]) = b := by
                rw [← hwdd, toList_data]
                unfold mkB
                cases b <;> rfl
              have X0 := (gj.cell (World.block_lt_of_cell? w _ x0)).trans x0
              have X1 := (gj.cell (World.block_lt_of_cell? w _ x1)).trans x1
              have X2 := (gj.cell (World.block_lt_of_cell? w _ x2)).trans x2
              have S0 := (kj.cell (World.block_lt_of_cell? w3 _ s0)).trans s0
              clear x0 x1 x2 s0 hi1 hjl hwf hmay y1 y2 y3 y4 hS hwdd
              have HP := Lib.hid hp
              have HWD := Lib.hid hwd
              have HM := Lib.hid hmay'
              have HSZ := Lib.hid hsz
              clear hp hwd hmay' hsz
              go_wp2_with fail
              refine (parseR_any S HSZ.out b key val true HP.out _ (HY.below gj)).mono ?_
              rintro e w4 ⟨rfl, h4⟩
              have k4 : Below w3.heap.size w3 w4 := kj.trans (h4.mono kj.size)
              have g4 : Below w.heap.size w w4 := gj.trans (h4.mono gj.size)
              replace X0 := (h4.cell (World.block_lt_of_cell? wr _ X0)).trans X0
              replace X1 := (h4.cell (World.block_lt_of_cell? wr _ X1)).trans X1
              replace X2 := (h4.cell (World.block_lt_of_cell? wr _ X2)).trans X2
              clear S0
              go_wp2_with fail
              obtain ⟨V, hV⟩ : ∃ V, w4.alloc (.cells #[.bool b, .int .i64 key, .int .i64 val] 36) = V := ⟨_, rfl⟩
              have hb5 : Below w4.heap.size w4 V := hV ▸ ((Below.refl _ _).alloc (Nat.le_refl _) _)
              have gV : Below w.heap.size w V := g4.trans (hb5.mono g4.size)
              have kV : Below w3.heap.size w3 V := k4.trans (hb5.mono k4.size)
              have BX : V.heap[w4.heap.size]? = some (.cells #[.bool b, .int .i64 key, .int .i64 val] 36) := by
                rw [← hV]; exact alloc_at w4 _
              rw [hV]
              clear hV
              replace X0 := (hb5.cell (World.block_lt_of_cell? w4 _ X0)).trans X0
              replace X1 := (hb5.cell (World.block_lt_of_cell? w4 _ X1)).trans X1
              replace X2 := (hb5.cell (World.block_lt_of_cell? w4 _ X2)).trans X2
              refine (twords_any S HSZ.out _ HWD.out _ (HY.below gV)).mono ?_
              rintro e w5 ⟨v, rfl, hv, h5⟩
              have g5 : Below w.heap.size w w5 := gV.trans (h5.mono gV.size)
              have k5 : Below w3.heap.size w3 w5 := kV.trans (h5.mono kV.size)
              obtain ⟨g, cc, rfl, hcc, hB, hlt5, c0, c1⟩ := two_cells hv
              clear hv
              replace X0 := (h5.cell (World.block_lt_of_cell? V _ X0)).trans X0
              replace X1 := (h5.cell (World.block_lt_of_cell? V _ X1)).trans X1
              replace X2 := (h5.cell (World.block_lt_of_cell? V _ X2)).trans X2
              have B5 := Plain.blk_below BX h5
              obtain ⟨o0, o1, o2⟩ := OpKinds.op_cells B5
              clear BX B5
              have HY5 := HY.below g5
              go_wp2_with fail
              go_still_tail 39, (by kernel_rfl)
              go_wp2_with fail
              have k6 : Below w5.heap.size w5 w5.drew := (Below.refl _ _).drew
              refine (rightR_any b key val true HM.out _ (HY5.below k6)).mono ?_
              rintro e w6 ⟨rfl, k6'⟩
              have k7 : Below w5.heap.size w5 w6 := k6.trans k6'
              have g7 : Below w3.heap.size w3 w6 := k5.trans (k7.mono k5.size)
              go_wp2_with fail
              go_roundw
              case rel => exact ⟨j + 1, by omega, by go_num, g7⟩
              case measure => simp [RowKit.intOf]; omega
            · have hje : j = k := by omega
              subst hje
              go_wp2_with fail
              go_ret
              exact ⟨rfl, gj⟩
    · have hrv : (if l.all mayOne = true then (1 : Int) else 0) = 0 := if_neg hall
      have HRV := Lib.hid hrv
      clear hrv hall
      go_wp2_with fail
      refine (may_any A c l n HN.out _ (Kd.C_below HR.out g9) HC.out hl _ HRV.out HY9).mono ?_
      rintro e w2 ⟨rfl, h2⟩
      go_wp2_with fail
      go_ret
      exact ⟨rfl, g9.trans (h2.mono g9.size)⟩
  · have hng : (n : Int) > 100 := by omega
    go_wp2_with fail
    go_ret
    exact ⟨rfl, g9⟩
end Go.Proofs.YtegeaomemgcciabDoor.WholeLines
