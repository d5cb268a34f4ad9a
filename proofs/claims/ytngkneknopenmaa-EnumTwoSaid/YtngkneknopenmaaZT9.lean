/- qr3 of this claim, joined by a program of this session: the zS that its theorem uses. -/
import Derived.Test.YtngkneknopenmaaZT3
import Derived.Test.YtngkneknopenmaaZT4
import Derived.Test.YtngkneknopenmaaZT6
import Derived.Carry
import Derived.Sort.OwnSorted
set_option linter.unusedVariables false
set_option linter.unusedSimpArgs false
section
namespace Go.Proofs.Ytngkneknopenmaa.zM
open Go Go.RowKit Go.Proofs.Ytngkneknopenmaa.qa9 Go.Proofs.Ytngkneknopenmaa.qi7
theorem zs6 : (Try.prog.info? 51).map (fun i => (i.zero, i.size, i.bytes)) = some (some (.agg #[.bool false, .int .i64 0, .int .i64 0]), 3, 24) := by kernel_rfl
theorem alloc_at (w : World) (o : Obj) : (w.alloc o).heap[w.heap.size]? = some o := by
 show (w.heap.push o)[w.heap.size]? = some o
 exact Array.getElem?_push_size
def qQ7 (ops : List O3) : Int → Option Value := fun k => (qF3 ops k).map zC2
theorem jV8 (ops : List O3) (o : O3) (hw : o.w = true) : qQ7 (ops ++ [o]) = upd (qQ7 ops) o.k (zC2 o) := by
 funext k
 unfold qQ7 upd
 rw [jr5]
 unfold jr4
 rw [if_pos hw]
 split <;> simp_all
theorem zf6 (ops : List O3) (o : O3) (hw : o.w = false) : qQ7 (ops ++ [o]) = qQ7 ops := by
 unfold qQ7
 rw [jr5]
 unfold jr4
 rw [if_neg (by simp [hw])]
theorem ji7 {x : Int} (h0 : -9223372036854775808 ≤ x) (h1 : x ≤ 9223372036854775807) : (Lit.int .i64 x).wf = true := by
 show (decide (IntKind.i64.min ≤ x) && decide (x ≤ IntKind.i64.max)) = true
 rw [show IntKind.i64.min = -9223372036854775808 by decide, show IntKind.i64.max = 9223372036854775807 by decide]
 simp [h0, h1]
def Qq1 (ops : List O3) (w : World) (B n : Nat) (v : Value) (wr : World) : Prop :=
 ∃ i s, i ≤ n ∧ v = .int .i64 ((i : Nat) : Int) ∧ s ≤ i ∧ IM Try.prog 3 wr (B + 1) (qQ7 (ops.take i)) s ∧ Below B w wr
def Qq2 (ops : List O3) (w : World) (R s : Nat) (v : Value) (wr : World) : Prop :=
 ∃ (l : List O3) (cnt : Nat) (left : Int → Bool), RG Try.prog 3 wr (w.heap.size + 1) R (qQ7 ops) s left cnt ∧ wr.ownsRow (w.heap.size + 2) 51 3 v l.length (flat l) ∧ v ≠ .slice none 0 0 ∧ Below w.heap.size w wr ∧ l.length + cnt ≤ s ∧
  l.Nodup ∧ ∀ o, o ∈ l ↔ (qF3 ops o.k = some o ∧ left o.k = false)
theorem jK9 {ops l : List O3} {left : Int → Bool} {o : O3} (hn : l.Nodup) (hm : ∀ p, p ∈ l ↔ (qF3 ops p.k = some p ∧ left p.k = false)) (ho : qF3 ops o.k = some o) (hl : left o.k = true) :
  (l ++ [o]).Nodup ∧ ∀ p, p ∈ l ++ [o] ↔ (qF3 ops p.k = some p ∧ (left p.k && !decide (p.k = o.k)) = false) := by
 have hno : o ∉ l := fun h => by have := ((hm o).1 h).2; rw [hl] at this; cases this
 refine ⟨List.nodup_append.2 ⟨hn, by simp, fun a ha b hb => by rintro rfl; simp at hb; subst hb; exact hno ha⟩, fun p => ?_⟩
 rw [List.mem_append, hm p, List.mem_singleton]
 constructor
 ·rintro (⟨h1, h2⟩ | rfl)
  ·exact ⟨h1, by simp [h2]⟩
  ·exact ⟨ho, by simp⟩
 ·rintro ⟨h1, h2⟩
  by_cases hk : p.k = o.k
  ·right
   rw [hk, ho] at h1
   cases h1
   rfl
  ·left
   exact ⟨h1, by simpa [hk] using h2⟩
theorem zr0 (l : List O3) (o : O3) : flat (l ++ [o]) = flat l ++ o.cells := by simp [flat, List.flatMap_append]
theorem zF4 {w : World} {b r s cnt : Nat} {f : Int → Option Value} {left : Int → Bool} {base e size n : Nat} {v : Value} {xs : List Value} (h : RG Try.prog 3 w b r f s left cnt) (ho : w.ownsRow base e size v n xs) : v.ownBlock ≠ some r := by
 obtain ⟨D, l, h1, _⟩ := h
 exact fun e => row_ne_iter ho h1 e.symm
theorem zR3 {w : World} {b : Nat} {base e size n : Nat} {v : Value} {xs : List Value} (hb : b < base) (ho : w.ownsRow base e size v n xs) : v.ownBlock ≠ some b := by
 rcases ho.2 with ⟨rfl, _⟩ | ⟨g, cap, cur, rfl, hg, _⟩
 ·simp [Value.ownBlock]
 ·simp [Value.ownBlock]; omega
set_option maxHeartbeats 4000000 in
set_option maxRecDepth 100000 in
theorem jL0 (a b c : Int) (A : Option Addr) (cap : Nat) (ops : List O3) (hok : ∀ o ∈ ops, OkO o) (hlen : ops.length ≤ 5000000) (w : World) (hr : RdO w A ops) :
  Calls Try.prog 54 #[.agg #[.int .i64 a, .int .i64 b, .int .i64 c, .slice A ops.length cap]] w fun e w' => ∃ g cp l, e = .returned (.slice (some ⟨g, 0, none⟩) l.length cp) ∧ zq0 ops l ∧ l.length ≤ ops.length ∧ RdO w' (some ⟨g, 0, none⟩) l ∧ Below w.heap.size w w' := by
 obtain ⟨n, hn⟩ : ∃ n, ops.length = n := ⟨_, rfl⟩
 have HN := Lib.hid hn
 rw [hn] at hlen ⊢
 have HR := Lib.hid hr
 have HOK := Lib.hid hok
 clear hn hr hok
 have hmm := @run_makeMap Try.prog
 go_enter Try.func54, Try.ntmps54
 go_wp2_with fail
 clear hmm
 go_loopw [13] (fun v wr => Qq1 ops w w.heap.size n v wr) (fun v _ => n - (intOf v).toNat)
 case atStart =>
  refine ⟨0, 0, Nat.zero_le _, rfl, Nat.zero_le _, ?_, ?_⟩
  ·have h := IM.made (w.alloc (.cells #[.int .i64 a, .int .i64 b, .int .i64 c, .slice A n cap] 55)) Try.prog 3
   rw [show (w.alloc (.cells #[.int .i64 a, .int .i64 b, .int .i64 c, .slice A n cap] 55)).heap.size = w.heap.size + 1 by simp] at h
   exact h
  ·exact ((Below.refl _ _).alloc (Nat.le_refl _) _).alloc (by simp) _
 case round =>
  obtain ⟨i, s, hi, rfl, hsi, him, hb⟩ := hrel
  have hBr : w.heap.size + 1 < wr.heap.size := him.lt
  by_cases hlt : i < n
  ·have hltz : (i : Int) < (n : Int) := by omega
   have hil : i < ops.length := by rw [HN.out]; exact hlt
   obtain ⟨ad, rfl, hc⟩ := HR.out (by omega)
   obtain ⟨o, ho⟩ : ∃ o, ops[i]? = some o := ⟨_, List.getElem?_eq_getElem hil⟩
   obtain ⟨x0, x1, x2⟩ := hc i o ho
   replace x0 := cell_below hb x0
   replace x1 := cell_below hb x1
   replace x2 := cell_below hb x2
   have hoo := HOK.out o (List.mem_of_getElem? ho)
   have htk : ops.take (i + 1) = ops.take i ++ [o] := by rw [List.take_add_one, ho]; rfl
   have HT := Lib.hid htk
   have HO := Lib.hid hoo
   have HK := Lib.hid (ji7 (x := o.k) (by have := hoo.1; omega) (by have := hoo.2.1; omega))
   clear hc ho htk hoo hil
   obtain ⟨ow, ok, ov⟩ := o
   dsimp only at x0 x1 x2
   have jL1 := him.alloc (.cells #[.bool ow, .int .i64 ok, .int .i64 ov] 51)
   have HI2 := Lib.hid jL1
   clear jL1
   cases ow with
   | true =>
    go_wp2_with (at_mapUpdate; refine qg7 HI2.out rfl _ _ _ 115 51 rfl Try.underlying115 Try.underlying3 (by unfold maxLen; omega) rfl ok (zC2 ⟨true, ok, ov⟩) rfl rfl HK.out ?_; intro w2 zr8 hg3)
    rw [← jV8 _ ⟨true, ok, ov⟩ rfl, ← HT.out] at zr8
    have hb2 : Below w.heap.size w w2 := (hb.alloc hb.size _).grown hg3 (by have := hb.size; simp; omega) (fun j hj => by cases hj; omega)
    clear him HI2 hg3 x0 x1 x2
    go_wp2_with fail
    go_roundw
    case rel => exact ⟨i + 1, _, by omega, by go_num, by split <;> omega, zr8, hb2⟩
    case measure => (simp [intOf]; try omega)
   | false =>
    have hb2 : Below w.heap.size w (wr.alloc (.cells #[.bool false, .int .i64 ok, .int .i64 ov] 51)) := hb.alloc hb.size _
    have hlf := zf6 (ops.take i) ⟨false, ok, ov⟩ rfl
    have HLF := Lib.hid hlf
    have HB2 := Lib.hid hb2
    clear hlf hb2
    go_wp2_with fail
    go_roundw
    case rel => exact ⟨i + 1, s, by omega, by go_num, by omega, by rw [HT.out, HLF.out]; exact HI2.out, HB2.out⟩
    case measure => (simp [intOf]; try omega)
  ·have hin : i = n := by omega
   subst hin
   rw [show ops.take i = ops by rw [← HN.out, List.take_length]] at him
   have hln := him.len Try.underlying115
   obtain ⟨i0, hii, hz0, hz1, hz2⟩ := info_parts zs6
   have HIM := Lib.hid him
   clear him
   go_wp2_with (first
    | (at_make; refine wpList_make_own _ rfl _ _ 53 rfl (w.heap.size + 2) 51 i0 (.agg #[.bool false, .int .i64 0, .int .i64 0]) 3 Try.underlying53 hii hz0 hz1 .i64 .i64 (s : Int) s rfl rfl rfl (by rw [hz2]; omega) (by unfold maxLen; omega) (by omega) ?_; intro w3 hown3 hg3)
    | (at_range; refine jI2 (HIM.out.kept hg3 (by simp)) rfl _ 115 51 rfl Try.underlying115 Try.underlying3 rfl ?_; intro w4 Qh1 hg4 hs4))
   have hb4 : Below w.heap.size w w4 := (hb.grown hg3 hb.size (by simp)).grown hg4 (hb.grown hg3 hb.size (by simp)).size (by simp)
   have zW2 := hown3.kept hg4 (.inr (by simp [Value.ownBlock]))
   go_frame
   have hR2 : w.heap.size + 2 ≤ w3.heap.size := by have := hg3.size; omega
   clear hln HIM hg3 hg4 hs4 hb hBr hown3
   obtain ⟨R, hR⟩ : ∃ R, w3.heap.size = R := ⟨_, rfl⟩
   rw [hR] at Qh1 hR2 ⊢
   clear hR
   go_loopw [6] (fun v wr => Qq2 ops w R s v wr) (fun _ wr => wr.rangeLeft (w.heap.size + 1) R)
   case atStart =>
    refine ⟨[], s, _, Qh1, zW2, by simp, hb4, by simp, by simp, fun o => ?_⟩
    constructor
    ·intro h; simp at h
    ·rintro ⟨h1, h2⟩; unfold qQ7 at h2; rw [h1] at h2; simp at h2
   case round =>
    clear Qh1 zW2 hb4
    obtain ⟨l, cnt, left, hrg, hown, hnn, hb, hlc, hnd, hmem⟩ := hrel
    have HN2 := Lib.hid hnd
    have HM := Lib.hid hmem
    have HRG := Lib.hid hrg
    have HCNT := Lib.hid hrg.left
    clear hnd hmem hrg
    go_wp2_with (at_next; refine jU1 HRG.out rfl _ rfl Try.underlying3 rfl ?_ ?_)
    ·intro h0 hl0
     have hco : zq0 ops l := ⟨HN2.out, fun o => by
      constructor
      ·exact fun h => ((HM.out o).1 h).1
      ·intro h
       have ho := HOK.out o (qz7 ops _ _ h).2.2
       exact (HM.out o).2 ⟨h, hl0 _ (ji7 (by have := ho.1; omega) (by have := ho.2.1; omega))⟩⟩
     have HCO := Lib.hid hco
     clear hl0 hco h0
     rcases hown.2 with ⟨h1, _⟩ | ⟨g, cp, cur, rfl, hg, hheap, h1, h2, h3, h4⟩
     ·exact absurd h1 hnn
     have hrw : RW g (cur.toList.drop (l.length * 3)) l wr := by
      unfold RW
      rw [hheap, ← h4, List.take_append_drop]
     have hsort := jU8 g cp _ l (by omega) wr wr ⟨l, List.Perm.refl _, hrw, below_grown (Below.refl _ _)⟩
     obtain ⟨nl, hnl⟩ : ∃ nl, l.length = nl := ⟨_, rfl⟩
     have HNL := Lib.hid hnl
     rw [hnl] at hsort ⊢
     have HS := Lib.hid hsort
     clear hown hnn hheap h1 h2 h3 h4 hrw hsort hnl
     go_wp2_with fail
     refine HS.out.mono ?_
     rintro e w6 ⟨rfl, ys, hp, hrw, hgr⟩
     have hb6 : Below w.heap.size w w6 := hb.grown hgr hb.size (fun j hj => by cases hj; omega)
     have hyl : ys.length = nl := by rw [hp.length_eq, HNL.out]
     have HP := Lib.hid hp
     have HY := Lib.hid hyl
     clear hp hyl hgr HS
     go_wp2_with fail
     go_ret
     refine ⟨g, cp, ys, by rw [HY.out]; rfl, HCO.out.perm HP.out, by have := HNL.out; have := HY.out; omega, fun _ => ⟨_, rfl, fun j o ho => ?_⟩, hb6⟩
     obtain ⟨y0, y1, y2⟩ := hrw.cells j o ho
     have e : ∀ k, (⟨g, 0, none⟩ : Addr).add k = ⟨g, k, none⟩ := fun k => by unfold Addr.add; split <;> simp_all
     rw [e]
     exact ⟨y0, y1, y2⟩
    ·intro x c w5 cnt' hwx hlx hfx hrg5 hlt5 hg5 hs5 hen
     obtain ⟨o, ho, rfl⟩ : ∃ o, qF3 ops x = some o ∧ c = zC2 o := by
      unfold qQ7 at hfx
      cases h : qF3 ops x with
      | none => rw [h] at hfx; simp at hfx
      | some o => rw [h] at hfx; exact ⟨o, rfl, by simpa using hfx.symm⟩
     have hox := (qz7 ops _ _ ho).1
     subst hox
     have hcs := jK9 HN2.out HM.out ho hlx
     have hri := zF4 HRG.out hown
     have hrm := zR3 (b := w.heap.size + 1) (by omega) hown
     have hown5 := hown.kept hg5 (.inr hri)
     have hRb : w.heap.size ≤ R := by omega
     have hb5 : Below w.heap.size w w5 := hb.grown hg5 hb.size (fun j hj => by cases hj; exact hRb)
     have hown6 := (hown5.alloc (.cells #[.bool o.w, .int .i64 o.k, .int .i64 o.v] 51)).alloc (.cells #[.bool o.w, .int .i64 o.k, .int .i64 o.v] 51)
     have HCS := Lib.hid hcs
     have HO6 := Lib.hid hown6
     have HRG5 := Lib.hid hrg5
     have hsz := hb5.size
     clear hcs hown6 hown5 hown hg5 ho hfx hlx hrg5 hs5 HN2 HM HRG
     unfold zC2 at hen ⊢
     go_wp2_with (at_builtin; refine wpList_append_own_at _ rfl _ _ 53 rfl (w.heap.size + 2) 51 i0 (.agg #[.bool false, .int .i64 0, .int .i64 0]) 3 24 Try.underlying53 hii hz0 hz1 hz2 rfl (by decide) _ l.length (flat l) rfl HO6.out ⟨w5.heap.size + 1, 0, none⟩ 1 1 o.cells rfl rfl ?c1 ?c2 (by unfold maxLen; omega) (by omega) (by simp; omega) ?_)
     case c1 =>
      intro j u hj
      have h := alloc_at (w5.alloc (.cells #[.bool o.w, .int .i64 o.k, .int .i64 o.v] 51)) (.cells #[.bool o.w, .int .i64 o.k, .int .i64 o.v] 51)
      rw [show (w5.alloc (.cells #[.bool o.w, .int .i64 o.k, .int .i64 o.v] 51)).heap.size = w5.heap.size + 1 by simp] at h
      rw [show (⟨w5.heap.size + 1, 0, none⟩ : Addr).add j = ⟨w5.heap.size + 1, j, none⟩ by unfold Addr.add; split <;> simp_all, Lib.cell_of_heap h]
      simpa [O3.cells] using hj
     case c2 =>
      intro u hu
      simp [O3.cells] at hu
      rcases hu with rfl | rfl | rfl <;> rfl
     intro v' w7 jm8 hg7 zW3 hat7
     have hbw : Below w5.heap.size w5 ((w5.alloc (.cells #[.bool o.w, .int .i64 o.k, .int .i64 o.v] 51)).alloc (.cells #[.bool o.w, .int .i64 o.k, .int .i64 o.v] 51)) := ((Below.refl _ _).alloc (Nat.le_refl _) _).alloc (by simp) _
     have hrg7 := (HRG5.out.below hbw).kept hg7 (fun e => hrm e.symm) (fun e => hri e.symm)
     have hb7 : Below w.heap.size w w7 := (hb5.trans (hbw.mono hsz)).grown hg7 (by simp; omega) (fun j hj => by
      rcases HO6.out.2 with ⟨rfl, _⟩ | ⟨g, cap, cur, rfl, hg, _⟩
      ·simp [Value.ownBlock] at hj
      ·simp [Value.ownBlock] at hj; omega)
     have hnn7 : v' ≠ .slice none 0 0 := zW3
     rw [← zr0] at jm8
     have hm7 := hrg7.left
     have hm0 := HCNT.out
     clear HO6 HRG5 hg7 zW3 hat7 hbw hen hri hrm hb5 hwx
     go_wp2_with fail
     go_roundw
     case rel => exact ⟨l ++ [o], cnt', _, hrg7, by rw [List.length_append]; exact jm8, hnn7, hb7, by simp; omega, HCS.out.1, HCS.out.2⟩
     case measure => rw [hm7, hm0]; omega
end Go.Proofs.Ytngkneknopenmaa.zM
end
section
namespace Go.Proofs.Ytngkneknopenmaa.zM
open Go Go.RowKit Go.Proofs.Ytngkneknopenmaa.qa9 Go.Proofs.Ytngkneknopenmaa.qi7
def OkT (t : T4) : Prop := t.ops.length ≤ 64 ∧ ∀ o ∈ t.ops, OkO o
theorem jV9 (f : Int → Option W3) (v : Int) (x : W3) : qr0 (jB7 f v x) = upd (qr0 f) v (zm0 x) := by
 funext y
 unfold qr0 jB7 upd
 split <;> rfl
def RelH (h : List T4) (w : World) (v : Value) (wr : World) : Prop :=
 ∃ (i s : Nat) (f : Int → Option W3), i ≤ h.length ∧ v = .int .i64 ((i : Nat) : Int) ∧ s ≤ i * 128 ∧ IM Try.prog 3 wr w.heap.size (qr0 f) s ∧ Below w.heap.size w wr ∧ qv4 i (h.drop i) f = qg1 h
def Qq3 (h : List T4) (w W1 : World) (i : Nat) (t : T4) (v : Value) (wr : World) : Prop :=
 ∃ (j s : Nat) (f : Int → Option W3), j ≤ t.ops.length ∧ v = .int .i64 ((j : Nat) : Int) ∧ s ≤ i * 128 + j ∧ IM Try.prog 3 wr w.heap.size (qr0 f) s ∧ Below w.heap.size w wr ∧ W1.grownBy wr (some w.heap.size) ∧
  ((jm6 i (t.ops.drop j) f).bind fun g => qv4 (i + 1) (h.drop (i + 1)) (qL4 t.ops g)) = qg1 h
def Qq4 (w W1 : World) (s0 : Nat) (l : List O3) (g0 : Int → Option W3) (v : Value) (wr : World) : Prop :=
 ∃ (j s : Nat) (f : Int → Option W3), j ≤ l.length ∧ v = .int .i64 ((j : Nat) : Int) ∧ s ≤ s0 + j ∧ IM Try.prog 3 wr w.heap.size (qr0 f) s ∧ Below w.heap.size w wr ∧ W1.grownBy wr (some w.heap.size) ∧
  (l.drop j).foldl (fun f o => mark f o.v) f = g0
theorem zf7 {w : World} {b s : Nat} {f : Int → Option Value} (h : IM Try.prog 3 w b f s) (o : Nat) : w.cell? ⟨b, o, none⟩ = none := by
 obtain ⟨D, ⟨es, clock, hb, _⟩, _⟩ := h
 unfold World.cell?
 simp [hb]
theorem cell_grown {w w' : World} {b : Nat} (hg : w.grownBy w' (some b)) {a : Addr} {v : Value} (hc : w.cell? a = some v) (hne : a.block ≠ b) : w'.cell? a = some v := by
 have h := hg.block a.block (World.block_lt_of_cell? w a hc) (by simpa using hne)
 unfold World.cell? at hc ⊢
 rw [h]
 exact hc
theorem add_zero (g k : Nat) : (⟨g, 0, none⟩ : Addr).add k = ⟨g, k, none⟩ := by unfold Addr.add; split <;> simp_all
set_option maxHeartbeats 8000000 in
set_option maxRecDepth 100000 in
theorem jv2 (A : Option Addr) (cap : Nat) (h : List T4) (hok : ∀ t ∈ h, OkT t) (hlen : h.length ≤ 64) (w : World) (hr : RdT w A h) :
  Calls Try.prog 28 #[.slice A h.length cap] w fun e w' => ∃ b, e = .returned (.tuple #[.map (some b), .bool (qg1 h).isSome]) ∧ (∀ f, qg1 h = some f → ∃ s, IM Try.prog 3 w' b (qr0 f) s) ∧ Below w.heap.size w w' := by
 obtain ⟨n, hn⟩ : ∃ n, h.length = n := ⟨_, rfl⟩
 have HN := Lib.hid hn
 rw [hn] at hlen ⊢
 have HR := Lib.hid hr
 have HOK := Lib.hid hok
 clear hn hr hok
 have hmm := @run_makeMap Try.prog
 go_enter Try.func28, Try.ntmps28
 go_wp2_with fail
 clear hmm
 go_loopw [17] (fun v wr => RelH h w v wr) (fun v _ => n - (intOf v).toNat)
 case atStart => exact ⟨0, 0, fun _ => none, Nat.zero_le _, rfl, Nat.zero_le _, IM.made w Try.prog 3, (Below.refl _ _).alloc (Nat.le_refl _) _, rfl⟩
 case round =>
  obtain ⟨i, s, f, hi, rfl, hs, him, hb, hw⟩ := hrel
  rw [HN.out] at hi
  by_cases hlt : i < n
  ·have hltz : (i : Int) < (n : Int) := by omega
   have hil : i < h.length := by rw [HN.out]; exact hlt
   obtain ⟨ad, rfl, hc⟩ := HR.out (by omega)
   obtain ⟨t, ht⟩ : ∃ t, h[i]? = some t := ⟨_, List.getElem?_eq_getElem hil⟩
   obtain ⟨A3, c3, t0, t1, t2, t3, hl3, hro⟩ := hc i t ht
   have hdr : h.drop i = t :: h.drop (i + 1) := by
    rw [List.drop_eq_getElem_cons hil]
    congr 1
    exact Option.some.inj ((List.getElem?_eq_getElem hil).symm.trans ht)
   obtain ⟨hol, hoo⟩ := HOK.out t (List.mem_of_getElem? ht)
   rw [hdr] at hw
   replace t0 := cell_below hb t0
   replace t1 := cell_below hb t1
   replace t2 := cell_below hb t2
   replace t3 := cell_below hb t3
   have HRO := Lib.hid hro
   have HW := Lib.hid hw
   have HOO := Lib.hid hoo
   have HIM := Lib.hid him
   clear hc ht hdr hro hw hoo him hil
   obtain ⟨m, hm⟩ : ∃ m, t.ops.length = m := ⟨_, rfl⟩
   have HMM := Lib.hid hm
   rw [hm] at t3 hl3 hol
   clear hm
   have gW : Below w.heap.size w (wr.alloc (.cells #[.int .i64 t.s, .int .i64 t.b, .int .i64 t.c, .slice A3 m c3] 55)) := hb.alloc hb.size _
   have hbx := alloc_at wr (.cells #[.int .i64 t.s, .int .i64 t.b, .int .i64 t.c, .slice A3 m c3] 55)
   have qR2 := HIM.out.alloc (.cells #[.int .i64 t.s, .int .i64 t.b, .int .i64 t.c, .slice A3 m c3] 55)
   have hsz1 : wr.heap.size < (wr.alloc (.cells #[.int .i64 t.s, .int .i64 t.b, .int .i64 t.c, .slice A3 m c3] 55)).heap.size := by simp
   have hwb := HIM.out.lt
   have GW := Lib.hid gW
   have HBX := Lib.hid hbx
   have HI1 := Lib.hid qR2
   have HSZ := Lib.hid hsz1
   clear gW hbx qR2 hsz1 HIM hb
   go_wp2_with fail
   clear t0 t1 t2 t3
   obtain ⟨W1, hW1⟩ : ∃ W1, wr.alloc (.cells #[.int .i64 t.s, .int .i64 t.b, .int .i64 t.c, .slice A3 m c3] 55) = W1 := ⟨_, rfl⟩
   rw [hW1] at GW HBX HI1 HSZ ⊢
   clear hW1
   go_loopw [25] (fun v wr => Qq3 h w W1 i t v wr) (fun v _ => m - (intOf v).toNat)
   case atStart => exact ⟨0, s, f, Nat.zero_le _, rfl, hs, HI1.out, GW.out, below_grown (Below.refl _ _), HW.out⟩
   case round =>
    clear hs HI1 GW HW
    obtain ⟨j, s, f, hj, rfl, hs, him, hb, hg, hw⟩ := hrel
    rw [HMM.out] at hj
    have HG := Lib.hid hg
    have HIM := Lib.hid him
    clear hg him
    by_cases hjm : j < m
    ·have hjz : (j : Int) < (m : Int) := by omega
     have hjl : j < t.ops.length := by rw [HMM.out]; exact hjm
     obtain ⟨ad3, rfl, hc⟩ := HRO.out (by omega)
     obtain ⟨o, ho⟩ : ∃ o, t.ops[j]? = some o := ⟨_, List.getElem?_eq_getElem hjl⟩
     have hdr : t.ops.drop j = o :: t.ops.drop (j + 1) := by
      rw [List.drop_eq_getElem_cons hjl]
      congr 1
      exact Option.some.inj ((List.getElem?_eq_getElem hjl).symm.trans ho)
     rw [hdr] at hw
     obtain ⟨x0, x1, x2⟩ := hc j o ho
     have hoo := HOO.out o (List.mem_of_getElem? ho)
     replace x0 := cell_below hb x0
     replace x1 := cell_below hb x1
     replace x2 := cell_below hb x2
     obtain ⟨ow, ok, ov⟩ := o
     dsimp only at x0 x1 x2
     have HVW := Lib.hid (ji7 (x := ov) (by have := hoo.2.2.1; dsimp only at this; omega) (by have := hoo.2.2.2; dsimp only at this; omega))
     have HW := Lib.hid hw
     have hb2 : Below w.heap.size w (wr.alloc (.cells #[.bool ow, .int .i64 ok, .int .i64 ov] 51)) := hb.alloc hb.size _
     have HB2 := Lib.hid hb2
     clear hc ho hdr hw hoo hjl hb2
     cases ow with
     | false =>
      go_wp2_with fail
      go_roundw
      case rel => exact ⟨j + 1, s, f, by rw [HMM.out]; omega, by go_num, by omega, HIM.out.alloc _, HB2.out, World.grownBy.trans HG.out (World.grownBy_alloc _ _ _), HW.out⟩
      case measure => (simp [intOf]; try omega)
     | true =>
      cases hf : f ov with
      | some x =>
       have hwn : qg1 h = none := by
        rw [← HW.out]
        simp [jm6, stepW, hf]
       have HWN := Lib.hid hwn
       have jW0 : (if true = true then (.tuple #[(qr0 f ov).getD (.agg #[.int .i64 0, .int .i64 0, .bool false]), .bool (qr0 f ov).isSome] : Value) else (qr0 f ov).getD (.agg #[.int .i64 0, .int .i64 0, .bool false])) = .tuple #[.agg #[.int .i64 (x.1 : Int), .int .i64 x.2.1, .bool x.2.2], .bool true] := by simp [qr0, hf, zm0]
       have HV := Lib.hid jW0
       clear jW0 hf hwn HW
       go_wp2_with (at_lookup; refine zH (HIM.out.alloc _) rfl _ _ 56 60 true rfl Try.underlying56 Try.underlying3 (.agg #[.int .i64 0, .int .i64 0, .bool false]) (fun _ => by kernel_rfl) rfl ov rfl HVW.out _ HV.out ?_)
       go_ret2
       exact ⟨_, by rw [HWN.out]; rfl, (fun g hg => by rw [HWN.out] at hg; cases hg), HB2.out.alloc HB2.out.size _⟩
      | none =>
       have hw2 : ((jm6 i (t.ops.drop (j + 1)) (jB7 f ov (i, ok, false))).bind fun g => qv4 (i + 1) (h.drop (i + 1)) (qL4 t.ops g)) = qg1 h := by
        rw [← HW.out]
        simp [jm6, stepW, hf]
       have HW2 := Lib.hid hw2
       have jW0 : (if true = true then (.tuple #[(qr0 f ov).getD (.agg #[.int .i64 0, .int .i64 0, .bool false]), .bool (qr0 f ov).isSome] : Value) else (qr0 f ov).getD (.agg #[.int .i64 0, .int .i64 0, .bool false])) = .tuple #[.agg #[.int .i64 0, .int .i64 0, .bool false], .bool false] := by simp [qr0, hf]
       have HV := Lib.hid jW0
       have HF := Lib.hid (show (qr0 f ov).isSome = false by simp [qr0, hf])
       clear jW0 hf hw2 HW
       go_wp2_with (first
        | (at_lookup; refine zH (HIM.out.alloc _) rfl _ _ 56 60 true rfl Try.underlying56 Try.underlying3 (.agg #[.int .i64 0, .int .i64 0, .bool false]) (fun _ => by kernel_rfl) rfl ov rfl HVW.out _ HV.out ?_)
        | (at_mapUpdate; refine qg7 ((HIM.out.alloc _).alloc _) rfl _ _ _ 56 60 rfl Try.underlying56 Try.underlying3 (by unfold maxLen; omega) rfl ov (zm0 (i, ok, false)) rfl rfl HVW.out ?_; intro w5 qu7 hg5))
       rw [HF.out, ← jV9] at qu7
       have hb5 : Below w.heap.size w w5 := (HB2.out.alloc HB2.out.size _).grown hg5 (by have := hb.size; simp; omega) (fun j hj => by cases hj; exact Nat.le_refl _)
       have hg6 : W1.grownBy w5 (some w.heap.size) := World.grownBy.trans (World.grownBy.trans (World.grownBy.trans HG.out (World.grownBy_alloc _ _ _)) (World.grownBy_alloc _ _ _)) hg5
       clear x0 x1 x2 HIM HB2 HG hg5
       go_wp2_with fail
       go_roundw
       case rel => exact ⟨j + 1, s + 1, _, by rw [HMM.out]; omega, by go_num, by omega, qu7, hb5, hg6, HW2.out⟩
       case measure => (simp [intOf]; try omega)
    ·have zr9 : j = m := by omega
     subst zr9
     have hw2 : qv4 (i + 1) (h.drop (i + 1)) (qL4 t.ops f) = qg1 h := by
      have e : t.ops.drop j = [] := List.drop_of_length_le (by rw [HMM.out]; exact Nat.le_refl _)
      rw [← hw, e]
      rfl
     have HW := Lib.hid hw2
     have hbx : wr.heap[_]? = _ := (HG.out.block _ HSZ.out (by simp; omega)).trans HBX.out
     have WC := jL0 t.s t.b t.c A3 c3 t.ops HOO.out (by rw [HMM.out]; omega) wr (HRO.out.below hb)
     rw [HMM.out] at WC
     have HWC := Lib.hid WC
     clear hw hw2 WC
     have c0 := Lib.cell_of_heap hbx 0
     have c1 := Lib.cell_of_heap hbx 1
     have c2 := Lib.cell_of_heap hbx 2
     have c3' := Lib.cell_of_heap hbx 3
     simp only [List.getElem?_toArray, List.getElem?_cons_zero, List.getElem?_cons_succ] at c0 c1 c2 c3'
     have HB := Lib.hid hb
     clear hbx hb HG
     go_wp2_with fail
     refine HWC.out.mono ?_
     rintro e w5 ⟨g, cp, l, rfl, hco, hll, hrl, hb5⟩
     have qu7 := HIM.out.below hb5
     have hbb5 : Below w.heap.size w w5 := HB.out.trans (hb5.mono HB.out.size)
     have hmf := zq1 hco f
     have HRL := Lib.hid hrl
     have zM2 := Lib.hid qu7
     have HB5 := Lib.hid hbb5
     have HMF := Lib.hid hmf
     have HCO := Lib.hid hco
     obtain ⟨q, hq⟩ : ∃ q, l.length = q := ⟨_, rfl⟩
     have HQ := Lib.hid hq
     rw [hq] at hll ⊢
     clear c0 c1 c2 c3' hrl qu7 hbb5 hmf hco HWC HB HIM hq hb5
     go_wp2_with fail
     go_loopw [52] (fun v wr => Qq4 w w5 (i * 128 + 64) l (qL4 t.ops f) v wr) (fun v _ => q - (intOf v).toNat)
     case atStart => exact ⟨0, s, f, Nat.zero_le _, rfl, by omega, zM2.out, HB5.out, below_grown (Below.refl _ _), HMF.out⟩
     case round =>
      clear hs HMF
      obtain ⟨j3, s, f3, hj3, rfl, hs, him, hb, hg, hfo⟩ := hrel
      rw [HQ.out] at hj3
      have HIM := Lib.hid him
      have HG := Lib.hid hg
      have hwm := him.lt
      by_cases hjq : j3 < q
      ·have hjz : (j3 : Int) < (q : Int) := by omega
       have hjl : j3 < l.length := by rw [HQ.out]; exact hjq
       obtain ⟨ad5, he5, hc⟩ := HRL.out (by omega)
       cases he5
       obtain ⟨o, ho⟩ : ∃ o, l[j3]? = some o := ⟨_, List.getElem?_eq_getElem hjl⟩
       have hdr : l.drop j3 = o :: l.drop (j3 + 1) := by
        rw [List.drop_eq_getElem_cons hjl]
        congr 1
        exact Option.some.inj ((List.getElem?_eq_getElem hjl).symm.trans ho)
       rw [hdr, List.foldl_cons] at hfo
       obtain ⟨x0, x1, x2⟩ := hc j3 o ho
       simp only [add_zero] at x0 x1 x2
       have hgm : g ≠ w.heap.size := fun e => by
        have h := zf7 zM2.out (j3 * 3)
        rw [← e, x0] at h
        cases h
       replace x0 := cell_grown hg x0 hgm
       replace x1 := cell_grown hg x1 hgm
       replace x2 := cell_grown hg x2 hgm
       have hoo := HOO.out o (qz7 t.ops _ _ ((HCO.out.2 o).1 (List.mem_of_getElem? ho))).2.2
       obtain ⟨ow, ok, ov⟩ := o
       dsimp only at x0 x1 x2
       have HVW := Lib.hid (ji7 (x := ov) (by have := hoo.2.2.1; dsimp only at this; omega) (by have := hoo.2.2.2; dsimp only at this; omega))
       have HFO := Lib.hid hfo
       have hb2 : Below w.heap.size w (wr.alloc (.cells #[.bool ow, .int .i64 ok, .int .i64 ov] 51)) := hb.alloc hb.size _
       have HB2 := Lib.hid hb2
       obtain ⟨⟨xi, xk, xl⟩, hx⟩ : ∃ x, (f3 ov).getD (0, 0, false) = x := ⟨_, rfl⟩
       have jW0 : (if false = true then (.tuple #[(qr0 f3 ov).getD (.agg #[.int .i64 0, .int .i64 0, .bool false]), .bool (qr0 f3 ov).isSome] : Value) else (qr0 f3 ov).getD (.agg #[.int .i64 0, .int .i64 0, .bool false])) = .agg #[.int .i64 (xi : Int), .int .i64 xk, .bool xl] := by
        simp only [Bool.false_eq_true, if_false]
        unfold qr0
        cases h3 : f3 ov with
        | none => rw [h3] at hx; cases hx; rfl
        | some y => rw [h3] at hx; cases hx; rfl
       have HV := Lib.hid jW0
       have hmk : mark f3 ov = jB7 f3 ov (xi, xk, true) := by unfold mark; rw [hx]
       have HMK := Lib.hid hmk
       have hsz := hb.size
       clear hc ho hdr hfo hoo hjl hb2 jW0 hx hmk him hg hb
       go_wp2_with (first
        | (at_lookup; refine zH (HIM.out.alloc _) rfl _ _ 56 60 false rfl Try.underlying56 Try.underlying3 (.agg #[.int .i64 0, .int .i64 0, .bool false]) (fun _ => by kernel_rfl) rfl ov rfl HVW.out _ HV.out ?_)
        | (at_mapUpdate; refine qg7 ((HIM.out.alloc _).alloc _) rfl _ _ _ 56 60 rfl Try.underlying56 Try.underlying3 (by unfold maxLen; omega) rfl ov (zm0 (xi, xk, true)) rfl rfl HVW.out ?_; intro w7 jn0 hg7))
       rw [← jV9] at jn0
       have hb7 : Below w.heap.size w w7 := (HB2.out.alloc HB2.out.size _).grown hg7 (by simp; omega) (fun j hj => by cases hj; exact Nat.le_refl _)
       have hg8 : w5.grownBy w7 (some w.heap.size) := World.grownBy.trans (World.grownBy.trans (World.grownBy.trans HG.out (World.grownBy_alloc _ _ _)) (World.grownBy_alloc _ _ _)) hg7
       refine ⟨?_, ?_⟩
       ·exact ⟨j3 + 1, _, _, by rw [HQ.out]; omega, by go_num, by split <;> omega, jn0, hb7, hg8, by rw [← HMK.out]; exact HFO.out⟩
       ·(simp [intOf]; try omega)
      ·have hjq2 : j3 = q := by omega
       subst hjq2
       have hff : f3 = qL4 t.ops f := by
        rw [← hfo, List.drop_of_length_le (by rw [HQ.out]; exact Nat.le_refl _)]
        rfl
       have HW2 := Lib.hid HW.out
       have HFF := Lib.hid hff
       clear hff hfo him hg
       go_wp2_with fail
       go_roundw
       case rel => exact ⟨i + 1, s, f3, by rw [HN.out]; omega, by go_num, by omega, HIM.out, hb, by rw [HFF.out]; exact HW.out⟩
       case measure => (simp [intOf]; try omega)
  ·have hin : i = n := by omega
   subst hin
   rw [List.drop_of_length_le (by rw [HN.out]; exact Nat.le_refl _)] at hw
   have hwe : qg1 h = some f := hw.symm
   have HWE := Lib.hid hwe
   have HIM := Lib.hid him
   clear hw hwe him
   go_wp2_with fail
   go_ret2
   exact ⟨_, by rw [HWE.out]; rfl, (fun g hg => by rw [HWE.out] at hg; cases hg; exact ⟨s, HIM.out⟩), hb⟩
end Go.Proofs.Ytngkneknopenmaa.zM
end
section
namespace Go.Proofs.Ytngkneknopenmaa.zM
open Go Go.RowKit Go.Proofs.Ytngkneknopenmaa.qa9 Go.Proofs.Ytngkneknopenmaa.qi7
def OkS (t : T4) : Prop := 0 ≤ t.s ∧ t.s < 64 ∧ 0 ≤ t.b ∧ t.b ≤ 2147483647 ∧ 0 ≤ t.c ∧ t.c ≤ 2147483647
def qq9 (seen : Int → Bool) : Int → Option Value := fun x => if seen x then some (.agg #[]) else none
def qF5 (last : Int → Option Int) : Int → Option Value := fun x => (last x).map (Value.int .i64)
theorem jB1 (seen : Int → Bool) (x : Int) : qq9 (qg5 seen x) = upd (qq9 seen) x (.agg #[]) := by
 funext y
 unfold qq9 qg5 upd
 by_cases h : y = x <;> simp [h]
theorem jB2 (last : Int → Option Int) (s c : Int) : qF5 (lastT last s c) = upd (qF5 last) s (.int .i64 c) := by
 funext y
 unfold qF5 lastT upd
 by_cases h : y = s <;> simp [h]
def Qq5 (h : List T4) (w : World) (v : Value) (wr : World) : Prop :=
 ∃ (i s1 s2 : Nat) (seen : Int → Bool) (last : Int → Option Int), i ≤ h.length ∧ v = .int .i64 ((i : Nat) : Int) ∧ s1 ≤ i * 2 ∧ s2 ≤ i ∧ IM Try.prog 3 wr w.heap.size (qq9 seen) s1 ∧ IM Try.prog 3 wr (w.heap.size + 1) (qF5 last) s2 ∧ Below w.heap.size w wr ∧
  qe9 (h.drop i) seen last = qe9 h (fun _ => false) (fun _ => none)
def zF5 (w : World) (bx : Nat) (cs : Array Value) (s1 s2 : Nat) (seen : Int → Bool) (last : Int → Option Int) (b c : Int) (v : Value) (wr : World) : Prop :=
 ∃ (k : Nat) (seen' : Int → Bool) (s : Nat), v = .int .i64 ((k : Nat) : Int) ∧ s ≤ s1 + k ∧ IM Try.prog 3 wr w.heap.size (qq9 seen') s ∧ IM Try.prog 3 wr (w.heap.size + 1) (qF5 last) s2 ∧ Below w.heap.size w wr ∧ wr.heap[bx]? = some (.cells cs 55 (0, 0)) ∧
  ((k = 0 ∧ seen' = seen) ∨ (k = 1 ∧ seen b = false ∧ seen' = qg5 seen b) ∨ (k = 2 ∧ seen b = false ∧ qg5 seen b c = false ∧ seen' = qg5 (qg5 seen b) c))
set_option maxHeartbeats 8000000 in
set_option maxRecDepth 100000 in
theorem qy6 (A : Option Addr) (cap : Nat) (h : List T4) (hok : ∀ t ∈ h, OkS t) (hlen : h.length ≤ 64) (w : World) (hr : RdT w A h) :
  Calls Try.prog 58 #[.slice A h.length cap] w fun e w' => e = .returned (.bool (qe9 h (fun _ => false) (fun _ => none))) ∧ Below w.heap.size w w' := by
 obtain ⟨n, hn⟩ : ∃ n, h.length = n := ⟨_, rfl⟩
 have HN := Lib.hid hn
 rw [hn] at hlen ⊢
 have HR := Lib.hid hr
 have HOK := Lib.hid hok
 clear hn hr hok
 have hmm := @run_makeMap Try.prog
 go_enter Try.func58, Try.ntmps58
 go_wp2_with fail
 clear hmm
 go_loopw [17] (fun v wr => Qq5 h w v wr) (fun v _ => n - (intOf v).toNat)
 case atStart =>
  have h1 := IM.made w Try.prog 3
  have h2 := IM.made (w.alloc (.map #[] 0)) Try.prog 3
  rw [show (w.alloc (.map #[] 0)).heap.size = w.heap.size + 1 by simp] at h2
  exact ⟨0, 0, 0, fun _ => false, fun _ => none, Nat.zero_le _, rfl, Nat.zero_le _, Nat.zero_le _, h1.alloc _, h2, ((Below.refl _ _).alloc (Nat.le_refl _) _).alloc (by simp) _, rfl⟩
 case round =>
  obtain ⟨i, s1, s2, seen, last, hi, rfl, hs1, hs2, qR2, jL1, hb, hw⟩ := hrel
  rw [HN.out] at hi
  by_cases hlt : i < n
  ·have hltz : (i : Int) < (n : Int) := by omega
   have hil : i < h.length := by rw [HN.out]; exact hlt
   obtain ⟨ad, rfl, hc⟩ := HR.out (by omega)
   obtain ⟨t, ht⟩ : ∃ t, h[i]? = some t := ⟨_, List.getElem?_eq_getElem hil⟩
   obtain ⟨A3, c3, t0, t1, t2, t3, hl3, hro⟩ := hc i t ht
   have hdr : h.drop i = t :: h.drop (i + 1) := by
    rw [List.drop_eq_getElem_cons hil]
    congr 1
    exact Option.some.inj ((List.getElem?_eq_getElem hil).symm.trans ht)
   obtain ⟨o1, o2, o3, o4, o5, o6⟩ := HOK.out t (List.mem_of_getElem? ht)
   rw [hdr] at hw
   replace t0 := cell_below hb t0
   replace t1 := cell_below hb t1
   replace t2 := cell_below hb t2
   replace t3 := cell_below hb t3
   have HW := Lib.hid hw
   have HWB := Lib.hid (ji7 (x := t.b) (by omega) (by omega))
   have HWC := Lib.hid (ji7 (x := t.c) (by omega) (by omega))
   have HWS := Lib.hid (ji7 (x := t.s) (by omega) (by omega))
   clear hc ht hdr hro hw hil o1 o2 o3 o4 o5 o6
   obtain ⟨m, hm⟩ : ∃ m, t.ops.length = m := ⟨_, rfl⟩
   rw [hm] at t3 hl3
   clear hm
   have hbx := alloc_at wr (.cells #[.int .i64 t.s, .int .i64 t.b, .int .i64 t.c, .slice A3 m c3] 55)
   have HST := Lib.hid (show zF5 w wr.heap.size #[.int .i64 t.s, .int .i64 t.b, .int .i64 t.c, .slice A3 m c3] s1 s2 seen last t.b t.c (.int .i64 0) (wr.alloc (.cells #[.int .i64 t.s, .int .i64 t.b, .int .i64 t.c, .slice A3 m c3] 55)) from
    ⟨0, seen, s1, rfl, by omega, qR2.alloc _, jL1.alloc _, hb.alloc hb.size _, hbx, .inl ⟨rfl, rfl⟩⟩)
   have hm1 := qR2.lt
   have hm2 := jL1.lt
   clear hbx qR2 jL1 hb
   go_wp2_with fail
   clear t0 t1 t2 t3
   obtain ⟨bx, hbx⟩ : ∃ bx, wr.heap.size = bx := ⟨_, rfl⟩
   rw [hbx] at HST hm1 hm2 ⊢
   have HBX := Lib.hid hbx
   clear hbx
   go_loopw [26] (fun v wr => zF5 w bx #[.int .i64 t.s, .int .i64 t.b, .int .i64 t.c, .slice A3 m c3] s1 s2 seen last t.b t.c v wr) (fun v _ => 2 - (intOf v).toNat)
   case atStart => exact HST.out
   case round =>
    clear HST
    obtain ⟨k, seen', s, rfl, hs, qR2, jL1, hb, hbk, hk⟩ := hrel
    have HI1 := Lib.hid qR2
    have HI2 := Lib.hid jL1
    have HB := Lib.hid hb
    have HBK := Lib.hid hbk
    have hsz := hb.size
    clear qR2 jL1 hb hbk
    rcases hk with ⟨rfl, rfl⟩ | ⟨rfl, hsb, rfl⟩ | ⟨rfl, hsb, hsc, rfl⟩
    ·have ix : ∀ w : World, (Instr.index 118 (.agg #[.int .i64 t.b, .int .i64 t.c]) (.int .i64 0)).run Try.prog w = .ok (.int .i64 t.b) w := fun _ => by kernel_rfl
     cases hsx : seen' t.b with
     | true =>
      have hfin : qe9 h (fun _ => false) (fun _ => none) = false := by rw [← HW.out]; simp [qe9, hsx]
      have jB5 := Lib.hid hfin
      have HV := Lib.hid (show (if true = true then (.tuple #[(qq9 (seen') t.b).getD (.agg #[]), .bool (qq9 (seen') t.b).isSome] : Value) else (qq9 (seen') t.b).getD (.agg #[])) = .tuple #[.agg #[], .bool true] by simp [qq9, hsx])
      clear hsx hfin
      go_wp2_with (at_lookup; refine zH HI1.out rfl _ _ 97 98 true rfl Try.underlying97 Try.underlying3 (.agg #[]) (fun _ => by kernel_rfl) rfl t.b rfl HWB.out _ HV.out ?_)
      go_ret
      exact ⟨by rw [jB5.out]; rfl, HB.out.alloc HB.out.size _⟩
     | false =>
      have HSX := Lib.hid hsx
      have HV := Lib.hid (show (if true = true then (.tuple #[(qq9 (seen') t.b).getD (.agg #[]), .bool (qq9 (seen') t.b).isSome] : Value) else (qq9 (seen') t.b).getD (.agg #[])) = .tuple #[.agg #[], .bool false] by simp [qq9, hsx])
      clear hsx
      go_wp2_with (first
       | (at_lookup; refine zH HI1.out rfl _ _ 97 98 true rfl Try.underlying97 Try.underlying3 (.agg #[]) (fun _ => by kernel_rfl) rfl t.b rfl HWB.out _ HV.out ?_)
       | (at_mapUpdate; refine qg7 (HI1.out.alloc _) rfl _ _ _ 97 98 rfl Try.underlying97 Try.underlying3 (by unfold maxLen; omega) rfl t.b (.agg #[]) rfl rfl HWB.out ?_; intro w5 qu7 hg5))
      rw [← jB1] at qu7
      have hb5 : Below w.heap.size w w5 := (HB.out.alloc HB.out.size _).grown hg5 (by simp; omega) (fun j hj => by cases hj; exact Nat.le_refl _)
      have Qh2 := (hg5.block bx (by have := (Array.getElem?_eq_some_iff.1 HBK.out).1; simp; omega) (by simp; omega)).trans ((((Below.refl _ wr).alloc (Nat.le_refl _) _).block bx (Array.getElem?_eq_some_iff.1 HBK.out).1).trans HBK.out)
      have qP6 := (HI2.out.alloc _).kept hg5 (by simp)
      clear hg5
      go_wp2_with fail
      go_roundw
      case rel => exact ⟨0 + 1, _, _, rfl, by split <;> omega, qu7, qP6, hb5, Qh2, .inr (.inl ⟨rfl, HSX.out, rfl⟩)⟩
      case measure => (simp [intOf]; try omega)
    ·have ix : ∀ w : World, (Instr.index 118 (.agg #[.int .i64 t.b, .int .i64 t.c]) (.int .i64 1)).run Try.prog w = .ok (.int .i64 t.c) w := fun _ => by kernel_rfl
     cases hsx : qg5 seen t.b t.c with
     | true =>
      have hfin : qe9 h (fun _ => false) (fun _ => none) = false := by rw [← HW.out]; simp [qe9, hsb, hsx]
      have jB5 := Lib.hid hfin
      have HV := Lib.hid (show (if true = true then (.tuple #[(qq9 (qg5 seen t.b) t.c).getD (.agg #[]), .bool (qq9 (qg5 seen t.b) t.c).isSome] : Value) else (qq9 (qg5 seen t.b) t.c).getD (.agg #[])) = .tuple #[.agg #[], .bool true] by simp [qq9, hsx])
      clear hsx hfin
      go_wp2_with (at_lookup; refine zH HI1.out rfl _ _ 97 98 true rfl Try.underlying97 Try.underlying3 (.agg #[]) (fun _ => by kernel_rfl) rfl t.c rfl HWC.out _ HV.out ?_)
      go_ret
      exact ⟨by rw [jB5.out]; rfl, HB.out.alloc HB.out.size _⟩
     | false =>
      have HSX := Lib.hid hsx
      have HV := Lib.hid (show (if true = true then (.tuple #[(qq9 (qg5 seen t.b) t.c).getD (.agg #[]), .bool (qq9 (qg5 seen t.b) t.c).isSome] : Value) else (qq9 (qg5 seen t.b) t.c).getD (.agg #[])) = .tuple #[.agg #[], .bool false] by simp [qq9, hsx])
      clear hsx
      go_wp2_with (first
       | (at_lookup; refine zH HI1.out rfl _ _ 97 98 true rfl Try.underlying97 Try.underlying3 (.agg #[]) (fun _ => by kernel_rfl) rfl t.c rfl HWC.out _ HV.out ?_)
       | (at_mapUpdate; refine qg7 (HI1.out.alloc _) rfl _ _ _ 97 98 rfl Try.underlying97 Try.underlying3 (by unfold maxLen; omega) rfl t.c (.agg #[]) rfl rfl HWC.out ?_; intro w5 qu7 hg5))
      rw [← jB1] at qu7
      have hb5 : Below w.heap.size w w5 := (HB.out.alloc HB.out.size _).grown hg5 (by simp; omega) (fun j hj => by cases hj; exact Nat.le_refl _)
      have Qh2 := (hg5.block bx (by have := (Array.getElem?_eq_some_iff.1 HBK.out).1; simp; omega) (by simp; omega)).trans ((((Below.refl _ wr).alloc (Nat.le_refl _) _).block bx (Array.getElem?_eq_some_iff.1 HBK.out).1).trans HBK.out)
      have qP6 := (HI2.out.alloc _).kept hg5 (by simp)
      clear hg5
      go_wp2_with fail
      go_roundw
      case rel => exact ⟨1 + 1, _, _, rfl, by split <;> omega, qu7, qP6, hb5, Qh2, .inr (.inr ⟨rfl, hsb, HSX.out, rfl⟩)⟩
      case measure => (simp [intOf]; try omega)
    ·have c0 := Lib.cell_of_heap HBK.out 0
     have c1 := Lib.cell_of_heap HBK.out 1
     have c2 := Lib.cell_of_heap HBK.out 2
     simp only [List.getElem?_toArray, List.getElem?_cons_zero, List.getElem?_cons_succ] at c0 c1 c2
     have hrest : ∀ e, last t.s = e → (match e with | some e => if e > t.b then false else qe9 (h.drop (i + 1)) (qg5 (qg5 seen t.b) t.c) (lastT last t.s t.c) | none => qe9 (h.drop (i + 1)) (qg5 (qg5 seen t.b) t.c) (lastT last t.s t.c)) = qe9 h (fun _ => false) (fun _ => none) := fun e he => by
      rw [← HW.out]
      simp only [qe9, hsb, hsc, he, Bool.false_eq_true, if_false]
      cases e <;> rfl
     cases hls : last t.s with
     | none =>
      have HRE := Lib.hid (hrest none hls)
      have HV := Lib.hid (show (if true = true then (.tuple #[(qF5 last t.s).getD (.int .i64 0), .bool (qF5 last t.s).isSome] : Value) else (qF5 last t.s).getD (.int .i64 0)) = .tuple #[.int .i64 0, .bool false] by simp [qF5, hls])
      clear hrest hls hsb hsc
      go_wp2_with (first
       | (at_lookup; refine zH HI2.out rfl _ _ 34 3 true rfl Try.underlying34 Try.underlying3 (.int .i64 0) (fun _ => by kernel_rfl) rfl t.s rfl HWS.out _ HV.out ?_)
       | (at_mapUpdate; refine qg7 HI2.out rfl _ _ _ 34 3 rfl Try.underlying34 Try.underlying3 (by unfold maxLen; omega) rfl t.s (.int .i64 t.c) rfl rfl HWS.out ?_; intro w5 qu7 hg5))
      rw [← jB2] at qu7
      have hb5 : Below w.heap.size w w5 := HB.out.grown hg5 (by omega) (fun j hj => by cases hj; omega)
      have qP6 := HI1.out.kept hg5 (by simp)
      clear hg5 c0 c1 c2
      go_wp2_with fail
      go_roundw
      case rel => exact ⟨i + 1, _, _, _, _, by rw [HN.out]; omega, by go_num, by omega, by split <;> omega, qP6, qu7, hb5, HRE.out⟩
      case measure => (simp [intOf]; try omega)
     | some e =>
      have hre := hrest (some e) hls
      dsimp only at hre
      have HV := Lib.hid (show (if true = true then (.tuple #[(qF5 last t.s).getD (.int .i64 0), .bool (qF5 last t.s).isSome] : Value) else (qF5 last t.s).getD (.int .i64 0)) = .tuple #[.int .i64 e, .bool true] by simp [qF5, hls])
      by_cases het : e > t.b
      ·rw [if_pos het] at hre
       have HRE := Lib.hid hre
       have het2 : t.b < e := het
       clear hrest hls hsb hsc hre
       go_wp2_with (at_lookup; refine zH HI2.out rfl _ _ 34 3 true rfl Try.underlying34 Try.underlying3 (.int .i64 0) (fun _ => by kernel_rfl) rfl t.s rfl HWS.out _ HV.out ?_)
       go_ret
       exact ⟨by rw [← HRE.out]; rfl, HB.out⟩
      ·rw [if_neg het] at hre
       have HRE := Lib.hid hre
       have het2 : decide (e > t.b) = false := decide_eq_false het
       have het3 : ¬ t.b < e := het
       clear hrest hls hsb hsc hre
       go_wp2_with (first
        | (at_lookup; refine zH HI2.out rfl _ _ 34 3 true rfl Try.underlying34 Try.underlying3 (.int .i64 0) (fun _ => by kernel_rfl) rfl t.s rfl HWS.out _ HV.out ?_)
        | (at_mapUpdate; refine qg7 HI2.out rfl _ _ _ 34 3 rfl Try.underlying34 Try.underlying3 (by unfold maxLen; omega) rfl t.s (.int .i64 t.c) rfl rfl HWS.out ?_; intro w5 qu7 hg5))
       rw [← jB2] at qu7
       have hb5 : Below w.heap.size w w5 := HB.out.grown hg5 (by omega) (fun j hj => by cases hj; omega)
       have qP6 := HI1.out.kept hg5 (by simp)
       clear hg5 c0 c1 c2
       go_wp2_with fail
       go_roundw
       case rel => exact ⟨i + 1, _, _, _, _, by rw [HN.out]; omega, by go_num, by omega, by split <;> omega, qP6, qu7, hb5, HRE.out⟩
       case measure => (simp [intOf]; try omega)
  ·have hin : i = n := by omega
   subst hin
   rw [List.drop_of_length_le (by rw [HN.out]; exact Nat.le_refl _)] at hw
   have HW := Lib.hid hw
   clear hw
   go_wp2_with fail
   go_ret
   exact ⟨by rw [← HW.out]; rfl, hb⟩
end Go.Proofs.Ytngkneknopenmaa.zM
end
