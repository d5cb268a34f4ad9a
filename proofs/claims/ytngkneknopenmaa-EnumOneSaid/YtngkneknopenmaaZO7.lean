/- qr1 of this claim, joined by a program of this session: the zR that its theorem uses. -/
import Derived.Test.YtngkneknopenmaaZO2
import Derived.Test.YtngkneknopenmaaZO5
import Derived.Test.YtngkneknopenmaaProg
import Derived.Below
import Derived.Deep.Draws
import Derived.Deep.AppendLies
import Derived.Maps.AppendAt
import Derived.OwnWalk
import Derived.Laws.BytesArg
import Derived.Laws.MakeOwn
import Derived.Laws.OwnMore
import Derived.Deep.OwnRows
import Derived.Tactics
import Derived.Lib.ConvBytes
import Derived.Laws.Slices
import Derived.WalkKit
import Derived.KernelRfl
import Derived.RowKit3
import Derived.Deep.LoopGhost
import Derived.Deep.QuietTactic
import Derived.BigQuiet
import Derived.WideLaws
import Derived.Deep.DeepCutAuto
import Derived.Deep.CutBlock
import Derived.Deep.RegionHeld3
import Derived.Laws.Rows
import Derived.Lib.AppendStr
import Derived.ArgAppend
import Derived.Laws.IdiomCopy
import Derived.OrdersHeld
import Derived.Laws.BitsLemmas
import Derived.RowKit
set_option linter.unusedVariables false
set_option linter.unusedSimpArgs false
section
namespace Go.Proofs.Ytngkneknopenmaa.K
open Go.Proofs.Ytngkneknopenmaa
open Go.RowKit Go.Proofs.YtngkneknopenmaaW.jH Go.Proofs.YtngkneknopenmaaW.qh5 Go.Proofs.YtngkneknopenmaaW.qk0
attribute [local go_sem] qp9 qq0 qv3 qv4 qm8 qm9 qq1 qq2   -- for this text's walks alone
set_option linter.unusedVariables false
set_option linter.unusedSimpArgs false
def errW : Option Int → Value
 | none => .nilIface
 | some c => .iface 0 (.int .i64 c)
theorem jI : errW none = .nilIface := rfl
theorem jJ (c : Int) : errW (some c) = .iface 0 (.int .i64 c) := rfl
theorem info3 : (Try.prog.info? 3).map (fun i => (i.zero, i.size, i.bytes)) = some (some (.int .i64 0), 1, 8) := by kernel_rfl
theorem qR6 : (Try.prog.info? 55).map (fun i => (i.zero, i.size, i.bytes)) = some (some (.agg #[(.int .i64 0), (.int .i64 0), (.int .i64 0), (.slice none 0 0)]), 4, 48) := by kernel_rfl
structure S51 where
 f0 : Bool
 f1 : Int
 f2 : Int
def z51 : S51 := ⟨false, (0 : Int), (0 : Int)⟩
def k51 : Kd S51 := Kd.iso (Kd.pair Kd.bool (Kd.pair (Kd.int .i64) (Kd.int .i64))) (fun x : S51 => (x.f0, x.f1, x.f2))
theorem zC2 : Kd.Heap k51 := Kd.jT1 _ (Kd.qF0 Kd.zo9 (Kd.qF0 (Kd.qN0 .i64) (Kd.qN0 .i64)))
theorem jT5 {w : World} {x : S51} {cs : List Value} (h : k51.K w x cs) : cs = [.bool x.f0, .int .i64 x.f1, .int .i64 x.f2] := by
 obtain ⟨_, _, rfl, rfl, ⟨_, _, rfl, rfl, rfl⟩⟩ := h
 exact rfl
theorem Qd4 (w : World) (x : S51)  : k51.K w x [.bool x.f0, .int .i64 x.f1, .int .i64 x.f2] := ⟨[.bool x.f0], [.int .i64 x.f1, .int .i64 x.f2], rfl, rfl, ⟨[.int .i64 x.f1], [.int .i64 x.f2], rfl, rfl, rfl⟩⟩
theorem zh6 (w : World) (base : Nat) (ok : Nat → Prop) (x : S51)  : k51.M w base ok x [.bool x.f0, .int .i64 x.f1, .int .i64 x.f2] := ⟨[.bool x.f0], [.int .i64 x.f1, .int .i64 x.f2], rfl, rfl, ⟨[.int .i64 x.f1], [.int .i64 x.f2], rfl, rfl, rfl⟩⟩
def qG (xs : List S51) (i : Int) : S51 := xs.getD i.toNat z51
theorem qr0 {w : World} {A : Option Addr} {n : Nat} {xs : List S51} (h : Kd.C k51 w A n xs) (i : Int) (h0 : 0 ≤ i) (h1 : i < n) : ∃ ad , A = some ad ∧ w.cell? (ad.add (i.toNat * 3)) = some (.bool (qG xs i).f0) ∧ w.cell? ⟨(ad.add (i.toNat * 3)).block, (ad.add (i.toNat * 3)).off + 1, none⟩ = some (.int .i64 (qG xs i).f1) ∧ w.cell? ⟨(ad.add (i.toNat * 3)).block, (ad.add (i.toNat * 3)).off + 2, none⟩ = some (.int .i64 (qG xs i).f2) := by
 obtain ⟨ad, c, e, _, hK, hc0⟩ := Kd.jS8 h z51 i h0 h1
 have hc : ∀ j u, c[j]? = some u → w.cell? (ad.add (i.toNat * 3 + j)) = some u := hc0
 obtain rfl := jT5 hK
 exact ⟨ad, e, hc 0 _ rfl, by rw [← zM _ _ 1 (by omega)]; exact hc 1 _ rfl, by rw [← zM _ _ 2 (by omega)]; exact hc 2 _ rfl⟩
structure S55 where
 f0 : Int
 f1 : Int
 f2 : Int
 f3 : (List S51)
def z55 : S55 := ⟨(0 : Int), (0 : Int), (0 : Int), ([] : List S51)⟩
def k55 : Kd S55 := Kd.iso (Kd.pair (Kd.int .i64) (Kd.pair (Kd.int .i64) (Kd.pair (Kd.int .i64) (Kd.slice 51 k51)))) (fun x : S55 => (x.f0, x.f1, x.f2, x.f3))
theorem jP1 : Kd.Heap k55 := Kd.jT1 _ (Kd.qF0 (Kd.qN0 .i64) (Kd.qF0 (Kd.qN0 .i64) (Kd.qF0 (Kd.qN0 .i64) (Kd.zc0 51 zC2))))
theorem ja5 {w : World} {x : S55} {cs : List Value} (h : k55.K w x cs) : ∃ A3 c3, cs = [.int .i64 x.f0, .int .i64 x.f1, .int .i64 x.f2, .slice A3 x.f3.length c3] ∧ x.f3.length ≤ c3 ∧ k51.C w A3 x.f3.length x.f3 := by
 obtain ⟨_, _, rfl, rfl, ⟨_, _, rfl, rfl, ⟨_, _, rfl, rfl, ⟨A3, c3, rfl, l3, g3⟩⟩⟩⟩ := h
 exact ⟨A3, c3, rfl, l3, g3⟩
theorem zC3 (w : World) (x : S55) {A3 : Option Addr} {c3 : Nat} (l3 : x.f3.length ≤ c3) (g3 : k51.C w A3 x.f3.length x.f3) : k55.K w x [.int .i64 x.f0, .int .i64 x.f1, .int .i64 x.f2, .slice A3 x.f3.length c3] := ⟨[.int .i64 x.f0], [.int .i64 x.f1, .int .i64 x.f2, .slice A3 x.f3.length c3], rfl, rfl, ⟨[.int .i64 x.f1], [.int .i64 x.f2, .slice A3 x.f3.length c3], rfl, rfl, ⟨[.int .i64 x.f2], [.slice A3 x.f3.length c3], rfl, rfl, ⟨A3, c3, rfl, l3, g3⟩⟩⟩⟩
theorem qh6 {W : World} {ok : Nat → Prop} {x : S55} {cs : List Value} (h : Kd.FK k55 W ok x cs) : ∃ A3 c3, cs = [.int .i64 x.f0, .int .i64 x.f1, .int .i64 x.f2, .slice A3 x.f3.length c3] ∧ x.f3.length ≤ c3 ∧ Kd.F k51 W ok A3 x.f3.length x.f3 := by
 obtain ⟨A3, c3, rfl, l3, _⟩ := ja5 (Kd.qx7 h)
 exact ⟨A3, c3, rfl, l3, (fun W' hW => by obtain ⟨A3_, c3_, he, l3_, g3_⟩ := ja5 (h W' hW); injection (Option.some.inj (show some (Value.slice A3 x.f3.length c3) = some (Value.slice A3_ x.f3.length c3_) from congrArg (fun l => l[3]?) he)) with ha_ _ _; rw [ha_]; exact g3_)⟩
theorem zf8 (W : World) (ok : Nat → Prop) (x : S55) {A3 : Option Addr} {c3 : Nat} (l3 : x.f3.length ≤ c3) (g3 : Kd.F k51 W ok A3 x.f3.length x.f3) : Kd.FK k55 W ok x [.int .i64 x.f0, .int .i64 x.f1, .int .i64 x.f2, .slice A3 x.f3.length c3] := fun W2 hW => zC3 W2 x l3 (g3 W2 hW)
def qD (xs : List S55) (i : Int) : S55 := xs.getD i.toNat z55
theorem qa4 {w : World} {A : Option Addr} {n : Nat} {xs : List S55} (h : Kd.C k55 w A n xs) (i : Int) (h0 : 0 ≤ i) (h1 : i < n) : ∃ ad A3 c3, A = some ad ∧ w.cell? (ad.add (i.toNat * 4)) = some (.int .i64 (qD xs i).f0) ∧ w.cell? ⟨(ad.add (i.toNat * 4)).block, (ad.add (i.toNat * 4)).off + 1, none⟩ = some (.int .i64 (qD xs i).f1) ∧ w.cell? ⟨(ad.add (i.toNat * 4)).block, (ad.add (i.toNat * 4)).off + 2, none⟩ = some (.int .i64 (qD xs i).f2) ∧ w.cell? ⟨(ad.add (i.toNat * 4)).block, (ad.add (i.toNat * 4)).off + 3, none⟩ = some (.slice A3 (qD xs i).f3.length c3) ∧ (qD xs i).f3.length ≤ c3 ∧ k51.C w A3 (qD xs i).f3.length (qD xs i).f3 := by
 obtain ⟨ad, c, e, _, hK, hc0⟩ := Kd.jS8 h z55 i h0 h1
 have hc : ∀ j u, c[j]? = some u → w.cell? (ad.add (i.toNat * 4 + j)) = some u := hc0
 obtain ⟨A3, c3, rfl, l3, g3⟩ := ja5 hK
 exact ⟨ad, A3, c3, e, hc 0 _ rfl, by rw [← zM _ _ 1 (by omega)]; exact hc 1 _ rfl, by rw [← zM _ _ 2 (by omega)]; exact hc 2 _ rfl, by rw [← zM _ _ 3 (by omega)]; exact hc 3 _ rfl, l3, g3⟩
end Go.Proofs.Ytngkneknopenmaa.K
end
section
namespace Go.Proofs.Ytngkneknopenmaa.K
open Go.Proofs.Ytngkneknopenmaa
open Go.RowKit Go.Proofs.YtngkneknopenmaaW.jH Go.Proofs.YtngkneknopenmaaW.qh5 Go.Proofs.YtngkneknopenmaaW.qk0
attribute [local go_sem] qp9 qq0 qv3 qv4 qm8 qm9 qq1 qq2   -- for this text's walks alone
set_option linter.unusedVariables false
set_option linter.unusedSimpArgs false
theorem zx5 (d : Nat) (w : World) (x0 y0 : Bool) (x1 y1 : Int) (x2 y2 : Int) :
  (Op.equalIn (d + 2) 51 (.agg #[.bool x0, .int .i64 x1, .int .i64 x2]) (.agg #[.bool y0, .int .i64 y1, .int .i64 y2])).run Try.prog w = .ok (x0 == y0 && (x1 == y1 && (x2 == y2))) w := by
 refine Qd1 Try.underlying51 (by kernel_rfl) ?_
 refine jT2 (by rfl) (by go_simp; rfl) (by go_simp; rfl) (by go_simp) ?_
 refine jT2 (by rfl) (by go_simp; rfl) (by go_simp; rfl) (by go_simp) ?_
 exact zC0 (by rfl) (by go_simp; rfl) (by go_simp; rfl) (by go_simp)
end Go.Proofs.Ytngkneknopenmaa.K
end
section
namespace Go.Proofs.Ytngkneknopenmaa.K
open Go.Proofs.Ytngkneknopenmaa
open Go.RowKit Go.Proofs.YtngkneknopenmaaW.jH Go.Proofs.YtngkneknopenmaaW.qh5 Go.Proofs.YtngkneknopenmaaW.qk0
attribute [local go_sem] qp9 qq0 qv3 qv4 qm8 qm9 qq1 qq2   -- for this text's walks alone
set_option linter.unusedVariables false
set_option linter.unusedSimpArgs false
attribute [local go_sem high] zx5
def qw8.f (zB : Bool) (jT : Int) (jQ : Int) : Option (Bool) := if jT < 0 then (some false) else (if jT ≥ 64 then (some false) else (if jQ < 0 then (some false) else (if jQ > 2147483647 then (some false) else (if zB = true then (some (decide (jQ > 0))) else (some true)))))
set_option maxHeartbeats 8000000 in
set_option maxRecDepth 100000 in
theorem qw8.calls (zB : Bool) (jT : Int) (jQ : Int) (r : Bool) (w : World) (h : qw8.f zB jT jQ = some r) :
  Calls Try.prog 55 #[.agg #[.bool zB, .int .i64 jT, .int .i64 jQ]] w fun e w' => e = .returned (.bool r) ∧ Below w.heap.size w w' := by
 have zu4 := Try.underlying51
 have HB := q8.mk (Below.refl w.heap.size w)
 have H : (if jT < 0 then (some false) else (if jT ≥ 64 then (some false) else (if jQ < 0 then (some false) else (if jQ > 2147483647 then (some false) else (if zB = true then (some (decide (jQ > 0))) else (some true)))))) = some r := h
 clear h
 by_cases c2 : jT < 0
 ·rw [if_pos c2] at H
  have zc3 : decide (jT < 0) = true := decide_eq_true c2
  clear c2
  obtain rfl := Option.some.inj H
  go_enter Try.func55, Try.ntmps55
  go_wp2_with (first | ((with_reducible refine zY (N := 1) rfl ?_); refine qa5 ?hg (N := 1) ?hd (cs := #[.bool zB, .int .i64 jT, .int .i64 jQ]) (t := 51) ?hr ?_; (case hd => rfl); (case hg => rfl); (case hr => first | (go_simp; done) | (go_simp; rfl)); intro qf8 hg w3 qb4 hb; have n0_ := q8.mk (jM (by repeat (first | (with_reducible first | exact HB.out | apply qA | apply q9 | apply qB) | exact HB.out)) hb); have n1_ := q8.mk (qb4); have n2_ := q8.mk ((by rw [hg]; exact (qM (by repeat (first | (with_reducible first | exact HB.out | apply qA | apply q9 | apply qB) | exact HB.out))) : w.heap.size ≤ qf8)); have n3_ := q8.mk ((by rw [hg]; exact (qM (by repeat (first | (with_reducible first | exact HB.out | apply qA | apply q9 | apply qB) | exact HB.out))) : w.heap.size ≤ qf8)); clear HB; have HB := n0_; have qe4 := n1_; have jT6 := n2_; have qN3 := n3_; clear n0_ n1_ n2_ n3_; clear hb qb4 hg; have Qd5 : w3.cell? ⟨qf8, 0, none⟩ = some (.bool zB) := (qE qe4.out 0).trans rfl; have Qd6 : w3.cell? ⟨qf8, 1, none⟩ = some (.int .i64 jT) := (qE qe4.out 1).trans rfl; have Qd7 : w3.cell? ⟨qf8, 2, none⟩ = some (.int .i64 jQ) := (qE qe4.out 2).trans rfl; have Qd8 := qC qe4.out 0; have Qd9 := qC qe4.out 1; have Qe0 := qC qe4.out 2))
  go_ret
  exact ⟨by first | rfl | (simp [jI, jJ] <;> rfl) | (simp [*, jI, jJ] <;> rfl), by repeat (first | (with_reducible first | exact HB.out | apply qA | apply q9 | apply qB | refine qK ?_ qN3.out) | exact HB.out)⟩
 ·rw [if_neg c2] at H
  have zc3 : decide (jT < 0) = false := decide_eq_false c2
  clear c2
  by_cases c5 : jT ≥ 64
  ·rw [if_pos c5] at H
   have jC5 : decide (64 ≤ jT) = true := decide_eq_true c5
   clear c5
   obtain rfl := Option.some.inj H
   go_enter Try.func55, Try.ntmps55
   go_wp2_with (first | ((with_reducible refine zY (N := 1) rfl ?_); refine qa5 ?hg (N := 1) ?hd (cs := #[.bool zB, .int .i64 jT, .int .i64 jQ]) (t := 51) ?hr ?_; (case hd => rfl); (case hg => rfl); (case hr => first | (go_simp; done) | (go_simp; rfl)); intro qf8 hg w6 qb4 hb; have n0_ := q8.mk (jM (by repeat (first | (with_reducible first | exact HB.out | apply qA | apply q9 | apply qB) | exact HB.out)) hb); have n1_ := q8.mk (qb4); have n2_ := q8.mk ((by rw [hg]; exact (qM (by repeat (first | (with_reducible first | exact HB.out | apply qA | apply q9 | apply qB) | exact HB.out))) : w.heap.size ≤ qf8)); have n3_ := q8.mk ((by rw [hg]; exact (qM (by repeat (first | (with_reducible first | exact HB.out | apply qA | apply q9 | apply qB) | exact HB.out))) : w.heap.size ≤ qf8)); clear HB; have HB := n0_; have qe4 := n1_; have jT6 := n2_; have qN3 := n3_; clear n0_ n1_ n2_ n3_; clear hb qb4 hg; have qT6 : w6.cell? ⟨qf8, 0, none⟩ = some (.bool zB) := (qE qe4.out 0).trans rfl; have qT7 : w6.cell? ⟨qf8, 1, none⟩ = some (.int .i64 jT) := (qE qe4.out 1).trans rfl; have qT8 : w6.cell? ⟨qf8, 2, none⟩ = some (.int .i64 jQ) := (qE qe4.out 2).trans rfl; have qT9 := qC qe4.out 0; have qU0 := qC qe4.out 1; have qU1 := qC qe4.out 2))
   go_ret
   exact ⟨by first | rfl | (simp [jI, jJ] <;> rfl) | (simp [*, jI, jJ] <;> rfl), by repeat (first | (with_reducible first | exact HB.out | apply qA | apply q9 | apply qB | refine qK ?_ qN3.out) | exact HB.out)⟩
  ·rw [if_neg c5] at H
   have jC5 : decide (64 ≤ jT) = false := decide_eq_false c5
   clear c5
   by_cases c8 : jQ < 0
   ·rw [if_pos c8] at H
    have qR7 : decide (jQ < 0) = true := decide_eq_true c8
    clear c8
    obtain rfl := Option.some.inj H
    go_enter Try.func55, Try.ntmps55
    go_wp2_with (first | ((with_reducible refine zY (N := 1) rfl ?_); refine qa5 ?hg (N := 1) ?hd (cs := #[.bool zB, .int .i64 jT, .int .i64 jQ]) (t := 51) ?hr ?_; (case hd => rfl); (case hg => rfl); (case hr => first | (go_simp; done) | (go_simp; rfl)); intro qf8 hg w9 qb4 hb; have n0_ := q8.mk (jM (by repeat (first | (with_reducible first | exact HB.out | apply qA | apply q9 | apply qB) | exact HB.out)) hb); have n1_ := q8.mk (qb4); have n2_ := q8.mk ((by rw [hg]; exact (qM (by repeat (first | (with_reducible first | exact HB.out | apply qA | apply q9 | apply qB) | exact HB.out))) : w.heap.size ≤ qf8)); have n3_ := q8.mk ((by rw [hg]; exact (qM (by repeat (first | (with_reducible first | exact HB.out | apply qA | apply q9 | apply qB) | exact HB.out))) : w.heap.size ≤ qf8)); clear HB; have HB := n0_; have qe4 := n1_; have jT6 := n2_; have qN3 := n3_; clear n0_ n1_ n2_ n3_; clear hb qb4 hg; have zN6 : w9.cell? ⟨qf8, 0, none⟩ = some (.bool zB) := (qE qe4.out 0).trans rfl; have zN7 : w9.cell? ⟨qf8, 1, none⟩ = some (.int .i64 jT) := (qE qe4.out 1).trans rfl; have zN8 : w9.cell? ⟨qf8, 2, none⟩ = some (.int .i64 jQ) := (qE qe4.out 2).trans rfl; have zN9 := qC qe4.out 0; have zO0 := qC qe4.out 1; have zO1 := qC qe4.out 2))
    go_ret
    exact ⟨by first | rfl | (simp [jI, jJ] <;> rfl) | (simp [*, jI, jJ] <;> rfl), by repeat (first | (with_reducible first | exact HB.out | apply qA | apply q9 | apply qB | refine qK ?_ qN3.out) | exact HB.out)⟩
   ·rw [if_neg c8] at H
    have qR7 : decide (jQ < 0) = false := decide_eq_false c8
    clear c8
    by_cases c11 : jQ > 2147483647
    ·rw [if_pos c11] at H
     have jx1 : decide (2147483647 < jQ) = true := decide_eq_true c11
     clear c11
     obtain rfl := Option.some.inj H
     go_enter Try.func55, Try.ntmps55
     go_wp2_with (first | ((with_reducible refine zY (N := 1) rfl ?_); refine qa5 ?hg (N := 1) ?hd (cs := #[.bool zB, .int .i64 jT, .int .i64 jQ]) (t := 51) ?hr ?_; (case hd => rfl); (case hg => rfl); (case hr => first | (go_simp; done) | (go_simp; rfl)); intro qf8 hg w12 qb4 hb; have n0_ := q8.mk (jM (by repeat (first | (with_reducible first | exact HB.out | apply qA | apply q9 | apply qB) | exact HB.out)) hb); have n1_ := q8.mk (qb4); have n2_ := q8.mk ((by rw [hg]; exact (qM (by repeat (first | (with_reducible first | exact HB.out | apply qA | apply q9 | apply qB) | exact HB.out))) : w.heap.size ≤ qf8)); have n3_ := q8.mk ((by rw [hg]; exact (qM (by repeat (first | (with_reducible first | exact HB.out | apply qA | apply q9 | apply qB) | exact HB.out))) : w.heap.size ≤ qf8)); clear HB; have HB := n0_; have qe4 := n1_; have jT6 := n2_; have qN3 := n3_; clear n0_ n1_ n2_ n3_; clear hb qb4 hg; have qI2 : w12.cell? ⟨qf8, 0, none⟩ = some (.bool zB) := (qE qe4.out 0).trans rfl; have qI3 : w12.cell? ⟨qf8, 1, none⟩ = some (.int .i64 jT) := (qE qe4.out 1).trans rfl; have qI4 : w12.cell? ⟨qf8, 2, none⟩ = some (.int .i64 jQ) := (qE qe4.out 2).trans rfl; have qI5 := qC qe4.out 0; have qI6 := qC qe4.out 1; have qI7 := qC qe4.out 2))
     go_ret
     exact ⟨by first | rfl | (simp [jI, jJ] <;> rfl) | (simp [*, jI, jJ] <;> rfl), by repeat (first | (with_reducible first | exact HB.out | apply qA | apply q9 | apply qB | refine qK ?_ qN3.out) | exact HB.out)⟩
    ·rw [if_neg c11] at H
     have jx1 : decide (2147483647 < jQ) = false := decide_eq_false c11
     clear c11
     by_cases c14 : zB = true
     ·subst c14
      have H1 : (some (decide (jQ > 0))) = some r := by rw [if_pos rfl] at H; exact H
      clear H
      have H := H1
      clear H1
      obtain rfl := Option.some.inj H
      go_enter Try.func55, Try.ntmps55
      go_wp2_with (first | ((with_reducible refine zY (N := 1) rfl ?_); refine qa5 ?hg (N := 1) ?hd (cs := #[.bool true, .int .i64 jT, .int .i64 jQ]) (t := 51) ?hr ?_; (case hd => rfl); (case hg => rfl); (case hr => first | (go_simp; done) | (go_simp; rfl)); intro qf8 hg w15 qb4 hb; have n0_ := q8.mk (jM (by repeat (first | (with_reducible first | exact HB.out | apply qA | apply q9 | apply qB) | exact HB.out)) hb); have n1_ := q8.mk (qb4); have n2_ := q8.mk ((by rw [hg]; exact (qM (by repeat (first | (with_reducible first | exact HB.out | apply qA | apply q9 | apply qB) | exact HB.out))) : w.heap.size ≤ qf8)); have n3_ := q8.mk ((by rw [hg]; exact (qM (by repeat (first | (with_reducible first | exact HB.out | apply qA | apply q9 | apply qB) | exact HB.out))) : w.heap.size ≤ qf8)); clear HB; have HB := n0_; have qe4 := n1_; have jT6 := n2_; have qN3 := n3_; clear n0_ n1_ n2_ n3_; clear hb qb4 hg; have qC8 : w15.cell? ⟨qf8, 0, none⟩ = some (.bool true) := (qE qe4.out 0).trans rfl; have qC9 : w15.cell? ⟨qf8, 1, none⟩ = some (.int .i64 jT) := (qE qe4.out 1).trans rfl; have qD0 : w15.cell? ⟨qf8, 2, none⟩ = some (.int .i64 jQ) := (qE qe4.out 2).trans rfl; have qD1 := qC qe4.out 0; have qD2 := qC qe4.out 1; have qD3 := qC qe4.out 2))
      go_ret
      exact ⟨by first | rfl | (simp [jI, jJ] <;> rfl) | (simp [*, jI, jJ] <;> rfl), by repeat (first | (with_reducible first | exact HB.out | apply qA | apply q9 | apply qB | refine qK ?_ qN3.out) | exact HB.out)⟩
     ·replace c14 := Bool.eq_false_iff.mpr c14
      subst c14
      have H1 : (some true) = some r := by rw [if_neg (show ¬ (false = true) by decide)] at H; exact H
      clear H
      have H := H1
      clear H1
      obtain rfl := Option.some.inj H
      go_enter Try.func55, Try.ntmps55
      go_wp2_with (first | ((with_reducible refine zY (N := 1) rfl ?_); refine qa5 ?hg (N := 1) ?hd (cs := #[.bool false, .int .i64 jT, .int .i64 jQ]) (t := 51) ?hr ?_; (case hd => rfl); (case hg => rfl); (case hr => first | (go_simp; done) | (go_simp; rfl)); intro qf8 hg w17 qb4 hb; have n0_ := q8.mk (jM (by repeat (first | (with_reducible first | exact HB.out | apply qA | apply q9 | apply qB) | exact HB.out)) hb); have n1_ := q8.mk (qb4); have n2_ := q8.mk ((by rw [hg]; exact (qM (by repeat (first | (with_reducible first | exact HB.out | apply qA | apply q9 | apply qB) | exact HB.out))) : w.heap.size ≤ qf8)); have n3_ := q8.mk ((by rw [hg]; exact (qM (by repeat (first | (with_reducible first | exact HB.out | apply qA | apply q9 | apply qB) | exact HB.out))) : w.heap.size ≤ qf8)); clear HB; have HB := n0_; have qe4 := n1_; have jT6 := n2_; have qN3 := n3_; clear n0_ n1_ n2_ n3_; clear hb qb4 hg; have jk2 : w17.cell? ⟨qf8, 0, none⟩ = some (.bool false) := (qE qe4.out 0).trans rfl; have jk3 : w17.cell? ⟨qf8, 1, none⟩ = some (.int .i64 jT) := (qE qe4.out 1).trans rfl; have jk4 : w17.cell? ⟨qf8, 2, none⟩ = some (.int .i64 jQ) := (qE qe4.out 2).trans rfl; have jk5 := qC qe4.out 0; have jk6 := qC qe4.out 1; have jk7 := qC qe4.out 2))
      go_ret
      exact ⟨by first | rfl | (simp [jI, jJ] <;> rfl) | (simp [*, jI, jJ] <;> rfl), by repeat (first | (with_reducible first | exact HB.out | apply qA | apply q9 | apply qB | refine qK ?_ qN3.out) | exact HB.out)⟩
end Go.Proofs.Ytngkneknopenmaa.K
end
section
namespace Go.Proofs.Ytngkneknopenmaa.K
open Go.Proofs.Ytngkneknopenmaa
open Go.RowKit Go.Proofs.YtngkneknopenmaaW.jH Go.Proofs.YtngkneknopenmaaW.qh5 Go.Proofs.YtngkneknopenmaaW.qk0
attribute [local go_sem] qp9 qq0 qv3 qv4 qm8 qm9 qq1 qq2   -- for this text's walks alone
set_option linter.unusedVariables false
set_option linter.unusedSimpArgs false
mutual
def jX.j0 : Nat → Bool → Int → Int → Int → List (S51) → Option (Bool)
 | 0, _, _, _, _, _ => none
 | k + 1, x41, x233000, x233001, x233002, x233003 => if x41 = true then (some false) else (jX.l0 k x233003 (x233003.length : Int) 0)
def jX.l0 : Nat → List (S51) → Int → Int → Option (Bool)
 | 0, _, _, _ => none
 | k + 1, x43, x44, x45 => if x45 < x44 then (if 0 ≤ x45 then (if x45 < (x43.length : Int) then ((qw8.f ((qG x43 x45).f0) ((qG x43 x45).f1) ((qG x43 x45).f2)).bind fun t235 => (if t235 = true then (jX.l0 k x43 x44 (wrap64 (x45 + 1))) else (some false))) else (none)) else (none)) else (some true)
end
def jX.f (k : Nat) (zB : Int) (jT : Int) (jQ : Int) (jN : List (S51)) : Option (Bool) := if zB < 0 then (jX.j0 k true zB jT jQ jN) else (if zB ≥ 64 then (jX.j0 k true zB jT jQ jN) else (if jT < 0 then (jX.j0 k true zB jT jQ jN) else (if jT ≥ jQ then (jX.j0 k true zB jT jQ jN) else (if jQ > 2147483647 then (jX.j0 k true zB jT jQ jN) else (if (jN.length : Int) < 1 then (jX.j0 k true zB jT jQ jN) else (jX.j0 k (decide ((jN.length : Int) > 64)) zB jT jQ jN))))))
set_option maxHeartbeats 8000000 in
set_option maxRecDepth 100000 in
theorem jX.calls (k : Nat) (zB : Int) (jT : Int) (jQ : Int) (qt7 : Option Addr) (ql7 : Nat) (jN : List (S51)) (r : Bool) (w : World) (jT7 : Kd.C k51 w qt7 jN.length jN) (jT8 : jN.length ≤ ql7) (h : jX.f k zB jT jQ jN = some r) :
  Calls Try.prog 29 #[.agg #[.int .i64 zB, .int .i64 jT, .int .i64 jQ, .slice qt7 jN.length ql7]] w fun e w' => e = .returned (.bool r) ∧ Below w.heap.size w w' := by
 have zE7 := Try.underlying55
 have zu4 := Try.underlying51
 have jT9 := q8.mk jT7
 have Qn3 := q8.mk jT8
 clear jT7 jT8
 have HB := q8.mk (Below.refl w.heap.size w)
 have H : (if zB < 0 then (jX.j0 k true zB jT jQ jN) else (if zB ≥ 64 then (jX.j0 k true zB jT jQ jN) else (if jT < 0 then (jX.j0 k true zB jT jQ jN) else (if jT ≥ jQ then (jX.j0 k true zB jT jQ jN) else (if jQ > 2147483647 then (jX.j0 k true zB jT jQ jN) else (if (jN.length : Int) < 1 then (jX.j0 k true zB jT jQ jN) else (jX.j0 k (decide ((jN.length : Int) > 64)) zB jT jQ jN))))))) = some r := h
 clear h
 have HC2 := q8.mk H
 clear H
 go_enter Try.func29, Try.ntmps29
 go_upto_region 1 with (first | ((with_reducible refine zY (N := 1) rfl ?_); (try (refine qI1 (by rfl) ?_; dsimp only)); refine qa5 ?hg (N := 1) ?hd (cs := #[.int .i64 zB, .int .i64 jT, .int .i64 jQ, .slice qt7 jN.length ql7]) (t := 55) ?hr ?_; (case hd => rfl); (case hg => rfl); (case hr => first | (go_simp; done) | (go_simp; rfl)); intro qb8 hg w3 qb4 hb; have n0_ := q8.mk (jM (by repeat (first | (with_reducible first | exact HB.out | apply qA | apply q9 | apply qB) | exact HB.out)) hb); have n1_ := q8.mk (qb4); have n2_ := q8.mk ((by rw [hg]; exact (qM (by repeat (first | (with_reducible first | exact HB.out | apply qA | apply q9 | apply qB) | exact HB.out))) : w.heap.size ≤ qb8)); have n3_ := q8.mk ((by rw [hg]; exact (qM (by repeat (first | (with_reducible first | exact HB.out | apply qA | apply q9 | apply qB) | exact HB.out))) : w.heap.size ≤ qb8)); clear HB; have HB := n0_; have jY := n1_; have GW232 := n2_; have qr5 := n3_; clear n0_ n1_ n2_ n3_; clear hb qb4 hg))
 (try simp only [Act.put, List.setIfInBounds_toArray, List.set_cons_zero, List.set_cons_succ])
 go_cut [41] (fun v41 wc => ∃ (kq : Nat) (zi7 : Bool), v41 = .bool zi7 ∧ q8 (jX.j0 kq zi7 zB jT jQ jN = some r) ∧ q8 (kq ≤ k) ∧ q8 (wc.heap[qb8]? = some (.cells #[.int .i64 zB, .int .i64 jT, .int .i64 jQ, (.slice qt7 jN.length ql7)] 55 (0, 0))) ∧ q8 (Below w.heap.size w wc))
 case first =>
  have H := HC2.out
  clear HC2
  by_cases c4 : zB < 0
  ·rw [if_pos c4] at H
   have qB1 : decide (zB < 0) = true := decide_eq_true c4
   clear c4
   (first | rw [qB1] | (simp only [zZ, qa1]; rw [qB1]) | skip)
   have H' := q8.mk H
   clear H
   have jq7 : w3.cell? ⟨qb8, 0, none⟩ = some (.int .i64 zB) := (qE jY.out 0).trans rfl
   have jq8 : w3.cell? ⟨qb8, 1, none⟩ = some (.int .i64 jT) := (qE jY.out 1).trans rfl
   have jq9 : w3.cell? ⟨qb8, 2, none⟩ = some (.int .i64 jQ) := (qE jY.out 2).trans rfl
   have jr0 : w3.cell? ⟨qb8, 3, none⟩ = some (.slice qt7 jN.length ql7) := (qE jY.out 3).trans rfl
   have jr1 := qC jY.out 0
   have jr2 := qC jY.out 1
   have jr3 := qC jY.out 2
   have jr4 := qC jY.out 3
   go_wp2
   go_meet
   case rel => exact ⟨_, (true), (by first | rfl | (simp; done) | (simp [*]; done)), H', ⟨by first | omega | exact Nat.le_refl _⟩, ⟨by (with_reducible repeat (first | refine qI ?_ _ | refine qR ?_ | refine qJ ?_ _)); exact jY.out⟩, ⟨by repeat (first | (with_reducible first | exact HB.out | apply qA | apply q9 | apply qB | refine qK ?_ qr5.out) | exact HB.out)⟩⟩
  ·rw [if_neg c4] at H
   have qB1 : decide (zB < 0) = false := decide_eq_false c4
   clear c4
   (first | rw [qB1] | (simp only [zZ, qa1]; rw [qB1]) | skip)
   by_cases c6 : zB ≥ 64
   ·rw [if_pos c6] at H
    have jh8 : decide (64 ≤ zB) = true := decide_eq_true c6
    clear c6
    have H' := q8.mk H
    clear H
    have qT6 : w3.cell? ⟨qb8, 0, none⟩ = some (.int .i64 zB) := (qE jY.out 0).trans rfl
    have qT7 : w3.cell? ⟨qb8, 1, none⟩ = some (.int .i64 jT) := (qE jY.out 1).trans rfl
    have qT8 : w3.cell? ⟨qb8, 2, none⟩ = some (.int .i64 jQ) := (qE jY.out 2).trans rfl
    have jr5 : w3.cell? ⟨qb8, 3, none⟩ = some (.slice qt7 jN.length ql7) := (qE jY.out 3).trans rfl
    have qT9 := qC jY.out 0
    have qU0 := qC jY.out 1
    have qU1 := qC jY.out 2
    have jr6 := qC jY.out 3
    go_wp2
    go_meet
    case rel => exact ⟨_, (true), (by first | rfl | (simp; done) | (simp [*]; done)), H', ⟨by first | omega | exact Nat.le_refl _⟩, ⟨by (with_reducible repeat (first | refine qI ?_ _ | refine qR ?_ | refine qJ ?_ _)); exact jY.out⟩, ⟨by repeat (first | (with_reducible first | exact HB.out | apply qA | apply q9 | apply qB | refine qK ?_ qr5.out) | exact HB.out)⟩⟩
   ·rw [if_neg c6] at H
    have jh8 : decide (64 ≤ zB) = false := decide_eq_false c6
    clear c6
    by_cases c8 : jT < 0
    ·rw [if_pos c8] at H
     have qR7 : decide (jT < 0) = true := decide_eq_true c8
     clear c8
     have H' := q8.mk H
     clear H
     have jr7 : w3.cell? ⟨qb8, 0, none⟩ = some (.int .i64 zB) := (qE jY.out 0).trans rfl
     have jr8 : w3.cell? ⟨qb8, 1, none⟩ = some (.int .i64 jT) := (qE jY.out 1).trans rfl
     have jr9 : w3.cell? ⟨qb8, 2, none⟩ = some (.int .i64 jQ) := (qE jY.out 2).trans rfl
     have js0 : w3.cell? ⟨qb8, 3, none⟩ = some (.slice qt7 jN.length ql7) := (qE jY.out 3).trans rfl
     have js1 := qC jY.out 0
     have js2 := qC jY.out 1
     have js3 := qC jY.out 2
     have js4 := qC jY.out 3
     go_wp2
     go_meet
     case rel => exact ⟨_, (true), (by first | rfl | (simp; done) | (simp [*]; done)), H', ⟨by first | omega | exact Nat.le_refl _⟩, ⟨by (with_reducible repeat (first | refine qI ?_ _ | refine qR ?_ | refine qJ ?_ _)); exact jY.out⟩, ⟨by repeat (first | (with_reducible first | exact HB.out | apply qA | apply q9 | apply qB | refine qK ?_ qr5.out) | exact HB.out)⟩⟩
    ·rw [if_neg c8] at H
     have qR7 : decide (jT < 0) = false := decide_eq_false c8
     clear c8
     by_cases c10 : jT ≥ jQ
     ·rw [if_pos c10] at H
      have qL5 : decide (jQ ≤ jT) = true := decide_eq_true c10
      clear c10
      have H' := q8.mk H
      clear H
      have ja6 : w3.cell? ⟨qb8, 0, none⟩ = some (.int .i64 zB) := (qE jY.out 0).trans rfl
      have ja7 : w3.cell? ⟨qb8, 1, none⟩ = some (.int .i64 jT) := (qE jY.out 1).trans rfl
      have ja8 : w3.cell? ⟨qb8, 2, none⟩ = some (.int .i64 jQ) := (qE jY.out 2).trans rfl
      have ja9 : w3.cell? ⟨qb8, 3, none⟩ = some (.slice qt7 jN.length ql7) := (qE jY.out 3).trans rfl
      have jb0 := qC jY.out 0
      have jb1 := qC jY.out 1
      have jb2 := qC jY.out 2
      have jb3 := qC jY.out 3
      go_wp2
      go_meet
      case rel => exact ⟨_, (true), (by first | rfl | (simp; done) | (simp [*]; done)), H', ⟨by first | omega | exact Nat.le_refl _⟩, ⟨by (with_reducible repeat (first | refine qI ?_ _ | refine qR ?_ | refine qJ ?_ _)); exact jY.out⟩, ⟨by repeat (first | (with_reducible first | exact HB.out | apply qA | apply q9 | apply qB | refine qK ?_ qr5.out) | exact HB.out)⟩⟩
     ·rw [if_neg c10] at H
      have qL5 : decide (jQ ≤ jT) = false := decide_eq_false c10
      clear c10
      by_cases c12 : jQ > 2147483647
      ·rw [if_pos c12] at H
       have qE3 : decide (2147483647 < jQ) = true := decide_eq_true c12
       clear c12
       have H' := q8.mk H
       clear H
       have qI2 : w3.cell? ⟨qb8, 0, none⟩ = some (.int .i64 zB) := (qE jY.out 0).trans rfl
       have qI3 : w3.cell? ⟨qb8, 1, none⟩ = some (.int .i64 jT) := (qE jY.out 1).trans rfl
       have qI4 : w3.cell? ⟨qb8, 2, none⟩ = some (.int .i64 jQ) := (qE jY.out 2).trans rfl
       have jb4 : w3.cell? ⟨qb8, 3, none⟩ = some (.slice qt7 jN.length ql7) := (qE jY.out 3).trans rfl
       have qI5 := qC jY.out 0
       have qI6 := qC jY.out 1
       have qI7 := qC jY.out 2
       have jb5 := qC jY.out 3
       go_wp2
       go_meet
       case rel => exact ⟨_, (true), (by first | rfl | (simp; done) | (simp [*]; done)), H', ⟨by first | omega | exact Nat.le_refl _⟩, ⟨by (with_reducible repeat (first | refine qI ?_ _ | refine qR ?_ | refine qJ ?_ _)); exact jY.out⟩, ⟨by repeat (first | (with_reducible first | exact HB.out | apply qA | apply q9 | apply qB | refine qK ?_ qr5.out) | exact HB.out)⟩⟩
      ·rw [if_neg c12] at H
       have qE3 : decide (2147483647 < jQ) = false := decide_eq_false c12
       clear c12
       by_cases c14 : (jN.length : Int) < 1
       ·rw [if_pos c14] at H
        have qV7 : decide ((jN.length : Int) < 1) = true := decide_eq_true c14
        have js5 : decide (jN.length < 1) = true := decide_eq_true (by omega)
        clear c14
        have H' := q8.mk H
        clear H
        have jb6 : w3.cell? ⟨qb8, 0, none⟩ = some (.int .i64 zB) := (qE jY.out 0).trans rfl
        have jb7 : w3.cell? ⟨qb8, 1, none⟩ = some (.int .i64 jT) := (qE jY.out 1).trans rfl
        have jb8 : w3.cell? ⟨qb8, 2, none⟩ = some (.int .i64 jQ) := (qE jY.out 2).trans rfl
        have jb9 : w3.cell? ⟨qb8, 3, none⟩ = some (.slice qt7 jN.length ql7) := (qE jY.out 3).trans rfl
        have jc0 := qC jY.out 0
        have jc1 := qC jY.out 1
        have jc2 := qC jY.out 2
        have jc3 := qC jY.out 3
        go_wp2
        go_meet
        case rel => exact ⟨_, (true), (by first | rfl | (simp; done) | (simp [*]; done)), H', ⟨by first | omega | exact Nat.le_refl _⟩, ⟨by (with_reducible repeat (first | refine qI ?_ _ | refine qR ?_ | refine qJ ?_ _)); exact jY.out⟩, ⟨by repeat (first | (with_reducible first | exact HB.out | apply qA | apply q9 | apply qB | refine qK ?_ qr5.out) | exact HB.out)⟩⟩
       ·rw [if_neg c14] at H
        have qV7 : decide ((jN.length : Int) < 1) = false := decide_eq_false c14
        have js5 : decide (jN.length < 1) = false := decide_eq_false (by omega)
        clear c14
        have H' := q8.mk H
        clear H
        have qC8 : w3.cell? ⟨qb8, 0, none⟩ = some (.int .i64 zB) := (qE jY.out 0).trans rfl
        have qC9 : w3.cell? ⟨qb8, 1, none⟩ = some (.int .i64 jT) := (qE jY.out 1).trans rfl
        have qD0 : w3.cell? ⟨qb8, 2, none⟩ = some (.int .i64 jQ) := (qE jY.out 2).trans rfl
        have jc4 : w3.cell? ⟨qb8, 3, none⟩ = some (.slice qt7 jN.length ql7) := (qE jY.out 3).trans rfl
        have qD1 := qC jY.out 0
        have qD2 := qC jY.out 1
        have qD3 := qC jY.out 2
        have jc5 := qC jY.out 3
        go_wp2
        go_meet
        case rel => exact ⟨_, (decide ((jN.length : Int) > 64)), (by first | rfl | (simp; done) | (simp [*]; done)), H', ⟨by first | omega | exact Nat.le_refl _⟩, ⟨by (with_reducible repeat (first | refine qI ?_ _ | refine qR ?_ | refine qJ ?_ _)); exact jY.out⟩, ⟨by repeat (first | (with_reducible first | exact HB.out | apply qA | apply q9 | apply qB | refine qK ?_ qr5.out) | exact HB.out)⟩⟩
 case rest =>
  clear HC2
  try clear c1
  try clear c2
  try clear p2
  try clear c4
  try clear qB1
  try clear c6
  try clear jh8
  try clear c8
  try clear qR7
  try clear c10
  try clear qL5
  try clear c12
  try clear qE3
  try clear c14
  try clear qV7
  try clear js5
  try clear ja6
  try clear ja7
  try clear ja8
  try clear ja9
  try clear qI2
  try clear qI3
  try clear qI4
  try clear jb4
  try clear jb6
  try clear jb7
  try clear jb8
  try clear jb9
  try clear qC8
  try clear qC9
  try clear qD0
  try clear jc4
  try clear jq7
  try clear jq8
  try clear jq9
  try clear jr0
  try clear qT6
  try clear qT7
  try clear qT8
  try clear jr5
  try clear jr7
  try clear jr8
  try clear jr9
  try clear js0
  try clear jb0
  try clear jb1
  try clear jb2
  try clear jb3
  try clear qI5
  try clear qI6
  try clear qI7
  try clear jb5
  try clear jc0
  try clear jc1
  try clear jc2
  try clear jc3
  try clear qD1
  try clear qD2
  try clear qD3
  try clear jc5
  try clear jr1
  try clear jr2
  try clear jr3
  try clear jr4
  try clear qT9
  try clear qU0
  try clear qU1
  try clear jr6
  try clear js1
  try clear js2
  try clear js3
  try clear js4
  obtain ⟨kq, zi7, rfl, HA, HJ1, jY, HB⟩ := hcut
  cases kq with
  | zero => exact absurd HA.out (by simp [jX.j0])
  | succ kj1 =>
   have H := HA.out
   clear HA
   simp only [jX.j0] at H
   by_cases c17 : zi7 = true
   ·subst c17
    have H1 : (some false) = some r := by rw [if_pos rfl] at H; exact H
    clear H
    have H := H1
    clear H1
    obtain rfl := Option.some.inj H
    go_wp2
    go_ret
    exact ⟨by first | rfl | (simp [jI, jJ] <;> rfl) | (simp [*, jI, jJ] <;> rfl), by repeat (first | (with_reducible first | exact HB.out | apply qA | apply q9 | apply qB | refine qK ?_ qr5.out) | exact HB.out)⟩
   ·replace c17 := Bool.eq_false_iff.mpr c17
    subst c17
    have H1 : (jX.l0 kj1 jN (jN.length : Int) 0) = some r := by rw [if_neg (show ¬ (false = true) by decide)] at H; exact H
    clear H
    have H := H1
    clear H1
    have H' := q8.mk H
    clear H
    have jk2 : wc.cell? ⟨qb8, 0, none⟩ = some (.int .i64 zB) := (qE jY.out 0).trans rfl
    have jk3 : wc.cell? ⟨qb8, 1, none⟩ = some (.int .i64 jT) := (qE jY.out 1).trans rfl
    have jk4 : wc.cell? ⟨qb8, 2, none⟩ = some (.int .i64 jQ) := (qE jY.out 2).trans rfl
    have zO2 : wc.cell? ⟨qb8, 3, none⟩ = some (.slice qt7 jN.length ql7) := (qE jY.out 3).trans rfl
    have jk5 := qC jY.out 0
    have jk6 := qC jY.out 1
    have jk7 := qC jY.out 2
    have zO3 := qC jY.out 3
    go_wp2
    go_loopg [45] kj1 (fun kq v45 w' => ∃ (qd7 : Int), v45 = .int .i64 qd7 ∧ q8 (jX.l0 kq jN (jN.length : Int) qd7 = some r) ∧ q8 (kq ≤ kj1) ∧ q8 (w'.heap[qb8]? = some (.cells #[.int .i64 zB, .int .i64 jT, .int .i64 jQ, (.slice qt7 jN.length ql7)] 55 (0, 0))) ∧ q8 (Below w.heap.size w w'))
    case atStart => exact ⟨(0), (by first | rfl | (simp; done) | (simp [*]; done)), H', ⟨Nat.le_refl _⟩, ⟨by (with_reducible repeat (first | refine qI ?_ _ | refine qR ?_ | refine qJ ?_ _)); exact jY.out⟩, ⟨by repeat (first | (with_reducible first | exact HB.out | apply qA | apply q9 | apply qB | refine qK ?_ qr5.out) | exact HB.out)⟩⟩
    case round =>
     clear H'
     try clear c1
     try clear c2
     try clear p2
     try clear c4
     try clear qB1
     try clear c6
     try clear jh8
     try clear c8
     try clear qR7
     try clear c10
     try clear qL5
     try clear c12
     try clear qE3
     try clear c14
     try clear qV7
     try clear js5
     try clear c17
     try clear ja6
     try clear ja7
     try clear ja8
     try clear ja9
     try clear qI2
     try clear qI3
     try clear qI4
     try clear jb4
     try clear jb6
     try clear jb7
     try clear jb8
     try clear jb9
     try clear qC8
     try clear qC9
     try clear qD0
     try clear jc4
     try clear jk2
     try clear jk3
     try clear jk4
     try clear zO2
     try clear jq7
     try clear jq8
     try clear jq9
     try clear jr0
     try clear qT6
     try clear qT7
     try clear qT8
     try clear jr5
     try clear jr7
     try clear jr8
     try clear jr9
     try clear js0
     try clear jb0
     try clear jb1
     try clear jb2
     try clear jb3
     try clear qI5
     try clear qI6
     try clear qI7
     try clear jb5
     try clear jc0
     try clear jc1
     try clear jc2
     try clear jc3
     try clear qD1
     try clear qD2
     try clear qD3
     try clear jc5
     try clear jk5
     try clear jk6
     try clear jk7
     try clear zO3
     try clear jr1
     try clear jr2
     try clear jr3
     try clear jr4
     try clear qT9
     try clear qU0
     try clear qU1
     try clear jr6
     try clear js1
     try clear js2
     try clear js3
     try clear js4
     try clear p2
     obtain ⟨qd7, rfl, HA, HK2, jY, HB⟩ := hrel
     cases gk with
     | zero => exact absurd HA.out (by simp [jX.l0])
     | succ k2 =>
      have H := HA.out
      clear HA
      simp only [jX.l0] at H
      by_cases c19 : qd7 < (jN.length : Int)
      ·rw [if_pos c19] at H
       have zU6 : decide (qd7 < (jN.length : Int)) = true := decide_eq_true c19
       clear c19
       by_cases c20 : 0 ≤ qd7
       ·rw [if_pos c20] at H
        have Qh0 : decide (0 ≤ qd7) = true := decide_eq_true c20
        clear c20
        by_cases c21 : qd7 < (jN.length : Int)
        ·rw [if_pos c21] at H
         have Qh1 : decide (qd7 < (jN.length : Int)) = true := decide_eq_true c21
         clear c21
         replace H := Option.bind_eq_some_iff.mp H
         obtain ⟨t235, A220, H⟩ := H
         replace H : (if t235 = true then (jX.l0 k2 jN (jN.length : Int) (wrap64 (qd7 + 1))) else (some false)) = some r := H
         have A22 := q8.mk A220
         clear A220
         by_cases c23 : t235 = true
         ·subst c23
          have H1 : (jX.l0 k2 jN (jN.length : Int) (wrap64 (qd7 + 1))) = some r := by rw [if_pos rfl] at H; exact H
          clear H
          have H := H1
          clear H1
          have H' := q8.mk H
          clear H
          have zc4 : 0 ≤ (qd7 : Int) := of_decide_eq_true (by first | (with_reducible assumption) | assumption)
          have zc5 : qd7 < (jN.length : Int) := of_decide_eq_true (by first | (with_reducible assumption) | assumption)
          obtain ⟨jc6, e233, qI8, qI9, qJ0⟩ := qr0 jT9.out qd7 zc4 zc5
          cases e233
          replace qI8 := (HB.out.cell (World.block_lt_of_cell? w _ qI8)).trans qI8
          replace qI9 := (HB.out.cell (World.block_lt_of_cell? w _ qI9)).trans qI9
          replace qJ0 := (HB.out.cell (World.block_lt_of_cell? w _ qJ0)).trans qJ0
          replace zc4 := eq_true zc4
          replace zc5 := eq_true zc5
          go_wp2_with (first | ((with_reducible refine zY (N := 4) rfl ?_); (try (refine qI1 (by rfl) ?_; dsimp only)); refine qa5 ?hg (N := 4) ?hd (cs := #[.bool false, .int .i64 0, .int .i64 0]) (t := 51) ?hr ?_; (case hd => rfl); (case hg => rfl); (case hr => first | (go_simp; done) | (go_simp; rfl)); intro qw9 hg w24 qb4 hb; have n0_ := q8.mk (qn0 (g := qb8) (o := .cells #[.int .i64 zB, .int .i64 jT, .int .i64 jQ, .slice (some jc6) jN.length ql7] 55 (0, 0)) (by (with_reducible repeat (first | refine qI ?_ _ | refine qR ?_ | refine qJ ?_ _)); exact jY.out) hb); have n1_ := q8.mk (jM (by repeat (first | (with_reducible first | exact HB.out | apply qA | apply q9 | apply qB | refine qK ?_ qr5.out) | exact HB.out)) hb); have n2_ := q8.mk (qb4); have n3_ := q8.mk ((by rw [hg]; exact (qM (by repeat (first | (with_reducible first | exact HB.out | apply qA | apply q9 | apply qB | refine qK ?_ qr5.out) | exact HB.out))) : w.heap.size ≤ qw9)); have n4_ := q8.mk ((by rw [hg]; exact (qM (by repeat (first | (with_reducible first | exact HB.out | apply qA | apply q9 | apply qB | refine qK ?_ qr5.out) | exact HB.out))) : w.heap.size ≤ qw9)); have n5_ := q8.mk ((by rw [hg]; exact Nat.ne_of_lt (qt2 (g := qb8) (o := .cells #[.int .i64 zB, .int .i64 jT, .int .i64 jQ, .slice (some jc6) jN.length ql7] 55 (0, 0)) (by (with_reducible repeat (first | refine qI ?_ _ | refine qR ?_ | refine qJ ?_ _)); exact jY.out)) : qb8 ≠ qw9)); have n6_ := q8.mk ((by rw [hg]; exact Nat.ne_of_gt (qt2 (g := qb8) (o := .cells #[.int .i64 zB, .int .i64 jT, .int .i64 jQ, .slice (some jc6) jN.length ql7] 55 (0, 0)) (by (with_reducible repeat (first | refine qI ?_ _ | refine qR ?_ | refine qJ ?_ _)); exact jY.out)) : qw9 ≠ qb8)); clear jY; clear HB; have jY := n0_; have HB := n1_; have qt8 := n2_; have Qn4 := n3_; have jU0 := n4_; have qp4 := n5_; have jg1 := n6_; clear n0_ n1_ n2_ n3_ n4_ n5_ n6_; clear hb qb4 hg; have hnb25 := jg1.out; have hnc25 := qp4.out; have zO4 : w24.cell? ⟨qw9, 0, none⟩ = some (.bool false) := (qE qt8.out 0).trans rfl; have zO5 : w24.cell? ⟨qw9, 1, none⟩ = some (.int .i64 0) := (qE qt8.out 1).trans rfl; have zO6 : w24.cell? ⟨qw9, 2, none⟩ = some (.int .i64 0) := (qE qt8.out 2).trans rfl; have zO7 := qC qt8.out 0; have zO8 := qC qt8.out 1; have zO9 := qC qt8.out 2) | ((with_reducible refine qi8 (f := 55) rfl ?_); refine qG9 (some 50) rfl rfl Try.func55 (by kernel_rfl) rfl #[.agg #[.bool ((qG jN qd7).f0), .int .i64 ((qG jN qd7).f1), .int .i64 ((qG jN qd7).f2)]] rfl (by (try simp only [List.map_toArray, List.map_cons, List.map_nil]); first | done | rfl | (simp only [List.length_drop, List.length_take]; rfl)) ?_; (with_reducible refine (qw8.calls ((qG jN qd7).f0) ((qG jN qd7).f1) ((qG jN qd7).f2) true _ A22.out).mono ?_); rintro e w27 ⟨rfl, hb⟩; refine ⟨_, rfl, ?_⟩; have n0_ := q8.mk (qn0 (g := qb8) (o := .cells #[.int .i64 zB, .int .i64 jT, .int .i64 jQ, .slice (some jc6) jN.length ql7] 55 (0, 0)) (by (with_reducible repeat (first | refine qI ?_ _ | refine qR ?_ | refine qJ ?_ _)); refine qj3 ?_ qp4.out _; (with_reducible repeat (first | refine qI ?_ _ | refine qR ?_ | refine qJ ?_ _)); refine qj3 ?_ qp4.out _; (with_reducible repeat (first | refine qI ?_ _ | refine qR ?_ | refine qJ ?_ _)); refine qj3 ?_ qp4.out _; (with_reducible repeat (first | refine qI ?_ _ | refine qR ?_ | refine qJ ?_ _)); exact jY.out) hb); have n1_ := q8.mk (qn0 (g := qw9) (o := .cells #[.bool ((qG jN qd7).f0), .int .i64 ((qG jN qd7).f1), .int .i64 ((qG jN qd7).f2)] 51 (0, 0)) (by (with_reducible repeat (first | refine qI ?_ _ | refine qR ?_ | refine qJ ?_ _)); refine qd4 (cs := #[.bool ((qG jN qd7).f0), .int .i64 ((qG jN qd7).f1), .int .i64 0]) ?_ 2 _ rfl; (with_reducible repeat (first | refine qI ?_ _ | refine qR ?_ | refine qJ ?_ _)); refine qd4 (cs := #[.bool ((qG jN qd7).f0), .int .i64 0, .int .i64 0]) ?_ 1 _ rfl; (with_reducible repeat (first | refine qI ?_ _ | refine qR ?_ | refine qJ ?_ _)); refine qd4 (cs := #[.bool false, .int .i64 0, .int .i64 0]) ?_ 0 _ rfl; (with_reducible repeat (first | refine qI ?_ _ | refine qR ?_ | refine qJ ?_ _)); exact qt8.out) hb); have n2_ := q8.mk (jM (by repeat (first | (with_reducible first | exact HB.out | apply qA | apply q9 | apply qB | refine qK ?_ qr5.out | refine qK ?_ jU0.out) | exact HB.out)) hb); clear jY; clear qt8; clear HB; have jY := n0_; have qt8 := n1_; have HB := n2_; clear n0_ n1_ n2_; (try clear hb); (try clear hb2); (try clear hk); (try clear hi)))
          go_roundg k2
          case measure => have := HJ1.out; have := HK2.out; omega
          case rel => exact ⟨(wrap64 (qd7 + 1)), (by first | rfl | (simp; done) | (simp [*]; done)), H', ⟨by have := HJ1.out; have := HK2.out; omega⟩, ⟨by (with_reducible repeat (first | refine qI ?_ _ | refine qR ?_ | refine qJ ?_ _)); exact jY.out⟩, ⟨by repeat (first | (with_reducible first | exact HB.out | apply qA | apply q9 | apply qB | refine qK ?_ qr5.out | refine qK ?_ jU0.out) | exact HB.out)⟩⟩
         ·replace c23 := Bool.eq_false_iff.mpr c23
          subst c23
          have H1 : (some false) = some r := by rw [if_neg (show ¬ (false = true) by decide)] at H; exact H
          clear H
          have H := H1
          clear H1
          obtain rfl := Option.some.inj H
          have zc4 : 0 ≤ (qd7 : Int) := of_decide_eq_true (by first | (with_reducible assumption) | assumption)
          have zc5 : qd7 < (jN.length : Int) := of_decide_eq_true (by first | (with_reducible assumption) | assumption)
          obtain ⟨jc6, e233, qI8, qI9, qJ0⟩ := qr0 jT9.out qd7 zc4 zc5
          cases e233
          replace qI8 := (HB.out.cell (World.block_lt_of_cell? w _ qI8)).trans qI8
          replace qI9 := (HB.out.cell (World.block_lt_of_cell? w _ qI9)).trans qI9
          replace qJ0 := (HB.out.cell (World.block_lt_of_cell? w _ qJ0)).trans qJ0
          replace zc4 := eq_true zc4
          replace zc5 := eq_true zc5
          go_wp2_with (first | ((with_reducible refine zY (N := 4) rfl ?_); (try (refine qI1 (by rfl) ?_; dsimp only)); refine qa5 ?hg (N := 4) ?hd (cs := #[.bool false, .int .i64 0, .int .i64 0]) (t := 51) ?hr ?_; (case hd => rfl); (case hg => rfl); (case hr => first | (go_simp; done) | (go_simp; rfl)); intro qw9 hg w28 qb4 hb; have n0_ := q8.mk (qn0 (g := qb8) (o := .cells #[.int .i64 zB, .int .i64 jT, .int .i64 jQ, .slice (some jc6) jN.length ql7] 55 (0, 0)) (by (with_reducible repeat (first | refine qI ?_ _ | refine qR ?_ | refine qJ ?_ _)); exact jY.out) hb); have n1_ := q8.mk (jM (by repeat (first | (with_reducible first | exact HB.out | apply qA | apply q9 | apply qB | refine qK ?_ qr5.out) | exact HB.out)) hb); have n2_ := q8.mk (qb4); have n3_ := q8.mk ((by rw [hg]; exact (qM (by repeat (first | (with_reducible first | exact HB.out | apply qA | apply q9 | apply qB | refine qK ?_ qr5.out) | exact HB.out))) : w.heap.size ≤ qw9)); have n4_ := q8.mk ((by rw [hg]; exact (qM (by repeat (first | (with_reducible first | exact HB.out | apply qA | apply q9 | apply qB | refine qK ?_ qr5.out) | exact HB.out))) : w.heap.size ≤ qw9)); have n5_ := q8.mk ((by rw [hg]; exact Nat.ne_of_lt (qt2 (g := qb8) (o := .cells #[.int .i64 zB, .int .i64 jT, .int .i64 jQ, .slice (some jc6) jN.length ql7] 55 (0, 0)) (by (with_reducible repeat (first | refine qI ?_ _ | refine qR ?_ | refine qJ ?_ _)); exact jY.out)) : qb8 ≠ qw9)); have n6_ := q8.mk ((by rw [hg]; exact Nat.ne_of_gt (qt2 (g := qb8) (o := .cells #[.int .i64 zB, .int .i64 jT, .int .i64 jQ, .slice (some jc6) jN.length ql7] 55 (0, 0)) (by (with_reducible repeat (first | refine qI ?_ _ | refine qR ?_ | refine qJ ?_ _)); exact jY.out)) : qw9 ≠ qb8)); clear jY; clear HB; have jY := n0_; have HB := n1_; have qt8 := n2_; have Qn4 := n3_; have jU0 := n4_; have qp4 := n5_; have jg1 := n6_; clear n0_ n1_ n2_ n3_ n4_ n5_ n6_; clear hb qb4 hg; have hnb29 := jg1.out; have hnc29 := qp4.out; have Qz0 : w28.cell? ⟨qw9, 0, none⟩ = some (.bool false) := (qE qt8.out 0).trans rfl; have Qz1 : w28.cell? ⟨qw9, 1, none⟩ = some (.int .i64 0) := (qE qt8.out 1).trans rfl; have Qz2 : w28.cell? ⟨qw9, 2, none⟩ = some (.int .i64 0) := (qE qt8.out 2).trans rfl; have Qz3 := qC qt8.out 0; have Qz4 := qC qt8.out 1; have Qz5 := qC qt8.out 2) | ((with_reducible refine qi8 (f := 55) rfl ?_); refine qG9 (some 50) rfl rfl Try.func55 (by kernel_rfl) rfl #[.agg #[.bool ((qG jN qd7).f0), .int .i64 ((qG jN qd7).f1), .int .i64 ((qG jN qd7).f2)]] rfl (by (try simp only [List.map_toArray, List.map_cons, List.map_nil]); first | done | rfl | (simp only [List.length_drop, List.length_take]; rfl)) ?_; (with_reducible refine (qw8.calls ((qG jN qd7).f0) ((qG jN qd7).f1) ((qG jN qd7).f2) false _ A22.out).mono ?_); rintro e w31 ⟨rfl, hb⟩; refine ⟨_, rfl, ?_⟩; have n0_ := q8.mk (qn0 (g := qb8) (o := .cells #[.int .i64 zB, .int .i64 jT, .int .i64 jQ, .slice (some jc6) jN.length ql7] 55 (0, 0)) (by (with_reducible repeat (first | refine qI ?_ _ | refine qR ?_ | refine qJ ?_ _)); refine qj3 ?_ qp4.out _; (with_reducible repeat (first | refine qI ?_ _ | refine qR ?_ | refine qJ ?_ _)); refine qj3 ?_ qp4.out _; (with_reducible repeat (first | refine qI ?_ _ | refine qR ?_ | refine qJ ?_ _)); refine qj3 ?_ qp4.out _; (with_reducible repeat (first | refine qI ?_ _ | refine qR ?_ | refine qJ ?_ _)); exact jY.out) hb); have n1_ := q8.mk (qn0 (g := qw9) (o := .cells #[.bool ((qG jN qd7).f0), .int .i64 ((qG jN qd7).f1), .int .i64 ((qG jN qd7).f2)] 51 (0, 0)) (by (with_reducible repeat (first | refine qI ?_ _ | refine qR ?_ | refine qJ ?_ _)); refine qd4 (cs := #[.bool ((qG jN qd7).f0), .int .i64 ((qG jN qd7).f1), .int .i64 0]) ?_ 2 _ rfl; (with_reducible repeat (first | refine qI ?_ _ | refine qR ?_ | refine qJ ?_ _)); refine qd4 (cs := #[.bool ((qG jN qd7).f0), .int .i64 0, .int .i64 0]) ?_ 1 _ rfl; (with_reducible repeat (first | refine qI ?_ _ | refine qR ?_ | refine qJ ?_ _)); refine qd4 (cs := #[.bool false, .int .i64 0, .int .i64 0]) ?_ 0 _ rfl; (with_reducible repeat (first | refine qI ?_ _ | refine qR ?_ | refine qJ ?_ _)); exact qt8.out) hb); have n2_ := q8.mk (jM (by repeat (first | (with_reducible first | exact HB.out | apply qA | apply q9 | apply qB | refine qK ?_ qr5.out | refine qK ?_ jU0.out) | exact HB.out)) hb); clear jY; clear qt8; clear HB; have jY := n0_; have qt8 := n1_; have HB := n2_; clear n0_ n1_ n2_; (try clear hb); (try clear hb2); (try clear hk); (try clear hi)))
          go_ret
          exact ⟨by first | rfl | (simp [jI, jJ] <;> rfl) | (simp [*, jI, jJ] <;> rfl), by repeat (first | (with_reducible first | exact HB.out | apply qA | apply q9 | apply qB | refine qK ?_ qr5.out | refine qK ?_ jU0.out) | exact HB.out)⟩
        ·rw [if_neg c21] at H
         exact absurd H (by simp)
       ·rw [if_neg c20] at H
        exact absurd H (by simp)
      ·rw [if_neg c19] at H
       have zU6 : decide (qd7 < (jN.length : Int)) = false := decide_eq_false c19
       clear c19
       obtain rfl := Option.some.inj H
       go_wp2
       go_ret
       exact ⟨by first | rfl | (simp [jI, jJ] <;> rfl) | (simp [*, jI, jJ] <;> rfl), by repeat (first | (with_reducible first | exact HB.out | apply qA | apply q9 | apply qB | refine qK ?_ qr5.out) | exact HB.out)⟩
def qd5.l0 : Nat → Int → List (S55) → Int → Int → Option (Int)
 | 0, _, _, _, _ => none
 | k + 1, x3, x6, x7, x8 => if x8 < x7 then (if 0 ≤ x8 then (if x8 < (x6.length : Int) then (qd5.l0 k (wrap64 (x3 + (((qD x6 x8).f3).length : Int))) x6 x7 (wrap64 (x8 + 1))) else (none)) else (none)) else (some x3)
def qd5.f (k : Nat) (l0 : List (S55)) : Option (Int) := qd5.l0 k 0 l0 (l0.length : Int) 0
set_option maxHeartbeats 8000000 in
set_option maxRecDepth 100000 in
theorem qd5.calls (k : Nat) (A0 : Option Addr) (c0 : Nat) (l0 : List (S55)) (r : Int) (w : World) (hr0 : Kd.C k55 w A0 l0.length l0) (hc0 : l0.length ≤ c0) (h : qd5.f k l0 = some r) :
  Calls Try.prog 57 #[.slice A0 l0.length c0] w fun e w' => e = .returned (.int .i64 r) ∧ Below w.heap.size w w' := by
 have zE7 := Try.underlying55
 have HR0 := q8.mk hr0
 have HC0 := q8.mk hc0
 clear hr0 hc0
 have HB := q8.mk (Below.refl w.heap.size w)
 have H : (qd5.l0 k 0 l0 (l0.length : Int) 0) = some r := h
 clear h
 have H' := q8.mk H
 clear H
 go_enter Try.func57, Try.ntmps57
 go_wp2
 go_loopg [3, 8] k (fun kq v3 v8 w' => ∃ (qk1 : Int) (qO : Int), v3 = .int .i64 qk1 ∧ v8 = .int .i64 qO ∧ q8 (qd5.l0 kq qk1 l0 (l0.length : Int) qO = some r) ∧ q8 (kq ≤ k) ∧ q8 (Below w.heap.size w w'))
 case atStart => exact ⟨(0), (0), (by first | rfl | (simp; done) | (simp [*]; done)), (by first | rfl | (simp; done) | (simp [*]; done)), H', ⟨Nat.le_refl _⟩, ⟨by repeat (first | (with_reducible first | exact HB.out | apply qA | apply q9 | apply qB) | exact HB.out)⟩⟩
 case round =>
  clear H'
  obtain ⟨qk1, qO, rfl, rfl, HA, HK1, HB⟩ := hrel
  cases gk with
  | zero => exact absurd HA.out (by simp [qd5.l0])
  | succ k1 =>
   have H := HA.out
   clear HA
   simp only [qd5.l0] at H
   by_cases c2 : qO < (l0.length : Int)
   ·rw [if_pos c2] at H
    have zc3 : decide (qO < (l0.length : Int)) = true := decide_eq_true c2
    clear c2
    by_cases c3 : 0 ≤ qO
    ·rw [if_pos c3] at H
     have jM8 : decide (0 ≤ qO) = true := decide_eq_true c3
     clear c3
     by_cases c4 : qO < (l0.length : Int)
     ·rw [if_pos c4] at H
      have qB1 : decide (qO < (l0.length : Int)) = true := decide_eq_true c4
      clear c4
      have H' := q8.mk H
      clear H
      have Qe1 : 0 ≤ (qO : Int) := of_decide_eq_true (by first | (with_reducible assumption) | assumption)
      have Qe2 : qO < (l0.length : Int) := of_decide_eq_true (by first | (with_reducible assumption) | assumption)
      obtain ⟨ad236, A236_3, c236_3, e236, jH7, jH8, jH9, jI0, zi8, zi9⟩ := qa4 HR0.out qO Qe1 Qe2
      cases e236
      replace jH7 := (HB.out.cell (World.block_lt_of_cell? w _ jH7)).trans jH7
      replace jH8 := (HB.out.cell (World.block_lt_of_cell? w _ jH8)).trans jH8
      replace jH9 := (HB.out.cell (World.block_lt_of_cell? w _ jH9)).trans jH9
      replace jI0 := (HB.out.cell (World.block_lt_of_cell? w _ jI0)).trans jI0
      have Qz6 := q8.mk zi9
      have Qz7 := q8.mk zi8
      clear zi9 zi8
      replace Qe1 := eq_true Qe1
      replace Qe2 := eq_true Qe2
      go_wp2_with (first | ((with_reducible refine zY (N := 5) rfl ?_); refine qa5 ?hg (N := 5) ?hd (cs := #[.int .i64 0, .int .i64 0, .int .i64 0, .slice none 0 0]) (t := 55) ?hr ?_; (case hd => rfl); (case hg => rfl); (case hr => first | (go_simp; done) | (go_simp; rfl)); intro jz4 hg w5 qb4 hb; have n0_ := q8.mk (jM (by repeat (first | (with_reducible first | exact HB.out | apply qA | apply q9 | apply qB) | exact HB.out)) hb); have n1_ := q8.mk (qb4); have n2_ := q8.mk ((by rw [hg]; exact (qM (by repeat (first | (with_reducible first | exact HB.out | apply qA | apply q9 | apply qB) | exact HB.out))) : w.heap.size ≤ jz4)); have n3_ := q8.mk ((by rw [hg]; exact (qM (by repeat (first | (with_reducible first | exact HB.out | apply qA | apply q9 | apply qB) | exact HB.out))) : w.heap.size ≤ jz4)); clear HB; have HB := n0_; have jh4 := n1_; have GW237 := n2_; have Qn5 := n3_; clear n0_ n1_ n2_ n3_; clear hb qb4 hg; have hcz6_0 : w5.cell? ⟨jz4, 0, none⟩ = some (.int .i64 0) := (qE jh4.out 0).trans rfl; have hcz6_1 : w5.cell? ⟨jz4, 1, none⟩ = some (.int .i64 0) := (qE jh4.out 1).trans rfl; have hcz6_2 : w5.cell? ⟨jz4, 2, none⟩ = some (.int .i64 0) := (qE jh4.out 2).trans rfl; have hcz6_3 : w5.cell? ⟨jz4, 3, none⟩ = some (.slice none 0 0) := (qE jh4.out 3).trans rfl; have hfz6_0 := qC jh4.out 0; have hfz6_1 := qC jh4.out 1; have hfz6_2 := qC jh4.out 2; have hfz6_3 := qC jh4.out 3))
      go_roundg k1
      case measure => have := HK1.out; omega
      case rel => exact ⟨(wrap64 (qk1 + (((qD l0 qO).f3).length : Int))), (wrap64 (qO + 1)), (by first | rfl | (simp; done) | (simp [*]; done)), (by first | rfl | (simp; done) | (simp [*]; done)), H', ⟨by have := HK1.out; omega⟩, ⟨by repeat (first | (with_reducible first | exact HB.out | apply qA | apply q9 | apply qB | refine qK ?_ Qn5.out) | exact HB.out)⟩⟩
     ·rw [if_neg c4] at H
      exact absurd H (by simp)
    ·rw [if_neg c3] at H
     exact absurd H (by simp)
   ·rw [if_neg c2] at H
    have zc3 : decide (qO < (l0.length : Int)) = false := decide_eq_false c2
    clear c2
    obtain rfl := Option.some.inj H
    go_wp2
    go_ret
    exact ⟨by first | rfl | (simp [jI, jJ] <;> rfl) | (simp [*, jI, jJ] <;> rfl), by repeat (first | (with_reducible first | exact HB.out | apply qA | apply q9 | apply qB) | exact HB.out)⟩
end Go.Proofs.Ytngkneknopenmaa.K
end
section
namespace Go.Proofs.Ytngkneknopenmaa.K
open Go.Proofs.Ytngkneknopenmaa
open Go.RowKit Go.Proofs.YtngkneknopenmaaW.jH Go.Proofs.YtngkneknopenmaaW.qh5 Go.Proofs.YtngkneknopenmaaW.qk0
attribute [local go_sem] qp9 qq0 qv3 qv4 qm8 qm9 qq1 qq2   -- for this text's walks alone
set_option linter.unusedVariables false
set_option linter.unusedSimpArgs false
def zG.l0 : Nat → List (S55) → Int → Int → Option (Int)
 | 0, _, _, _ => none
 | k + 1, x0, x3, x4 => if x4 < (x0.length : Int) then (if 0 ≤ x4 then (zG.l0 k x0 (wrap64 (x3 + (((qD x0 x4).f3).length : Int))) (wrap64 (x4 + 1))) else (none)) else (some x3)
def zG.f (k : Nat) (l0 : List (S55)) : Option (Int) := zG.l0 k l0 0 0
set_option maxHeartbeats 8000000 in
set_option maxRecDepth 100000 in
theorem zG.calls (k : Nat) (A0 : Option Addr) (c0 : Nat) (l0 : List (S55)) (r : Int) (w : World) (hr0 : Kd.C k55 w A0 l0.length l0) (hc0 : l0.length ≤ c0) (h : zG.f k l0 = some r) :
  Calls Try.prog 33 #[.slice A0 l0.length c0] w fun e w' => e = .returned (.int .i64 r) ∧ zW w w' := by
 have HR0 := q8.mk hr0
 have HC0 := q8.mk hc0
 clear hr0 hc0
 have H : (zG.l0 k l0 0 0) = some r := h
 clear h
 have H' := q8.mk H
 clear H
 go_enter Try.func33, Try.ntmps33
 go_wp2
 go_loopg [3, 4] k (fun kq v3 v4 w' => ∃ (qk1 : Int) (zA : Int), v3 = .int .i64 qk1 ∧ v4 = .int .i64 zA ∧ q8 (zG.l0 kq l0 qk1 zA = some r) ∧ q8 (kq ≤ k) ∧ zW w w')
 case atStart => exact ⟨(0), (0), (by first | rfl | (simp; done) | (simp [*]; done)), (by first | rfl | (simp; done) | (simp [*]; done)), H', ⟨Nat.le_refl _⟩, by repeat (first | exact zW.refl _ | apply zW.step)⟩
 case round =>
  clear H'
  obtain ⟨qk1, zA, rfl, rfl, HA, HK1, ⟨m1, rfl⟩⟩ := hrel
  cases gk with
  | zero => exact absurd HA.out (by simp [zG.l0])
  | succ k1 =>
   have H := HA.out
   clear HA
   simp only [zG.l0] at H
   by_cases c2 : zA < (l0.length : Int)
   ·rw [if_pos c2] at H
    have zc3 : decide (zA < (l0.length : Int)) = true := decide_eq_true c2
    clear c2
    by_cases c3 : 0 ≤ zA
    ·rw [if_pos c3] at H
     have jM8 : decide (0 ≤ zA) = true := decide_eq_true c3
     clear c3
     have H' := q8.mk H
     clear H
     have Qe3 : 0 ≤ (zA : Int) := of_decide_eq_true (by first | (with_reducible assumption) | assumption)
     have Qe4 : zA < (l0.length : Int) := of_decide_eq_true (by first | (with_reducible assumption) | assumption)
     obtain ⟨ad103, A103_3, c103_3, e103, Qz8, Qz9, QA0, QA1, zj0, zj1⟩ := qa4 HR0.out zA Qe3 Qe4
     cases e103
     have QA2 := q8.mk zj1
     have QA3 := q8.mk zj0
     clear zj1 zj0
     replace Qe3 := eq_true Qe3
     replace Qe4 := eq_true Qe4
     go_wp2
     go_roundg k1
     case measure => have := HK1.out; omega
     case rel => exact ⟨(wrap64 (qk1 + (((qD l0 zA).f3).length : Int))), (wrap64 (zA + 1)), (by first | rfl | (simp; done) | (simp [*]; done)), (by first | rfl | (simp; done) | (simp [*]; done)), H', ⟨by have := HK1.out; omega⟩, by repeat (first | exact zW.refl _ | apply zW.step)⟩
    ·rw [if_neg c3] at H
     exact absurd H (by simp)
   ·rw [if_neg c2] at H
    have zc3 : decide (zA < (l0.length : Int)) = false := decide_eq_false c2
    clear c2
    obtain rfl := Option.some.inj H
    go_wp2
    go_ret
    exact ⟨by first | rfl | (simp; done) | (simp [*]; done), by repeat (first | exact zW.refl _ | apply zW.step)⟩
mutual
def qZ.l0 : Nat → List (S55) → Int → Int → Int → Option (Int)
 | 0, _, _, _, _ => none
 | k + 1, x0, x1, x2, x7 => if x7 < (x0.length : Int) then (qZ.l1 k x0 x1 x2 x7 0) else (some (-1))
def qZ.l1 : Nat → List (S55) → Int → Int → Int → Int → Option (Int)
 | 0, _, _, _, _, _ => none
 | k + 1, x0, x1, x2, x7, x8 => if 0 ≤ x7 then (if x7 < (x0.length : Int) then (if x8 < (((qD x0 x7).f3).length : Int) then (if 0 ≤ x8 then (if (qG ((qD x0 x7).f3) x8).f0 = true then (if ((qG ((qD x0 x7).f3) x8).f1) = x1 then (if ((qG ((qD x0 x7).f3) x8).f2) = x2 then (some x7) else (qZ.l1 k x0 x1 x2 x7 (wrap64 (x8 + 1)))) else (qZ.l1 k x0 x1 x2 x7 (wrap64 (x8 + 1)))) else (qZ.l1 k x0 x1 x2 x7 (wrap64 (x8 + 1)))) else (none)) else (qZ.l0 k x0 x1 x2 (wrap64 (x7 + 1)))) else (none)) else (none)
end
def qZ.f (k : Nat) (l0 : List (S55)) (a1 : Int) (a2 : Int) : Option (Int) := qZ.l0 k l0 a1 a2 0
set_option maxHeartbeats 8000000 in
set_option maxRecDepth 100000 in
theorem qZ.calls (k : Nat) (A0 : Option Addr) (c0 : Nat) (l0 : List (S55)) (a1 : Int) (a2 : Int) (r : Int) (w : World) (hr0 : Kd.C k55 w A0 l0.length l0) (hc0 : l0.length ≤ c0) (h : qZ.f k l0 a1 a2 = some r) :
  Calls Try.prog 31 #[.slice A0 l0.length c0, .int .i64 a1, .int .i64 a2] w fun e w' => e = .returned (.int .i64 r) ∧ Below w.heap.size w w' := by
 have zu4 := Try.underlying51
 have HR0 := q8.mk hr0
 have HC0 := q8.mk hc0
 clear hr0 hc0
 have HB := q8.mk (Below.refl w.heap.size w)
 have H : (qZ.l0 k l0 a1 a2 0) = some r := h
 clear h
 have H' := q8.mk H
 clear H
 go_enter Try.func31, Try.ntmps31
 go_wp2
 go_loopg [7] k (fun kq v7 w' => ∃ (qa9 : Int), v7 = .int .i64 qa9 ∧ q8 (qZ.l0 kq l0 a1 a2 qa9 = some r) ∧ q8 (kq ≤ k) ∧ q8 (Below w.heap.size w w'))
 case atStart => exact ⟨(0), (by first | rfl | (simp; done) | (simp [*]; done)), H', ⟨Nat.le_refl _⟩, ⟨by repeat (first | (with_reducible first | exact HB.out | apply qA | apply q9 | apply qB) | exact HB.out)⟩⟩
 case round =>
  clear H'
  try clear p2
  try clear c3
  obtain ⟨qa9, rfl, HA, HK1, HB⟩ := hrel
  cases gk with
  | zero => exact absurd HA.out (by simp [qZ.l0])
  | succ k1 =>
   have H := HA.out
   clear HA
   simp only [qZ.l0] at H
   by_cases c4 : qa9 < (l0.length : Int)
   ·rw [if_pos c4] at H
    have qB1 : decide (qa9 < (l0.length : Int)) = true := decide_eq_true c4
    clear c4
    have H' := q8.mk H
    clear H
    go_wp2
    go_loopg [8] k1 (fun kq v8 w' => ∃ (qj0 : Int), v8 = .int .i64 qj0 ∧ q8 (qZ.l1 kq l0 a1 a2 qa9 qj0 = some r) ∧ q8 (kq ≤ k1) ∧ q8 (Below w.heap.size w w'))
    case atStart => exact ⟨(0), (by first | rfl | (simp; done) | (simp [*]; done)), H', ⟨Nat.le_refl _⟩, ⟨by repeat (first | (with_reducible first | exact HB.out | apply qA | apply q9 | apply qB) | exact HB.out)⟩⟩
    case round =>
     clear H'
     try clear p2
     try clear c3
     try clear c4
     try clear qB1
     try clear p2
     obtain ⟨qj0, rfl, HA, HK2, HB⟩ := hrel
     cases gk with
     | zero => exact absurd HA.out (by simp [qZ.l1])
     | succ k2 =>
      have H := HA.out
      clear HA
      simp only [qZ.l1] at H
      by_cases c5 : 0 ≤ qa9
      ·rw [if_pos c5] at H
       have jC5 : decide (0 ≤ qa9) = true := decide_eq_true c5
       clear c5
       by_cases c6 : qa9 < (l0.length : Int)
       ·rw [if_pos c6] at H
        have jh8 : decide (qa9 < (l0.length : Int)) = true := decide_eq_true c6
        clear c6
        by_cases c7 : qj0 < (((qD l0 qa9).f3).length : Int)
        ·rw [if_pos c7] at H
         have zG4 : decide (qj0 < (((qD l0 qa9).f3).length : Int)) = true := decide_eq_true c7
         clear c7
         by_cases c8 : 0 ≤ qj0
         ·rw [if_pos c8] at H
          have qR7 : decide (0 ≤ qj0) = true := decide_eq_true c8
          clear c8
          obtain ⟨bq9, Qe5⟩ : ∃ b_ : Bool, b_ = ((qG ((qD l0 qa9).f3) qj0).f0) := ⟨_, rfl⟩
          replace H : (if bq9 = true then (if ((qG ((qD l0 qa9).f3) qj0).f1) = a1 then (if ((qG ((qD l0 qa9).f3) qj0).f2) = a2 then (some qa9) else (qZ.l1 k2 l0 a1 a2 qa9 (wrap64 (qj0 + 1)))) else (qZ.l1 k2 l0 a1 a2 qa9 (wrap64 (qj0 + 1)))) else (qZ.l1 k2 l0 a1 a2 qa9 (wrap64 (qj0 + 1)))) = some r := by rw [← Qe5] at H; exact H
          have zP0 := q8.mk Qe5
          clear Qe5
          by_cases c10 : bq9 = true
          ·subst c10
           have H1 : (if ((qG ((qD l0 qa9).f3) qj0).f1) = a1 then (if ((qG ((qD l0 qa9).f3) qj0).f2) = a2 then (some qa9) else (qZ.l1 k2 l0 a1 a2 qa9 (wrap64 (qj0 + 1)))) else (qZ.l1 k2 l0 a1 a2 qa9 (wrap64 (qj0 + 1)))) = some r := by rw [if_pos rfl] at H; exact H
           clear H
           have H := H1
           clear H1
           by_cases c11 : ((qG ((qD l0 qa9).f3) qj0).f1) = a1
           ·rw [if_pos c11] at H
            have jx1 : (((qG ((qD l0 qa9).f3) qj0).f1) == a1) = true := beq_iff_eq.mpr c11
            have Qn6 : (((qG ((qD l0 qa9).f3) qj0).f1) != a1) = false := bne_eq_false_iff_eq.mpr c11
            clear c11
            by_cases c12 : ((qG ((qD l0 qa9).f3) qj0).f2) = a2
            ·rw [if_pos c12] at H
             have qE3 : (((qG ((qD l0 qa9).f3) qj0).f2) == a2) = true := beq_iff_eq.mpr c12
             have Qn7 : (((qG ((qD l0 qa9).f3) qj0).f2) != a2) = false := bne_eq_false_iff_eq.mpr c12
             clear c12
             obtain rfl := Option.some.inj H
             have qJ1 : 0 ≤ (qa9 : Int) := of_decide_eq_true (by first | (with_reducible assumption) | assumption)
             have qJ2 : qa9 < (l0.length : Int) := of_decide_eq_true (by first | (with_reducible assumption) | assumption)
             obtain ⟨jh5, jI1, jI2, jI3, qg9, qh0, qh1, qf2, qn7, qn8⟩ := qa4 HR0.out qa9 qJ1 qJ2
             cases jI3
             replace qg9 := (HB.out.cell (World.block_lt_of_cell? w _ qg9)).trans qg9
             replace qh0 := (HB.out.cell (World.block_lt_of_cell? w _ qh0)).trans qh0
             replace qh1 := (HB.out.cell (World.block_lt_of_cell? w _ qh1)).trans qh1
             replace qf2 := (HB.out.cell (World.block_lt_of_cell? w _ qf2)).trans qf2
             have jk8 := q8.mk qn8
             have jk9 := q8.mk qn7
             clear qn8 qn7
             replace qJ1 := eq_true qJ1
             replace qJ2 := eq_true qJ2
             have qU2 : 0 ≤ (qa9 : Int) := of_decide_eq_true (by first | (with_reducible assumption) | assumption)
             have qU3 : qa9 < (l0.length : Int) := of_decide_eq_true (by first | (with_reducible assumption) | assumption)
             obtain ⟨js6, zc6, zc7, zc8, ql8, ql9, qm0, qh2, qt9, qu0⟩ := qa4 HR0.out qa9 qU2 qU3
             obtain rfl : jh5 = js6 := (by injection zc8)
             replace ql8 := (HB.out.cell (World.block_lt_of_cell? w _ ql8)).trans ql8
             replace ql9 := (HB.out.cell (World.block_lt_of_cell? w _ ql9)).trans ql9
             replace qm0 := (HB.out.cell (World.block_lt_of_cell? w _ qm0)).trans qm0
             replace qh2 := (HB.out.cell (World.block_lt_of_cell? w _ qh2)).trans qh2
             have qJ3 := q8.mk qu0
             have jI4 := q8.mk qt9
             clear qu0 qt9
             replace qU2 := eq_true qU2
             replace qU3 := eq_true qU3
             have ea_ := Option.some.inj (qf2.symm.trans qh2)
             injection ea_ with ea_ en_ ec_
             subst ea_
             subst ec_
             clear en_
             have qU4 : 0 ≤ (qj0 : Int) := of_decide_eq_true (by first | (with_reducible assumption) | assumption)
             have qU5 : qj0 < (((qD l0 qa9).f3).length : Int) := of_decide_eq_true (by first | (with_reducible assumption) | assumption)
             obtain ⟨zC4, zc9, qh3, qm1, qm2⟩ := qr0 qJ3.out qj0 qU4 qU5
             (try rw [← zP0.out] at qh3)
             cases zc9
             replace qh3 := (HB.out.cell (World.block_lt_of_cell? w _ qh3)).trans qh3
             replace qm1 := (HB.out.cell (World.block_lt_of_cell? w _ qm1)).trans qm1
             replace qm2 := (HB.out.cell (World.block_lt_of_cell? w _ qm2)).trans qm2
             replace qU4 := eq_true qU4
             replace qU5 := eq_true qU5
             go_wp2_with (first | ((with_reducible refine zY (N := 9) rfl ?_); refine qa5 ?hg (N := 9) ?hd (cs := #[.bool false, .int .i64 0, .int .i64 0]) (t := 51) ?hr ?_; (case hd => rfl); (case hg => rfl); (case hr => first | (go_simp; done) | (go_simp; rfl)); intro qo6 hg w13 qb4 hb; have n0_ := q8.mk (jM (by repeat (first | (with_reducible first | exact HB.out | apply qA | apply q9 | apply qB) | exact HB.out)) hb); have n1_ := q8.mk (qb4); have n2_ := q8.mk ((by rw [hg]; exact (qM (by repeat (first | (with_reducible first | exact HB.out | apply qA | apply q9 | apply qB) | exact HB.out))) : w.heap.size ≤ qo6)); have n3_ := q8.mk ((by rw [hg]; exact (qM (by repeat (first | (with_reducible first | exact HB.out | apply qA | apply q9 | apply qB) | exact HB.out))) : w.heap.size ≤ qo6)); clear HB; have HB := n0_; have qk5 := n1_; have zC5 := n2_; have js7 := n3_; clear n0_ n1_ n2_ n3_; clear hb qb4 hg; have QA4 : w13.cell? ⟨qo6, 0, none⟩ = some (.bool false) := (qE qk5.out 0).trans rfl; have QA5 : w13.cell? ⟨qo6, 1, none⟩ = some (.int .i64 0) := (qE qk5.out 1).trans rfl; have QA6 : w13.cell? ⟨qo6, 2, none⟩ = some (.int .i64 0) := (qE qk5.out 2).trans rfl; have QA7 := qC qk5.out 0; have QA8 := qC qk5.out 1; have QA9 := qC qk5.out 2))
             go_ret
             exact ⟨by first | rfl | (simp [jI, jJ] <;> rfl) | (simp [*, jI, jJ] <;> rfl), by repeat (first | (with_reducible first | exact HB.out | apply qA | apply q9 | apply qB | refine qK ?_ js7.out) | exact HB.out)⟩
            ·rw [if_neg c12] at H
             have qE3 : (((qG ((qD l0 qa9).f3) qj0).f2) == a2) = false := beq_eq_false_iff_ne.mpr c12
             have Qn7 : (((qG ((qD l0 qa9).f3) qj0).f2) != a2) = true := bne_iff_ne.mpr c12
             have H' := q8.mk H
             clear H
             have qJ1 : 0 ≤ (qa9 : Int) := of_decide_eq_true (by first | (with_reducible assumption) | assumption)
             have qJ2 : qa9 < (l0.length : Int) := of_decide_eq_true (by first | (with_reducible assumption) | assumption)
             obtain ⟨jh5, jI1, jI2, jI3, qg9, qh0, qh1, qf2, qn7, qn8⟩ := qa4 HR0.out qa9 qJ1 qJ2
             cases jI3
             replace qg9 := (HB.out.cell (World.block_lt_of_cell? w _ qg9)).trans qg9
             replace qh0 := (HB.out.cell (World.block_lt_of_cell? w _ qh0)).trans qh0
             replace qh1 := (HB.out.cell (World.block_lt_of_cell? w _ qh1)).trans qh1
             replace qf2 := (HB.out.cell (World.block_lt_of_cell? w _ qf2)).trans qf2
             have jk8 := q8.mk qn8
             have jk9 := q8.mk qn7
             clear qn8 qn7
             replace qJ1 := eq_true qJ1
             replace qJ2 := eq_true qJ2
             have qU2 : 0 ≤ (qa9 : Int) := of_decide_eq_true (by first | (with_reducible assumption) | assumption)
             have qU3 : qa9 < (l0.length : Int) := of_decide_eq_true (by first | (with_reducible assumption) | assumption)
             obtain ⟨js6, zc6, zc7, zc8, ql8, ql9, qm0, qh2, qt9, qu0⟩ := qa4 HR0.out qa9 qU2 qU3
             obtain rfl : jh5 = js6 := (by injection zc8)
             replace ql8 := (HB.out.cell (World.block_lt_of_cell? w _ ql8)).trans ql8
             replace ql9 := (HB.out.cell (World.block_lt_of_cell? w _ ql9)).trans ql9
             replace qm0 := (HB.out.cell (World.block_lt_of_cell? w _ qm0)).trans qm0
             replace qh2 := (HB.out.cell (World.block_lt_of_cell? w _ qh2)).trans qh2
             have qJ3 := q8.mk qu0
             have jI4 := q8.mk qt9
             clear qu0 qt9
             replace qU2 := eq_true qU2
             replace qU3 := eq_true qU3
             have ea_ := Option.some.inj (qf2.symm.trans qh2)
             injection ea_ with ea_ en_ ec_
             subst ea_
             subst ec_
             clear en_
             have qU4 : 0 ≤ (qj0 : Int) := of_decide_eq_true (by first | (with_reducible assumption) | assumption)
             have qU5 : qj0 < (((qD l0 qa9).f3).length : Int) := of_decide_eq_true (by first | (with_reducible assumption) | assumption)
             obtain ⟨zC4, zc9, qh3, qm1, qm2⟩ := qr0 qJ3.out qj0 qU4 qU5
             (try rw [← zP0.out] at qh3)
             cases zc9
             replace qh3 := (HB.out.cell (World.block_lt_of_cell? w _ qh3)).trans qh3
             replace qm1 := (HB.out.cell (World.block_lt_of_cell? w _ qm1)).trans qm1
             replace qm2 := (HB.out.cell (World.block_lt_of_cell? w _ qm2)).trans qm2
             replace qU4 := eq_true qU4
             replace qU5 := eq_true qU5
             go_wp2_with (first | ((with_reducible refine zY (N := 9) rfl ?_); refine qa5 ?hg (N := 9) ?hd (cs := #[.bool false, .int .i64 0, .int .i64 0]) (t := 51) ?hr ?_; (case hd => rfl); (case hg => rfl); (case hr => first | (go_simp; done) | (go_simp; rfl)); intro qo6 hg w15 qb4 hb; have n0_ := q8.mk (jM (by repeat (first | (with_reducible first | exact HB.out | apply qA | apply q9 | apply qB) | exact HB.out)) hb); have n1_ := q8.mk (qb4); have n2_ := q8.mk ((by rw [hg]; exact (qM (by repeat (first | (with_reducible first | exact HB.out | apply qA | apply q9 | apply qB) | exact HB.out))) : w.heap.size ≤ qo6)); have n3_ := q8.mk ((by rw [hg]; exact (qM (by repeat (first | (with_reducible first | exact HB.out | apply qA | apply q9 | apply qB) | exact HB.out))) : w.heap.size ≤ qo6)); clear HB; have HB := n0_; have qk5 := n1_; have zC5 := n2_; have js7 := n3_; clear n0_ n1_ n2_ n3_; clear hb qb4 hg; have qC8 : w15.cell? ⟨qo6, 0, none⟩ = some (.bool false) := (qE qk5.out 0).trans rfl; have qC9 : w15.cell? ⟨qo6, 1, none⟩ = some (.int .i64 0) := (qE qk5.out 1).trans rfl; have qD0 : w15.cell? ⟨qo6, 2, none⟩ = some (.int .i64 0) := (qE qk5.out 2).trans rfl; have qD1 := qC qk5.out 0; have qD2 := qC qk5.out 1; have qD3 := qC qk5.out 2))
             go_roundg k2
             case measure => have := HK1.out; have := HK2.out; omega
             case rel => exact ⟨(wrap64 (qj0 + 1)), (by first | rfl | (simp; done) | (simp [*]; done)), H', ⟨by have := HK1.out; have := HK2.out; omega⟩, ⟨by repeat (first | (with_reducible first | exact HB.out | apply qA | apply q9 | apply qB | refine qK ?_ js7.out) | exact HB.out)⟩⟩
           ·rw [if_neg c11] at H
            have jx1 : (((qG ((qD l0 qa9).f3) qj0).f1) == a1) = false := beq_eq_false_iff_ne.mpr c11
            have Qn6 : (((qG ((qD l0 qa9).f3) qj0).f1) != a1) = true := bne_iff_ne.mpr c11
            have H' := q8.mk H
            clear H
            have qJ1 : 0 ≤ (qa9 : Int) := of_decide_eq_true (by first | (with_reducible assumption) | assumption)
            have qJ2 : qa9 < (l0.length : Int) := of_decide_eq_true (by first | (with_reducible assumption) | assumption)
            obtain ⟨jh5, jI1, jI2, jI3, qg9, qh0, qh1, qf2, qn7, qn8⟩ := qa4 HR0.out qa9 qJ1 qJ2
            cases jI3
            replace qg9 := (HB.out.cell (World.block_lt_of_cell? w _ qg9)).trans qg9
            replace qh0 := (HB.out.cell (World.block_lt_of_cell? w _ qh0)).trans qh0
            replace qh1 := (HB.out.cell (World.block_lt_of_cell? w _ qh1)).trans qh1
            replace qf2 := (HB.out.cell (World.block_lt_of_cell? w _ qf2)).trans qf2
            have jk8 := q8.mk qn8
            have jk9 := q8.mk qn7
            clear qn8 qn7
            replace qJ1 := eq_true qJ1
            replace qJ2 := eq_true qJ2
            have qU2 : 0 ≤ (qa9 : Int) := of_decide_eq_true (by first | (with_reducible assumption) | assumption)
            have qU3 : qa9 < (l0.length : Int) := of_decide_eq_true (by first | (with_reducible assumption) | assumption)
            obtain ⟨js6, zc6, zc7, zc8, ql8, ql9, qm0, qh2, qt9, qu0⟩ := qa4 HR0.out qa9 qU2 qU3
            obtain rfl : jh5 = js6 := (by injection zc8)
            replace ql8 := (HB.out.cell (World.block_lt_of_cell? w _ ql8)).trans ql8
            replace ql9 := (HB.out.cell (World.block_lt_of_cell? w _ ql9)).trans ql9
            replace qm0 := (HB.out.cell (World.block_lt_of_cell? w _ qm0)).trans qm0
            replace qh2 := (HB.out.cell (World.block_lt_of_cell? w _ qh2)).trans qh2
            have qJ3 := q8.mk qu0
            have jI4 := q8.mk qt9
            clear qu0 qt9
            replace qU2 := eq_true qU2
            replace qU3 := eq_true qU3
            have ea_ := Option.some.inj (qf2.symm.trans qh2)
            injection ea_ with ea_ en_ ec_
            subst ea_
            subst ec_
            clear en_
            have qU4 : 0 ≤ (qj0 : Int) := of_decide_eq_true (by first | (with_reducible assumption) | assumption)
            have qU5 : qj0 < (((qD l0 qa9).f3).length : Int) := of_decide_eq_true (by first | (with_reducible assumption) | assumption)
            obtain ⟨zC4, zc9, qh3, qm1, qm2⟩ := qr0 qJ3.out qj0 qU4 qU5
            (try rw [← zP0.out] at qh3)
            cases zc9
            replace qh3 := (HB.out.cell (World.block_lt_of_cell? w _ qh3)).trans qh3
            replace qm1 := (HB.out.cell (World.block_lt_of_cell? w _ qm1)).trans qm1
            replace qm2 := (HB.out.cell (World.block_lt_of_cell? w _ qm2)).trans qm2
            replace qU4 := eq_true qU4
            replace qU5 := eq_true qU5
            go_wp2_with (first | ((with_reducible refine zY (N := 9) rfl ?_); refine qa5 ?hg (N := 9) ?hd (cs := #[.bool false, .int .i64 0, .int .i64 0]) (t := 51) ?hr ?_; (case hd => rfl); (case hg => rfl); (case hr => first | (go_simp; done) | (go_simp; rfl)); intro qo6 hg w17 qb4 hb; have n0_ := q8.mk (jM (by repeat (first | (with_reducible first | exact HB.out | apply qA | apply q9 | apply qB) | exact HB.out)) hb); have n1_ := q8.mk (qb4); have n2_ := q8.mk ((by rw [hg]; exact (qM (by repeat (first | (with_reducible first | exact HB.out | apply qA | apply q9 | apply qB) | exact HB.out))) : w.heap.size ≤ qo6)); have n3_ := q8.mk ((by rw [hg]; exact (qM (by repeat (first | (with_reducible first | exact HB.out | apply qA | apply q9 | apply qB) | exact HB.out))) : w.heap.size ≤ qo6)); clear HB; have HB := n0_; have qk5 := n1_; have zC5 := n2_; have js7 := n3_; clear n0_ n1_ n2_ n3_; clear hb qb4 hg; have jk2 : w17.cell? ⟨qo6, 0, none⟩ = some (.bool false) := (qE qk5.out 0).trans rfl; have jk3 : w17.cell? ⟨qo6, 1, none⟩ = some (.int .i64 0) := (qE qk5.out 1).trans rfl; have jk4 : w17.cell? ⟨qo6, 2, none⟩ = some (.int .i64 0) := (qE qk5.out 2).trans rfl; have jk5 := qC qk5.out 0; have jk6 := qC qk5.out 1; have jk7 := qC qk5.out 2))
            go_roundg k2
            case measure => have := HK1.out; have := HK2.out; omega
            case rel => exact ⟨(wrap64 (qj0 + 1)), (by first | rfl | (simp; done) | (simp [*]; done)), H', ⟨by have := HK1.out; have := HK2.out; omega⟩, ⟨by repeat (first | (with_reducible first | exact HB.out | apply qA | apply q9 | apply qB | refine qK ?_ js7.out) | exact HB.out)⟩⟩
          ·replace c10 := Bool.eq_false_iff.mpr c10
           subst c10
           have H1 : (qZ.l1 k2 l0 a1 a2 qa9 (wrap64 (qj0 + 1))) = some r := by rw [if_neg (show ¬ (false = true) by decide)] at H; exact H
           clear H
           have H := H1
           clear H1
           have H' := q8.mk H
           clear H
           have qJ1 : 0 ≤ (qa9 : Int) := of_decide_eq_true (by first | (with_reducible assumption) | assumption)
           have qJ2 : qa9 < (l0.length : Int) := of_decide_eq_true (by first | (with_reducible assumption) | assumption)
           obtain ⟨jh5, jI1, jI2, jI3, qg9, qh0, qh1, qf2, qn7, qn8⟩ := qa4 HR0.out qa9 qJ1 qJ2
           cases jI3
           replace qg9 := (HB.out.cell (World.block_lt_of_cell? w _ qg9)).trans qg9
           replace qh0 := (HB.out.cell (World.block_lt_of_cell? w _ qh0)).trans qh0
           replace qh1 := (HB.out.cell (World.block_lt_of_cell? w _ qh1)).trans qh1
           replace qf2 := (HB.out.cell (World.block_lt_of_cell? w _ qf2)).trans qf2
           have jk8 := q8.mk qn8
           have jk9 := q8.mk qn7
           clear qn8 qn7
           replace qJ1 := eq_true qJ1
           replace qJ2 := eq_true qJ2
           have qU2 : 0 ≤ (qa9 : Int) := of_decide_eq_true (by first | (with_reducible assumption) | assumption)
           have qU3 : qa9 < (l0.length : Int) := of_decide_eq_true (by first | (with_reducible assumption) | assumption)
           obtain ⟨js6, zc6, zc7, zc8, ql8, ql9, qm0, qh2, qt9, qu0⟩ := qa4 HR0.out qa9 qU2 qU3
           obtain rfl : jh5 = js6 := (by injection zc8)
           replace ql8 := (HB.out.cell (World.block_lt_of_cell? w _ ql8)).trans ql8
           replace ql9 := (HB.out.cell (World.block_lt_of_cell? w _ ql9)).trans ql9
           replace qm0 := (HB.out.cell (World.block_lt_of_cell? w _ qm0)).trans qm0
           replace qh2 := (HB.out.cell (World.block_lt_of_cell? w _ qh2)).trans qh2
           have qJ3 := q8.mk qu0
           have jI4 := q8.mk qt9
           clear qu0 qt9
           replace qU2 := eq_true qU2
           replace qU3 := eq_true qU3
           have ea_ := Option.some.inj (qf2.symm.trans qh2)
           injection ea_ with ea_ en_ ec_
           subst ea_
           subst ec_
           clear en_
           have qU4 : 0 ≤ (qj0 : Int) := of_decide_eq_true (by first | (with_reducible assumption) | assumption)
           have qU5 : qj0 < (((qD l0 qa9).f3).length : Int) := of_decide_eq_true (by first | (with_reducible assumption) | assumption)
           obtain ⟨zC4, zc9, qh3, qm1, qm2⟩ := qr0 qJ3.out qj0 qU4 qU5
           (try rw [← zP0.out] at qh3)
           cases zc9
           replace qh3 := (HB.out.cell (World.block_lt_of_cell? w _ qh3)).trans qh3
           replace qm1 := (HB.out.cell (World.block_lt_of_cell? w _ qm1)).trans qm1
           replace qm2 := (HB.out.cell (World.block_lt_of_cell? w _ qm2)).trans qm2
           replace qU4 := eq_true qU4
           replace qU5 := eq_true qU5
           go_wp2_with (first | ((with_reducible refine zY (N := 9) rfl ?_); refine qa5 ?hg (N := 9) ?hd (cs := #[.bool false, .int .i64 0, .int .i64 0]) (t := 51) ?hr ?_; (case hd => rfl); (case hg => rfl); (case hr => first | (go_simp; done) | (go_simp; rfl)); intro qo6 hg w19 qb4 hb; have n0_ := q8.mk (jM (by repeat (first | (with_reducible first | exact HB.out | apply qA | apply q9 | apply qB) | exact HB.out)) hb); have n1_ := q8.mk (qb4); have n2_ := q8.mk ((by rw [hg]; exact (qM (by repeat (first | (with_reducible first | exact HB.out | apply qA | apply q9 | apply qB) | exact HB.out))) : w.heap.size ≤ qo6)); have n3_ := q8.mk ((by rw [hg]; exact (qM (by repeat (first | (with_reducible first | exact HB.out | apply qA | apply q9 | apply qB) | exact HB.out))) : w.heap.size ≤ qo6)); clear HB; have HB := n0_; have qk5 := n1_; have zC5 := n2_; have js7 := n3_; clear n0_ n1_ n2_ n3_; clear hb qb4 hg; have QB0 : w19.cell? ⟨qo6, 0, none⟩ = some (.bool false) := (qE qk5.out 0).trans rfl; have QB1 : w19.cell? ⟨qo6, 1, none⟩ = some (.int .i64 0) := (qE qk5.out 1).trans rfl; have QB2 : w19.cell? ⟨qo6, 2, none⟩ = some (.int .i64 0) := (qE qk5.out 2).trans rfl; have QB3 := qC qk5.out 0; have QB4 := qC qk5.out 1; have QB5 := qC qk5.out 2))
           go_roundg k2
           case measure => have := HK1.out; have := HK2.out; omega
           case rel => exact ⟨(wrap64 (qj0 + 1)), (by first | rfl | (simp; done) | (simp [*]; done)), H', ⟨by have := HK1.out; have := HK2.out; omega⟩, ⟨by repeat (first | (with_reducible first | exact HB.out | apply qA | apply q9 | apply qB | refine qK ?_ js7.out) | exact HB.out)⟩⟩
         ·rw [if_neg c8] at H
          exact absurd H (by simp)
        ·rw [if_neg c7] at H
         have zG4 : decide (qj0 < (((qD l0 qa9).f3).length : Int)) = false := decide_eq_false c7
         clear c7
         have H' := q8.mk H
         clear H
         have qJ1 : 0 ≤ (qa9 : Int) := of_decide_eq_true (by first | (with_reducible assumption) | assumption)
         have qJ2 : qa9 < (l0.length : Int) := of_decide_eq_true (by first | (with_reducible assumption) | assumption)
         obtain ⟨jh5, jI1, jI2, jI3, qg9, qh0, qh1, qf2, qn7, qn8⟩ := qa4 HR0.out qa9 qJ1 qJ2
         cases jI3
         replace qg9 := (HB.out.cell (World.block_lt_of_cell? w _ qg9)).trans qg9
         replace qh0 := (HB.out.cell (World.block_lt_of_cell? w _ qh0)).trans qh0
         replace qh1 := (HB.out.cell (World.block_lt_of_cell? w _ qh1)).trans qh1
         replace qf2 := (HB.out.cell (World.block_lt_of_cell? w _ qf2)).trans qf2
         have jk8 := q8.mk qn8
         have jk9 := q8.mk qn7
         clear qn8 qn7
         replace qJ1 := eq_true qJ1
         replace qJ2 := eq_true qJ2
         go_wp2
         go_roundg k2
         case measure => have := HK1.out; have := HK2.out; omega
         case rel => exact ⟨(wrap64 (qa9 + 1)), (by first | rfl | (simp; done) | (simp [*]; done)), H', ⟨by have := HK1.out; have := HK2.out; omega⟩, ⟨by repeat (first | (with_reducible first | exact HB.out | apply qA | apply q9 | apply qB) | exact HB.out)⟩⟩
       ·rw [if_neg c6] at H
        exact absurd H (by simp)
      ·rw [if_neg c5] at H
       exact absurd H (by simp)
   ·rw [if_neg c4] at H
    have qB1 : decide (qa9 < (l0.length : Int)) = false := decide_eq_false c4
    clear c4
    obtain rfl := Option.some.inj H
    go_wp2
    go_ret
    exact ⟨by first | rfl | (simp [jI, jJ] <;> rfl) | (simp [*, jI, jJ] <;> rfl), by repeat (first | (with_reducible first | exact HB.out | apply qA | apply q9 | apply qB) | exact HB.out)⟩
def qd0.f (zB : Bool) (jT : Int) (jQ : Int) : Option (Bool) := if jT < 0 then (some false) else (if jT > 63 then (some false) else (if jQ < 0 then (some false) else (if jQ > 2147483647 then (some false) else (if zB = true then (some (jQ != 0)) else (some true)))))
set_option maxHeartbeats 8000000 in
set_option maxRecDepth 100000 in
theorem qd0.calls (zB : Bool) (jT : Int) (jQ : Int) (r : Bool) (w : World) (h : qd0.f zB jT jQ = some r) :
  Calls Try.prog 83 #[.agg #[.bool zB, .int .i64 jT, .int .i64 jQ]] w fun e w' => e = .returned (.bool r) ∧ Below w.heap.size w w' := by
 have zu4 := Try.underlying51
 have HB := q8.mk (Below.refl w.heap.size w)
 have H : (if jT < 0 then (some false) else (if jT > 63 then (some false) else (if jQ < 0 then (some false) else (if jQ > 2147483647 then (some false) else (if zB = true then (some (jQ != 0)) else (some true)))))) = some r := h
 clear h
 by_cases c2 : jT < 0
 ·rw [if_pos c2] at H
  have zc3 : decide (jT < 0) = true := decide_eq_true c2
  clear c2
  obtain rfl := Option.some.inj H
  go_enter Try.func83, Try.ntmps83
  go_wp2_with (first | ((with_reducible refine zY (N := 1) rfl ?_); refine qa5 ?hg (N := 1) ?hd (cs := #[.bool zB, .int .i64 jT, .int .i64 jQ]) (t := 51) ?hr ?_; (case hd => rfl); (case hg => rfl); (case hr => first | (go_simp; done) | (go_simp; rfl)); intro qf9 hg w3 qb4 hb; have n0_ := q8.mk (jM (by repeat (first | (with_reducible first | exact HB.out | apply qA | apply q9 | apply qB) | exact HB.out)) hb); have n1_ := q8.mk (qb4); have n2_ := q8.mk ((by rw [hg]; exact (qM (by repeat (first | (with_reducible first | exact HB.out | apply qA | apply q9 | apply qB) | exact HB.out))) : w.heap.size ≤ qf9)); have n3_ := q8.mk ((by rw [hg]; exact (qM (by repeat (first | (with_reducible first | exact HB.out | apply qA | apply q9 | apply qB) | exact HB.out))) : w.heap.size ≤ qf9)); clear HB; have HB := n0_; have qe5 := n1_; have jU1 := n2_; have qN4 := n3_; clear n0_ n1_ n2_ n3_; clear hb qb4 hg; have Qd5 : w3.cell? ⟨qf9, 0, none⟩ = some (.bool zB) := (qE qe5.out 0).trans rfl; have Qd6 : w3.cell? ⟨qf9, 1, none⟩ = some (.int .i64 jT) := (qE qe5.out 1).trans rfl; have Qd7 : w3.cell? ⟨qf9, 2, none⟩ = some (.int .i64 jQ) := (qE qe5.out 2).trans rfl; have Qd8 := qC qe5.out 0; have Qd9 := qC qe5.out 1; have Qe0 := qC qe5.out 2))
  go_ret
  exact ⟨by first | rfl | (simp [jI, jJ] <;> rfl) | (simp [*, jI, jJ] <;> rfl), by repeat (first | (with_reducible first | exact HB.out | apply qA | apply q9 | apply qB | refine qK ?_ qN4.out) | exact HB.out)⟩
 ·rw [if_neg c2] at H
  have zc3 : decide (jT < 0) = false := decide_eq_false c2
  clear c2
  by_cases c5 : jT > 63
  ·rw [if_pos c5] at H
   have jC5 : decide (63 < jT) = true := decide_eq_true c5
   clear c5
   obtain rfl := Option.some.inj H
   go_enter Try.func83, Try.ntmps83
   go_wp2_with (first | ((with_reducible refine zY (N := 1) rfl ?_); refine qa5 ?hg (N := 1) ?hd (cs := #[.bool zB, .int .i64 jT, .int .i64 jQ]) (t := 51) ?hr ?_; (case hd => rfl); (case hg => rfl); (case hr => first | (go_simp; done) | (go_simp; rfl)); intro qf9 hg w6 qb4 hb; have n0_ := q8.mk (jM (by repeat (first | (with_reducible first | exact HB.out | apply qA | apply q9 | apply qB) | exact HB.out)) hb); have n1_ := q8.mk (qb4); have n2_ := q8.mk ((by rw [hg]; exact (qM (by repeat (first | (with_reducible first | exact HB.out | apply qA | apply q9 | apply qB) | exact HB.out))) : w.heap.size ≤ qf9)); have n3_ := q8.mk ((by rw [hg]; exact (qM (by repeat (first | (with_reducible first | exact HB.out | apply qA | apply q9 | apply qB) | exact HB.out))) : w.heap.size ≤ qf9)); clear HB; have HB := n0_; have qe5 := n1_; have jU1 := n2_; have qN4 := n3_; clear n0_ n1_ n2_ n3_; clear hb qb4 hg; have qT6 : w6.cell? ⟨qf9, 0, none⟩ = some (.bool zB) := (qE qe5.out 0).trans rfl; have qT7 : w6.cell? ⟨qf9, 1, none⟩ = some (.int .i64 jT) := (qE qe5.out 1).trans rfl; have qT8 : w6.cell? ⟨qf9, 2, none⟩ = some (.int .i64 jQ) := (qE qe5.out 2).trans rfl; have qT9 := qC qe5.out 0; have qU0 := qC qe5.out 1; have qU1 := qC qe5.out 2))
   go_ret
   exact ⟨by first | rfl | (simp [jI, jJ] <;> rfl) | (simp [*, jI, jJ] <;> rfl), by repeat (first | (with_reducible first | exact HB.out | apply qA | apply q9 | apply qB | refine qK ?_ qN4.out) | exact HB.out)⟩
  ·rw [if_neg c5] at H
   have jC5 : decide (63 < jT) = false := decide_eq_false c5
   clear c5
   by_cases c8 : jQ < 0
   ·rw [if_pos c8] at H
    have qR7 : decide (jQ < 0) = true := decide_eq_true c8
    clear c8
    obtain rfl := Option.some.inj H
    go_enter Try.func83, Try.ntmps83
    go_wp2_with (first | ((with_reducible refine zY (N := 1) rfl ?_); refine qa5 ?hg (N := 1) ?hd (cs := #[.bool zB, .int .i64 jT, .int .i64 jQ]) (t := 51) ?hr ?_; (case hd => rfl); (case hg => rfl); (case hr => first | (go_simp; done) | (go_simp; rfl)); intro qf9 hg w9 qb4 hb; have n0_ := q8.mk (jM (by repeat (first | (with_reducible first | exact HB.out | apply qA | apply q9 | apply qB) | exact HB.out)) hb); have n1_ := q8.mk (qb4); have n2_ := q8.mk ((by rw [hg]; exact (qM (by repeat (first | (with_reducible first | exact HB.out | apply qA | apply q9 | apply qB) | exact HB.out))) : w.heap.size ≤ qf9)); have n3_ := q8.mk ((by rw [hg]; exact (qM (by repeat (first | (with_reducible first | exact HB.out | apply qA | apply q9 | apply qB) | exact HB.out))) : w.heap.size ≤ qf9)); clear HB; have HB := n0_; have qe5 := n1_; have jU1 := n2_; have qN4 := n3_; clear n0_ n1_ n2_ n3_; clear hb qb4 hg; have zN6 : w9.cell? ⟨qf9, 0, none⟩ = some (.bool zB) := (qE qe5.out 0).trans rfl; have zN7 : w9.cell? ⟨qf9, 1, none⟩ = some (.int .i64 jT) := (qE qe5.out 1).trans rfl; have zN8 : w9.cell? ⟨qf9, 2, none⟩ = some (.int .i64 jQ) := (qE qe5.out 2).trans rfl; have zN9 := qC qe5.out 0; have zO0 := qC qe5.out 1; have zO1 := qC qe5.out 2))
    go_ret
    exact ⟨by first | rfl | (simp [jI, jJ] <;> rfl) | (simp [*, jI, jJ] <;> rfl), by repeat (first | (with_reducible first | exact HB.out | apply qA | apply q9 | apply qB | refine qK ?_ qN4.out) | exact HB.out)⟩
   ·rw [if_neg c8] at H
    have qR7 : decide (jQ < 0) = false := decide_eq_false c8
    clear c8
    by_cases c11 : jQ > 2147483647
    ·rw [if_pos c11] at H
     have jx1 : decide (2147483647 < jQ) = true := decide_eq_true c11
     clear c11
     obtain rfl := Option.some.inj H
     go_enter Try.func83, Try.ntmps83
     go_wp2_with (first | ((with_reducible refine zY (N := 1) rfl ?_); refine qa5 ?hg (N := 1) ?hd (cs := #[.bool zB, .int .i64 jT, .int .i64 jQ]) (t := 51) ?hr ?_; (case hd => rfl); (case hg => rfl); (case hr => first | (go_simp; done) | (go_simp; rfl)); intro qf9 hg w12 qb4 hb; have n0_ := q8.mk (jM (by repeat (first | (with_reducible first | exact HB.out | apply qA | apply q9 | apply qB) | exact HB.out)) hb); have n1_ := q8.mk (qb4); have n2_ := q8.mk ((by rw [hg]; exact (qM (by repeat (first | (with_reducible first | exact HB.out | apply qA | apply q9 | apply qB) | exact HB.out))) : w.heap.size ≤ qf9)); have n3_ := q8.mk ((by rw [hg]; exact (qM (by repeat (first | (with_reducible first | exact HB.out | apply qA | apply q9 | apply qB) | exact HB.out))) : w.heap.size ≤ qf9)); clear HB; have HB := n0_; have qe5 := n1_; have jU1 := n2_; have qN4 := n3_; clear n0_ n1_ n2_ n3_; clear hb qb4 hg; have qI2 : w12.cell? ⟨qf9, 0, none⟩ = some (.bool zB) := (qE qe5.out 0).trans rfl; have qI3 : w12.cell? ⟨qf9, 1, none⟩ = some (.int .i64 jT) := (qE qe5.out 1).trans rfl; have qI4 : w12.cell? ⟨qf9, 2, none⟩ = some (.int .i64 jQ) := (qE qe5.out 2).trans rfl; have qI5 := qC qe5.out 0; have qI6 := qC qe5.out 1; have qI7 := qC qe5.out 2))
     go_ret
     exact ⟨by first | rfl | (simp [jI, jJ] <;> rfl) | (simp [*, jI, jJ] <;> rfl), by repeat (first | (with_reducible first | exact HB.out | apply qA | apply q9 | apply qB | refine qK ?_ qN4.out) | exact HB.out)⟩
    ·rw [if_neg c11] at H
     have jx1 : decide (2147483647 < jQ) = false := decide_eq_false c11
     clear c11
     by_cases c14 : zB = true
     ·subst c14
      have H1 : (some (jQ != 0)) = some r := by rw [if_pos rfl] at H; exact H
      clear H
      have H := H1
      clear H1
      obtain rfl := Option.some.inj H
      go_enter Try.func83, Try.ntmps83
      go_wp2_with (first | ((with_reducible refine zY (N := 1) rfl ?_); refine qa5 ?hg (N := 1) ?hd (cs := #[.bool true, .int .i64 jT, .int .i64 jQ]) (t := 51) ?hr ?_; (case hd => rfl); (case hg => rfl); (case hr => first | (go_simp; done) | (go_simp; rfl)); intro qf9 hg w15 qb4 hb; have n0_ := q8.mk (jM (by repeat (first | (with_reducible first | exact HB.out | apply qA | apply q9 | apply qB) | exact HB.out)) hb); have n1_ := q8.mk (qb4); have n2_ := q8.mk ((by rw [hg]; exact (qM (by repeat (first | (with_reducible first | exact HB.out | apply qA | apply q9 | apply qB) | exact HB.out))) : w.heap.size ≤ qf9)); have n3_ := q8.mk ((by rw [hg]; exact (qM (by repeat (first | (with_reducible first | exact HB.out | apply qA | apply q9 | apply qB) | exact HB.out))) : w.heap.size ≤ qf9)); clear HB; have HB := n0_; have qe5 := n1_; have jU1 := n2_; have qN4 := n3_; clear n0_ n1_ n2_ n3_; clear hb qb4 hg; have qC8 : w15.cell? ⟨qf9, 0, none⟩ = some (.bool true) := (qE qe5.out 0).trans rfl; have qC9 : w15.cell? ⟨qf9, 1, none⟩ = some (.int .i64 jT) := (qE qe5.out 1).trans rfl; have qD0 : w15.cell? ⟨qf9, 2, none⟩ = some (.int .i64 jQ) := (qE qe5.out 2).trans rfl; have qD1 := qC qe5.out 0; have qD2 := qC qe5.out 1; have qD3 := qC qe5.out 2))
      go_ret
      exact ⟨by first | rfl | (simp [jI, jJ] <;> rfl) | (simp [*, jI, jJ] <;> rfl), by repeat (first | (with_reducible first | exact HB.out | apply qA | apply q9 | apply qB | refine qK ?_ qN4.out) | exact HB.out)⟩
     ·replace c14 := Bool.eq_false_iff.mpr c14
      subst c14
      have H1 : (some true) = some r := by rw [if_neg (show ¬ (false = true) by decide)] at H; exact H
      clear H
      have H := H1
      clear H1
      obtain rfl := Option.some.inj H
      go_enter Try.func83, Try.ntmps83
      go_wp2_with (first | ((with_reducible refine zY (N := 1) rfl ?_); refine qa5 ?hg (N := 1) ?hd (cs := #[.bool false, .int .i64 jT, .int .i64 jQ]) (t := 51) ?hr ?_; (case hd => rfl); (case hg => rfl); (case hr => first | (go_simp; done) | (go_simp; rfl)); intro qf9 hg w17 qb4 hb; have n0_ := q8.mk (jM (by repeat (first | (with_reducible first | exact HB.out | apply qA | apply q9 | apply qB) | exact HB.out)) hb); have n1_ := q8.mk (qb4); have n2_ := q8.mk ((by rw [hg]; exact (qM (by repeat (first | (with_reducible first | exact HB.out | apply qA | apply q9 | apply qB) | exact HB.out))) : w.heap.size ≤ qf9)); have n3_ := q8.mk ((by rw [hg]; exact (qM (by repeat (first | (with_reducible first | exact HB.out | apply qA | apply q9 | apply qB) | exact HB.out))) : w.heap.size ≤ qf9)); clear HB; have HB := n0_; have qe5 := n1_; have jU1 := n2_; have qN4 := n3_; clear n0_ n1_ n2_ n3_; clear hb qb4 hg; have jk2 : w17.cell? ⟨qf9, 0, none⟩ = some (.bool false) := (qE qe5.out 0).trans rfl; have jk3 : w17.cell? ⟨qf9, 1, none⟩ = some (.int .i64 jT) := (qE qe5.out 1).trans rfl; have jk4 : w17.cell? ⟨qf9, 2, none⟩ = some (.int .i64 jQ) := (qE qe5.out 2).trans rfl; have jk5 := qC qe5.out 0; have jk6 := qC qe5.out 1; have jk7 := qC qe5.out 2))
      go_ret
      exact ⟨by first | rfl | (simp [jI, jJ] <;> rfl) | (simp [*, jI, jJ] <;> rfl), by repeat (first | (with_reducible first | exact HB.out | apply qA | apply q9 | apply qB | refine qK ?_ qN4.out) | exact HB.out)⟩
end Go.Proofs.Ytngkneknopenmaa.K
end
section
namespace Go.Proofs.Ytngkneknopenmaa.K
open Go.Proofs.Ytngkneknopenmaa
open Go.RowKit Go.Proofs.YtngkneknopenmaaW.jH Go.Proofs.YtngkneknopenmaaW.qh5 Go.Proofs.YtngkneknopenmaaW.qk0
attribute [local go_sem] qp9 qq0 qv3 qv4 qm8 qm9 qq1 qq2   -- for this text's walks alone
set_option linter.unusedVariables false
set_option linter.unusedSimpArgs false
mutual
def qN.j0 : Nat → Bool → Int → Int → Int → List (S51) → Option (Bool)
 | 0, _, _, _, _, _ => none
 | k + 1, x40, x110000, x110001, x110002, x110003 => if x40 = true then (some false) else (qN.l0 k 0 x110000 x110001 x110002 x110003)
def qN.l0 : Nat → Int → Int → Int → Int → List (S51) → Option (Bool)
 | 0, _, _, _, _, _ => none
 | k + 1, x3, x110000, x110001, x110002, x110003 => if x3 < (x110003.length : Int) then (if 0 ≤ x3 then ((qd0.f ((qG x110003 x3).f0) ((qG x110003 x3).f1) ((qG x110003 x3).f2)).bind fun t111 => (if t111 = true then (qN.l0 k (wrap64 (x3 + 1)) x110000 x110001 x110002 x110003) else (some false))) else (none)) else (some true)
end
def qN.f (k : Nat) (zB : Int) (jT : Int) (jQ : Int) (jN : List (S51)) : Option (Bool) := if zB < 0 then (qN.j0 k true zB jT jQ jN) else (if zB > 63 then (qN.j0 k true zB jT jQ jN) else (if jT < 0 then (qN.j0 k true zB jT jQ jN) else (if jT ≥ jQ then (qN.j0 k true zB jT jQ jN) else (if jQ > 2147483647 then (qN.j0 k true zB jT jQ jN) else (if (jN.length : Int) < 1 then (qN.j0 k true zB jT jQ jN) else (qN.j0 k (decide ((jN.length : Int) > 64)) zB jT jQ jN))))))
set_option maxHeartbeats 8000000 in
set_option maxRecDepth 100000 in
theorem qN.calls (k : Nat) (zB : Int) (jT : Int) (jQ : Int) (qt7 : Option Addr) (ql7 : Nat) (jN : List (S51)) (r : Bool) (w : World) (jT7 : Kd.C k51 w qt7 jN.length jN) (jT8 : jN.length ≤ ql7) (h : qN.f k zB jT jQ jN = some r) :
  Calls Try.prog 64 #[.agg #[.int .i64 zB, .int .i64 jT, .int .i64 jQ, .slice qt7 jN.length ql7]] w fun e w' => e = .returned (.bool r) ∧ Below w.heap.size w w' := by
 have zE7 := Try.underlying55
 have zu4 := Try.underlying51
 have jT9 := q8.mk jT7
 have Qn3 := q8.mk jT8
 clear jT7 jT8
 have HB := q8.mk (Below.refl w.heap.size w)
 have H : (if zB < 0 then (qN.j0 k true zB jT jQ jN) else (if zB > 63 then (qN.j0 k true zB jT jQ jN) else (if jT < 0 then (qN.j0 k true zB jT jQ jN) else (if jT ≥ jQ then (qN.j0 k true zB jT jQ jN) else (if jQ > 2147483647 then (qN.j0 k true zB jT jQ jN) else (if (jN.length : Int) < 1 then (qN.j0 k true zB jT jQ jN) else (qN.j0 k (decide ((jN.length : Int) > 64)) zB jT jQ jN))))))) = some r := h
 clear h
 have HC2 := q8.mk H
 clear H
 go_enter Try.func64, Try.ntmps64
 go_upto_region 1 with (first | ((with_reducible refine zY (N := 1) rfl ?_); (try (refine qI1 (by rfl) ?_; dsimp only)); refine qa5 ?hg (N := 1) ?hd (cs := #[.int .i64 zB, .int .i64 jT, .int .i64 jQ, .slice qt7 jN.length ql7]) (t := 55) ?hr ?_; (case hd => rfl); (case hg => rfl); (case hr => first | (go_simp; done) | (go_simp; rfl)); intro qd1 hg w3 qb4 hb; have n0_ := q8.mk (jM (by repeat (first | (with_reducible first | exact HB.out | apply qA | apply q9 | apply qB) | exact HB.out)) hb); have n1_ := q8.mk (qb4); have n2_ := q8.mk ((by rw [hg]; exact (qM (by repeat (first | (with_reducible first | exact HB.out | apply qA | apply q9 | apply qB) | exact HB.out))) : w.heap.size ≤ qd1)); have n3_ := q8.mk ((by rw [hg]; exact (qM (by repeat (first | (with_reducible first | exact HB.out | apply qA | apply q9 | apply qB) | exact HB.out))) : w.heap.size ≤ qd1)); clear HB; have HB := n0_; have jU := n1_; have GW109 := n2_; have qD4 := n3_; clear n0_ n1_ n2_ n3_; clear hb qb4 hg))
 (try simp only [Act.put, List.setIfInBounds_toArray, List.set_cons_zero, List.set_cons_succ])
 go_cut [40] (fun v40 wc => ∃ (kq : Nat) (zj2 : Bool), v40 = .bool zj2 ∧ q8 (qN.j0 kq zj2 zB jT jQ jN = some r) ∧ q8 (kq ≤ k) ∧ q8 (wc.heap[qd1]? = some (.cells #[.int .i64 zB, .int .i64 jT, .int .i64 jQ, (.slice qt7 jN.length ql7)] 55 (0, 0))) ∧ q8 (Below w.heap.size w wc))
 case first =>
  have H := HC2.out
  clear HC2
  by_cases c4 : zB < 0
  ·rw [if_pos c4] at H
   have qB1 : decide (zB < 0) = true := decide_eq_true c4
   clear c4
   (first | rw [qB1] | (simp only [zZ, qa1]; rw [qB1]) | skip)
   have H' := q8.mk H
   clear H
   have jq7 : w3.cell? ⟨qd1, 0, none⟩ = some (.int .i64 zB) := (qE jU.out 0).trans rfl
   have jq8 : w3.cell? ⟨qd1, 1, none⟩ = some (.int .i64 jT) := (qE jU.out 1).trans rfl
   have jq9 : w3.cell? ⟨qd1, 2, none⟩ = some (.int .i64 jQ) := (qE jU.out 2).trans rfl
   have jr0 : w3.cell? ⟨qd1, 3, none⟩ = some (.slice qt7 jN.length ql7) := (qE jU.out 3).trans rfl
   have jr1 := qC jU.out 0
   have jr2 := qC jU.out 1
   have jr3 := qC jU.out 2
   have jr4 := qC jU.out 3
   go_wp2
   go_meet
   case rel => exact ⟨_, (true), (by first | rfl | (simp; done) | (simp [*]; done)), H', ⟨by first | omega | exact Nat.le_refl _⟩, ⟨by (with_reducible repeat (first | refine qI ?_ _ | refine qR ?_ | refine qJ ?_ _)); exact jU.out⟩, ⟨by repeat (first | (with_reducible first | exact HB.out | apply qA | apply q9 | apply qB | refine qK ?_ qD4.out) | exact HB.out)⟩⟩
  ·rw [if_neg c4] at H
   have qB1 : decide (zB < 0) = false := decide_eq_false c4
   clear c4
   (first | rw [qB1] | (simp only [zZ, qa1]; rw [qB1]) | skip)
   by_cases c6 : zB > 63
   ·rw [if_pos c6] at H
    have jh8 : decide (63 < zB) = true := decide_eq_true c6
    clear c6
    have H' := q8.mk H
    clear H
    have qT6 : w3.cell? ⟨qd1, 0, none⟩ = some (.int .i64 zB) := (qE jU.out 0).trans rfl
    have qT7 : w3.cell? ⟨qd1, 1, none⟩ = some (.int .i64 jT) := (qE jU.out 1).trans rfl
    have qT8 : w3.cell? ⟨qd1, 2, none⟩ = some (.int .i64 jQ) := (qE jU.out 2).trans rfl
    have jr5 : w3.cell? ⟨qd1, 3, none⟩ = some (.slice qt7 jN.length ql7) := (qE jU.out 3).trans rfl
    have qT9 := qC jU.out 0
    have qU0 := qC jU.out 1
    have qU1 := qC jU.out 2
    have jr6 := qC jU.out 3
    go_wp2
    go_meet
    case rel => exact ⟨_, (true), (by first | rfl | (simp; done) | (simp [*]; done)), H', ⟨by first | omega | exact Nat.le_refl _⟩, ⟨by (with_reducible repeat (first | refine qI ?_ _ | refine qR ?_ | refine qJ ?_ _)); exact jU.out⟩, ⟨by repeat (first | (with_reducible first | exact HB.out | apply qA | apply q9 | apply qB | refine qK ?_ qD4.out) | exact HB.out)⟩⟩
   ·rw [if_neg c6] at H
    have jh8 : decide (63 < zB) = false := decide_eq_false c6
    clear c6
    by_cases c8 : jT < 0
    ·rw [if_pos c8] at H
     have qR7 : decide (jT < 0) = true := decide_eq_true c8
     clear c8
     have H' := q8.mk H
     clear H
     have jr7 : w3.cell? ⟨qd1, 0, none⟩ = some (.int .i64 zB) := (qE jU.out 0).trans rfl
     have jr8 : w3.cell? ⟨qd1, 1, none⟩ = some (.int .i64 jT) := (qE jU.out 1).trans rfl
     have jr9 : w3.cell? ⟨qd1, 2, none⟩ = some (.int .i64 jQ) := (qE jU.out 2).trans rfl
     have js0 : w3.cell? ⟨qd1, 3, none⟩ = some (.slice qt7 jN.length ql7) := (qE jU.out 3).trans rfl
     have js1 := qC jU.out 0
     have js2 := qC jU.out 1
     have js3 := qC jU.out 2
     have js4 := qC jU.out 3
     go_wp2
     go_meet
     case rel => exact ⟨_, (true), (by first | rfl | (simp; done) | (simp [*]; done)), H', ⟨by first | omega | exact Nat.le_refl _⟩, ⟨by (with_reducible repeat (first | refine qI ?_ _ | refine qR ?_ | refine qJ ?_ _)); exact jU.out⟩, ⟨by repeat (first | (with_reducible first | exact HB.out | apply qA | apply q9 | apply qB | refine qK ?_ qD4.out) | exact HB.out)⟩⟩
    ·rw [if_neg c8] at H
     have qR7 : decide (jT < 0) = false := decide_eq_false c8
     clear c8
     by_cases c10 : jT ≥ jQ
     ·rw [if_pos c10] at H
      have qL5 : decide (jQ ≤ jT) = true := decide_eq_true c10
      clear c10
      have H' := q8.mk H
      clear H
      have ja6 : w3.cell? ⟨qd1, 0, none⟩ = some (.int .i64 zB) := (qE jU.out 0).trans rfl
      have ja7 : w3.cell? ⟨qd1, 1, none⟩ = some (.int .i64 jT) := (qE jU.out 1).trans rfl
      have ja8 : w3.cell? ⟨qd1, 2, none⟩ = some (.int .i64 jQ) := (qE jU.out 2).trans rfl
      have ja9 : w3.cell? ⟨qd1, 3, none⟩ = some (.slice qt7 jN.length ql7) := (qE jU.out 3).trans rfl
      have jb0 := qC jU.out 0
      have jb1 := qC jU.out 1
      have jb2 := qC jU.out 2
      have jb3 := qC jU.out 3
      go_wp2
      go_meet
      case rel => exact ⟨_, (true), (by first | rfl | (simp; done) | (simp [*]; done)), H', ⟨by first | omega | exact Nat.le_refl _⟩, ⟨by (with_reducible repeat (first | refine qI ?_ _ | refine qR ?_ | refine qJ ?_ _)); exact jU.out⟩, ⟨by repeat (first | (with_reducible first | exact HB.out | apply qA | apply q9 | apply qB | refine qK ?_ qD4.out) | exact HB.out)⟩⟩
     ·rw [if_neg c10] at H
      have qL5 : decide (jQ ≤ jT) = false := decide_eq_false c10
      clear c10
      by_cases c12 : jQ > 2147483647
      ·rw [if_pos c12] at H
       have qE3 : decide (2147483647 < jQ) = true := decide_eq_true c12
       clear c12
       have H' := q8.mk H
       clear H
       have qI2 : w3.cell? ⟨qd1, 0, none⟩ = some (.int .i64 zB) := (qE jU.out 0).trans rfl
       have qI3 : w3.cell? ⟨qd1, 1, none⟩ = some (.int .i64 jT) := (qE jU.out 1).trans rfl
       have qI4 : w3.cell? ⟨qd1, 2, none⟩ = some (.int .i64 jQ) := (qE jU.out 2).trans rfl
       have jb4 : w3.cell? ⟨qd1, 3, none⟩ = some (.slice qt7 jN.length ql7) := (qE jU.out 3).trans rfl
       have qI5 := qC jU.out 0
       have qI6 := qC jU.out 1
       have qI7 := qC jU.out 2
       have jb5 := qC jU.out 3
       go_wp2
       go_meet
       case rel => exact ⟨_, (true), (by first | rfl | (simp; done) | (simp [*]; done)), H', ⟨by first | omega | exact Nat.le_refl _⟩, ⟨by (with_reducible repeat (first | refine qI ?_ _ | refine qR ?_ | refine qJ ?_ _)); exact jU.out⟩, ⟨by repeat (first | (with_reducible first | exact HB.out | apply qA | apply q9 | apply qB | refine qK ?_ qD4.out) | exact HB.out)⟩⟩
      ·rw [if_neg c12] at H
       have qE3 : decide (2147483647 < jQ) = false := decide_eq_false c12
       clear c12
       by_cases c14 : (jN.length : Int) < 1
       ·rw [if_pos c14] at H
        have qV7 : decide ((jN.length : Int) < 1) = true := decide_eq_true c14
        have js5 : decide (jN.length < 1) = true := decide_eq_true (by omega)
        clear c14
        have H' := q8.mk H
        clear H
        have jb6 : w3.cell? ⟨qd1, 0, none⟩ = some (.int .i64 zB) := (qE jU.out 0).trans rfl
        have jb7 : w3.cell? ⟨qd1, 1, none⟩ = some (.int .i64 jT) := (qE jU.out 1).trans rfl
        have jb8 : w3.cell? ⟨qd1, 2, none⟩ = some (.int .i64 jQ) := (qE jU.out 2).trans rfl
        have jb9 : w3.cell? ⟨qd1, 3, none⟩ = some (.slice qt7 jN.length ql7) := (qE jU.out 3).trans rfl
        have jc0 := qC jU.out 0
        have jc1 := qC jU.out 1
        have jc2 := qC jU.out 2
        have jc3 := qC jU.out 3
        go_wp2
        go_meet
        case rel => exact ⟨_, (true), (by first | rfl | (simp; done) | (simp [*]; done)), H', ⟨by first | omega | exact Nat.le_refl _⟩, ⟨by (with_reducible repeat (first | refine qI ?_ _ | refine qR ?_ | refine qJ ?_ _)); exact jU.out⟩, ⟨by repeat (first | (with_reducible first | exact HB.out | apply qA | apply q9 | apply qB | refine qK ?_ qD4.out) | exact HB.out)⟩⟩
       ·rw [if_neg c14] at H
        have qV7 : decide ((jN.length : Int) < 1) = false := decide_eq_false c14
        have js5 : decide (jN.length < 1) = false := decide_eq_false (by omega)
        clear c14
        have H' := q8.mk H
        clear H
        have qC8 : w3.cell? ⟨qd1, 0, none⟩ = some (.int .i64 zB) := (qE jU.out 0).trans rfl
        have qC9 : w3.cell? ⟨qd1, 1, none⟩ = some (.int .i64 jT) := (qE jU.out 1).trans rfl
        have qD0 : w3.cell? ⟨qd1, 2, none⟩ = some (.int .i64 jQ) := (qE jU.out 2).trans rfl
        have jc4 : w3.cell? ⟨qd1, 3, none⟩ = some (.slice qt7 jN.length ql7) := (qE jU.out 3).trans rfl
        have qD1 := qC jU.out 0
        have qD2 := qC jU.out 1
        have qD3 := qC jU.out 2
        have jc5 := qC jU.out 3
        go_wp2
        go_meet
        case rel => exact ⟨_, (decide ((jN.length : Int) > 64)), (by first | rfl | (simp; done) | (simp [*]; done)), H', ⟨by first | omega | exact Nat.le_refl _⟩, ⟨by (with_reducible repeat (first | refine qI ?_ _ | refine qR ?_ | refine qJ ?_ _)); exact jU.out⟩, ⟨by repeat (first | (with_reducible first | exact HB.out | apply qA | apply q9 | apply qB | refine qK ?_ qD4.out) | exact HB.out)⟩⟩
 case rest =>
  clear HC2
  try clear c1
  try clear p2
  try clear c4
  try clear qB1
  try clear c6
  try clear jh8
  try clear c8
  try clear qR7
  try clear c10
  try clear qL5
  try clear c12
  try clear qE3
  try clear c14
  try clear qV7
  try clear js5
  try clear ja6
  try clear ja7
  try clear ja8
  try clear ja9
  try clear qI2
  try clear qI3
  try clear qI4
  try clear jb4
  try clear jb6
  try clear jb7
  try clear jb8
  try clear jb9
  try clear qC8
  try clear qC9
  try clear qD0
  try clear jc4
  try clear jq7
  try clear jq8
  try clear jq9
  try clear jr0
  try clear qT6
  try clear qT7
  try clear qT8
  try clear jr5
  try clear jr7
  try clear jr8
  try clear jr9
  try clear js0
  try clear jb0
  try clear jb1
  try clear jb2
  try clear jb3
  try clear qI5
  try clear qI6
  try clear qI7
  try clear jb5
  try clear jc0
  try clear jc1
  try clear jc2
  try clear jc3
  try clear qD1
  try clear qD2
  try clear qD3
  try clear jc5
  try clear jr1
  try clear jr2
  try clear jr3
  try clear jr4
  try clear qT9
  try clear qU0
  try clear qU1
  try clear jr6
  try clear js1
  try clear js2
  try clear js3
  try clear js4
  obtain ⟨kq, zj2, rfl, HA, HJ1, jU, HB⟩ := hcut
  cases kq with
  | zero => exact absurd HA.out (by simp [qN.j0])
  | succ kj1 =>
   have H := HA.out
   clear HA
   simp only [qN.j0] at H
   by_cases c17 : zj2 = true
   ·subst c17
    have H1 : (some false) = some r := by rw [if_pos rfl] at H; exact H
    clear H
    have H := H1
    clear H1
    obtain rfl := Option.some.inj H
    go_wp2
    go_ret
    exact ⟨by first | rfl | (simp [jI, jJ] <;> rfl) | (simp [*, jI, jJ] <;> rfl), by repeat (first | (with_reducible first | exact HB.out | apply qA | apply q9 | apply qB | refine qK ?_ qD4.out) | exact HB.out)⟩
   ·replace c17 := Bool.eq_false_iff.mpr c17
    subst c17
    have H1 : (qN.l0 kj1 0 zB jT jQ jN) = some r := by rw [if_neg (show ¬ (false = true) by decide)] at H; exact H
    clear H
    have H := H1
    clear H1
    have H' := q8.mk H
    clear H
    go_wp2
    go_loopg [3] kj1 (fun kq v3 w' => ∃ (qu1 : Int), v3 = .int .i64 qu1 ∧ q8 (qN.l0 kq qu1 zB jT jQ jN = some r) ∧ q8 (kq ≤ kj1) ∧ q8 (w'.heap[qd1]? = some (.cells #[.int .i64 zB, .int .i64 jT, .int .i64 jQ, (.slice qt7 jN.length ql7)] 55 (0, 0))) ∧ q8 (Below w.heap.size w w'))
    case atStart => exact ⟨(0), (by first | rfl | (simp; done) | (simp [*]; done)), H', ⟨Nat.le_refl _⟩, ⟨by (with_reducible repeat (first | refine qI ?_ _ | refine qR ?_ | refine qJ ?_ _)); exact jU.out⟩, ⟨by repeat (first | (with_reducible first | exact HB.out | apply qA | apply q9 | apply qB | refine qK ?_ qD4.out) | exact HB.out)⟩⟩
    case round =>
     clear H'
     try clear c1
     try clear p2
     try clear c4
     try clear qB1
     try clear c6
     try clear jh8
     try clear c8
     try clear qR7
     try clear c10
     try clear qL5
     try clear c12
     try clear qE3
     try clear c14
     try clear qV7
     try clear js5
     try clear c17
     try clear ja6
     try clear ja7
     try clear ja8
     try clear ja9
     try clear qI2
     try clear qI3
     try clear qI4
     try clear jb4
     try clear jb6
     try clear jb7
     try clear jb8
     try clear jb9
     try clear qC8
     try clear qC9
     try clear qD0
     try clear jc4
     try clear jq7
     try clear jq8
     try clear jq9
     try clear jr0
     try clear qT6
     try clear qT7
     try clear qT8
     try clear jr5
     try clear jr7
     try clear jr8
     try clear jr9
     try clear js0
     try clear jb0
     try clear jb1
     try clear jb2
     try clear jb3
     try clear qI5
     try clear qI6
     try clear qI7
     try clear jb5
     try clear jc0
     try clear jc1
     try clear jc2
     try clear jc3
     try clear qD1
     try clear qD2
     try clear qD3
     try clear jc5
     try clear jr1
     try clear jr2
     try clear jr3
     try clear jr4
     try clear qT9
     try clear qU0
     try clear qU1
     try clear jr6
     try clear js1
     try clear js2
     try clear js3
     try clear js4
     try clear p2
     obtain ⟨qu1, rfl, HA, HK2, jU, HB⟩ := hrel
     cases gk with
     | zero => exact absurd HA.out (by simp [qN.l0])
     | succ k2 =>
      have H := HA.out
      clear HA
      simp only [qN.l0] at H
      by_cases c18 : qu1 < (jN.length : Int)
      ·rw [if_pos c18] at H
       have zR6 : decide (qu1 < (jN.length : Int)) = true := decide_eq_true c18
       clear c18
       by_cases c19 : 0 ≤ qu1
       ·rw [if_pos c19] at H
        have zU6 : decide (0 ≤ qu1) = true := decide_eq_true c19
        clear c19
        replace H := Option.bind_eq_some_iff.mp H
        obtain ⟨t111, A200, H⟩ := H
        replace H : (if t111 = true then (qN.l0 k2 (wrap64 (qu1 + 1)) zB jT jQ jN) else (some false)) = some r := H
        have A20 := q8.mk A200
        clear A200
        by_cases c21 : t111 = true
        ·subst c21
         have H1 : (qN.l0 k2 (wrap64 (qu1 + 1)) zB jT jQ jN) = some r := by rw [if_pos rfl] at H; exact H
         clear H
         have H := H1
         clear H1
         have H' := q8.mk H
         clear H
         have QB6 : wr.cell? ⟨qd1, 0, none⟩ = some (.int .i64 zB) := (qE jU.out 0).trans rfl
         have QB7 : wr.cell? ⟨qd1, 1, none⟩ = some (.int .i64 jT) := (qE jU.out 1).trans rfl
         have QB8 : wr.cell? ⟨qd1, 2, none⟩ = some (.int .i64 jQ) := (qE jU.out 2).trans rfl
         have QB9 : wr.cell? ⟨qd1, 3, none⟩ = some (.slice qt7 jN.length ql7) := (qE jU.out 3).trans rfl
         have QC0 := qC jU.out 0
         have QC1 := qC jU.out 1
         have QC2 := qC jU.out 2
         have QC3 := qC jU.out 3
         have zd0 : 0 ≤ (qu1 : Int) := of_decide_eq_true (by first | (with_reducible assumption) | assumption)
         have zd1 : qu1 < (jN.length : Int) := of_decide_eq_true (by first | (with_reducible assumption) | assumption)
         obtain ⟨zC6, Qe6, qJ4, qJ5, qJ6⟩ := qr0 jT9.out qu1 zd0 zd1
         cases Qe6
         replace qJ4 := (HB.out.cell (World.block_lt_of_cell? w _ qJ4)).trans qJ4
         replace qJ5 := (HB.out.cell (World.block_lt_of_cell? w _ qJ5)).trans qJ5
         replace qJ6 := (HB.out.cell (World.block_lt_of_cell? w _ qJ6)).trans qJ6
         replace zd0 := eq_true zd0
         replace zd1 := eq_true zd1
         go_wp2_with (first | ((with_reducible refine qi8 (f := 83) rfl ?_); refine qG9 (some 53) rfl rfl Try.func83 (by kernel_rfl) rfl #[.agg #[.bool ((qG jN qu1).f0), .int .i64 ((qG jN qu1).f1), .int .i64 ((qG jN qu1).f2)]] rfl (by (try simp only [List.map_toArray, List.map_cons, List.map_nil]); first | done | rfl | (simp only [List.length_drop, List.length_take]; rfl)) ?_; (with_reducible refine (qd0.calls ((qG jN qu1).f0) ((qG jN qu1).f1) ((qG jN qu1).f2) true _ A20.out).mono ?_); rintro e w23 ⟨rfl, hb⟩; refine ⟨_, rfl, ?_⟩; have n0_ := q8.mk (qn0 (g := qd1) (o := .cells #[.int .i64 zB, .int .i64 jT, .int .i64 jQ, .slice (some zC6) jN.length ql7] 55 (0, 0)) (by (with_reducible repeat (first | refine qI ?_ _ | refine qR ?_ | refine qJ ?_ _)); exact jU.out) hb); have n1_ := q8.mk (jM (by repeat (first | (with_reducible first | exact HB.out | apply qA | apply q9 | apply qB | refine qK ?_ qD4.out) | exact HB.out)) hb); clear jU; clear HB; have jU := n0_; have HB := n1_; clear n0_ n1_; (try clear hb); (try clear hb2); (try clear hk); (try clear hi)))
         go_roundg k2
         case measure => have := HJ1.out; have := HK2.out; omega
         case rel => exact ⟨(wrap64 (qu1 + 1)), (by first | rfl | (simp; done) | (simp [*]; done)), H', ⟨by have := HJ1.out; have := HK2.out; omega⟩, ⟨by (with_reducible repeat (first | refine qI ?_ _ | refine qR ?_ | refine qJ ?_ _)); exact jU.out⟩, ⟨by repeat (first | (with_reducible first | exact HB.out | apply qA | apply q9 | apply qB | refine qK ?_ qD4.out) | exact HB.out)⟩⟩
        ·replace c21 := Bool.eq_false_iff.mpr c21
         subst c21
         have H1 : (some false) = some r := by rw [if_neg (show ¬ (false = true) by decide)] at H; exact H
         clear H
         have H := H1
         clear H1
         obtain rfl := Option.some.inj H
         have QC4 : wr.cell? ⟨qd1, 0, none⟩ = some (.int .i64 zB) := (qE jU.out 0).trans rfl
         have QC5 : wr.cell? ⟨qd1, 1, none⟩ = some (.int .i64 jT) := (qE jU.out 1).trans rfl
         have QC6 : wr.cell? ⟨qd1, 2, none⟩ = some (.int .i64 jQ) := (qE jU.out 2).trans rfl
         have QC7 : wr.cell? ⟨qd1, 3, none⟩ = some (.slice qt7 jN.length ql7) := (qE jU.out 3).trans rfl
         have QC8 := qC jU.out 0
         have QC9 := qC jU.out 1
         have QD0 := qC jU.out 2
         have QD1 := qC jU.out 3
         have zd0 : 0 ≤ (qu1 : Int) := of_decide_eq_true (by first | (with_reducible assumption) | assumption)
         have zd1 : qu1 < (jN.length : Int) := of_decide_eq_true (by first | (with_reducible assumption) | assumption)
         obtain ⟨zC6, Qe6, qJ4, qJ5, qJ6⟩ := qr0 jT9.out qu1 zd0 zd1
         cases Qe6
         replace qJ4 := (HB.out.cell (World.block_lt_of_cell? w _ qJ4)).trans qJ4
         replace qJ5 := (HB.out.cell (World.block_lt_of_cell? w _ qJ5)).trans qJ5
         replace qJ6 := (HB.out.cell (World.block_lt_of_cell? w _ qJ6)).trans qJ6
         replace zd0 := eq_true zd0
         replace zd1 := eq_true zd1
         go_wp2_with (first | ((with_reducible refine qi8 (f := 83) rfl ?_); refine qG9 (some 53) rfl rfl Try.func83 (by kernel_rfl) rfl #[.agg #[.bool ((qG jN qu1).f0), .int .i64 ((qG jN qu1).f1), .int .i64 ((qG jN qu1).f2)]] rfl (by (try simp only [List.map_toArray, List.map_cons, List.map_nil]); first | done | rfl | (simp only [List.length_drop, List.length_take]; rfl)) ?_; (with_reducible refine (qd0.calls ((qG jN qu1).f0) ((qG jN qu1).f1) ((qG jN qu1).f2) false _ A20.out).mono ?_); rintro e w25 ⟨rfl, hb⟩; refine ⟨_, rfl, ?_⟩; have n0_ := q8.mk (qn0 (g := qd1) (o := .cells #[.int .i64 zB, .int .i64 jT, .int .i64 jQ, .slice (some zC6) jN.length ql7] 55 (0, 0)) (by (with_reducible repeat (first | refine qI ?_ _ | refine qR ?_ | refine qJ ?_ _)); exact jU.out) hb); have n1_ := q8.mk (jM (by repeat (first | (with_reducible first | exact HB.out | apply qA | apply q9 | apply qB | refine qK ?_ qD4.out) | exact HB.out)) hb); clear jU; clear HB; have jU := n0_; have HB := n1_; clear n0_ n1_; (try clear hb); (try clear hb2); (try clear hk); (try clear hi)))
         go_ret
         exact ⟨by first | rfl | (simp [jI, jJ] <;> rfl) | (simp [*, jI, jJ] <;> rfl), by repeat (first | (with_reducible first | exact HB.out | apply qA | apply q9 | apply qB | refine qK ?_ qD4.out) | exact HB.out)⟩
       ·rw [if_neg c19] at H
        exact absurd H (by simp)
      ·rw [if_neg c18] at H
       have zR6 : decide (qu1 < (jN.length : Int)) = false := decide_eq_false c18
       clear c18
       obtain rfl := Option.some.inj H
       have zO4 : wr.cell? ⟨qd1, 0, none⟩ = some (.int .i64 zB) := (qE jU.out 0).trans rfl
       have zO5 : wr.cell? ⟨qd1, 1, none⟩ = some (.int .i64 jT) := (qE jU.out 1).trans rfl
       have zO6 : wr.cell? ⟨qd1, 2, none⟩ = some (.int .i64 jQ) := (qE jU.out 2).trans rfl
       have QD2 : wr.cell? ⟨qd1, 3, none⟩ = some (.slice qt7 jN.length ql7) := (qE jU.out 3).trans rfl
       have zO7 := qC jU.out 0
       have zO8 := qC jU.out 1
       have zO9 := qC jU.out 2
       have QD3 := qC jU.out 3
       go_wp2
       go_ret
       exact ⟨by first | rfl | (simp [jI, jJ] <;> rfl) | (simp [*, jI, jJ] <;> rfl), by repeat (first | (with_reducible first | exact HB.out | apply qA | apply q9 | apply qB | refine qK ?_ qD4.out) | exact HB.out)⟩
mutual
def j5.l0 : Nat → List (S55) → Int → Int → Int → Option (Int)
 | 0, _, _, _, _ => none
 | k + 1, x0, x1, x5, x6 => if x6 < (x0.length : Int) then (j5.l1 k x0 x1 x5 x6 0) else (some x5)
def j5.l1 : Nat → List (S55) → Int → Int → Int → Int → Option (Int)
 | 0, _, _, _, _, _ => none
 | k + 1, x0, x1, x5, x6, x7 => if 0 ≤ x6 then (if x6 < (x0.length : Int) then (if x7 < (((qD x0 x6).f3).length : Int) then (if 0 ≤ x7 then (if (qG ((qD x0 x6).f3) x7).f0 = true then (if ((qG ((qD x0 x6).f3) x7).f2) = x1 then (j5.l1 k x0 x1 (wrap64 (x5 + 1)) x6 (wrap64 (x7 + 1))) else (j5.l1 k x0 x1 x5 x6 (wrap64 (x7 + 1)))) else (j5.l1 k x0 x1 x5 x6 (wrap64 (x7 + 1)))) else (none)) else (j5.l0 k x0 x1 x5 (wrap64 (x6 + 1)))) else (none)) else (none)
end
def j5.f (k : Nat) (l0 : List (S55)) (a1 : Int) : Option (Int) := j5.l0 k l0 a1 0 0
set_option maxHeartbeats 8000000 in
set_option maxRecDepth 100000 in
theorem j5.calls (k : Nat) (A0 : Option Addr) (c0 : Nat) (l0 : List (S55)) (a1 : Int) (r : Int) (w : World) (hr0 : Kd.C k55 w A0 l0.length l0) (hc0 : l0.length ≤ c0) (h : j5.f k l0 a1 = some r) :
  Calls Try.prog 65 #[.slice A0 l0.length c0, .int .i64 a1] w fun e w' => e = .returned (.int .i64 r) ∧ zW w w' := by
 have HR0 := q8.mk hr0
 have HC0 := q8.mk hc0
 clear hr0 hc0
 have H : (j5.l0 k l0 a1 0 0) = some r := h
 clear h
 have H' := q8.mk H
 clear H
 go_enter Try.func65, Try.ntmps65
 go_wp2
 go_loopg [5, 6] k (fun kq v5 v6 w' => ∃ (qx1 : Int) (jW : Int), v5 = .int .i64 qx1 ∧ v6 = .int .i64 jW ∧ q8 (j5.l0 kq l0 a1 qx1 jW = some r) ∧ q8 (kq ≤ k) ∧ zW w w')
 case atStart => exact ⟨(0), (0), (by first | rfl | (simp; done) | (simp [*]; done)), (by first | rfl | (simp; done) | (simp [*]; done)), H', ⟨Nat.le_refl _⟩, by repeat (first | exact zW.refl _ | apply zW.step)⟩
 case round =>
  clear H'
  try clear p2
  obtain ⟨qx1, jW, rfl, rfl, HA, HK1, ⟨m1, rfl⟩⟩ := hrel
  cases gk with
  | zero => exact absurd HA.out (by simp [j5.l0])
  | succ k1 =>
   have H := HA.out
   clear HA
   simp only [j5.l0] at H
   by_cases c3 : jW < (l0.length : Int)
   ·rw [if_pos c3] at H
    have jM8 : decide (jW < (l0.length : Int)) = true := decide_eq_true c3
    clear c3
    have H' := q8.mk H
    clear H
    go_wp2
    go_loopg [5, 7] k1 (fun kq v5 v7 w' => ∃ (zL : Int) (qf3 : Int), v5 = .int .i64 zL ∧ v7 = .int .i64 qf3 ∧ q8 (j5.l1 kq l0 a1 zL jW qf3 = some r) ∧ q8 (kq ≤ k1) ∧ zW w w')
    case atStart => exact ⟨(qx1), (0), (by first | rfl | (simp; done) | (simp [*]; done)), (by first | rfl | (simp; done) | (simp [*]; done)), H', ⟨Nat.le_refl _⟩, by repeat (first | exact zW.refl _ | apply zW.step)⟩
    case round =>
     clear H'
     try clear p2
     try clear c3
     try clear jM8
     try clear p2
     obtain ⟨zL, qf3, rfl, rfl, HA, HK2, ⟨m2, rfl⟩⟩ := hrel
     cases gk with
     | zero => exact absurd HA.out (by simp [j5.l1])
     | succ k2 =>
      have H := HA.out
      clear HA
      simp only [j5.l1] at H
      by_cases c4 : 0 ≤ jW
      ·rw [if_pos c4] at H
       have qB1 : decide (0 ≤ jW) = true := decide_eq_true c4
       clear c4
       by_cases c5 : jW < (l0.length : Int)
       ·rw [if_pos c5] at H
        have jC5 : decide (jW < (l0.length : Int)) = true := decide_eq_true c5
        clear c5
        by_cases c6 : qf3 < (((qD l0 jW).f3).length : Int)
        ·rw [if_pos c6] at H
         have jh8 : decide (qf3 < (((qD l0 jW).f3).length : Int)) = true := decide_eq_true c6
         clear c6
         by_cases c7 : 0 ≤ qf3
         ·rw [if_pos c7] at H
          have zG4 : decide (0 ≤ qf3) = true := decide_eq_true c7
          clear c7
          obtain ⟨bq8, Qe7⟩ : ∃ b_ : Bool, b_ = ((qG ((qD l0 jW).f3) qf3).f0) := ⟨_, rfl⟩
          replace H : (if bq8 = true then (if ((qG ((qD l0 jW).f3) qf3).f2) = a1 then (j5.l1 k2 l0 a1 (wrap64 (zL + 1)) jW (wrap64 (qf3 + 1))) else (j5.l1 k2 l0 a1 zL jW (wrap64 (qf3 + 1)))) else (j5.l1 k2 l0 a1 zL jW (wrap64 (qf3 + 1)))) = some r := by rw [← Qe7] at H; exact H
          have zC7 := q8.mk Qe7
          clear Qe7
          by_cases c9 : bq8 = true
          ·subst c9
           have H1 : (if ((qG ((qD l0 jW).f3) qf3).f2) = a1 then (j5.l1 k2 l0 a1 (wrap64 (zL + 1)) jW (wrap64 (qf3 + 1))) else (j5.l1 k2 l0 a1 zL jW (wrap64 (qf3 + 1)))) = some r := by rw [if_pos rfl] at H; exact H
           clear H
           have H := H1
           clear H1
           by_cases c10 : ((qG ((qD l0 jW).f3) qf3).f2) = a1
           ·rw [if_pos c10] at H
            have qL5 : (((qG ((qD l0 jW).f3) qf3).f2) == a1) = true := beq_iff_eq.mpr c10
            have Qn8 : (((qG ((qD l0 jW).f3) qf3).f2) != a1) = false := bne_eq_false_iff_eq.mpr c10
            clear c10
            have H' := q8.mk H
            clear H
            have qU6 : 0 ≤ (jW : Int) := of_decide_eq_true (by first | (with_reducible assumption) | assumption)
            have qU7 : jW < (l0.length : Int) := of_decide_eq_true (by first | (with_reducible assumption) | assumption)
            obtain ⟨jh6, zd2, zd3, zd4, jI5, jI6, jI7, qD5, qu2, qu3⟩ := qa4 HR0.out jW qU6 qU7
            cases zd4
            have jI8 := q8.mk qu3
            have jI9 := q8.mk qu2
            clear qu3 qu2
            replace qU6 := eq_true qU6
            replace qU7 := eq_true qU7
            have js8 : 0 ≤ (jW : Int) := of_decide_eq_true (by first | (with_reducible assumption) | assumption)
            have js9 : jW < (l0.length : Int) := of_decide_eq_true (by first | (with_reducible assumption) | assumption)
            obtain ⟨jU2, zC8, zC9, zD0, zj3, zj4, zj5, jc7, qD6, qD7⟩ := qa4 HR0.out jW js8 js9
            obtain rfl : jh6 = jU2 := (by injection zD0)
            have jc8 := q8.mk qD7
            have zj6 := q8.mk qD6
            clear qD7 qD6
            replace js8 := eq_true js8
            replace js9 := eq_true js9
            have ea_ := Option.some.inj (qD5.symm.trans jc7)
            injection ea_ with ea_ en_ ec_
            subst ea_
            subst ec_
            clear en_
            have jt0 : 0 ≤ (qf3 : Int) := of_decide_eq_true (by first | (with_reducible assumption) | assumption)
            have jt1 : qf3 < (((qD l0 jW).f3).length : Int) := of_decide_eq_true (by first | (with_reducible assumption) | assumption)
            obtain ⟨zU7, zD1, jc9, zj7, zj8⟩ := qr0 jc8.out qf3 jt0 jt1
            (try rw [← zC7.out] at jc9)
            cases zD1
            replace jt0 := eq_true jt0
            replace jt1 := eq_true jt1
            have zd5 : 0 ≤ (jW : Int) := of_decide_eq_true (by first | (with_reducible assumption) | assumption)
            have zd6 : jW < (l0.length : Int) := of_decide_eq_true (by first | (with_reducible assumption) | assumption)
            obtain ⟨zD2, Qe8, Qe9, e115, zP1, zP2, zP3, jJ0, jd0, jd1⟩ := qa4 HR0.out jW zd5 zd6
            obtain rfl : jh6 = zD2 := (by injection e115)
            have jJ1 := q8.mk jd1
            have zP4 := q8.mk jd0
            clear jd1 jd0
            replace zd5 := eq_true zd5
            replace zd6 := eq_true zd6
            have ea_ := Option.some.inj (qD5.symm.trans jJ0)
            injection ea_ with ea_ en_ ec_
            subst ea_
            subst ec_
            clear en_
            have zd7 : 0 ≤ (qf3 : Int) := of_decide_eq_true (by first | (with_reducible assumption) | assumption)
            have zd8 : qf3 < (((qD l0 jW).f3).length : Int) := of_decide_eq_true (by first | (with_reducible assumption) | assumption)
            obtain ⟨Qn9, e116, jJ2, zP5, zP6⟩ := qr0 jJ1.out qf3 zd7 zd8
            (try rw [← zC7.out] at jJ2)
            cases e116
            replace zd7 := eq_true zd7
            replace zd8 := eq_true zd8
            go_wp2
            go_roundg k2
            case measure => have := HK1.out; have := HK2.out; omega
            case rel => exact ⟨(wrap64 (zL + 1)), (wrap64 (qf3 + 1)), (by first | rfl | (simp; done) | (simp [*]; done)), (by first | rfl | (simp; done) | (simp [*]; done)), H', ⟨by have := HK1.out; have := HK2.out; omega⟩, by repeat (first | exact zW.refl _ | apply zW.step)⟩
           ·rw [if_neg c10] at H
            have qL5 : (((qG ((qD l0 jW).f3) qf3).f2) == a1) = false := beq_eq_false_iff_ne.mpr c10
            have Qn8 : (((qG ((qD l0 jW).f3) qf3).f2) != a1) = true := bne_iff_ne.mpr c10
            have H' := q8.mk H
            clear H
            have qU6 : 0 ≤ (jW : Int) := of_decide_eq_true (by first | (with_reducible assumption) | assumption)
            have qU7 : jW < (l0.length : Int) := of_decide_eq_true (by first | (with_reducible assumption) | assumption)
            obtain ⟨jh6, zd2, zd3, zd4, jI5, jI6, jI7, qD5, qu2, qu3⟩ := qa4 HR0.out jW qU6 qU7
            cases zd4
            have jI8 := q8.mk qu3
            have jI9 := q8.mk qu2
            clear qu3 qu2
            replace qU6 := eq_true qU6
            replace qU7 := eq_true qU7
            have js8 : 0 ≤ (jW : Int) := of_decide_eq_true (by first | (with_reducible assumption) | assumption)
            have js9 : jW < (l0.length : Int) := of_decide_eq_true (by first | (with_reducible assumption) | assumption)
            obtain ⟨jU2, zC8, zC9, zD0, zj3, zj4, zj5, jc7, qD6, qD7⟩ := qa4 HR0.out jW js8 js9
            obtain rfl : jh6 = jU2 := (by injection zD0)
            have jc8 := q8.mk qD7
            have zj6 := q8.mk qD6
            clear qD7 qD6
            replace js8 := eq_true js8
            replace js9 := eq_true js9
            have ea_ := Option.some.inj (qD5.symm.trans jc7)
            injection ea_ with ea_ en_ ec_
            subst ea_
            subst ec_
            clear en_
            have jt0 : 0 ≤ (qf3 : Int) := of_decide_eq_true (by first | (with_reducible assumption) | assumption)
            have jt1 : qf3 < (((qD l0 jW).f3).length : Int) := of_decide_eq_true (by first | (with_reducible assumption) | assumption)
            obtain ⟨zU7, zD1, jc9, zj7, zj8⟩ := qr0 jc8.out qf3 jt0 jt1
            (try rw [← zC7.out] at jc9)
            cases zD1
            replace jt0 := eq_true jt0
            replace jt1 := eq_true jt1
            have zd5 : 0 ≤ (jW : Int) := of_decide_eq_true (by first | (with_reducible assumption) | assumption)
            have zd6 : jW < (l0.length : Int) := of_decide_eq_true (by first | (with_reducible assumption) | assumption)
            obtain ⟨zD2, Qe8, Qe9, e115, zP1, zP2, zP3, jJ0, jd0, jd1⟩ := qa4 HR0.out jW zd5 zd6
            obtain rfl : jh6 = zD2 := (by injection e115)
            have jJ1 := q8.mk jd1
            have zP4 := q8.mk jd0
            clear jd1 jd0
            replace zd5 := eq_true zd5
            replace zd6 := eq_true zd6
            have ea_ := Option.some.inj (qD5.symm.trans jJ0)
            injection ea_ with ea_ en_ ec_
            subst ea_
            subst ec_
            clear en_
            have zd7 : 0 ≤ (qf3 : Int) := of_decide_eq_true (by first | (with_reducible assumption) | assumption)
            have zd8 : qf3 < (((qD l0 jW).f3).length : Int) := of_decide_eq_true (by first | (with_reducible assumption) | assumption)
            obtain ⟨Qn9, e116, jJ2, zP5, zP6⟩ := qr0 jJ1.out qf3 zd7 zd8
            (try rw [← zC7.out] at jJ2)
            cases e116
            replace zd7 := eq_true zd7
            replace zd8 := eq_true zd8
            go_wp2
            go_roundg k2
            case measure => have := HK1.out; have := HK2.out; omega
            case rel => exact ⟨(zL), (wrap64 (qf3 + 1)), (by first | rfl | (simp; done) | (simp [*]; done)), (by first | rfl | (simp; done) | (simp [*]; done)), H', ⟨by have := HK1.out; have := HK2.out; omega⟩, by repeat (first | exact zW.refl _ | apply zW.step)⟩
          ·replace c9 := Bool.eq_false_iff.mpr c9
           subst c9
           have H1 : (j5.l1 k2 l0 a1 zL jW (wrap64 (qf3 + 1))) = some r := by rw [if_neg (show ¬ (false = true) by decide)] at H; exact H
           clear H
           have H := H1
           clear H1
           have H' := q8.mk H
           clear H
           have qU6 : 0 ≤ (jW : Int) := of_decide_eq_true (by first | (with_reducible assumption) | assumption)
           have qU7 : jW < (l0.length : Int) := of_decide_eq_true (by first | (with_reducible assumption) | assumption)
           obtain ⟨jh6, zd2, zd3, zd4, jI5, jI6, jI7, qD5, qu2, qu3⟩ := qa4 HR0.out jW qU6 qU7
           cases zd4
           have jI8 := q8.mk qu3
           have jI9 := q8.mk qu2
           clear qu3 qu2
           replace qU6 := eq_true qU6
           replace qU7 := eq_true qU7
           have js8 : 0 ≤ (jW : Int) := of_decide_eq_true (by first | (with_reducible assumption) | assumption)
           have js9 : jW < (l0.length : Int) := of_decide_eq_true (by first | (with_reducible assumption) | assumption)
           obtain ⟨jU2, zC8, zC9, zD0, zj3, zj4, zj5, jc7, qD6, qD7⟩ := qa4 HR0.out jW js8 js9
           obtain rfl : jh6 = jU2 := (by injection zD0)
           have jc8 := q8.mk qD7
           have zj6 := q8.mk qD6
           clear qD7 qD6
           replace js8 := eq_true js8
           replace js9 := eq_true js9
           have ea_ := Option.some.inj (qD5.symm.trans jc7)
           injection ea_ with ea_ en_ ec_
           subst ea_
           subst ec_
           clear en_
           have jt0 : 0 ≤ (qf3 : Int) := of_decide_eq_true (by first | (with_reducible assumption) | assumption)
           have jt1 : qf3 < (((qD l0 jW).f3).length : Int) := of_decide_eq_true (by first | (with_reducible assumption) | assumption)
           obtain ⟨zU7, zD1, jc9, zj7, zj8⟩ := qr0 jc8.out qf3 jt0 jt1
           (try rw [← zC7.out] at jc9)
           cases zD1
           replace jt0 := eq_true jt0
           replace jt1 := eq_true jt1
           go_wp2
           go_roundg k2
           case measure => have := HK1.out; have := HK2.out; omega
           case rel => exact ⟨(zL), (wrap64 (qf3 + 1)), (by first | rfl | (simp; done) | (simp [*]; done)), (by first | rfl | (simp; done) | (simp [*]; done)), H', ⟨by have := HK1.out; have := HK2.out; omega⟩, by repeat (first | exact zW.refl _ | apply zW.step)⟩
         ·rw [if_neg c7] at H
          exact absurd H (by simp)
        ·rw [if_neg c6] at H
         have jh8 : decide (qf3 < (((qD l0 jW).f3).length : Int)) = false := decide_eq_false c6
         clear c6
         have H' := q8.mk H
         clear H
         have qU6 : 0 ≤ (jW : Int) := of_decide_eq_true (by first | (with_reducible assumption) | assumption)
         have qU7 : jW < (l0.length : Int) := of_decide_eq_true (by first | (with_reducible assumption) | assumption)
         obtain ⟨jh6, zd2, zd3, zd4, jI5, jI6, jI7, qD5, qu2, qu3⟩ := qa4 HR0.out jW qU6 qU7
         cases zd4
         have jI8 := q8.mk qu3
         have jI9 := q8.mk qu2
         clear qu3 qu2
         replace qU6 := eq_true qU6
         replace qU7 := eq_true qU7
         go_wp2
         go_roundg k2
         case measure => have := HK1.out; have := HK2.out; omega
         case rel => exact ⟨(zL), (wrap64 (jW + 1)), (by first | rfl | (simp; done) | (simp [*]; done)), (by first | rfl | (simp; done) | (simp [*]; done)), H', ⟨by have := HK1.out; have := HK2.out; omega⟩, by repeat (first | exact zW.refl _ | apply zW.step)⟩
       ·rw [if_neg c5] at H
        exact absurd H (by simp)
      ·rw [if_neg c4] at H
       exact absurd H (by simp)
   ·rw [if_neg c3] at H
    have jM8 : decide (jW < (l0.length : Int)) = false := decide_eq_false c3
    clear c3
    obtain rfl := Option.some.inj H
    go_wp2
    go_ret
    exact ⟨by first | rfl | (simp; done) | (simp [*]; done), by repeat (first | exact zW.refl _ | apply zW.step)⟩
end Go.Proofs.Ytngkneknopenmaa.K
end
