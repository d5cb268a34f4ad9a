/- qr3 of this claim, joined by a program of this session: the zS that its theorem uses. -/
import Derived.Test.YtngkneknopenmaaZT2
import Derived.Test.YtngkneknopenmaaZT5
import Derived.Test.YtngkneknopenmaaProg
import Derived.Below
import Derived.Deep.Draws
import Derived.Deep.AppendLies
import Derived.Maps.AppendAt
import Derived.OwnWalk
import Derived.Laws.BytesArg
import Derived.Laws.MakeOwn
import Derived.Laws.OwnMore
import Derived.Deep.OwnRows
import Derived.Tactics
import Derived.Lib.ConvBytes
import Derived.Laws.Slices
import Derived.WalkKit
import Derived.KernelRfl
import Derived.RowKit3
import Derived.Deep.LoopGhost
import Derived.Deep.QuietTactic
import Derived.BigQuiet
import Derived.WideLaws
import Derived.Deep.DeepCutAuto
import Derived.Deep.CutBlock
import Derived.Deep.RegionHeld3
import Derived.Laws.Rows
import Derived.Lib.AppendStr
import Derived.ArgAppend
import Derived.Laws.IdiomCopy
import Derived.OrdersHeld
import Derived.Laws.BitsLemmas
import Derived.RowKit
set_option linter.unusedVariables false
set_option linter.unusedSimpArgs false
section
namespace Go.Proofs.Ytngkneknopenmaa.K
open Go.Proofs.Ytngkneknopenmaa
open Go.RowKit Go.Proofs.YtngkneknopenmaaW.jH Go.Proofs.YtngkneknopenmaaW.qh6 Go.Proofs.YtngkneknopenmaaW.qk1
attribute [local go_sem] qq1 qq2 qv6 qv7 qm9 qn0 qq3 qq4   -- for this text's walks alone
set_option linter.unusedVariables false
set_option linter.unusedSimpArgs false
def errW : Option Int → Value
 | none => .nilIface
 | some c => .iface 0 (.int .i64 c)
theorem jI : errW none = .nilIface := rfl
theorem jJ (c : Int) : errW (some c) = .iface 0 (.int .i64 c) := rfl
theorem info3 : (Try.prog.info? 3).map (fun i => (i.zero, i.size, i.bytes)) = some (some (.int .i64 0), 1, 8) := by kernel_rfl
theorem qS2 : (Try.prog.info? 55).map (fun i => (i.zero, i.size, i.bytes)) = some (some (.agg #[(.int .i64 0), (.int .i64 0), (.int .i64 0), (.slice none 0 0)]), 4, 48) := by kernel_rfl
structure S51 where
 f0 : Bool
 f1 : Int
 f2 : Int
def z51 : S51 := ⟨false, (0 : Int), (0 : Int)⟩
def k51 : Kd S51 := Kd.iso (Kd.pair Kd.bool (Kd.pair (Kd.int .i64) (Kd.int .i64))) (fun x : S51 => (x.f0, x.f1, x.f2))
theorem zD7 : Kd.Heap k51 := Kd.jU5 _ (Kd.qF4 Kd.zq5 (Kd.qF4 (Kd.qN4 .i64) (Kd.qN4 .i64)))
theorem jU9 {w : World} {x : S51} {cs : List Value} (h : k51.K w x cs) : cs = [.bool x.f0, .int .i64 x.f1, .int .i64 x.f2] := by
 obtain ⟨_, _, rfl, rfl, ⟨_, _, rfl, rfl, rfl⟩⟩ := h
 exact rfl
theorem Qf3 (w : World) (x : S51)  : k51.K w x [.bool x.f0, .int .i64 x.f1, .int .i64 x.f2] := ⟨[.bool x.f0], [.int .i64 x.f1, .int .i64 x.f2], rfl, rfl, ⟨[.int .i64 x.f1], [.int .i64 x.f2], rfl, rfl, rfl⟩⟩
theorem zj2 (w : World) (base : Nat) (ok : Nat → Prop) (x : S51)  : k51.M w base ok x [.bool x.f0, .int .i64 x.f1, .int .i64 x.f2] := ⟨[.bool x.f0], [.int .i64 x.f1, .int .i64 x.f2], rfl, rfl, ⟨[.int .i64 x.f1], [.int .i64 x.f2], rfl, rfl, rfl⟩⟩
def qG (xs : List S51) (i : Int) : S51 := xs.getD i.toNat z51
theorem qr2 {w : World} {A : Option Addr} {n : Nat} {xs : List S51} (h : Kd.C k51 w A n xs) (i : Int) (h0 : 0 ≤ i) (h1 : i < n) : ∃ ad , A = some ad ∧ w.cell? (ad.add (i.toNat * 3)) = some (.bool (qG xs i).f0) ∧ w.cell? ⟨(ad.add (i.toNat * 3)).block, (ad.add (i.toNat * 3)).off + 1, none⟩ = some (.int .i64 (qG xs i).f1) ∧ w.cell? ⟨(ad.add (i.toNat * 3)).block, (ad.add (i.toNat * 3)).off + 2, none⟩ = some (.int .i64 (qG xs i).f2) := by
 obtain ⟨ad, c, e, _, hK, hc0⟩ := Kd.jU2 h z51 i h0 h1
 have hc : ∀ j u, c[j]? = some u → w.cell? (ad.add (i.toNat * 3 + j)) = some u := hc0
 obtain rfl := jU9 hK
 exact ⟨ad, e, hc 0 _ rfl, by rw [← zO _ _ 1 (by omega)]; exact hc 1 _ rfl, by rw [← zO _ _ 2 (by omega)]; exact hc 2 _ rfl⟩
structure S55 where
 f0 : Int
 f1 : Int
 f2 : Int
 f3 : (List S51)
def z55 : S55 := ⟨(0 : Int), (0 : Int), (0 : Int), ([] : List S51)⟩
def k55 : Kd S55 := Kd.iso (Kd.pair (Kd.int .i64) (Kd.pair (Kd.int .i64) (Kd.pair (Kd.int .i64) (Kd.slice 51 k51)))) (fun x : S55 => (x.f0, x.f1, x.f2, x.f3))
theorem jQ7 : Kd.Heap k55 := Kd.jU5 _ (Kd.qF4 (Kd.qN4 .i64) (Kd.qF4 (Kd.qN4 .i64) (Kd.qF4 (Kd.qN4 .i64) (Kd.zd6 51 zD7))))
theorem jb1 {w : World} {x : S55} {cs : List Value} (h : k55.K w x cs) : ∃ A3 c3, cs = [.int .i64 x.f0, .int .i64 x.f1, .int .i64 x.f2, .slice A3 x.f3.length c3] ∧ x.f3.length ≤ c3 ∧ k51.C w A3 x.f3.length x.f3 := by
 obtain ⟨_, _, rfl, rfl, ⟨_, _, rfl, rfl, ⟨_, _, rfl, rfl, ⟨A3, c3, rfl, l3, g3⟩⟩⟩⟩ := h
 exact ⟨A3, c3, rfl, l3, g3⟩
theorem zD8 (w : World) (x : S55) {A3 : Option Addr} {c3 : Nat} (l3 : x.f3.length ≤ c3) (g3 : k51.C w A3 x.f3.length x.f3) : k55.K w x [.int .i64 x.f0, .int .i64 x.f1, .int .i64 x.f2, .slice A3 x.f3.length c3] := ⟨[.int .i64 x.f0], [.int .i64 x.f1, .int .i64 x.f2, .slice A3 x.f3.length c3], rfl, rfl, ⟨[.int .i64 x.f1], [.int .i64 x.f2, .slice A3 x.f3.length c3], rfl, rfl, ⟨[.int .i64 x.f2], [.slice A3 x.f3.length c3], rfl, rfl, ⟨A3, c3, rfl, l3, g3⟩⟩⟩⟩
theorem qh7 {W : World} {ok : Nat → Prop} {x : S55} {cs : List Value} (h : Kd.FK k55 W ok x cs) : ∃ A3 c3, cs = [.int .i64 x.f0, .int .i64 x.f1, .int .i64 x.f2, .slice A3 x.f3.length c3] ∧ x.f3.length ≤ c3 ∧ Kd.F k51 W ok A3 x.f3.length x.f3 := by
 obtain ⟨A3, c3, rfl, l3, _⟩ := jb1 (Kd.qy1 h)
 exact ⟨A3, c3, rfl, l3, (fun W' hW => by obtain ⟨A3_, c3_, he, l3_, g3_⟩ := jb1 (h W' hW); injection (Option.some.inj (show some (Value.slice A3 x.f3.length c3) = some (Value.slice A3_ x.f3.length c3_) from congrArg (fun l => l[3]?) he)) with ha_ _ _; rw [ha_]; exact g3_)⟩
theorem zh4 (W : World) (ok : Nat → Prop) (x : S55) {A3 : Option Addr} {c3 : Nat} (l3 : x.f3.length ≤ c3) (g3 : Kd.F k51 W ok A3 x.f3.length x.f3) : Kd.FK k55 W ok x [.int .i64 x.f0, .int .i64 x.f1, .int .i64 x.f2, .slice A3 x.f3.length c3] := fun W2 hW => zD8 W2 x l3 (g3 W2 hW)
def qD (xs : List S55) (i : Int) : S55 := xs.getD i.toNat z55
theorem qa6 {w : World} {A : Option Addr} {n : Nat} {xs : List S55} (h : Kd.C k55 w A n xs) (i : Int) (h0 : 0 ≤ i) (h1 : i < n) : ∃ ad A3 c3, A = some ad ∧ w.cell? (ad.add (i.toNat * 4)) = some (.int .i64 (qD xs i).f0) ∧ w.cell? ⟨(ad.add (i.toNat * 4)).block, (ad.add (i.toNat * 4)).off + 1, none⟩ = some (.int .i64 (qD xs i).f1) ∧ w.cell? ⟨(ad.add (i.toNat * 4)).block, (ad.add (i.toNat * 4)).off + 2, none⟩ = some (.int .i64 (qD xs i).f2) ∧ w.cell? ⟨(ad.add (i.toNat * 4)).block, (ad.add (i.toNat * 4)).off + 3, none⟩ = some (.slice A3 (qD xs i).f3.length c3) ∧ (qD xs i).f3.length ≤ c3 ∧ k51.C w A3 (qD xs i).f3.length (qD xs i).f3 := by
 obtain ⟨ad, c, e, _, hK, hc0⟩ := Kd.jU2 h z55 i h0 h1
 have hc : ∀ j u, c[j]? = some u → w.cell? (ad.add (i.toNat * 4 + j)) = some u := hc0
 obtain ⟨A3, c3, rfl, l3, g3⟩ := jb1 hK
 exact ⟨ad, A3, c3, e, hc 0 _ rfl, by rw [← zO _ _ 1 (by omega)]; exact hc 1 _ rfl, by rw [← zO _ _ 2 (by omega)]; exact hc 2 _ rfl, by rw [← zO _ _ 3 (by omega)]; exact hc 3 _ rfl, l3, g3⟩
end Go.Proofs.Ytngkneknopenmaa.K
end
section
namespace Go.Proofs.Ytngkneknopenmaa.K
open Go.Proofs.Ytngkneknopenmaa
open Go.RowKit Go.Proofs.YtngkneknopenmaaW.jH Go.Proofs.YtngkneknopenmaaW.qh6 Go.Proofs.YtngkneknopenmaaW.qk1
attribute [local go_sem] qq1 qq2 qv6 qv7 qm9 qn0 qq3 qq4   -- for this text's walks alone
set_option linter.unusedVariables false
set_option linter.unusedSimpArgs false
theorem zz1 (d : Nat) (w : World) (x0 y0 : Bool) (x1 y1 : Int) (x2 y2 : Int) :
  (Op.equalIn (d + 2) 51 (.agg #[.bool x0, .int .i64 x1, .int .i64 x2]) (.agg #[.bool y0, .int .i64 y1, .int .i64 y2])).run Try.prog w = .ok (x0 == y0 && (x1 == y1 && (x2 == y2))) w := by
 refine Qf0 Try.underlying51 (by kernel_rfl) ?_
 refine jU6 (by rfl) (by go_simp; rfl) (by go_simp; rfl) (by go_simp) ?_
 refine jU6 (by rfl) (by go_simp; rfl) (by go_simp; rfl) (by go_simp) ?_
 exact zD5 (by rfl) (by go_simp; rfl) (by go_simp; rfl) (by go_simp)
end Go.Proofs.Ytngkneknopenmaa.K
end
section
namespace Go.Proofs.Ytngkneknopenmaa.K
open Go.Proofs.Ytngkneknopenmaa
open Go.RowKit Go.Proofs.YtngkneknopenmaaW.jH Go.Proofs.YtngkneknopenmaaW.qh6 Go.Proofs.YtngkneknopenmaaW.qk1
attribute [local go_sem] qq1 qq2 qv6 qv7 qm9 qn0 qq3 qq4   -- for this text's walks alone
set_option linter.unusedVariables false
set_option linter.unusedSimpArgs false
attribute [local go_sem high] zz1
def qx2.f (zB : Bool) (jT : Int) (jQ : Int) : Option (Bool) := if jT < 0 then (some false) else (if jT ≥ 64 then (some false) else (if jQ < 0 then (some false) else (if jQ > 2147483647 then (some false) else (if zB = true then (some (decide (jQ > 0))) else (some true)))))
set_option maxHeartbeats 8000000 in
set_option maxRecDepth 100000 in
theorem qx2.calls (zB : Bool) (jT : Int) (jQ : Int) (r : Bool) (w : World) (h : qx2.f zB jT jQ = some r) :
  Calls Try.prog 55 #[.agg #[.bool zB, .int .i64 jT, .int .i64 jQ]] w fun e w' => e = .returned (.bool r) ∧ Below w.heap.size w w' := by
 have zw0 := Try.underlying51
 have HB := q8.mk (Below.refl w.heap.size w)
 have H : (if jT < 0 then (some false) else (if jT ≥ 64 then (some false) else (if jQ < 0 then (some false) else (if jQ > 2147483647 then (some false) else (if zB = true then (some (decide (jQ > 0))) else (some true)))))) = some r := h
 clear h
 by_cases c2 : jT < 0
 ·rw [if_pos c2] at H
  have zd9 : decide (jT < 0) = true := decide_eq_true c2
  clear c2
  obtain rfl := Option.some.inj H
  go_enter Try.func55, Try.ntmps55
  go_wp2_with (first | ((with_reducible refine qa0 (N := 1) rfl ?_); refine qa7 ?hg (N := 1) ?hd (cs := #[.bool zB, .int .i64 jT, .int .i64 jQ]) (t := 51) ?hr ?_; (case hd => rfl); (case hg => rfl); (case hr => first | (go_simp; done) | (go_simp; rfl)); intro qf9 hg w3 qb5 hb; have n0_ := q8.mk (jM (by repeat (first | (with_reducible first | exact HB.out | apply qA | apply q9 | apply qB) | exact HB.out)) hb); have n1_ := q8.mk (qb5); have n2_ := q8.mk ((by rw [hg]; exact (qM (by repeat (first | (with_reducible first | exact HB.out | apply qA | apply q9 | apply qB) | exact HB.out))) : w.heap.size ≤ qf9)); have n3_ := q8.mk ((by rw [hg]; exact (qM (by repeat (first | (with_reducible first | exact HB.out | apply qA | apply q9 | apply qB) | exact HB.out))) : w.heap.size ≤ qf9)); clear HB; have HB := n0_; have qe5 := n1_; have jV0 := n2_; have qN7 := n3_; clear n0_ n1_ n2_ n3_; clear hb qb5 hg; have Qf4 : w3.cell? ⟨qf9, 0, none⟩ = some (.bool zB) := (qE qe5.out 0).trans rfl; have Qf5 : w3.cell? ⟨qf9, 1, none⟩ = some (.int .i64 jT) := (qE qe5.out 1).trans rfl; have Qf6 : w3.cell? ⟨qf9, 2, none⟩ = some (.int .i64 jQ) := (qE qe5.out 2).trans rfl; have Qf7 := qC qe5.out 0; have Qf8 := qC qe5.out 1; have Qf9 := qC qe5.out 2))
  go_ret
  exact ⟨by first | rfl | (simp [jI, jJ] <;> rfl) | (simp [*, jI, jJ] <;> rfl), by repeat (first | (with_reducible first | exact HB.out | apply qA | apply q9 | apply qB | refine qK ?_ qN7.out) | exact HB.out)⟩
 ·rw [if_neg c2] at H
  have zd9 : decide (jT < 0) = false := decide_eq_false c2
  clear c2
  by_cases c5 : jT ≥ 64
  ·rw [if_pos c5] at H
   have jE1 : decide (64 ≤ jT) = true := decide_eq_true c5
   clear c5
   obtain rfl := Option.some.inj H
   go_enter Try.func55, Try.ntmps55
   go_wp2_with (first | ((with_reducible refine qa0 (N := 1) rfl ?_); refine qa7 ?hg (N := 1) ?hd (cs := #[.bool zB, .int .i64 jT, .int .i64 jQ]) (t := 51) ?hr ?_; (case hd => rfl); (case hg => rfl); (case hr => first | (go_simp; done) | (go_simp; rfl)); intro qf9 hg w6 qb5 hb; have n0_ := q8.mk (jM (by repeat (first | (with_reducible first | exact HB.out | apply qA | apply q9 | apply qB) | exact HB.out)) hb); have n1_ := q8.mk (qb5); have n2_ := q8.mk ((by rw [hg]; exact (qM (by repeat (first | (with_reducible first | exact HB.out | apply qA | apply q9 | apply qB) | exact HB.out))) : w.heap.size ≤ qf9)); have n3_ := q8.mk ((by rw [hg]; exact (qM (by repeat (first | (with_reducible first | exact HB.out | apply qA | apply q9 | apply qB) | exact HB.out))) : w.heap.size ≤ qf9)); clear HB; have HB := n0_; have qe5 := n1_; have jV0 := n2_; have qN7 := n3_; clear n0_ n1_ n2_ n3_; clear hb qb5 hg; have qU3 : w6.cell? ⟨qf9, 0, none⟩ = some (.bool zB) := (qE qe5.out 0).trans rfl; have qU4 : w6.cell? ⟨qf9, 1, none⟩ = some (.int .i64 jT) := (qE qe5.out 1).trans rfl; have qU5 : w6.cell? ⟨qf9, 2, none⟩ = some (.int .i64 jQ) := (qE qe5.out 2).trans rfl; have qU6 := qC qe5.out 0; have qU7 := qC qe5.out 1; have qU8 := qC qe5.out 2))
   go_ret
   exact ⟨by first | rfl | (simp [jI, jJ] <;> rfl) | (simp [*, jI, jJ] <;> rfl), by repeat (first | (with_reducible first | exact HB.out | apply qA | apply q9 | apply qB | refine qK ?_ qN7.out) | exact HB.out)⟩
  ·rw [if_neg c5] at H
   have jE1 : decide (64 ≤ jT) = false := decide_eq_false c5
   clear c5
   by_cases c8 : jQ < 0
   ·rw [if_pos c8] at H
    have qS3 : decide (jQ < 0) = true := decide_eq_true c8
    clear c8
    obtain rfl := Option.some.inj H
    go_enter Try.func55, Try.ntmps55
    go_wp2_with (first | ((with_reducible refine qa0 (N := 1) rfl ?_); refine qa7 ?hg (N := 1) ?hd (cs := #[.bool zB, .int .i64 jT, .int .i64 jQ]) (t := 51) ?hr ?_; (case hd => rfl); (case hg => rfl); (case hr => first | (go_simp; done) | (go_simp; rfl)); intro qf9 hg w9 qb5 hb; have n0_ := q8.mk (jM (by repeat (first | (with_reducible first | exact HB.out | apply qA | apply q9 | apply qB) | exact HB.out)) hb); have n1_ := q8.mk (qb5); have n2_ := q8.mk ((by rw [hg]; exact (qM (by repeat (first | (with_reducible first | exact HB.out | apply qA | apply q9 | apply qB) | exact HB.out))) : w.heap.size ≤ qf9)); have n3_ := q8.mk ((by rw [hg]; exact (qM (by repeat (first | (with_reducible first | exact HB.out | apply qA | apply q9 | apply qB) | exact HB.out))) : w.heap.size ≤ qf9)); clear HB; have HB := n0_; have qe5 := n1_; have jV0 := n2_; have qN7 := n3_; clear n0_ n1_ n2_ n3_; clear hb qb5 hg; have zO7 : w9.cell? ⟨qf9, 0, none⟩ = some (.bool zB) := (qE qe5.out 0).trans rfl; have zO8 : w9.cell? ⟨qf9, 1, none⟩ = some (.int .i64 jT) := (qE qe5.out 1).trans rfl; have zO9 : w9.cell? ⟨qf9, 2, none⟩ = some (.int .i64 jQ) := (qE qe5.out 2).trans rfl; have zP0 := qC qe5.out 0; have zP1 := qC qe5.out 1; have zP2 := qC qe5.out 2))
    go_ret
    exact ⟨by first | rfl | (simp [jI, jJ] <;> rfl) | (simp [*, jI, jJ] <;> rfl), by repeat (first | (with_reducible first | exact HB.out | apply qA | apply q9 | apply qB | refine qK ?_ qN7.out) | exact HB.out)⟩
   ·rw [if_neg c8] at H
    have qS3 : decide (jQ < 0) = false := decide_eq_false c8
    clear c8
    by_cases c11 : jQ > 2147483647
    ·rw [if_pos c11] at H
     have jy5 : decide (2147483647 < jQ) = true := decide_eq_true c11
     clear c11
     obtain rfl := Option.some.inj H
     go_enter Try.func55, Try.ntmps55
     go_wp2_with (first | ((with_reducible refine qa0 (N := 1) rfl ?_); refine qa7 ?hg (N := 1) ?hd (cs := #[.bool zB, .int .i64 jT, .int .i64 jQ]) (t := 51) ?hr ?_; (case hd => rfl); (case hg => rfl); (case hr => first | (go_simp; done) | (go_simp; rfl)); intro qf9 hg w12 qb5 hb; have n0_ := q8.mk (jM (by repeat (first | (with_reducible first | exact HB.out | apply qA | apply q9 | apply qB) | exact HB.out)) hb); have n1_ := q8.mk (qb5); have n2_ := q8.mk ((by rw [hg]; exact (qM (by repeat (first | (with_reducible first | exact HB.out | apply qA | apply q9 | apply qB) | exact HB.out))) : w.heap.size ≤ qf9)); have n3_ := q8.mk ((by rw [hg]; exact (qM (by repeat (first | (with_reducible first | exact HB.out | apply qA | apply q9 | apply qB) | exact HB.out))) : w.heap.size ≤ qf9)); clear HB; have HB := n0_; have qe5 := n1_; have jV0 := n2_; have qN7 := n3_; clear n0_ n1_ n2_ n3_; clear hb qb5 hg; have qI6 : w12.cell? ⟨qf9, 0, none⟩ = some (.bool zB) := (qE qe5.out 0).trans rfl; have qI7 : w12.cell? ⟨qf9, 1, none⟩ = some (.int .i64 jT) := (qE qe5.out 1).trans rfl; have qI8 : w12.cell? ⟨qf9, 2, none⟩ = some (.int .i64 jQ) := (qE qe5.out 2).trans rfl; have qI9 := qC qe5.out 0; have qJ0 := qC qe5.out 1; have qJ1 := qC qe5.out 2))
     go_ret
     exact ⟨by first | rfl | (simp [jI, jJ] <;> rfl) | (simp [*, jI, jJ] <;> rfl), by repeat (first | (with_reducible first | exact HB.out | apply qA | apply q9 | apply qB | refine qK ?_ qN7.out) | exact HB.out)⟩
    ·rw [if_neg c11] at H
     have jy5 : decide (2147483647 < jQ) = false := decide_eq_false c11
     clear c11
     by_cases c14 : zB = true
     ·subst c14
      have H1 : (some (decide (jQ > 0))) = some r := by rw [if_pos rfl] at H; exact H
      clear H
      have H := H1
      clear H1
      obtain rfl := Option.some.inj H
      go_enter Try.func55, Try.ntmps55
      go_wp2_with (first | ((with_reducible refine qa0 (N := 1) rfl ?_); refine qa7 ?hg (N := 1) ?hd (cs := #[.bool true, .int .i64 jT, .int .i64 jQ]) (t := 51) ?hr ?_; (case hd => rfl); (case hg => rfl); (case hr => first | (go_simp; done) | (go_simp; rfl)); intro qf9 hg w15 qb5 hb; have n0_ := q8.mk (jM (by repeat (first | (with_reducible first | exact HB.out | apply qA | apply q9 | apply qB) | exact HB.out)) hb); have n1_ := q8.mk (qb5); have n2_ := q8.mk ((by rw [hg]; exact (qM (by repeat (first | (with_reducible first | exact HB.out | apply qA | apply q9 | apply qB) | exact HB.out))) : w.heap.size ≤ qf9)); have n3_ := q8.mk ((by rw [hg]; exact (qM (by repeat (first | (with_reducible first | exact HB.out | apply qA | apply q9 | apply qB) | exact HB.out))) : w.heap.size ≤ qf9)); clear HB; have HB := n0_; have qe5 := n1_; have jV0 := n2_; have qN7 := n3_; clear n0_ n1_ n2_ n3_; clear hb qb5 hg; have qD2 : w15.cell? ⟨qf9, 0, none⟩ = some (.bool true) := (qE qe5.out 0).trans rfl; have qD3 : w15.cell? ⟨qf9, 1, none⟩ = some (.int .i64 jT) := (qE qe5.out 1).trans rfl; have qD4 : w15.cell? ⟨qf9, 2, none⟩ = some (.int .i64 jQ) := (qE qe5.out 2).trans rfl; have qD5 := qC qe5.out 0; have qD6 := qC qe5.out 1; have qD7 := qC qe5.out 2))
      go_ret
      exact ⟨by first | rfl | (simp [jI, jJ] <;> rfl) | (simp [*, jI, jJ] <;> rfl), by repeat (first | (with_reducible first | exact HB.out | apply qA | apply q9 | apply qB | refine qK ?_ qN7.out) | exact HB.out)⟩
     ·replace c14 := Bool.eq_false_iff.mpr c14
      subst c14
      have H1 : (some true) = some r := by rw [if_neg (show ¬ (false = true) by decide)] at H; exact H
      clear H
      have H := H1
      clear H1
      obtain rfl := Option.some.inj H
      go_enter Try.func55, Try.ntmps55
      go_wp2_with (first | ((with_reducible refine qa0 (N := 1) rfl ?_); refine qa7 ?hg (N := 1) ?hd (cs := #[.bool false, .int .i64 jT, .int .i64 jQ]) (t := 51) ?hr ?_; (case hd => rfl); (case hg => rfl); (case hr => first | (go_simp; done) | (go_simp; rfl)); intro qf9 hg w17 qb5 hb; have n0_ := q8.mk (jM (by repeat (first | (with_reducible first | exact HB.out | apply qA | apply q9 | apply qB) | exact HB.out)) hb); have n1_ := q8.mk (qb5); have n2_ := q8.mk ((by rw [hg]; exact (qM (by repeat (first | (with_reducible first | exact HB.out | apply qA | apply q9 | apply qB) | exact HB.out))) : w.heap.size ≤ qf9)); have n3_ := q8.mk ((by rw [hg]; exact (qM (by repeat (first | (with_reducible first | exact HB.out | apply qA | apply q9 | apply qB) | exact HB.out))) : w.heap.size ≤ qf9)); clear HB; have HB := n0_; have qe5 := n1_; have jV0 := n2_; have qN7 := n3_; clear n0_ n1_ n2_ n3_; clear hb qb5 hg; have jl6 : w17.cell? ⟨qf9, 0, none⟩ = some (.bool false) := (qE qe5.out 0).trans rfl; have jl7 : w17.cell? ⟨qf9, 1, none⟩ = some (.int .i64 jT) := (qE qe5.out 1).trans rfl; have jl8 : w17.cell? ⟨qf9, 2, none⟩ = some (.int .i64 jQ) := (qE qe5.out 2).trans rfl; have jl9 := qC qe5.out 0; have jm0 := qC qe5.out 1; have jm1 := qC qe5.out 2))
      go_ret
      exact ⟨by first | rfl | (simp [jI, jJ] <;> rfl) | (simp [*, jI, jJ] <;> rfl), by repeat (first | (with_reducible first | exact HB.out | apply qA | apply q9 | apply qB | refine qK ?_ qN7.out) | exact HB.out)⟩
end Go.Proofs.Ytngkneknopenmaa.K
end
section
namespace Go.Proofs.Ytngkneknopenmaa.K
open Go.Proofs.Ytngkneknopenmaa
open Go.RowKit Go.Proofs.YtngkneknopenmaaW.jH Go.Proofs.YtngkneknopenmaaW.qh6 Go.Proofs.YtngkneknopenmaaW.qk1
attribute [local go_sem] qq1 qq2 qv6 qv7 qm9 qn0 qq3 qq4   -- for this text's walks alone
set_option linter.unusedVariables false
set_option linter.unusedSimpArgs false
mutual
def jX.j0 : Nat → Bool → Int → Int → Int → List (S51) → Option (Bool)
 | 0, _, _, _, _, _ => none
 | k + 1, x41, x233000, x233001, x233002, x233003 => if x41 = true then (some false) else (jX.l0 k x233003 (x233003.length : Int) 0)
def jX.l0 : Nat → List (S51) → Int → Int → Option (Bool)
 | 0, _, _, _ => none
 | k + 1, x43, x44, x45 => if x45 < x44 then (if 0 ≤ x45 then (if x45 < (x43.length : Int) then ((qx2.f ((qG x43 x45).f0) ((qG x43 x45).f1) ((qG x43 x45).f2)).bind fun t235 => (if t235 = true then (jX.l0 k x43 x44 (wrap64 (x45 + 1))) else (some false))) else (none)) else (none)) else (some true)
end
def jX.f (k : Nat) (zB : Int) (jT : Int) (jQ : Int) (jN : List (S51)) : Option (Bool) := if zB < 0 then (jX.j0 k true zB jT jQ jN) else (if zB ≥ 64 then (jX.j0 k true zB jT jQ jN) else (if jT < 0 then (jX.j0 k true zB jT jQ jN) else (if jT ≥ jQ then (jX.j0 k true zB jT jQ jN) else (if jQ > 2147483647 then (jX.j0 k true zB jT jQ jN) else (if (jN.length : Int) < 1 then (jX.j0 k true zB jT jQ jN) else (jX.j0 k (decide ((jN.length : Int) > 64)) zB jT jQ jN))))))
set_option maxHeartbeats 8000000 in
set_option maxRecDepth 100000 in
theorem jX.calls (k : Nat) (zB : Int) (jT : Int) (jQ : Int) (qu0 : Option Addr) (ql8 : Nat) (jN : List (S51)) (r : Bool) (w : World) (jV1 : Kd.C k51 w qu0 jN.length jN) (jV2 : jN.length ≤ ql8) (h : jX.f k zB jT jQ jN = some r) :
  Calls Try.prog 29 #[.agg #[.int .i64 zB, .int .i64 jT, .int .i64 jQ, .slice qu0 jN.length ql8]] w fun e w' => e = .returned (.bool r) ∧ Below w.heap.size w w' := by
 have zG2 := Try.underlying55
 have zw0 := Try.underlying51
 have jV3 := q8.mk jV1
 have Qp4 := q8.mk jV2
 clear jV1 jV2
 have HB := q8.mk (Below.refl w.heap.size w)
 have H : (if zB < 0 then (jX.j0 k true zB jT jQ jN) else (if zB ≥ 64 then (jX.j0 k true zB jT jQ jN) else (if jT < 0 then (jX.j0 k true zB jT jQ jN) else (if jT ≥ jQ then (jX.j0 k true zB jT jQ jN) else (if jQ > 2147483647 then (jX.j0 k true zB jT jQ jN) else (if (jN.length : Int) < 1 then (jX.j0 k true zB jT jQ jN) else (jX.j0 k (decide ((jN.length : Int) > 64)) zB jT jQ jN))))))) = some r := h
 clear h
 have HC2 := q8.mk H
 clear H
 go_enter Try.func29, Try.ntmps29
 go_upto_region 1 with (first | ((with_reducible refine qa0 (N := 1) rfl ?_); (try (refine qI5 (by rfl) ?_; dsimp only)); refine qa7 ?hg (N := 1) ?hd (cs := #[.int .i64 zB, .int .i64 jT, .int .i64 jQ, .slice qu0 jN.length ql8]) (t := 55) ?hr ?_; (case hd => rfl); (case hg => rfl); (case hr => first | (go_simp; done) | (go_simp; rfl)); intro qb9 hg w3 qb5 hb; have n0_ := q8.mk (jM (by repeat (first | (with_reducible first | exact HB.out | apply qA | apply q9 | apply qB) | exact HB.out)) hb); have n1_ := q8.mk (qb5); have n2_ := q8.mk ((by rw [hg]; exact (qM (by repeat (first | (with_reducible first | exact HB.out | apply qA | apply q9 | apply qB) | exact HB.out))) : w.heap.size ≤ qb9)); have n3_ := q8.mk ((by rw [hg]; exact (qM (by repeat (first | (with_reducible first | exact HB.out | apply qA | apply q9 | apply qB) | exact HB.out))) : w.heap.size ≤ qb9)); clear HB; have HB := n0_; have jY := n1_; have GW232 := n2_; have qr7 := n3_; clear n0_ n1_ n2_ n3_; clear hb qb5 hg))
 (try simp only [Act.put, List.setIfInBounds_toArray, List.set_cons_zero, List.set_cons_succ])
 go_cut [41] (fun v41 wc => ∃ (kq : Nat) (zk5 : Bool), v41 = .bool zk5 ∧ q8 (jX.j0 kq zk5 zB jT jQ jN = some r) ∧ q8 (kq ≤ k) ∧ q8 (wc.heap[qb9]? = some (.cells #[.int .i64 zB, .int .i64 jT, .int .i64 jQ, (.slice qu0 jN.length ql8)] 55 (0, 0))) ∧ q8 (Below w.heap.size w wc))
 case first =>
  have H := HC2.out
  clear HC2
  by_cases c4 : zB < 0
  ·rw [if_pos c4] at H
   have qB4 : decide (zB < 0) = true := decide_eq_true c4
   clear c4
   (first | rw [qB4] | (simp only [qa1, qa3]; rw [qB4]) | skip)
   have H' := q8.mk H
   clear H
   have js4 : w3.cell? ⟨qb9, 0, none⟩ = some (.int .i64 zB) := (qE jY.out 0).trans rfl
   have js5 : w3.cell? ⟨qb9, 1, none⟩ = some (.int .i64 jT) := (qE jY.out 1).trans rfl
   have js6 : w3.cell? ⟨qb9, 2, none⟩ = some (.int .i64 jQ) := (qE jY.out 2).trans rfl
   have js7 : w3.cell? ⟨qb9, 3, none⟩ = some (.slice qu0 jN.length ql8) := (qE jY.out 3).trans rfl
   have js8 := qC jY.out 0
   have js9 := qC jY.out 1
   have jt0 := qC jY.out 2
   have jt1 := qC jY.out 3
   go_wp2
   go_meet
   case rel => exact ⟨_, (true), (by first | rfl | (simp; done) | (simp [*]; done)), H', ⟨by first | omega | exact Nat.le_refl _⟩, ⟨by (with_reducible repeat (first | refine qI ?_ _ | refine qR ?_ | refine qJ ?_ _)); exact jY.out⟩, ⟨by repeat (first | (with_reducible first | exact HB.out | apply qA | apply q9 | apply qB | refine qK ?_ qr7.out) | exact HB.out)⟩⟩
  ·rw [if_neg c4] at H
   have qB4 : decide (zB < 0) = false := decide_eq_false c4
   clear c4
   (first | rw [qB4] | (simp only [qa1, qa3]; rw [qB4]) | skip)
   by_cases c6 : zB ≥ 64
   ·rw [if_pos c6] at H
    have ji8 : decide (64 ≤ zB) = true := decide_eq_true c6
    clear c6
    have H' := q8.mk H
    clear H
    have qU3 : w3.cell? ⟨qb9, 0, none⟩ = some (.int .i64 zB) := (qE jY.out 0).trans rfl
    have qU4 : w3.cell? ⟨qb9, 1, none⟩ = some (.int .i64 jT) := (qE jY.out 1).trans rfl
    have qU5 : w3.cell? ⟨qb9, 2, none⟩ = some (.int .i64 jQ) := (qE jY.out 2).trans rfl
    have jt2 : w3.cell? ⟨qb9, 3, none⟩ = some (.slice qu0 jN.length ql8) := (qE jY.out 3).trans rfl
    have qU6 := qC jY.out 0
    have qU7 := qC jY.out 1
    have qU8 := qC jY.out 2
    have jt3 := qC jY.out 3
    go_wp2
    go_meet
    case rel => exact ⟨_, (true), (by first | rfl | (simp; done) | (simp [*]; done)), H', ⟨by first | omega | exact Nat.le_refl _⟩, ⟨by (with_reducible repeat (first | refine qI ?_ _ | refine qR ?_ | refine qJ ?_ _)); exact jY.out⟩, ⟨by repeat (first | (with_reducible first | exact HB.out | apply qA | apply q9 | apply qB | refine qK ?_ qr7.out) | exact HB.out)⟩⟩
   ·rw [if_neg c6] at H
    have ji8 : decide (64 ≤ zB) = false := decide_eq_false c6
    clear c6
    by_cases c8 : jT < 0
    ·rw [if_pos c8] at H
     have qS3 : decide (jT < 0) = true := decide_eq_true c8
     clear c8
     have H' := q8.mk H
     clear H
     have jt4 : w3.cell? ⟨qb9, 0, none⟩ = some (.int .i64 zB) := (qE jY.out 0).trans rfl
     have jt5 : w3.cell? ⟨qb9, 1, none⟩ = some (.int .i64 jT) := (qE jY.out 1).trans rfl
     have jt6 : w3.cell? ⟨qb9, 2, none⟩ = some (.int .i64 jQ) := (qE jY.out 2).trans rfl
     have jt7 : w3.cell? ⟨qb9, 3, none⟩ = some (.slice qu0 jN.length ql8) := (qE jY.out 3).trans rfl
     have jt8 := qC jY.out 0
     have jt9 := qC jY.out 1
     have ju0 := qC jY.out 2
     have ju1 := qC jY.out 3
     go_wp2
     go_meet
     case rel => exact ⟨_, (true), (by first | rfl | (simp; done) | (simp [*]; done)), H', ⟨by first | omega | exact Nat.le_refl _⟩, ⟨by (with_reducible repeat (first | refine qI ?_ _ | refine qR ?_ | refine qJ ?_ _)); exact jY.out⟩, ⟨by repeat (first | (with_reducible first | exact HB.out | apply qA | apply q9 | apply qB | refine qK ?_ qr7.out) | exact HB.out)⟩⟩
    ·rw [if_neg c8] at H
     have qS3 : decide (jT < 0) = false := decide_eq_false c8
     clear c8
     by_cases c10 : jT ≥ jQ
     ·rw [if_pos c10] at H
      have qL9 : decide (jQ ≤ jT) = true := decide_eq_true c10
      clear c10
      have H' := q8.mk H
      clear H
      have jb2 : w3.cell? ⟨qb9, 0, none⟩ = some (.int .i64 zB) := (qE jY.out 0).trans rfl
      have jb3 : w3.cell? ⟨qb9, 1, none⟩ = some (.int .i64 jT) := (qE jY.out 1).trans rfl
      have jb4 : w3.cell? ⟨qb9, 2, none⟩ = some (.int .i64 jQ) := (qE jY.out 2).trans rfl
      have jb5 : w3.cell? ⟨qb9, 3, none⟩ = some (.slice qu0 jN.length ql8) := (qE jY.out 3).trans rfl
      have jb6 := qC jY.out 0
      have jb7 := qC jY.out 1
      have jb8 := qC jY.out 2
      have jb9 := qC jY.out 3
      go_wp2
      go_meet
      case rel => exact ⟨_, (true), (by first | rfl | (simp; done) | (simp [*]; done)), H', ⟨by first | omega | exact Nat.le_refl _⟩, ⟨by (with_reducible repeat (first | refine qI ?_ _ | refine qR ?_ | refine qJ ?_ _)); exact jY.out⟩, ⟨by repeat (first | (with_reducible first | exact HB.out | apply qA | apply q9 | apply qB | refine qK ?_ qr7.out) | exact HB.out)⟩⟩
     ·rw [if_neg c10] at H
      have qL9 : decide (jQ ≤ jT) = false := decide_eq_false c10
      clear c10
      by_cases c12 : jQ > 2147483647
      ·rw [if_pos c12] at H
       have qE7 : decide (2147483647 < jQ) = true := decide_eq_true c12
       clear c12
       have H' := q8.mk H
       clear H
       have qI6 : w3.cell? ⟨qb9, 0, none⟩ = some (.int .i64 zB) := (qE jY.out 0).trans rfl
       have qI7 : w3.cell? ⟨qb9, 1, none⟩ = some (.int .i64 jT) := (qE jY.out 1).trans rfl
       have qI8 : w3.cell? ⟨qb9, 2, none⟩ = some (.int .i64 jQ) := (qE jY.out 2).trans rfl
       have jc0 : w3.cell? ⟨qb9, 3, none⟩ = some (.slice qu0 jN.length ql8) := (qE jY.out 3).trans rfl
       have qI9 := qC jY.out 0
       have qJ0 := qC jY.out 1
       have qJ1 := qC jY.out 2
       have jc1 := qC jY.out 3
       go_wp2
       go_meet
       case rel => exact ⟨_, (true), (by first | rfl | (simp; done) | (simp [*]; done)), H', ⟨by first | omega | exact Nat.le_refl _⟩, ⟨by (with_reducible repeat (first | refine qI ?_ _ | refine qR ?_ | refine qJ ?_ _)); exact jY.out⟩, ⟨by repeat (first | (with_reducible first | exact HB.out | apply qA | apply q9 | apply qB | refine qK ?_ qr7.out) | exact HB.out)⟩⟩
      ·rw [if_neg c12] at H
       have qE7 : decide (2147483647 < jQ) = false := decide_eq_false c12
       clear c12
       by_cases c14 : (jN.length : Int) < 1
       ·rw [if_pos c14] at H
        have qW4 : decide ((jN.length : Int) < 1) = true := decide_eq_true c14
        have ju2 : decide (jN.length < 1) = true := decide_eq_true (by omega)
        clear c14
        have H' := q8.mk H
        clear H
        have jc2 : w3.cell? ⟨qb9, 0, none⟩ = some (.int .i64 zB) := (qE jY.out 0).trans rfl
        have jc3 : w3.cell? ⟨qb9, 1, none⟩ = some (.int .i64 jT) := (qE jY.out 1).trans rfl
        have jc4 : w3.cell? ⟨qb9, 2, none⟩ = some (.int .i64 jQ) := (qE jY.out 2).trans rfl
        have jc5 : w3.cell? ⟨qb9, 3, none⟩ = some (.slice qu0 jN.length ql8) := (qE jY.out 3).trans rfl
        have jc6 := qC jY.out 0
        have jc7 := qC jY.out 1
        have jc8 := qC jY.out 2
        have jc9 := qC jY.out 3
        go_wp2
        go_meet
        case rel => exact ⟨_, (true), (by first | rfl | (simp; done) | (simp [*]; done)), H', ⟨by first | omega | exact Nat.le_refl _⟩, ⟨by (with_reducible repeat (first | refine qI ?_ _ | refine qR ?_ | refine qJ ?_ _)); exact jY.out⟩, ⟨by repeat (first | (with_reducible first | exact HB.out | apply qA | apply q9 | apply qB | refine qK ?_ qr7.out) | exact HB.out)⟩⟩
       ·rw [if_neg c14] at H
        have qW4 : decide ((jN.length : Int) < 1) = false := decide_eq_false c14
        have ju2 : decide (jN.length < 1) = false := decide_eq_false (by omega)
        clear c14
        have H' := q8.mk H
        clear H
        have qD2 : w3.cell? ⟨qb9, 0, none⟩ = some (.int .i64 zB) := (qE jY.out 0).trans rfl
        have qD3 : w3.cell? ⟨qb9, 1, none⟩ = some (.int .i64 jT) := (qE jY.out 1).trans rfl
        have qD4 : w3.cell? ⟨qb9, 2, none⟩ = some (.int .i64 jQ) := (qE jY.out 2).trans rfl
        have jd0 : w3.cell? ⟨qb9, 3, none⟩ = some (.slice qu0 jN.length ql8) := (qE jY.out 3).trans rfl
        have qD5 := qC jY.out 0
        have qD6 := qC jY.out 1
        have qD7 := qC jY.out 2
        have jd1 := qC jY.out 3
        go_wp2
        go_meet
        case rel => exact ⟨_, (decide ((jN.length : Int) > 64)), (by first | rfl | (simp; done) | (simp [*]; done)), H', ⟨by first | omega | exact Nat.le_refl _⟩, ⟨by (with_reducible repeat (first | refine qI ?_ _ | refine qR ?_ | refine qJ ?_ _)); exact jY.out⟩, ⟨by repeat (first | (with_reducible first | exact HB.out | apply qA | apply q9 | apply qB | refine qK ?_ qr7.out) | exact HB.out)⟩⟩
 case rest =>
  clear HC2
  try clear c1
  try clear c2
  try clear p2
  try clear c4
  try clear qB4
  try clear c6
  try clear ji8
  try clear c8
  try clear qS3
  try clear c10
  try clear qL9
  try clear c12
  try clear qE7
  try clear c14
  try clear qW4
  try clear ju2
  try clear jb2
  try clear jb3
  try clear jb4
  try clear jb5
  try clear qI6
  try clear qI7
  try clear qI8
  try clear jc0
  try clear jc2
  try clear jc3
  try clear jc4
  try clear jc5
  try clear qD2
  try clear qD3
  try clear qD4
  try clear jd0
  try clear js4
  try clear js5
  try clear js6
  try clear js7
  try clear qU3
  try clear qU4
  try clear qU5
  try clear jt2
  try clear jt4
  try clear jt5
  try clear jt6
  try clear jt7
  try clear jb6
  try clear jb7
  try clear jb8
  try clear jb9
  try clear qI9
  try clear qJ0
  try clear qJ1
  try clear jc1
  try clear jc6
  try clear jc7
  try clear jc8
  try clear jc9
  try clear qD5
  try clear qD6
  try clear qD7
  try clear jd1
  try clear js8
  try clear js9
  try clear jt0
  try clear jt1
  try clear qU6
  try clear qU7
  try clear qU8
  try clear jt3
  try clear jt8
  try clear jt9
  try clear ju0
  try clear ju1
  obtain ⟨kq, zk5, rfl, HA, HJ1, jY, HB⟩ := hcut
  cases kq with
  | zero => exact absurd HA.out (by simp [jX.j0])
  | succ kj1 =>
   have H := HA.out
   clear HA
   simp only [jX.j0] at H
   by_cases c17 : zk5 = true
   ·subst c17
    have H1 : (some false) = some r := by rw [if_pos rfl] at H; exact H
    clear H
    have H := H1
    clear H1
    obtain rfl := Option.some.inj H
    go_wp2
    go_ret
    exact ⟨by first | rfl | (simp [jI, jJ] <;> rfl) | (simp [*, jI, jJ] <;> rfl), by repeat (first | (with_reducible first | exact HB.out | apply qA | apply q9 | apply qB | refine qK ?_ qr7.out) | exact HB.out)⟩
   ·replace c17 := Bool.eq_false_iff.mpr c17
    subst c17
    have H1 : (jX.l0 kj1 jN (jN.length : Int) 0) = some r := by rw [if_neg (show ¬ (false = true) by decide)] at H; exact H
    clear H
    have H := H1
    clear H1
    have H' := q8.mk H
    clear H
    have jl6 : wc.cell? ⟨qb9, 0, none⟩ = some (.int .i64 zB) := (qE jY.out 0).trans rfl
    have jl7 : wc.cell? ⟨qb9, 1, none⟩ = some (.int .i64 jT) := (qE jY.out 1).trans rfl
    have jl8 : wc.cell? ⟨qb9, 2, none⟩ = some (.int .i64 jQ) := (qE jY.out 2).trans rfl
    have zP3 : wc.cell? ⟨qb9, 3, none⟩ = some (.slice qu0 jN.length ql8) := (qE jY.out 3).trans rfl
    have jl9 := qC jY.out 0
    have jm0 := qC jY.out 1
    have jm1 := qC jY.out 2
    have zP4 := qC jY.out 3
    go_wp2
    go_loopg [45] kj1 (fun kq v45 w' => ∃ (qd8 : Int), v45 = .int .i64 qd8 ∧ q8 (jX.l0 kq jN (jN.length : Int) qd8 = some r) ∧ q8 (kq ≤ kj1) ∧ q8 (w'.heap[qb9]? = some (.cells #[.int .i64 zB, .int .i64 jT, .int .i64 jQ, (.slice qu0 jN.length ql8)] 55 (0, 0))) ∧ q8 (Below w.heap.size w w'))
    case atStart => exact ⟨(0), (by first | rfl | (simp; done) | (simp [*]; done)), H', ⟨Nat.le_refl _⟩, ⟨by (with_reducible repeat (first | refine qI ?_ _ | refine qR ?_ | refine qJ ?_ _)); exact jY.out⟩, ⟨by repeat (first | (with_reducible first | exact HB.out | apply qA | apply q9 | apply qB | refine qK ?_ qr7.out) | exact HB.out)⟩⟩
    case round =>
     clear H'
     try clear c1
     try clear c2
     try clear p2
     try clear c4
     try clear qB4
     try clear c6
     try clear ji8
     try clear c8
     try clear qS3
     try clear c10
     try clear qL9
     try clear c12
     try clear qE7
     try clear c14
     try clear qW4
     try clear ju2
     try clear c17
     try clear jb2
     try clear jb3
     try clear jb4
     try clear jb5
     try clear qI6
     try clear qI7
     try clear qI8
     try clear jc0
     try clear jc2
     try clear jc3
     try clear jc4
     try clear jc5
     try clear qD2
     try clear qD3
     try clear qD4
     try clear jd0
     try clear jl6
     try clear jl7
     try clear jl8
     try clear zP3
     try clear js4
     try clear js5
     try clear js6
     try clear js7
     try clear qU3
     try clear qU4
     try clear qU5
     try clear jt2
     try clear jt4
     try clear jt5
     try clear jt6
     try clear jt7
     try clear jb6
     try clear jb7
     try clear jb8
     try clear jb9
     try clear qI9
     try clear qJ0
     try clear qJ1
     try clear jc1
     try clear jc6
     try clear jc7
     try clear jc8
     try clear jc9
     try clear qD5
     try clear qD6
     try clear qD7
     try clear jd1
     try clear jl9
     try clear jm0
     try clear jm1
     try clear zP4
     try clear js8
     try clear js9
     try clear jt0
     try clear jt1
     try clear qU6
     try clear qU7
     try clear qU8
     try clear jt3
     try clear jt8
     try clear jt9
     try clear ju0
     try clear ju1
     try clear p2
     obtain ⟨qd8, rfl, HA, HK2, jY, HB⟩ := hrel
     cases gk with
     | zero => exact absurd HA.out (by simp [jX.l0])
     | succ k2 =>
      have H := HA.out
      clear HA
      simp only [jX.l0] at H
      by_cases c19 : qd8 < (jN.length : Int)
      ·rw [if_pos c19] at H
       have zW0 : decide (qd8 < (jN.length : Int)) = true := decide_eq_true c19
       clear c19
       by_cases c20 : 0 ≤ qd8
       ·rw [if_pos c20] at H
        have Qi9 : decide (0 ≤ qd8) = true := decide_eq_true c20
        clear c20
        by_cases c21 : qd8 < (jN.length : Int)
        ·rw [if_pos c21] at H
         have Qj0 : decide (qd8 < (jN.length : Int)) = true := decide_eq_true c21
         clear c21
         replace H := Option.bind_eq_some_iff.mp H
         obtain ⟨t235, A220, H⟩ := H
         replace H : (if t235 = true then (jX.l0 k2 jN (jN.length : Int) (wrap64 (qd8 + 1))) else (some false)) = some r := H
         have A22 := q8.mk A220
         clear A220
         by_cases c23 : t235 = true
         ·subst c23
          have H1 : (jX.l0 k2 jN (jN.length : Int) (wrap64 (qd8 + 1))) = some r := by rw [if_pos rfl] at H; exact H
          clear H
          have H := H1
          clear H1
          have H' := q8.mk H
          clear H
          have ze0 : 0 ≤ (qd8 : Int) := of_decide_eq_true (by first | (with_reducible assumption) | assumption)
          have ze1 : qd8 < (jN.length : Int) := of_decide_eq_true (by first | (with_reducible assumption) | assumption)
          obtain ⟨jd2, e233, qJ2, qJ3, qJ4⟩ := qr2 jV3.out qd8 ze0 ze1
          cases e233
          replace qJ2 := (HB.out.cell (World.block_lt_of_cell? w _ qJ2)).trans qJ2
          replace qJ3 := (HB.out.cell (World.block_lt_of_cell? w _ qJ3)).trans qJ3
          replace qJ4 := (HB.out.cell (World.block_lt_of_cell? w _ qJ4)).trans qJ4
          replace ze0 := eq_true ze0
          replace ze1 := eq_true ze1
          go_wp2_with (first | ((with_reducible refine qa0 (N := 4) rfl ?_); (try (refine qI5 (by rfl) ?_; dsimp only)); refine qa7 ?hg (N := 4) ?hd (cs := #[.bool false, .int .i64 0, .int .i64 0]) (t := 51) ?hr ?_; (case hd => rfl); (case hg => rfl); (case hr => first | (go_simp; done) | (go_simp; rfl)); intro qx3 hg w24 qb5 hb; have n0_ := q8.mk (qn1 (g := qb9) (o := .cells #[.int .i64 zB, .int .i64 jT, .int .i64 jQ, .slice (some jd2) jN.length ql8] 55 (0, 0)) (by (with_reducible repeat (first | refine qI ?_ _ | refine qR ?_ | refine qJ ?_ _)); exact jY.out) hb); have n1_ := q8.mk (jM (by repeat (first | (with_reducible first | exact HB.out | apply qA | apply q9 | apply qB | refine qK ?_ qr7.out) | exact HB.out)) hb); have n2_ := q8.mk (qb5); have n3_ := q8.mk ((by rw [hg]; exact (qM (by repeat (first | (with_reducible first | exact HB.out | apply qA | apply q9 | apply qB | refine qK ?_ qr7.out) | exact HB.out))) : w.heap.size ≤ qx3)); have n4_ := q8.mk ((by rw [hg]; exact (qM (by repeat (first | (with_reducible first | exact HB.out | apply qA | apply q9 | apply qB | refine qK ?_ qr7.out) | exact HB.out))) : w.heap.size ≤ qx3)); have n5_ := q8.mk ((by rw [hg]; exact Nat.ne_of_lt (qt5 (g := qb9) (o := .cells #[.int .i64 zB, .int .i64 jT, .int .i64 jQ, .slice (some jd2) jN.length ql8] 55 (0, 0)) (by (with_reducible repeat (first | refine qI ?_ _ | refine qR ?_ | refine qJ ?_ _)); exact jY.out)) : qb9 ≠ qx3)); have n6_ := q8.mk ((by rw [hg]; exact Nat.ne_of_gt (qt5 (g := qb9) (o := .cells #[.int .i64 zB, .int .i64 jT, .int .i64 jQ, .slice (some jd2) jN.length ql8] 55 (0, 0)) (by (with_reducible repeat (first | refine qI ?_ _ | refine qR ?_ | refine qJ ?_ _)); exact jY.out)) : qx3 ≠ qb9)); clear jY; clear HB; have jY := n0_; have HB := n1_; have qu1 := n2_; have Qp5 := n3_; have jV4 := n4_; have qp6 := n5_; have jg7 := n6_; clear n0_ n1_ n2_ n3_ n4_ n5_ n6_; clear hb qb5 hg; have hnb25 := jg7.out; have hnc25 := qp6.out; have zP5 : w24.cell? ⟨qx3, 0, none⟩ = some (.bool false) := (qE qu1.out 0).trans rfl; have zP6 : w24.cell? ⟨qx3, 1, none⟩ = some (.int .i64 0) := (qE qu1.out 1).trans rfl; have zP7 : w24.cell? ⟨qx3, 2, none⟩ = some (.int .i64 0) := (qE qu1.out 2).trans rfl; have zP8 := qC qu1.out 0; have zP9 := qC qu1.out 1; have zQ0 := qC qu1.out 2) | ((with_reducible refine qj0 (f := 55) rfl ?_); refine qH3 (some 50) rfl rfl Try.func55 (by kernel_rfl) rfl #[.agg #[.bool ((qG jN qd8).f0), .int .i64 ((qG jN qd8).f1), .int .i64 ((qG jN qd8).f2)]] rfl (by (try simp only [List.map_toArray, List.map_cons, List.map_nil]); first | done | rfl | (simp only [List.length_drop, List.length_take]; rfl)) ?_; (with_reducible refine (qx2.calls ((qG jN qd8).f0) ((qG jN qd8).f1) ((qG jN qd8).f2) true _ A22.out).mono ?_); rintro e w27 ⟨rfl, hb⟩; refine ⟨_, rfl, ?_⟩; have n0_ := q8.mk (qn1 (g := qb9) (o := .cells #[.int .i64 zB, .int .i64 jT, .int .i64 jQ, .slice (some jd2) jN.length ql8] 55 (0, 0)) (by (with_reducible repeat (first | refine qI ?_ _ | refine qR ?_ | refine qJ ?_ _)); refine qj4 ?_ qp6.out _; (with_reducible repeat (first | refine qI ?_ _ | refine qR ?_ | refine qJ ?_ _)); refine qj4 ?_ qp6.out _; (with_reducible repeat (first | refine qI ?_ _ | refine qR ?_ | refine qJ ?_ _)); refine qj4 ?_ qp6.out _; (with_reducible repeat (first | refine qI ?_ _ | refine qR ?_ | refine qJ ?_ _)); exact jY.out) hb); have n1_ := q8.mk (qn1 (g := qx3) (o := .cells #[.bool ((qG jN qd8).f0), .int .i64 ((qG jN qd8).f1), .int .i64 ((qG jN qd8).f2)] 51 (0, 0)) (by (with_reducible repeat (first | refine qI ?_ _ | refine qR ?_ | refine qJ ?_ _)); refine qd4 (cs := #[.bool ((qG jN qd8).f0), .int .i64 ((qG jN qd8).f1), .int .i64 0]) ?_ 2 _ rfl; (with_reducible repeat (first | refine qI ?_ _ | refine qR ?_ | refine qJ ?_ _)); refine qd4 (cs := #[.bool ((qG jN qd8).f0), .int .i64 0, .int .i64 0]) ?_ 1 _ rfl; (with_reducible repeat (first | refine qI ?_ _ | refine qR ?_ | refine qJ ?_ _)); refine qd4 (cs := #[.bool false, .int .i64 0, .int .i64 0]) ?_ 0 _ rfl; (with_reducible repeat (first | refine qI ?_ _ | refine qR ?_ | refine qJ ?_ _)); exact qu1.out) hb); have n2_ := q8.mk (jM (by repeat (first | (with_reducible first | exact HB.out | apply qA | apply q9 | apply qB | refine qK ?_ qr7.out | refine qK ?_ jV4.out) | exact HB.out)) hb); clear jY; clear qu1; clear HB; have jY := n0_; have qu1 := n1_; have HB := n2_; clear n0_ n1_ n2_; (try clear hb); (try clear hb2); (try clear hk); (try clear hi)))
          go_roundg k2
          case measure => have := HJ1.out; have := HK2.out; omega
          case rel => exact ⟨(wrap64 (qd8 + 1)), (by first | rfl | (simp; done) | (simp [*]; done)), H', ⟨by have := HJ1.out; have := HK2.out; omega⟩, ⟨by (with_reducible repeat (first | refine qI ?_ _ | refine qR ?_ | refine qJ ?_ _)); exact jY.out⟩, ⟨by repeat (first | (with_reducible first | exact HB.out | apply qA | apply q9 | apply qB | refine qK ?_ qr7.out | refine qK ?_ jV4.out) | exact HB.out)⟩⟩
         ·replace c23 := Bool.eq_false_iff.mpr c23
          subst c23
          have H1 : (some false) = some r := by rw [if_neg (show ¬ (false = true) by decide)] at H; exact H
          clear H
          have H := H1
          clear H1
          obtain rfl := Option.some.inj H
          have ze0 : 0 ≤ (qd8 : Int) := of_decide_eq_true (by first | (with_reducible assumption) | assumption)
          have ze1 : qd8 < (jN.length : Int) := of_decide_eq_true (by first | (with_reducible assumption) | assumption)
          obtain ⟨jd2, e233, qJ2, qJ3, qJ4⟩ := qr2 jV3.out qd8 ze0 ze1
          cases e233
          replace qJ2 := (HB.out.cell (World.block_lt_of_cell? w _ qJ2)).trans qJ2
          replace qJ3 := (HB.out.cell (World.block_lt_of_cell? w _ qJ3)).trans qJ3
          replace qJ4 := (HB.out.cell (World.block_lt_of_cell? w _ qJ4)).trans qJ4
          replace ze0 := eq_true ze0
          replace ze1 := eq_true ze1
          go_wp2_with (first | ((with_reducible refine qa0 (N := 4) rfl ?_); (try (refine qI5 (by rfl) ?_; dsimp only)); refine qa7 ?hg (N := 4) ?hd (cs := #[.bool false, .int .i64 0, .int .i64 0]) (t := 51) ?hr ?_; (case hd => rfl); (case hg => rfl); (case hr => first | (go_simp; done) | (go_simp; rfl)); intro qx3 hg w28 qb5 hb; have n0_ := q8.mk (qn1 (g := qb9) (o := .cells #[.int .i64 zB, .int .i64 jT, .int .i64 jQ, .slice (some jd2) jN.length ql8] 55 (0, 0)) (by (with_reducible repeat (first | refine qI ?_ _ | refine qR ?_ | refine qJ ?_ _)); exact jY.out) hb); have n1_ := q8.mk (jM (by repeat (first | (with_reducible first | exact HB.out | apply qA | apply q9 | apply qB | refine qK ?_ qr7.out) | exact HB.out)) hb); have n2_ := q8.mk (qb5); have n3_ := q8.mk ((by rw [hg]; exact (qM (by repeat (first | (with_reducible first | exact HB.out | apply qA | apply q9 | apply qB | refine qK ?_ qr7.out) | exact HB.out))) : w.heap.size ≤ qx3)); have n4_ := q8.mk ((by rw [hg]; exact (qM (by repeat (first | (with_reducible first | exact HB.out | apply qA | apply q9 | apply qB | refine qK ?_ qr7.out) | exact HB.out))) : w.heap.size ≤ qx3)); have n5_ := q8.mk ((by rw [hg]; exact Nat.ne_of_lt (qt5 (g := qb9) (o := .cells #[.int .i64 zB, .int .i64 jT, .int .i64 jQ, .slice (some jd2) jN.length ql8] 55 (0, 0)) (by (with_reducible repeat (first | refine qI ?_ _ | refine qR ?_ | refine qJ ?_ _)); exact jY.out)) : qb9 ≠ qx3)); have n6_ := q8.mk ((by rw [hg]; exact Nat.ne_of_gt (qt5 (g := qb9) (o := .cells #[.int .i64 zB, .int .i64 jT, .int .i64 jQ, .slice (some jd2) jN.length ql8] 55 (0, 0)) (by (with_reducible repeat (first | refine qI ?_ _ | refine qR ?_ | refine qJ ?_ _)); exact jY.out)) : qx3 ≠ qb9)); clear jY; clear HB; have jY := n0_; have HB := n1_; have qu1 := n2_; have Qp5 := n3_; have jV4 := n4_; have qp6 := n5_; have jg7 := n6_; clear n0_ n1_ n2_ n3_ n4_ n5_ n6_; clear hb qb5 hg; have hnb29 := jg7.out; have hnc29 := qp6.out; have QB1 : w28.cell? ⟨qx3, 0, none⟩ = some (.bool false) := (qE qu1.out 0).trans rfl; have QB2 : w28.cell? ⟨qx3, 1, none⟩ = some (.int .i64 0) := (qE qu1.out 1).trans rfl; have QB3 : w28.cell? ⟨qx3, 2, none⟩ = some (.int .i64 0) := (qE qu1.out 2).trans rfl; have QB4 := qC qu1.out 0; have QB5 := qC qu1.out 1; have QB6 := qC qu1.out 2) | ((with_reducible refine qj0 (f := 55) rfl ?_); refine qH3 (some 50) rfl rfl Try.func55 (by kernel_rfl) rfl #[.agg #[.bool ((qG jN qd8).f0), .int .i64 ((qG jN qd8).f1), .int .i64 ((qG jN qd8).f2)]] rfl (by (try simp only [List.map_toArray, List.map_cons, List.map_nil]); first | done | rfl | (simp only [List.length_drop, List.length_take]; rfl)) ?_; (with_reducible refine (qx2.calls ((qG jN qd8).f0) ((qG jN qd8).f1) ((qG jN qd8).f2) false _ A22.out).mono ?_); rintro e w31 ⟨rfl, hb⟩; refine ⟨_, rfl, ?_⟩; have n0_ := q8.mk (qn1 (g := qb9) (o := .cells #[.int .i64 zB, .int .i64 jT, .int .i64 jQ, .slice (some jd2) jN.length ql8] 55 (0, 0)) (by (with_reducible repeat (first | refine qI ?_ _ | refine qR ?_ | refine qJ ?_ _)); refine qj4 ?_ qp6.out _; (with_reducible repeat (first | refine qI ?_ _ | refine qR ?_ | refine qJ ?_ _)); refine qj4 ?_ qp6.out _; (with_reducible repeat (first | refine qI ?_ _ | refine qR ?_ | refine qJ ?_ _)); refine qj4 ?_ qp6.out _; (with_reducible repeat (first | refine qI ?_ _ | refine qR ?_ | refine qJ ?_ _)); exact jY.out) hb); have n1_ := q8.mk (qn1 (g := qx3) (o := .cells #[.bool ((qG jN qd8).f0), .int .i64 ((qG jN qd8).f1), .int .i64 ((qG jN qd8).f2)] 51 (0, 0)) (by (with_reducible repeat (first | refine qI ?_ _ | refine qR ?_ | refine qJ ?_ _)); refine qd4 (cs := #[.bool ((qG jN qd8).f0), .int .i64 ((qG jN qd8).f1), .int .i64 0]) ?_ 2 _ rfl; (with_reducible repeat (first | refine qI ?_ _ | refine qR ?_ | refine qJ ?_ _)); refine qd4 (cs := #[.bool ((qG jN qd8).f0), .int .i64 0, .int .i64 0]) ?_ 1 _ rfl; (with_reducible repeat (first | refine qI ?_ _ | refine qR ?_ | refine qJ ?_ _)); refine qd4 (cs := #[.bool false, .int .i64 0, .int .i64 0]) ?_ 0 _ rfl; (with_reducible repeat (first | refine qI ?_ _ | refine qR ?_ | refine qJ ?_ _)); exact qu1.out) hb); have n2_ := q8.mk (jM (by repeat (first | (with_reducible first | exact HB.out | apply qA | apply q9 | apply qB | refine qK ?_ qr7.out | refine qK ?_ jV4.out) | exact HB.out)) hb); clear jY; clear qu1; clear HB; have jY := n0_; have qu1 := n1_; have HB := n2_; clear n0_ n1_ n2_; (try clear hb); (try clear hb2); (try clear hk); (try clear hi)))
          go_ret
          exact ⟨by first | rfl | (simp [jI, jJ] <;> rfl) | (simp [*, jI, jJ] <;> rfl), by repeat (first | (with_reducible first | exact HB.out | apply qA | apply q9 | apply qB | refine qK ?_ qr7.out | refine qK ?_ jV4.out) | exact HB.out)⟩
        ·rw [if_neg c21] at H
         exact absurd H (by simp)
       ·rw [if_neg c20] at H
        exact absurd H (by simp)
      ·rw [if_neg c19] at H
       have zW0 : decide (qd8 < (jN.length : Int)) = false := decide_eq_false c19
       clear c19
       obtain rfl := Option.some.inj H
       go_wp2
       go_ret
       exact ⟨by first | rfl | (simp [jI, jJ] <;> rfl) | (simp [*, jI, jJ] <;> rfl), by repeat (first | (with_reducible first | exact HB.out | apply qA | apply q9 | apply qB | refine qK ?_ qr7.out) | exact HB.out)⟩
def qd5.l0 : Nat → Int → List (S55) → Int → Int → Option (Int)
 | 0, _, _, _, _ => none
 | k + 1, x3, x6, x7, x8 => if x8 < x7 then (if 0 ≤ x8 then (if x8 < (x6.length : Int) then (qd5.l0 k (wrap64 (x3 + (((qD x6 x8).f3).length : Int))) x6 x7 (wrap64 (x8 + 1))) else (none)) else (none)) else (some x3)
def qd5.f (k : Nat) (l0 : List (S55)) : Option (Int) := qd5.l0 k 0 l0 (l0.length : Int) 0
set_option maxHeartbeats 8000000 in
set_option maxRecDepth 100000 in
theorem qd5.calls (k : Nat) (A0 : Option Addr) (c0 : Nat) (l0 : List (S55)) (r : Int) (w : World) (hr0 : Kd.C k55 w A0 l0.length l0) (hc0 : l0.length ≤ c0) (h : qd5.f k l0 = some r) :
  Calls Try.prog 57 #[.slice A0 l0.length c0] w fun e w' => e = .returned (.int .i64 r) ∧ Below w.heap.size w w' := by
 have zG2 := Try.underlying55
 have HR0 := q8.mk hr0
 have HC0 := q8.mk hc0
 clear hr0 hc0
 have HB := q8.mk (Below.refl w.heap.size w)
 have H : (qd5.l0 k 0 l0 (l0.length : Int) 0) = some r := h
 clear h
 have H' := q8.mk H
 clear H
 go_enter Try.func57, Try.ntmps57
 go_wp2
 go_loopg [3, 8] k (fun kq v3 v8 w' => ∃ (qk2 : Int) (qO : Int), v3 = .int .i64 qk2 ∧ v8 = .int .i64 qO ∧ q8 (qd5.l0 kq qk2 l0 (l0.length : Int) qO = some r) ∧ q8 (kq ≤ k) ∧ q8 (Below w.heap.size w w'))
 case atStart => exact ⟨(0), (0), (by first | rfl | (simp; done) | (simp [*]; done)), (by first | rfl | (simp; done) | (simp [*]; done)), H', ⟨Nat.le_refl _⟩, ⟨by repeat (first | (with_reducible first | exact HB.out | apply qA | apply q9 | apply qB) | exact HB.out)⟩⟩
 case round =>
  clear H'
  obtain ⟨qk2, qO, rfl, rfl, HA, HK1, HB⟩ := hrel
  cases gk with
  | zero => exact absurd HA.out (by simp [qd5.l0])
  | succ k1 =>
   have H := HA.out
   clear HA
   simp only [qd5.l0] at H
   by_cases c2 : qO < (l0.length : Int)
   ·rw [if_pos c2] at H
    have zd9 : decide (qO < (l0.length : Int)) = true := decide_eq_true c2
    clear c2
    by_cases c3 : 0 ≤ qO
    ·rw [if_pos c3] at H
     have jO4 : decide (0 ≤ qO) = true := decide_eq_true c3
     clear c3
     by_cases c4 : qO < (l0.length : Int)
     ·rw [if_pos c4] at H
      have qB4 : decide (qO < (l0.length : Int)) = true := decide_eq_true c4
      clear c4
      have H' := q8.mk H
      clear H
      have Qg0 : 0 ≤ (qO : Int) := of_decide_eq_true (by first | (with_reducible assumption) | assumption)
      have Qg1 : qO < (l0.length : Int) := of_decide_eq_true (by first | (with_reducible assumption) | assumption)
      obtain ⟨ad236, A236_3, c236_3, e236, jJ3, jJ4, jJ5, jJ6, zk6, zk7⟩ := qa6 HR0.out qO Qg0 Qg1
      cases e236
      replace jJ3 := (HB.out.cell (World.block_lt_of_cell? w _ jJ3)).trans jJ3
      replace jJ4 := (HB.out.cell (World.block_lt_of_cell? w _ jJ4)).trans jJ4
      replace jJ5 := (HB.out.cell (World.block_lt_of_cell? w _ jJ5)).trans jJ5
      replace jJ6 := (HB.out.cell (World.block_lt_of_cell? w _ jJ6)).trans jJ6
      have QB7 := q8.mk zk7
      have QB8 := q8.mk zk6
      clear zk7 zk6
      replace Qg0 := eq_true Qg0
      replace Qg1 := eq_true Qg1
      go_wp2_with (first | ((with_reducible refine qa0 (N := 5) rfl ?_); refine qa7 ?hg (N := 5) ?hd (cs := #[.int .i64 0, .int .i64 0, .int .i64 0, .slice none 0 0]) (t := 55) ?hr ?_; (case hd => rfl); (case hg => rfl); (case hr => first | (go_simp; done) | (go_simp; rfl)); intro jB0 hg w5 qb5 hb; have n0_ := q8.mk (jM (by repeat (first | (with_reducible first | exact HB.out | apply qA | apply q9 | apply qB) | exact HB.out)) hb); have n1_ := q8.mk (qb5); have n2_ := q8.mk ((by rw [hg]; exact (qM (by repeat (first | (with_reducible first | exact HB.out | apply qA | apply q9 | apply qB) | exact HB.out))) : w.heap.size ≤ jB0)); have n3_ := q8.mk ((by rw [hg]; exact (qM (by repeat (first | (with_reducible first | exact HB.out | apply qA | apply q9 | apply qB) | exact HB.out))) : w.heap.size ≤ jB0)); clear HB; have HB := n0_; have ji4 := n1_; have GW237 := n2_; have Qp6 := n3_; clear n0_ n1_ n2_ n3_; clear hb qb5 hg; have hcz6_0 : w5.cell? ⟨jB0, 0, none⟩ = some (.int .i64 0) := (qE ji4.out 0).trans rfl; have hcz6_1 : w5.cell? ⟨jB0, 1, none⟩ = some (.int .i64 0) := (qE ji4.out 1).trans rfl; have hcz6_2 : w5.cell? ⟨jB0, 2, none⟩ = some (.int .i64 0) := (qE ji4.out 2).trans rfl; have hcz6_3 : w5.cell? ⟨jB0, 3, none⟩ = some (.slice none 0 0) := (qE ji4.out 3).trans rfl; have hfz6_0 := qC ji4.out 0; have hfz6_1 := qC ji4.out 1; have hfz6_2 := qC ji4.out 2; have hfz6_3 := qC ji4.out 3))
      go_roundg k1
      case measure => have := HK1.out; omega
      case rel => exact ⟨(wrap64 (qk2 + (((qD l0 qO).f3).length : Int))), (wrap64 (qO + 1)), (by first | rfl | (simp; done) | (simp [*]; done)), (by first | rfl | (simp; done) | (simp [*]; done)), H', ⟨by have := HK1.out; omega⟩, ⟨by repeat (first | (with_reducible first | exact HB.out | apply qA | apply q9 | apply qB | refine qK ?_ Qp6.out) | exact HB.out)⟩⟩
     ·rw [if_neg c4] at H
      exact absurd H (by simp)
    ·rw [if_neg c3] at H
     exact absurd H (by simp)
   ·rw [if_neg c2] at H
    have zd9 : decide (qO < (l0.length : Int)) = false := decide_eq_false c2
    clear c2
    obtain rfl := Option.some.inj H
    go_wp2
    go_ret
    exact ⟨by first | rfl | (simp [jI, jJ] <;> rfl) | (simp [*, jI, jJ] <;> rfl), by repeat (first | (with_reducible first | exact HB.out | apply qA | apply q9 | apply qB) | exact HB.out)⟩
end Go.Proofs.Ytngkneknopenmaa.K
end
section
namespace Go.Proofs.Ytngkneknopenmaa.K
open Go.Proofs.Ytngkneknopenmaa
open Go.RowKit Go.Proofs.YtngkneknopenmaaW.jH Go.Proofs.YtngkneknopenmaaW.qh6 Go.Proofs.YtngkneknopenmaaW.qk1
attribute [local go_sem] qq1 qq2 qv6 qv7 qm9 qn0 qq3 qq4   -- for this text's walks alone
set_option linter.unusedVariables false
set_option linter.unusedSimpArgs false
def zG.l0 : Nat → List (S55) → Int → Int → Option (Int)
 | 0, _, _, _ => none
 | k + 1, x0, x3, x4 => if x4 < (x0.length : Int) then (if 0 ≤ x4 then (zG.l0 k x0 (wrap64 (x3 + (((qD x0 x4).f3).length : Int))) (wrap64 (x4 + 1))) else (none)) else (some x3)
def zG.f (k : Nat) (l0 : List (S55)) : Option (Int) := zG.l0 k l0 0 0
set_option maxHeartbeats 8000000 in
set_option maxRecDepth 100000 in
theorem zG.calls (k : Nat) (A0 : Option Addr) (c0 : Nat) (l0 : List (S55)) (r : Int) (w : World) (hr0 : Kd.C k55 w A0 l0.length l0) (hc0 : l0.length ≤ c0) (h : zG.f k l0 = some r) :
  Calls Try.prog 33 #[.slice A0 l0.length c0] w fun e w' => e = .returned (.int .i64 r) ∧ zY w w' := by
 have HR0 := q8.mk hr0
 have HC0 := q8.mk hc0
 clear hr0 hc0
 have H : (zG.l0 k l0 0 0) = some r := h
 clear h
 have H' := q8.mk H
 clear H
 go_enter Try.func33, Try.ntmps33
 go_wp2
 go_loopg [3, 4] k (fun kq v3 v4 w' => ∃ (qk2 : Int) (zA : Int), v3 = .int .i64 qk2 ∧ v4 = .int .i64 zA ∧ q8 (zG.l0 kq l0 qk2 zA = some r) ∧ q8 (kq ≤ k) ∧ zY w w')
 case atStart => exact ⟨(0), (0), (by first | rfl | (simp; done) | (simp [*]; done)), (by first | rfl | (simp; done) | (simp [*]; done)), H', ⟨Nat.le_refl _⟩, by repeat (first | exact zY.refl _ | apply zY.step)⟩
 case round =>
  clear H'
  obtain ⟨qk2, zA, rfl, rfl, HA, HK1, ⟨m1, rfl⟩⟩ := hrel
  cases gk with
  | zero => exact absurd HA.out (by simp [zG.l0])
  | succ k1 =>
   have H := HA.out
   clear HA
   simp only [zG.l0] at H
   by_cases c2 : zA < (l0.length : Int)
   ·rw [if_pos c2] at H
    have zd9 : decide (zA < (l0.length : Int)) = true := decide_eq_true c2
    clear c2
    by_cases c3 : 0 ≤ zA
    ·rw [if_pos c3] at H
     have jO4 : decide (0 ≤ zA) = true := decide_eq_true c3
     clear c3
     have H' := q8.mk H
     clear H
     have Qg2 : 0 ≤ (zA : Int) := of_decide_eq_true (by first | (with_reducible assumption) | assumption)
     have Qg3 : zA < (l0.length : Int) := of_decide_eq_true (by first | (with_reducible assumption) | assumption)
     obtain ⟨ad103, A103_3, c103_3, e103, QB9, QC0, QC1, QC2, zk8, zk9⟩ := qa6 HR0.out zA Qg2 Qg3
     cases e103
     have QC3 := q8.mk zk9
     have QC4 := q8.mk zk8
     clear zk9 zk8
     replace Qg2 := eq_true Qg2
     replace Qg3 := eq_true Qg3
     go_wp2
     go_roundg k1
     case measure => have := HK1.out; omega
     case rel => exact ⟨(wrap64 (qk2 + (((qD l0 zA).f3).length : Int))), (wrap64 (zA + 1)), (by first | rfl | (simp; done) | (simp [*]; done)), (by first | rfl | (simp; done) | (simp [*]; done)), H', ⟨by have := HK1.out; omega⟩, by repeat (first | exact zY.refl _ | apply zY.step)⟩
    ·rw [if_neg c3] at H
     exact absurd H (by simp)
   ·rw [if_neg c2] at H
    have zd9 : decide (zA < (l0.length : Int)) = false := decide_eq_false c2
    clear c2
    obtain rfl := Option.some.inj H
    go_wp2
    go_ret
    exact ⟨by first | rfl | (simp; done) | (simp [*]; done), by repeat (first | exact zY.refl _ | apply zY.step)⟩
mutual
def qZ.l0 : Nat → List (S55) → Int → Int → Int → Option (Int)
 | 0, _, _, _, _ => none
 | k + 1, x0, x1, x2, x7 => if x7 < (x0.length : Int) then (qZ.l1 k x0 x1 x2 x7 0) else (some (-1))
def qZ.l1 : Nat → List (S55) → Int → Int → Int → Int → Option (Int)
 | 0, _, _, _, _, _ => none
 | k + 1, x0, x1, x2, x7, x8 => if 0 ≤ x7 then (if x7 < (x0.length : Int) then (if x8 < (((qD x0 x7).f3).length : Int) then (if 0 ≤ x8 then (if (qG ((qD x0 x7).f3) x8).f0 = true then (if ((qG ((qD x0 x7).f3) x8).f1) = x1 then (if ((qG ((qD x0 x7).f3) x8).f2) = x2 then (some x7) else (qZ.l1 k x0 x1 x2 x7 (wrap64 (x8 + 1)))) else (qZ.l1 k x0 x1 x2 x7 (wrap64 (x8 + 1)))) else (qZ.l1 k x0 x1 x2 x7 (wrap64 (x8 + 1)))) else (none)) else (qZ.l0 k x0 x1 x2 (wrap64 (x7 + 1)))) else (none)) else (none)
end
def qZ.f (k : Nat) (l0 : List (S55)) (a1 : Int) (a2 : Int) : Option (Int) := qZ.l0 k l0 a1 a2 0
set_option maxHeartbeats 8000000 in
set_option maxRecDepth 100000 in
theorem qZ.calls (k : Nat) (A0 : Option Addr) (c0 : Nat) (l0 : List (S55)) (a1 : Int) (a2 : Int) (r : Int) (w : World) (hr0 : Kd.C k55 w A0 l0.length l0) (hc0 : l0.length ≤ c0) (h : qZ.f k l0 a1 a2 = some r) :
  Calls Try.prog 31 #[.slice A0 l0.length c0, .int .i64 a1, .int .i64 a2] w fun e w' => e = .returned (.int .i64 r) ∧ Below w.heap.size w w' := by
 have zw0 := Try.underlying51
 have HR0 := q8.mk hr0
 have HC0 := q8.mk hc0
 clear hr0 hc0
 have HB := q8.mk (Below.refl w.heap.size w)
 have H : (qZ.l0 k l0 a1 a2 0) = some r := h
 clear h
 have H' := q8.mk H
 clear H
 go_enter Try.func31, Try.ntmps31
 go_wp2
 go_loopg [7] k (fun kq v7 w' => ∃ (qb1 : Int), v7 = .int .i64 qb1 ∧ q8 (qZ.l0 kq l0 a1 a2 qb1 = some r) ∧ q8 (kq ≤ k) ∧ q8 (Below w.heap.size w w'))
 case atStart => exact ⟨(0), (by first | rfl | (simp; done) | (simp [*]; done)), H', ⟨Nat.le_refl _⟩, ⟨by repeat (first | (with_reducible first | exact HB.out | apply qA | apply q9 | apply qB) | exact HB.out)⟩⟩
 case round =>
  clear H'
  try clear p2
  try clear c3
  obtain ⟨qb1, rfl, HA, HK1, HB⟩ := hrel
  cases gk with
  | zero => exact absurd HA.out (by simp [qZ.l0])
  | succ k1 =>
   have H := HA.out
   clear HA
   simp only [qZ.l0] at H
   by_cases c4 : qb1 < (l0.length : Int)
   ·rw [if_pos c4] at H
    have qB4 : decide (qb1 < (l0.length : Int)) = true := decide_eq_true c4
    clear c4
    have H' := q8.mk H
    clear H
    go_wp2
    go_loopg [8] k1 (fun kq v8 w' => ∃ (qj2 : Int), v8 = .int .i64 qj2 ∧ q8 (qZ.l1 kq l0 a1 a2 qb1 qj2 = some r) ∧ q8 (kq ≤ k1) ∧ q8 (Below w.heap.size w w'))
    case atStart => exact ⟨(0), (by first | rfl | (simp; done) | (simp [*]; done)), H', ⟨Nat.le_refl _⟩, ⟨by repeat (first | (with_reducible first | exact HB.out | apply qA | apply q9 | apply qB) | exact HB.out)⟩⟩
    case round =>
     clear H'
     try clear p2
     try clear c3
     try clear c4
     try clear qB4
     try clear p2
     obtain ⟨qj2, rfl, HA, HK2, HB⟩ := hrel
     cases gk with
     | zero => exact absurd HA.out (by simp [qZ.l1])
     | succ k2 =>
      have H := HA.out
      clear HA
      simp only [qZ.l1] at H
      by_cases c5 : 0 ≤ qb1
      ·rw [if_pos c5] at H
       have jE1 : decide (0 ≤ qb1) = true := decide_eq_true c5
       clear c5
       by_cases c6 : qb1 < (l0.length : Int)
       ·rw [if_pos c6] at H
        have ji8 : decide (qb1 < (l0.length : Int)) = true := decide_eq_true c6
        clear c6
        by_cases c7 : qj2 < (((qD l0 qb1).f3).length : Int)
        ·rw [if_pos c7] at H
         have zH9 : decide (qj2 < (((qD l0 qb1).f3).length : Int)) = true := decide_eq_true c7
         clear c7
         by_cases c8 : 0 ≤ qj2
         ·rw [if_pos c8] at H
          have qS3 : decide (0 ≤ qj2) = true := decide_eq_true c8
          clear c8
          obtain ⟨bq9, Qg4⟩ : ∃ b_ : Bool, b_ = ((qG ((qD l0 qb1).f3) qj2).f0) := ⟨_, rfl⟩
          replace H : (if bq9 = true then (if ((qG ((qD l0 qb1).f3) qj2).f1) = a1 then (if ((qG ((qD l0 qb1).f3) qj2).f2) = a2 then (some qb1) else (qZ.l1 k2 l0 a1 a2 qb1 (wrap64 (qj2 + 1)))) else (qZ.l1 k2 l0 a1 a2 qb1 (wrap64 (qj2 + 1)))) else (qZ.l1 k2 l0 a1 a2 qb1 (wrap64 (qj2 + 1)))) = some r := by rw [← Qg4] at H; exact H
          have zQ1 := q8.mk Qg4
          clear Qg4
          by_cases c10 : bq9 = true
          ·subst c10
           have H1 : (if ((qG ((qD l0 qb1).f3) qj2).f1) = a1 then (if ((qG ((qD l0 qb1).f3) qj2).f2) = a2 then (some qb1) else (qZ.l1 k2 l0 a1 a2 qb1 (wrap64 (qj2 + 1)))) else (qZ.l1 k2 l0 a1 a2 qb1 (wrap64 (qj2 + 1)))) = some r := by rw [if_pos rfl] at H; exact H
           clear H
           have H := H1
           clear H1
           by_cases c11 : ((qG ((qD l0 qb1).f3) qj2).f1) = a1
           ·rw [if_pos c11] at H
            have jy5 : (((qG ((qD l0 qb1).f3) qj2).f1) == a1) = true := beq_iff_eq.mpr c11
            have Qp7 : (((qG ((qD l0 qb1).f3) qj2).f1) != a1) = false := bne_eq_false_iff_eq.mpr c11
            clear c11
            by_cases c12 : ((qG ((qD l0 qb1).f3) qj2).f2) = a2
            ·rw [if_pos c12] at H
             have qE7 : (((qG ((qD l0 qb1).f3) qj2).f2) == a2) = true := beq_iff_eq.mpr c12
             have Qp8 : (((qG ((qD l0 qb1).f3) qj2).f2) != a2) = false := bne_eq_false_iff_eq.mpr c12
             clear c12
             obtain rfl := Option.some.inj H
             have qJ5 : 0 ≤ (qb1 : Int) := of_decide_eq_true (by first | (with_reducible assumption) | assumption)
             have qJ6 : qb1 < (l0.length : Int) := of_decide_eq_true (by first | (with_reducible assumption) | assumption)
             obtain ⟨ji5, jJ7, jJ8, jJ9, qh0, qh1, qh2, qf3, qn9, qo0⟩ := qa6 HR0.out qb1 qJ5 qJ6
             cases jJ9
             replace qh0 := (HB.out.cell (World.block_lt_of_cell? w _ qh0)).trans qh0
             replace qh1 := (HB.out.cell (World.block_lt_of_cell? w _ qh1)).trans qh1
             replace qh2 := (HB.out.cell (World.block_lt_of_cell? w _ qh2)).trans qh2
             replace qf3 := (HB.out.cell (World.block_lt_of_cell? w _ qf3)).trans qf3
             have jm2 := q8.mk qo0
             have jm3 := q8.mk qn9
             clear qo0 qn9
             replace qJ5 := eq_true qJ5
             replace qJ6 := eq_true qJ6
             have qU9 : 0 ≤ (qb1 : Int) := of_decide_eq_true (by first | (with_reducible assumption) | assumption)
             have qV0 : qb1 < (l0.length : Int) := of_decide_eq_true (by first | (with_reducible assumption) | assumption)
             obtain ⟨ju3, ze2, ze3, ze4, ql9, qm0, qm1, qh3, qu2, qu3⟩ := qa6 HR0.out qb1 qU9 qV0
             obtain rfl : ji5 = ju3 := (by injection ze4)
             replace ql9 := (HB.out.cell (World.block_lt_of_cell? w _ ql9)).trans ql9
             replace qm0 := (HB.out.cell (World.block_lt_of_cell? w _ qm0)).trans qm0
             replace qm1 := (HB.out.cell (World.block_lt_of_cell? w _ qm1)).trans qm1
             replace qh3 := (HB.out.cell (World.block_lt_of_cell? w _ qh3)).trans qh3
             have qJ7 := q8.mk qu3
             have jK0 := q8.mk qu2
             clear qu3 qu2
             replace qU9 := eq_true qU9
             replace qV0 := eq_true qV0
             have ea_ := Option.some.inj (qf3.symm.trans qh3)
             injection ea_ with ea_ en_ ec_
             subst ea_
             subst ec_
             clear en_
             have qV1 : 0 ≤ (qj2 : Int) := of_decide_eq_true (by first | (with_reducible assumption) | assumption)
             have qV2 : qj2 < (((qD l0 qb1).f3).length : Int) := of_decide_eq_true (by first | (with_reducible assumption) | assumption)
             obtain ⟨zD9, ze5, qh4, qm2, qm3⟩ := qr2 qJ7.out qj2 qV1 qV2
             (try rw [← zQ1.out] at qh4)
             cases ze5
             replace qh4 := (HB.out.cell (World.block_lt_of_cell? w _ qh4)).trans qh4
             replace qm2 := (HB.out.cell (World.block_lt_of_cell? w _ qm2)).trans qm2
             replace qm3 := (HB.out.cell (World.block_lt_of_cell? w _ qm3)).trans qm3
             replace qV1 := eq_true qV1
             replace qV2 := eq_true qV2
             go_wp2_with (first | ((with_reducible refine qa0 (N := 9) rfl ?_); refine qa7 ?hg (N := 9) ?hd (cs := #[.bool false, .int .i64 0, .int .i64 0]) (t := 51) ?hr ?_; (case hd => rfl); (case hg => rfl); (case hr => first | (go_simp; done) | (go_simp; rfl)); intro qo8 hg w13 qb5 hb; have n0_ := q8.mk (jM (by repeat (first | (with_reducible first | exact HB.out | apply qA | apply q9 | apply qB) | exact HB.out)) hb); have n1_ := q8.mk (qb5); have n2_ := q8.mk ((by rw [hg]; exact (qM (by repeat (first | (with_reducible first | exact HB.out | apply qA | apply q9 | apply qB) | exact HB.out))) : w.heap.size ≤ qo8)); have n3_ := q8.mk ((by rw [hg]; exact (qM (by repeat (first | (with_reducible first | exact HB.out | apply qA | apply q9 | apply qB) | exact HB.out))) : w.heap.size ≤ qo8)); clear HB; have HB := n0_; have qk6 := n1_; have zE0 := n2_; have ju4 := n3_; clear n0_ n1_ n2_ n3_; clear hb qb5 hg; have QC5 : w13.cell? ⟨qo8, 0, none⟩ = some (.bool false) := (qE qk6.out 0).trans rfl; have QC6 : w13.cell? ⟨qo8, 1, none⟩ = some (.int .i64 0) := (qE qk6.out 1).trans rfl; have QC7 : w13.cell? ⟨qo8, 2, none⟩ = some (.int .i64 0) := (qE qk6.out 2).trans rfl; have QC8 := qC qk6.out 0; have QC9 := qC qk6.out 1; have QD0 := qC qk6.out 2))
             go_ret
             exact ⟨by first | rfl | (simp [jI, jJ] <;> rfl) | (simp [*, jI, jJ] <;> rfl), by repeat (first | (with_reducible first | exact HB.out | apply qA | apply q9 | apply qB | refine qK ?_ ju4.out) | exact HB.out)⟩
            ·rw [if_neg c12] at H
             have qE7 : (((qG ((qD l0 qb1).f3) qj2).f2) == a2) = false := beq_eq_false_iff_ne.mpr c12
             have Qp8 : (((qG ((qD l0 qb1).f3) qj2).f2) != a2) = true := bne_iff_ne.mpr c12
             have H' := q8.mk H
             clear H
             have qJ5 : 0 ≤ (qb1 : Int) := of_decide_eq_true (by first | (with_reducible assumption) | assumption)
             have qJ6 : qb1 < (l0.length : Int) := of_decide_eq_true (by first | (with_reducible assumption) | assumption)
             obtain ⟨ji5, jJ7, jJ8, jJ9, qh0, qh1, qh2, qf3, qn9, qo0⟩ := qa6 HR0.out qb1 qJ5 qJ6
             cases jJ9
             replace qh0 := (HB.out.cell (World.block_lt_of_cell? w _ qh0)).trans qh0
             replace qh1 := (HB.out.cell (World.block_lt_of_cell? w _ qh1)).trans qh1
             replace qh2 := (HB.out.cell (World.block_lt_of_cell? w _ qh2)).trans qh2
             replace qf3 := (HB.out.cell (World.block_lt_of_cell? w _ qf3)).trans qf3
             have jm2 := q8.mk qo0
             have jm3 := q8.mk qn9
             clear qo0 qn9
             replace qJ5 := eq_true qJ5
             replace qJ6 := eq_true qJ6
             have qU9 : 0 ≤ (qb1 : Int) := of_decide_eq_true (by first | (with_reducible assumption) | assumption)
             have qV0 : qb1 < (l0.length : Int) := of_decide_eq_true (by first | (with_reducible assumption) | assumption)
             obtain ⟨ju3, ze2, ze3, ze4, ql9, qm0, qm1, qh3, qu2, qu3⟩ := qa6 HR0.out qb1 qU9 qV0
             obtain rfl : ji5 = ju3 := (by injection ze4)
             replace ql9 := (HB.out.cell (World.block_lt_of_cell? w _ ql9)).trans ql9
             replace qm0 := (HB.out.cell (World.block_lt_of_cell? w _ qm0)).trans qm0
             replace qm1 := (HB.out.cell (World.block_lt_of_cell? w _ qm1)).trans qm1
             replace qh3 := (HB.out.cell (World.block_lt_of_cell? w _ qh3)).trans qh3
             have qJ7 := q8.mk qu3
             have jK0 := q8.mk qu2
             clear qu3 qu2
             replace qU9 := eq_true qU9
             replace qV0 := eq_true qV0
             have ea_ := Option.some.inj (qf3.symm.trans qh3)
             injection ea_ with ea_ en_ ec_
             subst ea_
             subst ec_
             clear en_
             have qV1 : 0 ≤ (qj2 : Int) := of_decide_eq_true (by first | (with_reducible assumption) | assumption)
             have qV2 : qj2 < (((qD l0 qb1).f3).length : Int) := of_decide_eq_true (by first | (with_reducible assumption) | assumption)
             obtain ⟨zD9, ze5, qh4, qm2, qm3⟩ := qr2 qJ7.out qj2 qV1 qV2
             (try rw [← zQ1.out] at qh4)
             cases ze5
             replace qh4 := (HB.out.cell (World.block_lt_of_cell? w _ qh4)).trans qh4
             replace qm2 := (HB.out.cell (World.block_lt_of_cell? w _ qm2)).trans qm2
             replace qm3 := (HB.out.cell (World.block_lt_of_cell? w _ qm3)).trans qm3
             replace qV1 := eq_true qV1
             replace qV2 := eq_true qV2
             go_wp2_with (first | ((with_reducible refine qa0 (N := 9) rfl ?_); refine qa7 ?hg (N := 9) ?hd (cs := #[.bool false, .int .i64 0, .int .i64 0]) (t := 51) ?hr ?_; (case hd => rfl); (case hg => rfl); (case hr => first | (go_simp; done) | (go_simp; rfl)); intro qo8 hg w15 qb5 hb; have n0_ := q8.mk (jM (by repeat (first | (with_reducible first | exact HB.out | apply qA | apply q9 | apply qB) | exact HB.out)) hb); have n1_ := q8.mk (qb5); have n2_ := q8.mk ((by rw [hg]; exact (qM (by repeat (first | (with_reducible first | exact HB.out | apply qA | apply q9 | apply qB) | exact HB.out))) : w.heap.size ≤ qo8)); have n3_ := q8.mk ((by rw [hg]; exact (qM (by repeat (first | (with_reducible first | exact HB.out | apply qA | apply q9 | apply qB) | exact HB.out))) : w.heap.size ≤ qo8)); clear HB; have HB := n0_; have qk6 := n1_; have zE0 := n2_; have ju4 := n3_; clear n0_ n1_ n2_ n3_; clear hb qb5 hg; have qD2 : w15.cell? ⟨qo8, 0, none⟩ = some (.bool false) := (qE qk6.out 0).trans rfl; have qD3 : w15.cell? ⟨qo8, 1, none⟩ = some (.int .i64 0) := (qE qk6.out 1).trans rfl; have qD4 : w15.cell? ⟨qo8, 2, none⟩ = some (.int .i64 0) := (qE qk6.out 2).trans rfl; have qD5 := qC qk6.out 0; have qD6 := qC qk6.out 1; have qD7 := qC qk6.out 2))
             go_roundg k2
             case measure => have := HK1.out; have := HK2.out; omega
             case rel => exact ⟨(wrap64 (qj2 + 1)), (by first | rfl | (simp; done) | (simp [*]; done)), H', ⟨by have := HK1.out; have := HK2.out; omega⟩, ⟨by repeat (first | (with_reducible first | exact HB.out | apply qA | apply q9 | apply qB | refine qK ?_ ju4.out) | exact HB.out)⟩⟩
           ·rw [if_neg c11] at H
            have jy5 : (((qG ((qD l0 qb1).f3) qj2).f1) == a1) = false := beq_eq_false_iff_ne.mpr c11
            have Qp7 : (((qG ((qD l0 qb1).f3) qj2).f1) != a1) = true := bne_iff_ne.mpr c11
            have H' := q8.mk H
            clear H
            have qJ5 : 0 ≤ (qb1 : Int) := of_decide_eq_true (by first | (with_reducible assumption) | assumption)
            have qJ6 : qb1 < (l0.length : Int) := of_decide_eq_true (by first | (with_reducible assumption) | assumption)
            obtain ⟨ji5, jJ7, jJ8, jJ9, qh0, qh1, qh2, qf3, qn9, qo0⟩ := qa6 HR0.out qb1 qJ5 qJ6
            cases jJ9
            replace qh0 := (HB.out.cell (World.block_lt_of_cell? w _ qh0)).trans qh0
            replace qh1 := (HB.out.cell (World.block_lt_of_cell? w _ qh1)).trans qh1
            replace qh2 := (HB.out.cell (World.block_lt_of_cell? w _ qh2)).trans qh2
            replace qf3 := (HB.out.cell (World.block_lt_of_cell? w _ qf3)).trans qf3
            have jm2 := q8.mk qo0
            have jm3 := q8.mk qn9
            clear qo0 qn9
            replace qJ5 := eq_true qJ5
            replace qJ6 := eq_true qJ6
            have qU9 : 0 ≤ (qb1 : Int) := of_decide_eq_true (by first | (with_reducible assumption) | assumption)
            have qV0 : qb1 < (l0.length : Int) := of_decide_eq_true (by first | (with_reducible assumption) | assumption)
            obtain ⟨ju3, ze2, ze3, ze4, ql9, qm0, qm1, qh3, qu2, qu3⟩ := qa6 HR0.out qb1 qU9 qV0
            obtain rfl : ji5 = ju3 := (by injection ze4)
            replace ql9 := (HB.out.cell (World.block_lt_of_cell? w _ ql9)).trans ql9
            replace qm0 := (HB.out.cell (World.block_lt_of_cell? w _ qm0)).trans qm0
            replace qm1 := (HB.out.cell (World.block_lt_of_cell? w _ qm1)).trans qm1
            replace qh3 := (HB.out.cell (World.block_lt_of_cell? w _ qh3)).trans qh3
            have qJ7 := q8.mk qu3
            have jK0 := q8.mk qu2
            clear qu3 qu2
            replace qU9 := eq_true qU9
            replace qV0 := eq_true qV0
            have ea_ := Option.some.inj (qf3.symm.trans qh3)
            injection ea_ with ea_ en_ ec_
            subst ea_
            subst ec_
            clear en_
            have qV1 : 0 ≤ (qj2 : Int) := of_decide_eq_true (by first | (with_reducible assumption) | assumption)
            have qV2 : qj2 < (((qD l0 qb1).f3).length : Int) := of_decide_eq_true (by first | (with_reducible assumption) | assumption)
            obtain ⟨zD9, ze5, qh4, qm2, qm3⟩ := qr2 qJ7.out qj2 qV1 qV2
            (try rw [← zQ1.out] at qh4)
            cases ze5
            replace qh4 := (HB.out.cell (World.block_lt_of_cell? w _ qh4)).trans qh4
            replace qm2 := (HB.out.cell (World.block_lt_of_cell? w _ qm2)).trans qm2
            replace qm3 := (HB.out.cell (World.block_lt_of_cell? w _ qm3)).trans qm3
            replace qV1 := eq_true qV1
            replace qV2 := eq_true qV2
            go_wp2_with (first | ((with_reducible refine qa0 (N := 9) rfl ?_); refine qa7 ?hg (N := 9) ?hd (cs := #[.bool false, .int .i64 0, .int .i64 0]) (t := 51) ?hr ?_; (case hd => rfl); (case hg => rfl); (case hr => first | (go_simp; done) | (go_simp; rfl)); intro qo8 hg w17 qb5 hb; have n0_ := q8.mk (jM (by repeat (first | (with_reducible first | exact HB.out | apply qA | apply q9 | apply qB) | exact HB.out)) hb); have n1_ := q8.mk (qb5); have n2_ := q8.mk ((by rw [hg]; exact (qM (by repeat (first | (with_reducible first | exact HB.out | apply qA | apply q9 | apply qB) | exact HB.out))) : w.heap.size ≤ qo8)); have n3_ := q8.mk ((by rw [hg]; exact (qM (by repeat (first | (with_reducible first | exact HB.out | apply qA | apply q9 | apply qB) | exact HB.out))) : w.heap.size ≤ qo8)); clear HB; have HB := n0_; have qk6 := n1_; have zE0 := n2_; have ju4 := n3_; clear n0_ n1_ n2_ n3_; clear hb qb5 hg; have jl6 : w17.cell? ⟨qo8, 0, none⟩ = some (.bool false) := (qE qk6.out 0).trans rfl; have jl7 : w17.cell? ⟨qo8, 1, none⟩ = some (.int .i64 0) := (qE qk6.out 1).trans rfl; have jl8 : w17.cell? ⟨qo8, 2, none⟩ = some (.int .i64 0) := (qE qk6.out 2).trans rfl; have jl9 := qC qk6.out 0; have jm0 := qC qk6.out 1; have jm1 := qC qk6.out 2))
            go_roundg k2
            case measure => have := HK1.out; have := HK2.out; omega
            case rel => exact ⟨(wrap64 (qj2 + 1)), (by first | rfl | (simp; done) | (simp [*]; done)), H', ⟨by have := HK1.out; have := HK2.out; omega⟩, ⟨by repeat (first | (with_reducible first | exact HB.out | apply qA | apply q9 | apply qB | refine qK ?_ ju4.out) | exact HB.out)⟩⟩
          ·replace c10 := Bool.eq_false_iff.mpr c10
           subst c10
           have H1 : (qZ.l1 k2 l0 a1 a2 qb1 (wrap64 (qj2 + 1))) = some r := by rw [if_neg (show ¬ (false = true) by decide)] at H; exact H
           clear H
           have H := H1
           clear H1
           have H' := q8.mk H
           clear H
           have qJ5 : 0 ≤ (qb1 : Int) := of_decide_eq_true (by first | (with_reducible assumption) | assumption)
           have qJ6 : qb1 < (l0.length : Int) := of_decide_eq_true (by first | (with_reducible assumption) | assumption)
           obtain ⟨ji5, jJ7, jJ8, jJ9, qh0, qh1, qh2, qf3, qn9, qo0⟩ := qa6 HR0.out qb1 qJ5 qJ6
           cases jJ9
           replace qh0 := (HB.out.cell (World.block_lt_of_cell? w _ qh0)).trans qh0
           replace qh1 := (HB.out.cell (World.block_lt_of_cell? w _ qh1)).trans qh1
           replace qh2 := (HB.out.cell (World.block_lt_of_cell? w _ qh2)).trans qh2
           replace qf3 := (HB.out.cell (World.block_lt_of_cell? w _ qf3)).trans qf3
           have jm2 := q8.mk qo0
           have jm3 := q8.mk qn9
           clear qo0 qn9
           replace qJ5 := eq_true qJ5
           replace qJ6 := eq_true qJ6
           have qU9 : 0 ≤ (qb1 : Int) := of_decide_eq_true (by first | (with_reducible assumption) | assumption)
           have qV0 : qb1 < (l0.length : Int) := of_decide_eq_true (by first | (with_reducible assumption) | assumption)
           obtain ⟨ju3, ze2, ze3, ze4, ql9, qm0, qm1, qh3, qu2, qu3⟩ := qa6 HR0.out qb1 qU9 qV0
           obtain rfl : ji5 = ju3 := (by injection ze4)
           replace ql9 := (HB.out.cell (World.block_lt_of_cell? w _ ql9)).trans ql9
           replace qm0 := (HB.out.cell (World.block_lt_of_cell? w _ qm0)).trans qm0
           replace qm1 := (HB.out.cell (World.block_lt_of_cell? w _ qm1)).trans qm1
           replace qh3 := (HB.out.cell (World.block_lt_of_cell? w _ qh3)).trans qh3
           have qJ7 := q8.mk qu3
           have jK0 := q8.mk qu2
           clear qu3 qu2
           replace qU9 := eq_true qU9
           replace qV0 := eq_true qV0
           have ea_ := Option.some.inj (qf3.symm.trans qh3)
           injection ea_ with ea_ en_ ec_
           subst ea_
           subst ec_
           clear en_
           have qV1 : 0 ≤ (qj2 : Int) := of_decide_eq_true (by first | (with_reducible assumption) | assumption)
           have qV2 : qj2 < (((qD l0 qb1).f3).length : Int) := of_decide_eq_true (by first | (with_reducible assumption) | assumption)
           obtain ⟨zD9, ze5, qh4, qm2, qm3⟩ := qr2 qJ7.out qj2 qV1 qV2
           (try rw [← zQ1.out] at qh4)
           cases ze5
           replace qh4 := (HB.out.cell (World.block_lt_of_cell? w _ qh4)).trans qh4
           replace qm2 := (HB.out.cell (World.block_lt_of_cell? w _ qm2)).trans qm2
           replace qm3 := (HB.out.cell (World.block_lt_of_cell? w _ qm3)).trans qm3
           replace qV1 := eq_true qV1
           replace qV2 := eq_true qV2
           go_wp2_with (first | ((with_reducible refine qa0 (N := 9) rfl ?_); refine qa7 ?hg (N := 9) ?hd (cs := #[.bool false, .int .i64 0, .int .i64 0]) (t := 51) ?hr ?_; (case hd => rfl); (case hg => rfl); (case hr => first | (go_simp; done) | (go_simp; rfl)); intro qo8 hg w19 qb5 hb; have n0_ := q8.mk (jM (by repeat (first | (with_reducible first | exact HB.out | apply qA | apply q9 | apply qB) | exact HB.out)) hb); have n1_ := q8.mk (qb5); have n2_ := q8.mk ((by rw [hg]; exact (qM (by repeat (first | (with_reducible first | exact HB.out | apply qA | apply q9 | apply qB) | exact HB.out))) : w.heap.size ≤ qo8)); have n3_ := q8.mk ((by rw [hg]; exact (qM (by repeat (first | (with_reducible first | exact HB.out | apply qA | apply q9 | apply qB) | exact HB.out))) : w.heap.size ≤ qo8)); clear HB; have HB := n0_; have qk6 := n1_; have zE0 := n2_; have ju4 := n3_; clear n0_ n1_ n2_ n3_; clear hb qb5 hg; have QD1 : w19.cell? ⟨qo8, 0, none⟩ = some (.bool false) := (qE qk6.out 0).trans rfl; have QD2 : w19.cell? ⟨qo8, 1, none⟩ = some (.int .i64 0) := (qE qk6.out 1).trans rfl; have QD3 : w19.cell? ⟨qo8, 2, none⟩ = some (.int .i64 0) := (qE qk6.out 2).trans rfl; have QD4 := qC qk6.out 0; have QD5 := qC qk6.out 1; have QD6 := qC qk6.out 2))
           go_roundg k2
           case measure => have := HK1.out; have := HK2.out; omega
           case rel => exact ⟨(wrap64 (qj2 + 1)), (by first | rfl | (simp; done) | (simp [*]; done)), H', ⟨by have := HK1.out; have := HK2.out; omega⟩, ⟨by repeat (first | (with_reducible first | exact HB.out | apply qA | apply q9 | apply qB | refine qK ?_ ju4.out) | exact HB.out)⟩⟩
         ·rw [if_neg c8] at H
          exact absurd H (by simp)
        ·rw [if_neg c7] at H
         have zH9 : decide (qj2 < (((qD l0 qb1).f3).length : Int)) = false := decide_eq_false c7
         clear c7
         have H' := q8.mk H
         clear H
         have qJ5 : 0 ≤ (qb1 : Int) := of_decide_eq_true (by first | (with_reducible assumption) | assumption)
         have qJ6 : qb1 < (l0.length : Int) := of_decide_eq_true (by first | (with_reducible assumption) | assumption)
         obtain ⟨ji5, jJ7, jJ8, jJ9, qh0, qh1, qh2, qf3, qn9, qo0⟩ := qa6 HR0.out qb1 qJ5 qJ6
         cases jJ9
         replace qh0 := (HB.out.cell (World.block_lt_of_cell? w _ qh0)).trans qh0
         replace qh1 := (HB.out.cell (World.block_lt_of_cell? w _ qh1)).trans qh1
         replace qh2 := (HB.out.cell (World.block_lt_of_cell? w _ qh2)).trans qh2
         replace qf3 := (HB.out.cell (World.block_lt_of_cell? w _ qf3)).trans qf3
         have jm2 := q8.mk qo0
         have jm3 := q8.mk qn9
         clear qo0 qn9
         replace qJ5 := eq_true qJ5
         replace qJ6 := eq_true qJ6
         go_wp2
         go_roundg k2
         case measure => have := HK1.out; have := HK2.out; omega
         case rel => exact ⟨(wrap64 (qb1 + 1)), (by first | rfl | (simp; done) | (simp [*]; done)), H', ⟨by have := HK1.out; have := HK2.out; omega⟩, ⟨by repeat (first | (with_reducible first | exact HB.out | apply qA | apply q9 | apply qB) | exact HB.out)⟩⟩
       ·rw [if_neg c6] at H
        exact absurd H (by simp)
      ·rw [if_neg c5] at H
       exact absurd H (by simp)
   ·rw [if_neg c4] at H
    have qB4 : decide (qb1 < (l0.length : Int)) = false := decide_eq_false c4
    clear c4
    obtain rfl := Option.some.inj H
    go_wp2
    go_ret
    exact ⟨by first | rfl | (simp [jI, jJ] <;> rfl) | (simp [*, jI, jJ] <;> rfl), by repeat (first | (with_reducible first | exact HB.out | apply qA | apply q9 | apply qB) | exact HB.out)⟩
def qd0.f (zB : Bool) (jT : Int) (jQ : Int) : Option (Bool) := if jT < 0 then (some false) else (if jT > 63 then (some false) else (if jQ < 0 then (some false) else (if jQ > 2147483647 then (some false) else (if zB = true then (some (jQ != 0)) else (some true)))))
set_option maxHeartbeats 8000000 in
set_option maxRecDepth 100000 in
theorem qd0.calls (zB : Bool) (jT : Int) (jQ : Int) (r : Bool) (w : World) (h : qd0.f zB jT jQ = some r) :
  Calls Try.prog 83 #[.agg #[.bool zB, .int .i64 jT, .int .i64 jQ]] w fun e w' => e = .returned (.bool r) ∧ Below w.heap.size w w' := by
 have zw0 := Try.underlying51
 have HB := q8.mk (Below.refl w.heap.size w)
 have H : (if jT < 0 then (some false) else (if jT > 63 then (some false) else (if jQ < 0 then (some false) else (if jQ > 2147483647 then (some false) else (if zB = true then (some (jQ != 0)) else (some true)))))) = some r := h
 clear h
 by_cases c2 : jT < 0
 ·rw [if_pos c2] at H
  have zd9 : decide (jT < 0) = true := decide_eq_true c2
  clear c2
  obtain rfl := Option.some.inj H
  go_enter Try.func83, Try.ntmps83
  go_wp2_with (first | ((with_reducible refine qa0 (N := 1) rfl ?_); refine qa7 ?hg (N := 1) ?hd (cs := #[.bool zB, .int .i64 jT, .int .i64 jQ]) (t := 51) ?hr ?_; (case hd => rfl); (case hg => rfl); (case hr => first | (go_simp; done) | (go_simp; rfl)); intro qg0 hg w3 qb5 hb; have n0_ := q8.mk (jM (by repeat (first | (with_reducible first | exact HB.out | apply qA | apply q9 | apply qB) | exact HB.out)) hb); have n1_ := q8.mk (qb5); have n2_ := q8.mk ((by rw [hg]; exact (qM (by repeat (first | (with_reducible first | exact HB.out | apply qA | apply q9 | apply qB) | exact HB.out))) : w.heap.size ≤ qg0)); have n3_ := q8.mk ((by rw [hg]; exact (qM (by repeat (first | (with_reducible first | exact HB.out | apply qA | apply q9 | apply qB) | exact HB.out))) : w.heap.size ≤ qg0)); clear HB; have HB := n0_; have qe6 := n1_; have jV5 := n2_; have qN8 := n3_; clear n0_ n1_ n2_ n3_; clear hb qb5 hg; have Qf4 : w3.cell? ⟨qg0, 0, none⟩ = some (.bool zB) := (qE qe6.out 0).trans rfl; have Qf5 : w3.cell? ⟨qg0, 1, none⟩ = some (.int .i64 jT) := (qE qe6.out 1).trans rfl; have Qf6 : w3.cell? ⟨qg0, 2, none⟩ = some (.int .i64 jQ) := (qE qe6.out 2).trans rfl; have Qf7 := qC qe6.out 0; have Qf8 := qC qe6.out 1; have Qf9 := qC qe6.out 2))
  go_ret
  exact ⟨by first | rfl | (simp [jI, jJ] <;> rfl) | (simp [*, jI, jJ] <;> rfl), by repeat (first | (with_reducible first | exact HB.out | apply qA | apply q9 | apply qB | refine qK ?_ qN8.out) | exact HB.out)⟩
 ·rw [if_neg c2] at H
  have zd9 : decide (jT < 0) = false := decide_eq_false c2
  clear c2
  by_cases c5 : jT > 63
  ·rw [if_pos c5] at H
   have jE1 : decide (63 < jT) = true := decide_eq_true c5
   clear c5
   obtain rfl := Option.some.inj H
   go_enter Try.func83, Try.ntmps83
   go_wp2_with (first | ((with_reducible refine qa0 (N := 1) rfl ?_); refine qa7 ?hg (N := 1) ?hd (cs := #[.bool zB, .int .i64 jT, .int .i64 jQ]) (t := 51) ?hr ?_; (case hd => rfl); (case hg => rfl); (case hr => first | (go_simp; done) | (go_simp; rfl)); intro qg0 hg w6 qb5 hb; have n0_ := q8.mk (jM (by repeat (first | (with_reducible first | exact HB.out | apply qA | apply q9 | apply qB) | exact HB.out)) hb); have n1_ := q8.mk (qb5); have n2_ := q8.mk ((by rw [hg]; exact (qM (by repeat (first | (with_reducible first | exact HB.out | apply qA | apply q9 | apply qB) | exact HB.out))) : w.heap.size ≤ qg0)); have n3_ := q8.mk ((by rw [hg]; exact (qM (by repeat (first | (with_reducible first | exact HB.out | apply qA | apply q9 | apply qB) | exact HB.out))) : w.heap.size ≤ qg0)); clear HB; have HB := n0_; have qe6 := n1_; have jV5 := n2_; have qN8 := n3_; clear n0_ n1_ n2_ n3_; clear hb qb5 hg; have qU3 : w6.cell? ⟨qg0, 0, none⟩ = some (.bool zB) := (qE qe6.out 0).trans rfl; have qU4 : w6.cell? ⟨qg0, 1, none⟩ = some (.int .i64 jT) := (qE qe6.out 1).trans rfl; have qU5 : w6.cell? ⟨qg0, 2, none⟩ = some (.int .i64 jQ) := (qE qe6.out 2).trans rfl; have qU6 := qC qe6.out 0; have qU7 := qC qe6.out 1; have qU8 := qC qe6.out 2))
   go_ret
   exact ⟨by first | rfl | (simp [jI, jJ] <;> rfl) | (simp [*, jI, jJ] <;> rfl), by repeat (first | (with_reducible first | exact HB.out | apply qA | apply q9 | apply qB | refine qK ?_ qN8.out) | exact HB.out)⟩
  ·rw [if_neg c5] at H
   have jE1 : decide (63 < jT) = false := decide_eq_false c5
   clear c5
   by_cases c8 : jQ < 0
   ·rw [if_pos c8] at H
    have qS3 : decide (jQ < 0) = true := decide_eq_true c8
    clear c8
    obtain rfl := Option.some.inj H
    go_enter Try.func83, Try.ntmps83
    go_wp2_with (first | ((with_reducible refine qa0 (N := 1) rfl ?_); refine qa7 ?hg (N := 1) ?hd (cs := #[.bool zB, .int .i64 jT, .int .i64 jQ]) (t := 51) ?hr ?_; (case hd => rfl); (case hg => rfl); (case hr => first | (go_simp; done) | (go_simp; rfl)); intro qg0 hg w9 qb5 hb; have n0_ := q8.mk (jM (by repeat (first | (with_reducible first | exact HB.out | apply qA | apply q9 | apply qB) | exact HB.out)) hb); have n1_ := q8.mk (qb5); have n2_ := q8.mk ((by rw [hg]; exact (qM (by repeat (first | (with_reducible first | exact HB.out | apply qA | apply q9 | apply qB) | exact HB.out))) : w.heap.size ≤ qg0)); have n3_ := q8.mk ((by rw [hg]; exact (qM (by repeat (first | (with_reducible first | exact HB.out | apply qA | apply q9 | apply qB) | exact HB.out))) : w.heap.size ≤ qg0)); clear HB; have HB := n0_; have qe6 := n1_; have jV5 := n2_; have qN8 := n3_; clear n0_ n1_ n2_ n3_; clear hb qb5 hg; have zO7 : w9.cell? ⟨qg0, 0, none⟩ = some (.bool zB) := (qE qe6.out 0).trans rfl; have zO8 : w9.cell? ⟨qg0, 1, none⟩ = some (.int .i64 jT) := (qE qe6.out 1).trans rfl; have zO9 : w9.cell? ⟨qg0, 2, none⟩ = some (.int .i64 jQ) := (qE qe6.out 2).trans rfl; have zP0 := qC qe6.out 0; have zP1 := qC qe6.out 1; have zP2 := qC qe6.out 2))
    go_ret
    exact ⟨by first | rfl | (simp [jI, jJ] <;> rfl) | (simp [*, jI, jJ] <;> rfl), by repeat (first | (with_reducible first | exact HB.out | apply qA | apply q9 | apply qB | refine qK ?_ qN8.out) | exact HB.out)⟩
   ·rw [if_neg c8] at H
    have qS3 : decide (jQ < 0) = false := decide_eq_false c8
    clear c8
    by_cases c11 : jQ > 2147483647
    ·rw [if_pos c11] at H
     have jy5 : decide (2147483647 < jQ) = true := decide_eq_true c11
     clear c11
     obtain rfl := Option.some.inj H
     go_enter Try.func83, Try.ntmps83
     go_wp2_with (first | ((with_reducible refine qa0 (N := 1) rfl ?_); refine qa7 ?hg (N := 1) ?hd (cs := #[.bool zB, .int .i64 jT, .int .i64 jQ]) (t := 51) ?hr ?_; (case hd => rfl); (case hg => rfl); (case hr => first | (go_simp; done) | (go_simp; rfl)); intro qg0 hg w12 qb5 hb; have n0_ := q8.mk (jM (by repeat (first | (with_reducible first | exact HB.out | apply qA | apply q9 | apply qB) | exact HB.out)) hb); have n1_ := q8.mk (qb5); have n2_ := q8.mk ((by rw [hg]; exact (qM (by repeat (first | (with_reducible first | exact HB.out | apply qA | apply q9 | apply qB) | exact HB.out))) : w.heap.size ≤ qg0)); have n3_ := q8.mk ((by rw [hg]; exact (qM (by repeat (first | (with_reducible first | exact HB.out | apply qA | apply q9 | apply qB) | exact HB.out))) : w.heap.size ≤ qg0)); clear HB; have HB := n0_; have qe6 := n1_; have jV5 := n2_; have qN8 := n3_; clear n0_ n1_ n2_ n3_; clear hb qb5 hg; have qI6 : w12.cell? ⟨qg0, 0, none⟩ = some (.bool zB) := (qE qe6.out 0).trans rfl; have qI7 : w12.cell? ⟨qg0, 1, none⟩ = some (.int .i64 jT) := (qE qe6.out 1).trans rfl; have qI8 : w12.cell? ⟨qg0, 2, none⟩ = some (.int .i64 jQ) := (qE qe6.out 2).trans rfl; have qI9 := qC qe6.out 0; have qJ0 := qC qe6.out 1; have qJ1 := qC qe6.out 2))
     go_ret
     exact ⟨by first | rfl | (simp [jI, jJ] <;> rfl) | (simp [*, jI, jJ] <;> rfl), by repeat (first | (with_reducible first | exact HB.out | apply qA | apply q9 | apply qB | refine qK ?_ qN8.out) | exact HB.out)⟩
    ·rw [if_neg c11] at H
     have jy5 : decide (2147483647 < jQ) = false := decide_eq_false c11
     clear c11
     by_cases c14 : zB = true
     ·subst c14
      have H1 : (some (jQ != 0)) = some r := by rw [if_pos rfl] at H; exact H
      clear H
      have H := H1
      clear H1
      obtain rfl := Option.some.inj H
      go_enter Try.func83, Try.ntmps83
      go_wp2_with (first | ((with_reducible refine qa0 (N := 1) rfl ?_); refine qa7 ?hg (N := 1) ?hd (cs := #[.bool true, .int .i64 jT, .int .i64 jQ]) (t := 51) ?hr ?_; (case hd => rfl); (case hg => rfl); (case hr => first | (go_simp; done) | (go_simp; rfl)); intro qg0 hg w15 qb5 hb; have n0_ := q8.mk (jM (by repeat (first | (with_reducible first | exact HB.out | apply qA | apply q9 | apply qB) | exact HB.out)) hb); have n1_ := q8.mk (qb5); have n2_ := q8.mk ((by rw [hg]; exact (qM (by repeat (first | (with_reducible first | exact HB.out | apply qA | apply q9 | apply qB) | exact HB.out))) : w.heap.size ≤ qg0)); have n3_ := q8.mk ((by rw [hg]; exact (qM (by repeat (first | (with_reducible first | exact HB.out | apply qA | apply q9 | apply qB) | exact HB.out))) : w.heap.size ≤ qg0)); clear HB; have HB := n0_; have qe6 := n1_; have jV5 := n2_; have qN8 := n3_; clear n0_ n1_ n2_ n3_; clear hb qb5 hg; have qD2 : w15.cell? ⟨qg0, 0, none⟩ = some (.bool true) := (qE qe6.out 0).trans rfl; have qD3 : w15.cell? ⟨qg0, 1, none⟩ = some (.int .i64 jT) := (qE qe6.out 1).trans rfl; have qD4 : w15.cell? ⟨qg0, 2, none⟩ = some (.int .i64 jQ) := (qE qe6.out 2).trans rfl; have qD5 := qC qe6.out 0; have qD6 := qC qe6.out 1; have qD7 := qC qe6.out 2))
      go_ret
      exact ⟨by first | rfl | (simp [jI, jJ] <;> rfl) | (simp [*, jI, jJ] <;> rfl), by repeat (first | (with_reducible first | exact HB.out | apply qA | apply q9 | apply qB | refine qK ?_ qN8.out) | exact HB.out)⟩
     ·replace c14 := Bool.eq_false_iff.mpr c14
      subst c14
      have H1 : (some true) = some r := by rw [if_neg (show ¬ (false = true) by decide)] at H; exact H
      clear H
      have H := H1
      clear H1
      obtain rfl := Option.some.inj H
      go_enter Try.func83, Try.ntmps83
      go_wp2_with (first | ((with_reducible refine qa0 (N := 1) rfl ?_); refine qa7 ?hg (N := 1) ?hd (cs := #[.bool false, .int .i64 jT, .int .i64 jQ]) (t := 51) ?hr ?_; (case hd => rfl); (case hg => rfl); (case hr => first | (go_simp; done) | (go_simp; rfl)); intro qg0 hg w17 qb5 hb; have n0_ := q8.mk (jM (by repeat (first | (with_reducible first | exact HB.out | apply qA | apply q9 | apply qB) | exact HB.out)) hb); have n1_ := q8.mk (qb5); have n2_ := q8.mk ((by rw [hg]; exact (qM (by repeat (first | (with_reducible first | exact HB.out | apply qA | apply q9 | apply qB) | exact HB.out))) : w.heap.size ≤ qg0)); have n3_ := q8.mk ((by rw [hg]; exact (qM (by repeat (first | (with_reducible first | exact HB.out | apply qA | apply q9 | apply qB) | exact HB.out))) : w.heap.size ≤ qg0)); clear HB; have HB := n0_; have qe6 := n1_; have jV5 := n2_; have qN8 := n3_; clear n0_ n1_ n2_ n3_; clear hb qb5 hg; have jl6 : w17.cell? ⟨qg0, 0, none⟩ = some (.bool false) := (qE qe6.out 0).trans rfl; have jl7 : w17.cell? ⟨qg0, 1, none⟩ = some (.int .i64 jT) := (qE qe6.out 1).trans rfl; have jl8 : w17.cell? ⟨qg0, 2, none⟩ = some (.int .i64 jQ) := (qE qe6.out 2).trans rfl; have jl9 := qC qe6.out 0; have jm0 := qC qe6.out 1; have jm1 := qC qe6.out 2))
      go_ret
      exact ⟨by first | rfl | (simp [jI, jJ] <;> rfl) | (simp [*, jI, jJ] <;> rfl), by repeat (first | (with_reducible first | exact HB.out | apply qA | apply q9 | apply qB | refine qK ?_ qN8.out) | exact HB.out)⟩
end Go.Proofs.Ytngkneknopenmaa.K
end
section
namespace Go.Proofs.Ytngkneknopenmaa.K
open Go.Proofs.Ytngkneknopenmaa
open Go.RowKit Go.Proofs.YtngkneknopenmaaW.jH Go.Proofs.YtngkneknopenmaaW.qh6 Go.Proofs.YtngkneknopenmaaW.qk1
attribute [local go_sem] qq1 qq2 qv6 qv7 qm9 qn0 qq3 qq4   -- for this text's walks alone
set_option linter.unusedVariables false
set_option linter.unusedSimpArgs false
mutual
def qN.j0 : Nat → Bool → Int → Int → Int → List (S51) → Option (Bool)
 | 0, _, _, _, _, _ => none
 | k + 1, x40, x110000, x110001, x110002, x110003 => if x40 = true then (some false) else (qN.l0 k 0 x110000 x110001 x110002 x110003)
def qN.l0 : Nat → Int → Int → Int → Int → List (S51) → Option (Bool)
 | 0, _, _, _, _, _ => none
 | k + 1, x3, x110000, x110001, x110002, x110003 => if x3 < (x110003.length : Int) then (if 0 ≤ x3 then ((qd0.f ((qG x110003 x3).f0) ((qG x110003 x3).f1) ((qG x110003 x3).f2)).bind fun t111 => (if t111 = true then (qN.l0 k (wrap64 (x3 + 1)) x110000 x110001 x110002 x110003) else (some false))) else (none)) else (some true)
end
def qN.f (k : Nat) (zB : Int) (jT : Int) (jQ : Int) (jN : List (S51)) : Option (Bool) := if zB < 0 then (qN.j0 k true zB jT jQ jN) else (if zB > 63 then (qN.j0 k true zB jT jQ jN) else (if jT < 0 then (qN.j0 k true zB jT jQ jN) else (if jT ≥ jQ then (qN.j0 k true zB jT jQ jN) else (if jQ > 2147483647 then (qN.j0 k true zB jT jQ jN) else (if (jN.length : Int) < 1 then (qN.j0 k true zB jT jQ jN) else (qN.j0 k (decide ((jN.length : Int) > 64)) zB jT jQ jN))))))
set_option maxHeartbeats 8000000 in
set_option maxRecDepth 100000 in
theorem qN.calls (k : Nat) (zB : Int) (jT : Int) (jQ : Int) (qu0 : Option Addr) (ql8 : Nat) (jN : List (S51)) (r : Bool) (w : World) (jV1 : Kd.C k51 w qu0 jN.length jN) (jV2 : jN.length ≤ ql8) (h : qN.f k zB jT jQ jN = some r) :
  Calls Try.prog 64 #[.agg #[.int .i64 zB, .int .i64 jT, .int .i64 jQ, .slice qu0 jN.length ql8]] w fun e w' => e = .returned (.bool r) ∧ Below w.heap.size w w' := by
 have zG2 := Try.underlying55
 have zw0 := Try.underlying51
 have jV3 := q8.mk jV1
 have Qp4 := q8.mk jV2
 clear jV1 jV2
 have HB := q8.mk (Below.refl w.heap.size w)
 have H : (if zB < 0 then (qN.j0 k true zB jT jQ jN) else (if zB > 63 then (qN.j0 k true zB jT jQ jN) else (if jT < 0 then (qN.j0 k true zB jT jQ jN) else (if jT ≥ jQ then (qN.j0 k true zB jT jQ jN) else (if jQ > 2147483647 then (qN.j0 k true zB jT jQ jN) else (if (jN.length : Int) < 1 then (qN.j0 k true zB jT jQ jN) else (qN.j0 k (decide ((jN.length : Int) > 64)) zB jT jQ jN))))))) = some r := h
 clear h
 have HC2 := q8.mk H
 clear H
 go_enter Try.func64, Try.ntmps64
 go_upto_region 1 with (first | ((with_reducible refine qa0 (N := 1) rfl ?_); (try (refine qI5 (by rfl) ?_; dsimp only)); refine qa7 ?hg (N := 1) ?hd (cs := #[.int .i64 zB, .int .i64 jT, .int .i64 jQ, .slice qu0 jN.length ql8]) (t := 55) ?hr ?_; (case hd => rfl); (case hg => rfl); (case hr => first | (go_simp; done) | (go_simp; rfl)); intro qd1 hg w3 qb5 hb; have n0_ := q8.mk (jM (by repeat (first | (with_reducible first | exact HB.out | apply qA | apply q9 | apply qB) | exact HB.out)) hb); have n1_ := q8.mk (qb5); have n2_ := q8.mk ((by rw [hg]; exact (qM (by repeat (first | (with_reducible first | exact HB.out | apply qA | apply q9 | apply qB) | exact HB.out))) : w.heap.size ≤ qd1)); have n3_ := q8.mk ((by rw [hg]; exact (qM (by repeat (first | (with_reducible first | exact HB.out | apply qA | apply q9 | apply qB) | exact HB.out))) : w.heap.size ≤ qd1)); clear HB; have HB := n0_; have jU := n1_; have GW109 := n2_; have qD8 := n3_; clear n0_ n1_ n2_ n3_; clear hb qb5 hg))
 (try simp only [Act.put, List.setIfInBounds_toArray, List.set_cons_zero, List.set_cons_succ])
 go_cut [40] (fun v40 wc => ∃ (kq : Nat) (zl0 : Bool), v40 = .bool zl0 ∧ q8 (qN.j0 kq zl0 zB jT jQ jN = some r) ∧ q8 (kq ≤ k) ∧ q8 (wc.heap[qd1]? = some (.cells #[.int .i64 zB, .int .i64 jT, .int .i64 jQ, (.slice qu0 jN.length ql8)] 55 (0, 0))) ∧ q8 (Below w.heap.size w wc))
 case first =>
  have H := HC2.out
  clear HC2
  by_cases c4 : zB < 0
  ·rw [if_pos c4] at H
   have qB4 : decide (zB < 0) = true := decide_eq_true c4
   clear c4
   (first | rw [qB4] | (simp only [qa1, qa3]; rw [qB4]) | skip)
   have H' := q8.mk H
   clear H
   have js4 : w3.cell? ⟨qd1, 0, none⟩ = some (.int .i64 zB) := (qE jU.out 0).trans rfl
   have js5 : w3.cell? ⟨qd1, 1, none⟩ = some (.int .i64 jT) := (qE jU.out 1).trans rfl
   have js6 : w3.cell? ⟨qd1, 2, none⟩ = some (.int .i64 jQ) := (qE jU.out 2).trans rfl
   have js7 : w3.cell? ⟨qd1, 3, none⟩ = some (.slice qu0 jN.length ql8) := (qE jU.out 3).trans rfl
   have js8 := qC jU.out 0
   have js9 := qC jU.out 1
   have jt0 := qC jU.out 2
   have jt1 := qC jU.out 3
   go_wp2
   go_meet
   case rel => exact ⟨_, (true), (by first | rfl | (simp; done) | (simp [*]; done)), H', ⟨by first | omega | exact Nat.le_refl _⟩, ⟨by (with_reducible repeat (first | refine qI ?_ _ | refine qR ?_ | refine qJ ?_ _)); exact jU.out⟩, ⟨by repeat (first | (with_reducible first | exact HB.out | apply qA | apply q9 | apply qB | refine qK ?_ qD8.out) | exact HB.out)⟩⟩
  ·rw [if_neg c4] at H
   have qB4 : decide (zB < 0) = false := decide_eq_false c4
   clear c4
   (first | rw [qB4] | (simp only [qa1, qa3]; rw [qB4]) | skip)
   by_cases c6 : zB > 63
   ·rw [if_pos c6] at H
    have ji8 : decide (63 < zB) = true := decide_eq_true c6
    clear c6
    have H' := q8.mk H
    clear H
    have qU3 : w3.cell? ⟨qd1, 0, none⟩ = some (.int .i64 zB) := (qE jU.out 0).trans rfl
    have qU4 : w3.cell? ⟨qd1, 1, none⟩ = some (.int .i64 jT) := (qE jU.out 1).trans rfl
    have qU5 : w3.cell? ⟨qd1, 2, none⟩ = some (.int .i64 jQ) := (qE jU.out 2).trans rfl
    have jt2 : w3.cell? ⟨qd1, 3, none⟩ = some (.slice qu0 jN.length ql8) := (qE jU.out 3).trans rfl
    have qU6 := qC jU.out 0
    have qU7 := qC jU.out 1
    have qU8 := qC jU.out 2
    have jt3 := qC jU.out 3
    go_wp2
    go_meet
    case rel => exact ⟨_, (true), (by first | rfl | (simp; done) | (simp [*]; done)), H', ⟨by first | omega | exact Nat.le_refl _⟩, ⟨by (with_reducible repeat (first | refine qI ?_ _ | refine qR ?_ | refine qJ ?_ _)); exact jU.out⟩, ⟨by repeat (first | (with_reducible first | exact HB.out | apply qA | apply q9 | apply qB | refine qK ?_ qD8.out) | exact HB.out)⟩⟩
   ·rw [if_neg c6] at H
    have ji8 : decide (63 < zB) = false := decide_eq_false c6
    clear c6
    by_cases c8 : jT < 0
    ·rw [if_pos c8] at H
     have qS3 : decide (jT < 0) = true := decide_eq_true c8
     clear c8
     have H' := q8.mk H
     clear H
     have jt4 : w3.cell? ⟨qd1, 0, none⟩ = some (.int .i64 zB) := (qE jU.out 0).trans rfl
     have jt5 : w3.cell? ⟨qd1, 1, none⟩ = some (.int .i64 jT) := (qE jU.out 1).trans rfl
     have jt6 : w3.cell? ⟨qd1, 2, none⟩ = some (.int .i64 jQ) := (qE jU.out 2).trans rfl
     have jt7 : w3.cell? ⟨qd1, 3, none⟩ = some (.slice qu0 jN.length ql8) := (qE jU.out 3).trans rfl
     have jt8 := qC jU.out 0
     have jt9 := qC jU.out 1
     have ju0 := qC jU.out 2
     have ju1 := qC jU.out 3
     go_wp2
     go_meet
     case rel => exact ⟨_, (true), (by first | rfl | (simp; done) | (simp [*]; done)), H', ⟨by first | omega | exact Nat.le_refl _⟩, ⟨by (with_reducible repeat (first | refine qI ?_ _ | refine qR ?_ | refine qJ ?_ _)); exact jU.out⟩, ⟨by repeat (first | (with_reducible first | exact HB.out | apply qA | apply q9 | apply qB | refine qK ?_ qD8.out) | exact HB.out)⟩⟩
    ·rw [if_neg c8] at H
     have qS3 : decide (jT < 0) = false := decide_eq_false c8
     clear c8
     by_cases c10 : jT ≥ jQ
     ·rw [if_pos c10] at H
      have qL9 : decide (jQ ≤ jT) = true := decide_eq_true c10
      clear c10
      have H' := q8.mk H
      clear H
      have jb2 : w3.cell? ⟨qd1, 0, none⟩ = some (.int .i64 zB) := (qE jU.out 0).trans rfl
      have jb3 : w3.cell? ⟨qd1, 1, none⟩ = some (.int .i64 jT) := (qE jU.out 1).trans rfl
      have jb4 : w3.cell? ⟨qd1, 2, none⟩ = some (.int .i64 jQ) := (qE jU.out 2).trans rfl
      have jb5 : w3.cell? ⟨qd1, 3, none⟩ = some (.slice qu0 jN.length ql8) := (qE jU.out 3).trans rfl
      have jb6 := qC jU.out 0
      have jb7 := qC jU.out 1
      have jb8 := qC jU.out 2
      have jb9 := qC jU.out 3
      go_wp2
      go_meet
      case rel => exact ⟨_, (true), (by first | rfl | (simp; done) | (simp [*]; done)), H', ⟨by first | omega | exact Nat.le_refl _⟩, ⟨by (with_reducible repeat (first | refine qI ?_ _ | refine qR ?_ | refine qJ ?_ _)); exact jU.out⟩, ⟨by repeat (first | (with_reducible first | exact HB.out | apply qA | apply q9 | apply qB | refine qK ?_ qD8.out) | exact HB.out)⟩⟩
     ·rw [if_neg c10] at H
      have qL9 : decide (jQ ≤ jT) = false := decide_eq_false c10
      clear c10
      by_cases c12 : jQ > 2147483647
      ·rw [if_pos c12] at H
       have qE7 : decide (2147483647 < jQ) = true := decide_eq_true c12
       clear c12
       have H' := q8.mk H
       clear H
       have qI6 : w3.cell? ⟨qd1, 0, none⟩ = some (.int .i64 zB) := (qE jU.out 0).trans rfl
       have qI7 : w3.cell? ⟨qd1, 1, none⟩ = some (.int .i64 jT) := (qE jU.out 1).trans rfl
       have qI8 : w3.cell? ⟨qd1, 2, none⟩ = some (.int .i64 jQ) := (qE jU.out 2).trans rfl
       have jc0 : w3.cell? ⟨qd1, 3, none⟩ = some (.slice qu0 jN.length ql8) := (qE jU.out 3).trans rfl
       have qI9 := qC jU.out 0
       have qJ0 := qC jU.out 1
       have qJ1 := qC jU.out 2
       have jc1 := qC jU.out 3
       go_wp2
       go_meet
       case rel => exact ⟨_, (true), (by first | rfl | (simp; done) | (simp [*]; done)), H', ⟨by first | omega | exact Nat.le_refl _⟩, ⟨by (with_reducible repeat (first | refine qI ?_ _ | refine qR ?_ | refine qJ ?_ _)); exact jU.out⟩, ⟨by repeat (first | (with_reducible first | exact HB.out | apply qA | apply q9 | apply qB | refine qK ?_ qD8.out) | exact HB.out)⟩⟩
      ·rw [if_neg c12] at H
       have qE7 : decide (2147483647 < jQ) = false := decide_eq_false c12
       clear c12
       by_cases c14 : (jN.length : Int) < 1
       ·rw [if_pos c14] at H
        have qW4 : decide ((jN.length : Int) < 1) = true := decide_eq_true c14
        have ju2 : decide (jN.length < 1) = true := decide_eq_true (by omega)
        clear c14
        have H' := q8.mk H
        clear H
        have jc2 : w3.cell? ⟨qd1, 0, none⟩ = some (.int .i64 zB) := (qE jU.out 0).trans rfl
        have jc3 : w3.cell? ⟨qd1, 1, none⟩ = some (.int .i64 jT) := (qE jU.out 1).trans rfl
        have jc4 : w3.cell? ⟨qd1, 2, none⟩ = some (.int .i64 jQ) := (qE jU.out 2).trans rfl
        have jc5 : w3.cell? ⟨qd1, 3, none⟩ = some (.slice qu0 jN.length ql8) := (qE jU.out 3).trans rfl
        have jc6 := qC jU.out 0
        have jc7 := qC jU.out 1
        have jc8 := qC jU.out 2
        have jc9 := qC jU.out 3
        go_wp2
        go_meet
        case rel => exact ⟨_, (true), (by first | rfl | (simp; done) | (simp [*]; done)), H', ⟨by first | omega | exact Nat.le_refl _⟩, ⟨by (with_reducible repeat (first | refine qI ?_ _ | refine qR ?_ | refine qJ ?_ _)); exact jU.out⟩, ⟨by repeat (first | (with_reducible first | exact HB.out | apply qA | apply q9 | apply qB | refine qK ?_ qD8.out) | exact HB.out)⟩⟩
       ·rw [if_neg c14] at H
        have qW4 : decide ((jN.length : Int) < 1) = false := decide_eq_false c14
        have ju2 : decide (jN.length < 1) = false := decide_eq_false (by omega)
        clear c14
        have H' := q8.mk H
        clear H
        have qD2 : w3.cell? ⟨qd1, 0, none⟩ = some (.int .i64 zB) := (qE jU.out 0).trans rfl
        have qD3 : w3.cell? ⟨qd1, 1, none⟩ = some (.int .i64 jT) := (qE jU.out 1).trans rfl
        have qD4 : w3.cell? ⟨qd1, 2, none⟩ = some (.int .i64 jQ) := (qE jU.out 2).trans rfl
        have jd0 : w3.cell? ⟨qd1, 3, none⟩ = some (.slice qu0 jN.length ql8) := (qE jU.out 3).trans rfl
        have qD5 := qC jU.out 0
        have qD6 := qC jU.out 1
        have qD7 := qC jU.out 2
        have jd1 := qC jU.out 3
        go_wp2
        go_meet
        case rel => exact ⟨_, (decide ((jN.length : Int) > 64)), (by first | rfl | (simp; done) | (simp [*]; done)), H', ⟨by first | omega | exact Nat.le_refl _⟩, ⟨by (with_reducible repeat (first | refine qI ?_ _ | refine qR ?_ | refine qJ ?_ _)); exact jU.out⟩, ⟨by repeat (first | (with_reducible first | exact HB.out | apply qA | apply q9 | apply qB | refine qK ?_ qD8.out) | exact HB.out)⟩⟩
 case rest =>
  clear HC2
  try clear c1
  try clear p2
  try clear c4
  try clear qB4
  try clear c6
  try clear ji8
  try clear c8
  try clear qS3
  try clear c10
  try clear qL9
  try clear c12
  try clear qE7
  try clear c14
  try clear qW4
  try clear ju2
  try clear jb2
  try clear jb3
  try clear jb4
  try clear jb5
  try clear qI6
  try clear qI7
  try clear qI8
  try clear jc0
  try clear jc2
  try clear jc3
  try clear jc4
  try clear jc5
  try clear qD2
  try clear qD3
  try clear qD4
  try clear jd0
  try clear js4
  try clear js5
  try clear js6
  try clear js7
  try clear qU3
  try clear qU4
  try clear qU5
  try clear jt2
  try clear jt4
  try clear jt5
  try clear jt6
  try clear jt7
  try clear jb6
  try clear jb7
  try clear jb8
  try clear jb9
  try clear qI9
  try clear qJ0
  try clear qJ1
  try clear jc1
  try clear jc6
  try clear jc7
  try clear jc8
  try clear jc9
  try clear qD5
  try clear qD6
  try clear qD7
  try clear jd1
  try clear js8
  try clear js9
  try clear jt0
  try clear jt1
  try clear qU6
  try clear qU7
  try clear qU8
  try clear jt3
  try clear jt8
  try clear jt9
  try clear ju0
  try clear ju1
  obtain ⟨kq, zl0, rfl, HA, HJ1, jU, HB⟩ := hcut
  cases kq with
  | zero => exact absurd HA.out (by simp [qN.j0])
  | succ kj1 =>
   have H := HA.out
   clear HA
   simp only [qN.j0] at H
   by_cases c17 : zl0 = true
   ·subst c17
    have H1 : (some false) = some r := by rw [if_pos rfl] at H; exact H
    clear H
    have H := H1
    clear H1
    obtain rfl := Option.some.inj H
    go_wp2
    go_ret
    exact ⟨by first | rfl | (simp [jI, jJ] <;> rfl) | (simp [*, jI, jJ] <;> rfl), by repeat (first | (with_reducible first | exact HB.out | apply qA | apply q9 | apply qB | refine qK ?_ qD8.out) | exact HB.out)⟩
   ·replace c17 := Bool.eq_false_iff.mpr c17
    subst c17
    have H1 : (qN.l0 kj1 0 zB jT jQ jN) = some r := by rw [if_neg (show ¬ (false = true) by decide)] at H; exact H
    clear H
    have H := H1
    clear H1
    have H' := q8.mk H
    clear H
    go_wp2
    go_loopg [3] kj1 (fun kq v3 w' => ∃ (qu4 : Int), v3 = .int .i64 qu4 ∧ q8 (qN.l0 kq qu4 zB jT jQ jN = some r) ∧ q8 (kq ≤ kj1) ∧ q8 (w'.heap[qd1]? = some (.cells #[.int .i64 zB, .int .i64 jT, .int .i64 jQ, (.slice qu0 jN.length ql8)] 55 (0, 0))) ∧ q8 (Below w.heap.size w w'))
    case atStart => exact ⟨(0), (by first | rfl | (simp; done) | (simp [*]; done)), H', ⟨Nat.le_refl _⟩, ⟨by (with_reducible repeat (first | refine qI ?_ _ | refine qR ?_ | refine qJ ?_ _)); exact jU.out⟩, ⟨by repeat (first | (with_reducible first | exact HB.out | apply qA | apply q9 | apply qB | refine qK ?_ qD8.out) | exact HB.out)⟩⟩
    case round =>
     clear H'
     try clear c1
     try clear p2
     try clear c4
     try clear qB4
     try clear c6
     try clear ji8
     try clear c8
     try clear qS3
     try clear c10
     try clear qL9
     try clear c12
     try clear qE7
     try clear c14
     try clear qW4
     try clear ju2
     try clear c17
     try clear jb2
     try clear jb3
     try clear jb4
     try clear jb5
     try clear qI6
     try clear qI7
     try clear qI8
     try clear jc0
     try clear jc2
     try clear jc3
     try clear jc4
     try clear jc5
     try clear qD2
     try clear qD3
     try clear qD4
     try clear jd0
     try clear js4
     try clear js5
     try clear js6
     try clear js7
     try clear qU3
     try clear qU4
     try clear qU5
     try clear jt2
     try clear jt4
     try clear jt5
     try clear jt6
     try clear jt7
     try clear jb6
     try clear jb7
     try clear jb8
     try clear jb9
     try clear qI9
     try clear qJ0
     try clear qJ1
     try clear jc1
     try clear jc6
     try clear jc7
     try clear jc8
     try clear jc9
     try clear qD5
     try clear qD6
     try clear qD7
     try clear jd1
     try clear js8
     try clear js9
     try clear jt0
     try clear jt1
     try clear qU6
     try clear qU7
     try clear qU8
     try clear jt3
     try clear jt8
     try clear jt9
     try clear ju0
     try clear ju1
     try clear p2
     obtain ⟨qu4, rfl, HA, HK2, jU, HB⟩ := hrel
     cases gk with
     | zero => exact absurd HA.out (by simp [qN.l0])
     | succ k2 =>
      have H := HA.out
      clear HA
      simp only [qN.l0] at H
      by_cases c18 : qu4 < (jN.length : Int)
      ·rw [if_pos c18] at H
       have zS7 : decide (qu4 < (jN.length : Int)) = true := decide_eq_true c18
       clear c18
       by_cases c19 : 0 ≤ qu4
       ·rw [if_pos c19] at H
        have zW0 : decide (0 ≤ qu4) = true := decide_eq_true c19
        clear c19
        replace H := Option.bind_eq_some_iff.mp H
        obtain ⟨t111, A200, H⟩ := H
        replace H : (if t111 = true then (qN.l0 k2 (wrap64 (qu4 + 1)) zB jT jQ jN) else (some false)) = some r := H
        have A20 := q8.mk A200
        clear A200
        by_cases c21 : t111 = true
        ·subst c21
         have H1 : (qN.l0 k2 (wrap64 (qu4 + 1)) zB jT jQ jN) = some r := by rw [if_pos rfl] at H; exact H
         clear H
         have H := H1
         clear H1
         have H' := q8.mk H
         clear H
         have QD7 : wr.cell? ⟨qd1, 0, none⟩ = some (.int .i64 zB) := (qE jU.out 0).trans rfl
         have QD8 : wr.cell? ⟨qd1, 1, none⟩ = some (.int .i64 jT) := (qE jU.out 1).trans rfl
         have QD9 : wr.cell? ⟨qd1, 2, none⟩ = some (.int .i64 jQ) := (qE jU.out 2).trans rfl
         have QE0 : wr.cell? ⟨qd1, 3, none⟩ = some (.slice qu0 jN.length ql8) := (qE jU.out 3).trans rfl
         have QE1 := qC jU.out 0
         have QE2 := qC jU.out 1
         have QE3 := qC jU.out 2
         have QE4 := qC jU.out 3
         have ze6 : 0 ≤ (qu4 : Int) := of_decide_eq_true (by first | (with_reducible assumption) | assumption)
         have ze7 : qu4 < (jN.length : Int) := of_decide_eq_true (by first | (with_reducible assumption) | assumption)
         obtain ⟨zE1, Qg5, qJ8, qJ9, qK0⟩ := qr2 jV3.out qu4 ze6 ze7
         cases Qg5
         replace qJ8 := (HB.out.cell (World.block_lt_of_cell? w _ qJ8)).trans qJ8
         replace qJ9 := (HB.out.cell (World.block_lt_of_cell? w _ qJ9)).trans qJ9
         replace qK0 := (HB.out.cell (World.block_lt_of_cell? w _ qK0)).trans qK0
         replace ze6 := eq_true ze6
         replace ze7 := eq_true ze7
         go_wp2_with (first | ((with_reducible refine qj0 (f := 83) rfl ?_); refine qH3 (some 53) rfl rfl Try.func83 (by kernel_rfl) rfl #[.agg #[.bool ((qG jN qu4).f0), .int .i64 ((qG jN qu4).f1), .int .i64 ((qG jN qu4).f2)]] rfl (by (try simp only [List.map_toArray, List.map_cons, List.map_nil]); first | done | rfl | (simp only [List.length_drop, List.length_take]; rfl)) ?_; (with_reducible refine (qd0.calls ((qG jN qu4).f0) ((qG jN qu4).f1) ((qG jN qu4).f2) true _ A20.out).mono ?_); rintro e w23 ⟨rfl, hb⟩; refine ⟨_, rfl, ?_⟩; have n0_ := q8.mk (qn1 (g := qd1) (o := .cells #[.int .i64 zB, .int .i64 jT, .int .i64 jQ, .slice (some zE1) jN.length ql8] 55 (0, 0)) (by (with_reducible repeat (first | refine qI ?_ _ | refine qR ?_ | refine qJ ?_ _)); exact jU.out) hb); have n1_ := q8.mk (jM (by repeat (first | (with_reducible first | exact HB.out | apply qA | apply q9 | apply qB | refine qK ?_ qD8.out) | exact HB.out)) hb); clear jU; clear HB; have jU := n0_; have HB := n1_; clear n0_ n1_; (try clear hb); (try clear hb2); (try clear hk); (try clear hi)))
         go_roundg k2
         case measure => have := HJ1.out; have := HK2.out; omega
         case rel => exact ⟨(wrap64 (qu4 + 1)), (by first | rfl | (simp; done) | (simp [*]; done)), H', ⟨by have := HJ1.out; have := HK2.out; omega⟩, ⟨by (with_reducible repeat (first | refine qI ?_ _ | refine qR ?_ | refine qJ ?_ _)); exact jU.out⟩, ⟨by repeat (first | (with_reducible first | exact HB.out | apply qA | apply q9 | apply qB | refine qK ?_ qD8.out) | exact HB.out)⟩⟩
        ·replace c21 := Bool.eq_false_iff.mpr c21
         subst c21
         have H1 : (some false) = some r := by rw [if_neg (show ¬ (false = true) by decide)] at H; exact H
         clear H
         have H := H1
         clear H1
         obtain rfl := Option.some.inj H
         have QE5 : wr.cell? ⟨qd1, 0, none⟩ = some (.int .i64 zB) := (qE jU.out 0).trans rfl
         have QE6 : wr.cell? ⟨qd1, 1, none⟩ = some (.int .i64 jT) := (qE jU.out 1).trans rfl
         have QE7 : wr.cell? ⟨qd1, 2, none⟩ = some (.int .i64 jQ) := (qE jU.out 2).trans rfl
         have QE8 : wr.cell? ⟨qd1, 3, none⟩ = some (.slice qu0 jN.length ql8) := (qE jU.out 3).trans rfl
         have QE9 := qC jU.out 0
         have QF0 := qC jU.out 1
         have QF1 := qC jU.out 2
         have QF2 := qC jU.out 3
         have ze6 : 0 ≤ (qu4 : Int) := of_decide_eq_true (by first | (with_reducible assumption) | assumption)
         have ze7 : qu4 < (jN.length : Int) := of_decide_eq_true (by first | (with_reducible assumption) | assumption)
         obtain ⟨zE1, Qg5, qJ8, qJ9, qK0⟩ := qr2 jV3.out qu4 ze6 ze7
         cases Qg5
         replace qJ8 := (HB.out.cell (World.block_lt_of_cell? w _ qJ8)).trans qJ8
         replace qJ9 := (HB.out.cell (World.block_lt_of_cell? w _ qJ9)).trans qJ9
         replace qK0 := (HB.out.cell (World.block_lt_of_cell? w _ qK0)).trans qK0
         replace ze6 := eq_true ze6
         replace ze7 := eq_true ze7
         go_wp2_with (first | ((with_reducible refine qj0 (f := 83) rfl ?_); refine qH3 (some 53) rfl rfl Try.func83 (by kernel_rfl) rfl #[.agg #[.bool ((qG jN qu4).f0), .int .i64 ((qG jN qu4).f1), .int .i64 ((qG jN qu4).f2)]] rfl (by (try simp only [List.map_toArray, List.map_cons, List.map_nil]); first | done | rfl | (simp only [List.length_drop, List.length_take]; rfl)) ?_; (with_reducible refine (qd0.calls ((qG jN qu4).f0) ((qG jN qu4).f1) ((qG jN qu4).f2) false _ A20.out).mono ?_); rintro e w25 ⟨rfl, hb⟩; refine ⟨_, rfl, ?_⟩; have n0_ := q8.mk (qn1 (g := qd1) (o := .cells #[.int .i64 zB, .int .i64 jT, .int .i64 jQ, .slice (some zE1) jN.length ql8] 55 (0, 0)) (by (with_reducible repeat (first | refine qI ?_ _ | refine qR ?_ | refine qJ ?_ _)); exact jU.out) hb); have n1_ := q8.mk (jM (by repeat (first | (with_reducible first | exact HB.out | apply qA | apply q9 | apply qB | refine qK ?_ qD8.out) | exact HB.out)) hb); clear jU; clear HB; have jU := n0_; have HB := n1_; clear n0_ n1_; (try clear hb); (try clear hb2); (try clear hk); (try clear hi)))
         go_ret
         exact ⟨by first | rfl | (simp [jI, jJ] <;> rfl) | (simp [*, jI, jJ] <;> rfl), by repeat (first | (with_reducible first | exact HB.out | apply qA | apply q9 | apply qB | refine qK ?_ qD8.out) | exact HB.out)⟩
       ·rw [if_neg c19] at H
        exact absurd H (by simp)
      ·rw [if_neg c18] at H
       have zS7 : decide (qu4 < (jN.length : Int)) = false := decide_eq_false c18
       clear c18
       obtain rfl := Option.some.inj H
       have zP5 : wr.cell? ⟨qd1, 0, none⟩ = some (.int .i64 zB) := (qE jU.out 0).trans rfl
       have zP6 : wr.cell? ⟨qd1, 1, none⟩ = some (.int .i64 jT) := (qE jU.out 1).trans rfl
       have zP7 : wr.cell? ⟨qd1, 2, none⟩ = some (.int .i64 jQ) := (qE jU.out 2).trans rfl
       have QF3 : wr.cell? ⟨qd1, 3, none⟩ = some (.slice qu0 jN.length ql8) := (qE jU.out 3).trans rfl
       have zP8 := qC jU.out 0
       have zP9 := qC jU.out 1
       have zQ0 := qC jU.out 2
       have QF4 := qC jU.out 3
       go_wp2
       go_ret
       exact ⟨by first | rfl | (simp [jI, jJ] <;> rfl) | (simp [*, jI, jJ] <;> rfl), by repeat (first | (with_reducible first | exact HB.out | apply qA | apply q9 | apply qB | refine qK ?_ qD8.out) | exact HB.out)⟩
mutual
def j5.l0 : Nat → List (S55) → Int → Int → Int → Option (Int)
 | 0, _, _, _, _ => none
 | k + 1, x0, x1, x5, x6 => if x6 < (x0.length : Int) then (j5.l1 k x0 x1 x5 x6 0) else (some x5)
def j5.l1 : Nat → List (S55) → Int → Int → Int → Int → Option (Int)
 | 0, _, _, _, _, _ => none
 | k + 1, x0, x1, x5, x6, x7 => if 0 ≤ x6 then (if x6 < (x0.length : Int) then (if x7 < (((qD x0 x6).f3).length : Int) then (if 0 ≤ x7 then (if (qG ((qD x0 x6).f3) x7).f0 = true then (if ((qG ((qD x0 x6).f3) x7).f2) = x1 then (j5.l1 k x0 x1 (wrap64 (x5 + 1)) x6 (wrap64 (x7 + 1))) else (j5.l1 k x0 x1 x5 x6 (wrap64 (x7 + 1)))) else (j5.l1 k x0 x1 x5 x6 (wrap64 (x7 + 1)))) else (none)) else (j5.l0 k x0 x1 x5 (wrap64 (x6 + 1)))) else (none)) else (none)
end
def j5.f (k : Nat) (l0 : List (S55)) (a1 : Int) : Option (Int) := j5.l0 k l0 a1 0 0
set_option maxHeartbeats 8000000 in
set_option maxRecDepth 100000 in
theorem j5.calls (k : Nat) (A0 : Option Addr) (c0 : Nat) (l0 : List (S55)) (a1 : Int) (r : Int) (w : World) (hr0 : Kd.C k55 w A0 l0.length l0) (hc0 : l0.length ≤ c0) (h : j5.f k l0 a1 = some r) :
  Calls Try.prog 65 #[.slice A0 l0.length c0, .int .i64 a1] w fun e w' => e = .returned (.int .i64 r) ∧ zY w w' := by
 have HR0 := q8.mk hr0
 have HC0 := q8.mk hc0
 clear hr0 hc0
 have H : (j5.l0 k l0 a1 0 0) = some r := h
 clear h
 have H' := q8.mk H
 clear H
 go_enter Try.func65, Try.ntmps65
 go_wp2
 go_loopg [5, 6] k (fun kq v5 v6 w' => ∃ (qx5 : Int) (jW : Int), v5 = .int .i64 qx5 ∧ v6 = .int .i64 jW ∧ q8 (j5.l0 kq l0 a1 qx5 jW = some r) ∧ q8 (kq ≤ k) ∧ zY w w')
 case atStart => exact ⟨(0), (0), (by first | rfl | (simp; done) | (simp [*]; done)), (by first | rfl | (simp; done) | (simp [*]; done)), H', ⟨Nat.le_refl _⟩, by repeat (first | exact zY.refl _ | apply zY.step)⟩
 case round =>
  clear H'
  try clear p2
  obtain ⟨qx5, jW, rfl, rfl, HA, HK1, ⟨m1, rfl⟩⟩ := hrel
  cases gk with
  | zero => exact absurd HA.out (by simp [j5.l0])
  | succ k1 =>
   have H := HA.out
   clear HA
   simp only [j5.l0] at H
   by_cases c3 : jW < (l0.length : Int)
   ·rw [if_pos c3] at H
    have jO4 : decide (jW < (l0.length : Int)) = true := decide_eq_true c3
    clear c3
    have H' := q8.mk H
    clear H
    go_wp2
    go_loopg [5, 7] k1 (fun kq v5 v7 w' => ∃ (zN : Int) (qf4 : Int), v5 = .int .i64 zN ∧ v7 = .int .i64 qf4 ∧ q8 (j5.l1 kq l0 a1 zN jW qf4 = some r) ∧ q8 (kq ≤ k1) ∧ zY w w')
    case atStart => exact ⟨(qx5), (0), (by first | rfl | (simp; done) | (simp [*]; done)), (by first | rfl | (simp; done) | (simp [*]; done)), H', ⟨Nat.le_refl _⟩, by repeat (first | exact zY.refl _ | apply zY.step)⟩
    case round =>
     clear H'
     try clear p2
     try clear c3
     try clear jO4
     try clear p2
     obtain ⟨zN, qf4, rfl, rfl, HA, HK2, ⟨m2, rfl⟩⟩ := hrel
     cases gk with
     | zero => exact absurd HA.out (by simp [j5.l1])
     | succ k2 =>
      have H := HA.out
      clear HA
      simp only [j5.l1] at H
      by_cases c4 : 0 ≤ jW
      ·rw [if_pos c4] at H
       have qB4 : decide (0 ≤ jW) = true := decide_eq_true c4
       clear c4
       by_cases c5 : jW < (l0.length : Int)
       ·rw [if_pos c5] at H
        have jE1 : decide (jW < (l0.length : Int)) = true := decide_eq_true c5
        clear c5
        by_cases c6 : qf4 < (((qD l0 jW).f3).length : Int)
        ·rw [if_pos c6] at H
         have ji8 : decide (qf4 < (((qD l0 jW).f3).length : Int)) = true := decide_eq_true c6
         clear c6
         by_cases c7 : 0 ≤ qf4
         ·rw [if_pos c7] at H
          have zH9 : decide (0 ≤ qf4) = true := decide_eq_true c7
          clear c7
          obtain ⟨bq8, Qg6⟩ : ∃ b_ : Bool, b_ = ((qG ((qD l0 jW).f3) qf4).f0) := ⟨_, rfl⟩
          replace H : (if bq8 = true then (if ((qG ((qD l0 jW).f3) qf4).f2) = a1 then (j5.l1 k2 l0 a1 (wrap64 (zN + 1)) jW (wrap64 (qf4 + 1))) else (j5.l1 k2 l0 a1 zN jW (wrap64 (qf4 + 1)))) else (j5.l1 k2 l0 a1 zN jW (wrap64 (qf4 + 1)))) = some r := by rw [← Qg6] at H; exact H
          have zE2 := q8.mk Qg6
          clear Qg6
          by_cases c9 : bq8 = true
          ·subst c9
           have H1 : (if ((qG ((qD l0 jW).f3) qf4).f2) = a1 then (j5.l1 k2 l0 a1 (wrap64 (zN + 1)) jW (wrap64 (qf4 + 1))) else (j5.l1 k2 l0 a1 zN jW (wrap64 (qf4 + 1)))) = some r := by rw [if_pos rfl] at H; exact H
           clear H
           have H := H1
           clear H1
           by_cases c10 : ((qG ((qD l0 jW).f3) qf4).f2) = a1
           ·rw [if_pos c10] at H
            have qL9 : (((qG ((qD l0 jW).f3) qf4).f2) == a1) = true := beq_iff_eq.mpr c10
            have Qp9 : (((qG ((qD l0 jW).f3) qf4).f2) != a1) = false := bne_eq_false_iff_eq.mpr c10
            clear c10
            have H' := q8.mk H
            clear H
            have qV3 : 0 ≤ (jW : Int) := of_decide_eq_true (by first | (with_reducible assumption) | assumption)
            have qV4 : jW < (l0.length : Int) := of_decide_eq_true (by first | (with_reducible assumption) | assumption)
            obtain ⟨ji6, ze8, ze9, zf0, jK1, jK2, jK3, qD9, qu5, qu6⟩ := qa6 HR0.out jW qV3 qV4
            cases zf0
            have jK4 := q8.mk qu6
            have jK5 := q8.mk qu5
            clear qu6 qu5
            replace qV3 := eq_true qV3
            replace qV4 := eq_true qV4
            have ju5 : 0 ≤ (jW : Int) := of_decide_eq_true (by first | (with_reducible assumption) | assumption)
            have ju6 : jW < (l0.length : Int) := of_decide_eq_true (by first | (with_reducible assumption) | assumption)
            obtain ⟨jV6, zE3, zE4, zE5, zl1, zl2, zl3, jd3, qE0, qE1⟩ := qa6 HR0.out jW ju5 ju6
            obtain rfl : ji6 = jV6 := (by injection zE5)
            have jd4 := q8.mk qE1
            have zl4 := q8.mk qE0
            clear qE1 qE0
            replace ju5 := eq_true ju5
            replace ju6 := eq_true ju6
            have ea_ := Option.some.inj (qD9.symm.trans jd3)
            injection ea_ with ea_ en_ ec_
            subst ea_
            subst ec_
            clear en_
            have ju7 : 0 ≤ (qf4 : Int) := of_decide_eq_true (by first | (with_reducible assumption) | assumption)
            have ju8 : qf4 < (((qD l0 jW).f3).length : Int) := of_decide_eq_true (by first | (with_reducible assumption) | assumption)
            obtain ⟨zW1, zE6, jd5, zl5, zl6⟩ := qr2 jd4.out qf4 ju7 ju8
            (try rw [← zE2.out] at jd5)
            cases zE6
            replace ju7 := eq_true ju7
            replace ju8 := eq_true ju8
            have zf1 : 0 ≤ (jW : Int) := of_decide_eq_true (by first | (with_reducible assumption) | assumption)
            have zf2 : jW < (l0.length : Int) := of_decide_eq_true (by first | (with_reducible assumption) | assumption)
            obtain ⟨zE7, Qg7, Qg8, e115, zQ2, zQ3, zQ4, jK6, jd6, jd7⟩ := qa6 HR0.out jW zf1 zf2
            obtain rfl : ji6 = zE7 := (by injection e115)
            have jK7 := q8.mk jd7
            have zQ5 := q8.mk jd6
            clear jd7 jd6
            replace zf1 := eq_true zf1
            replace zf2 := eq_true zf2
            have ea_ := Option.some.inj (qD9.symm.trans jK6)
            injection ea_ with ea_ en_ ec_
            subst ea_
            subst ec_
            clear en_
            have zf3 : 0 ≤ (qf4 : Int) := of_decide_eq_true (by first | (with_reducible assumption) | assumption)
            have zf4 : qf4 < (((qD l0 jW).f3).length : Int) := of_decide_eq_true (by first | (with_reducible assumption) | assumption)
            obtain ⟨Qq0, e116, jK8, zQ6, zQ7⟩ := qr2 jK7.out qf4 zf3 zf4
            (try rw [← zE2.out] at jK8)
            cases e116
            replace zf3 := eq_true zf3
            replace zf4 := eq_true zf4
            go_wp2
            go_roundg k2
            case measure => have := HK1.out; have := HK2.out; omega
            case rel => exact ⟨(wrap64 (zN + 1)), (wrap64 (qf4 + 1)), (by first | rfl | (simp; done) | (simp [*]; done)), (by first | rfl | (simp; done) | (simp [*]; done)), H', ⟨by have := HK1.out; have := HK2.out; omega⟩, by repeat (first | exact zY.refl _ | apply zY.step)⟩
           ·rw [if_neg c10] at H
            have qL9 : (((qG ((qD l0 jW).f3) qf4).f2) == a1) = false := beq_eq_false_iff_ne.mpr c10
            have Qp9 : (((qG ((qD l0 jW).f3) qf4).f2) != a1) = true := bne_iff_ne.mpr c10
            have H' := q8.mk H
            clear H
            have qV3 : 0 ≤ (jW : Int) := of_decide_eq_true (by first | (with_reducible assumption) | assumption)
            have qV4 : jW < (l0.length : Int) := of_decide_eq_true (by first | (with_reducible assumption) | assumption)
            obtain ⟨ji6, ze8, ze9, zf0, jK1, jK2, jK3, qD9, qu5, qu6⟩ := qa6 HR0.out jW qV3 qV4
            cases zf0
            have jK4 := q8.mk qu6
            have jK5 := q8.mk qu5
            clear qu6 qu5
            replace qV3 := eq_true qV3
            replace qV4 := eq_true qV4
            have ju5 : 0 ≤ (jW : Int) := of_decide_eq_true (by first | (with_reducible assumption) | assumption)
            have ju6 : jW < (l0.length : Int) := of_decide_eq_true (by first | (with_reducible assumption) | assumption)
            obtain ⟨jV6, zE3, zE4, zE5, zl1, zl2, zl3, jd3, qE0, qE1⟩ := qa6 HR0.out jW ju5 ju6
            obtain rfl : ji6 = jV6 := (by injection zE5)
            have jd4 := q8.mk qE1
            have zl4 := q8.mk qE0
            clear qE1 qE0
            replace ju5 := eq_true ju5
            replace ju6 := eq_true ju6
            have ea_ := Option.some.inj (qD9.symm.trans jd3)
            injection ea_ with ea_ en_ ec_
            subst ea_
            subst ec_
            clear en_
            have ju7 : 0 ≤ (qf4 : Int) := of_decide_eq_true (by first | (with_reducible assumption) | assumption)
            have ju8 : qf4 < (((qD l0 jW).f3).length : Int) := of_decide_eq_true (by first | (with_reducible assumption) | assumption)
            obtain ⟨zW1, zE6, jd5, zl5, zl6⟩ := qr2 jd4.out qf4 ju7 ju8
            (try rw [← zE2.out] at jd5)
            cases zE6
            replace ju7 := eq_true ju7
            replace ju8 := eq_true ju8
            have zf1 : 0 ≤ (jW : Int) := of_decide_eq_true (by first | (with_reducible assumption) | assumption)
            have zf2 : jW < (l0.length : Int) := of_decide_eq_true (by first | (with_reducible assumption) | assumption)
            obtain ⟨zE7, Qg7, Qg8, e115, zQ2, zQ3, zQ4, jK6, jd6, jd7⟩ := qa6 HR0.out jW zf1 zf2
            obtain rfl : ji6 = zE7 := (by injection e115)
            have jK7 := q8.mk jd7
            have zQ5 := q8.mk jd6
            clear jd7 jd6
            replace zf1 := eq_true zf1
            replace zf2 := eq_true zf2
            have ea_ := Option.some.inj (qD9.symm.trans jK6)
            injection ea_ with ea_ en_ ec_
            subst ea_
            subst ec_
            clear en_
            have zf3 : 0 ≤ (qf4 : Int) := of_decide_eq_true (by first | (with_reducible assumption) | assumption)
            have zf4 : qf4 < (((qD l0 jW).f3).length : Int) := of_decide_eq_true (by first | (with_reducible assumption) | assumption)
            obtain ⟨Qq0, e116, jK8, zQ6, zQ7⟩ := qr2 jK7.out qf4 zf3 zf4
            (try rw [← zE2.out] at jK8)
            cases e116
            replace zf3 := eq_true zf3
            replace zf4 := eq_true zf4
            go_wp2
            go_roundg k2
            case measure => have := HK1.out; have := HK2.out; omega
            case rel => exact ⟨(zN), (wrap64 (qf4 + 1)), (by first | rfl | (simp; done) | (simp [*]; done)), (by first | rfl | (simp; done) | (simp [*]; done)), H', ⟨by have := HK1.out; have := HK2.out; omega⟩, by repeat (first | exact zY.refl _ | apply zY.step)⟩
          ·replace c9 := Bool.eq_false_iff.mpr c9
           subst c9
           have H1 : (j5.l1 k2 l0 a1 zN jW (wrap64 (qf4 + 1))) = some r := by rw [if_neg (show ¬ (false = true) by decide)] at H; exact H
           clear H
           have H := H1
           clear H1
           have H' := q8.mk H
           clear H
           have qV3 : 0 ≤ (jW : Int) := of_decide_eq_true (by first | (with_reducible assumption) | assumption)
           have qV4 : jW < (l0.length : Int) := of_decide_eq_true (by first | (with_reducible assumption) | assumption)
           obtain ⟨ji6, ze8, ze9, zf0, jK1, jK2, jK3, qD9, qu5, qu6⟩ := qa6 HR0.out jW qV3 qV4
           cases zf0
           have jK4 := q8.mk qu6
           have jK5 := q8.mk qu5
           clear qu6 qu5
           replace qV3 := eq_true qV3
           replace qV4 := eq_true qV4
           have ju5 : 0 ≤ (jW : Int) := of_decide_eq_true (by first | (with_reducible assumption) | assumption)
           have ju6 : jW < (l0.length : Int) := of_decide_eq_true (by first | (with_reducible assumption) | assumption)
           obtain ⟨jV6, zE3, zE4, zE5, zl1, zl2, zl3, jd3, qE0, qE1⟩ := qa6 HR0.out jW ju5 ju6
           obtain rfl : ji6 = jV6 := (by injection zE5)
           have jd4 := q8.mk qE1
           have zl4 := q8.mk qE0
           clear qE1 qE0
           replace ju5 := eq_true ju5
           replace ju6 := eq_true ju6
           have ea_ := Option.some.inj (qD9.symm.trans jd3)
           injection ea_ with ea_ en_ ec_
           subst ea_
           subst ec_
           clear en_
           have ju7 : 0 ≤ (qf4 : Int) := of_decide_eq_true (by first | (with_reducible assumption) | assumption)
           have ju8 : qf4 < (((qD l0 jW).f3).length : Int) := of_decide_eq_true (by first | (with_reducible assumption) | assumption)
           obtain ⟨zW1, zE6, jd5, zl5, zl6⟩ := qr2 jd4.out qf4 ju7 ju8
           (try rw [← zE2.out] at jd5)
           cases zE6
           replace ju7 := eq_true ju7
           replace ju8 := eq_true ju8
           go_wp2
           go_roundg k2
           case measure => have := HK1.out; have := HK2.out; omega
           case rel => exact ⟨(zN), (wrap64 (qf4 + 1)), (by first | rfl | (simp; done) | (simp [*]; done)), (by first | rfl | (simp; done) | (simp [*]; done)), H', ⟨by have := HK1.out; have := HK2.out; omega⟩, by repeat (first | exact zY.refl _ | apply zY.step)⟩
         ·rw [if_neg c7] at H
          exact absurd H (by simp)
        ·rw [if_neg c6] at H
         have ji8 : decide (qf4 < (((qD l0 jW).f3).length : Int)) = false := decide_eq_false c6
         clear c6
         have H' := q8.mk H
         clear H
         have qV3 : 0 ≤ (jW : Int) := of_decide_eq_true (by first | (with_reducible assumption) | assumption)
         have qV4 : jW < (l0.length : Int) := of_decide_eq_true (by first | (with_reducible assumption) | assumption)
         obtain ⟨ji6, ze8, ze9, zf0, jK1, jK2, jK3, qD9, qu5, qu6⟩ := qa6 HR0.out jW qV3 qV4
         cases zf0
         have jK4 := q8.mk qu6
         have jK5 := q8.mk qu5
         clear qu6 qu5
         replace qV3 := eq_true qV3
         replace qV4 := eq_true qV4
         go_wp2
         go_roundg k2
         case measure => have := HK1.out; have := HK2.out; omega
         case rel => exact ⟨(zN), (wrap64 (jW + 1)), (by first | rfl | (simp; done) | (simp [*]; done)), (by first | rfl | (simp; done) | (simp [*]; done)), H', ⟨by have := HK1.out; have := HK2.out; omega⟩, by repeat (first | exact zY.refl _ | apply zY.step)⟩
       ·rw [if_neg c5] at H
        exact absurd H (by simp)
      ·rw [if_neg c4] at H
       exact absurd H (by simp)
   ·rw [if_neg c3] at H
    have jO4 : decide (jW < (l0.length : Int)) = false := decide_eq_false c3
    clear c3
    obtain rfl := Option.some.inj H
    go_wp2
    go_ret
    exact ⟨by first | rfl | (simp; done) | (simp [*]; done), by repeat (first | exact zY.refl _ | apply zY.step)⟩
end Go.Proofs.Ytngkneknopenmaa.K
end
