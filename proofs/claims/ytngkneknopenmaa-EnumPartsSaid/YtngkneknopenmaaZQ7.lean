/- qq5 of this claim, joined by a program of this session: the zO that its theorem uses. -/
import Derived.Test.YtngkneknopenmaaZQ2
import Derived.Test.YtngkneknopenmaaZQ5
import Derived.Test.YtngkneknopenmaaProg
import Derived.Below
import Derived.Deep.Draws
import Derived.Deep.AppendLies
import Derived.Maps.AppendAt
import Derived.OwnWalk
import Derived.Laws.BytesArg
import Derived.Laws.MakeOwn
import Derived.Laws.OwnMore
import Derived.Deep.OwnRows
import Derived.Tactics
import Derived.Lib.ConvBytes
import Derived.Laws.Slices
import Derived.WalkKit
import Derived.KernelRfl
import Derived.RowKit3
import Derived.Deep.LoopGhost
import Derived.Deep.QuietTactic
import Derived.BigQuiet
import Derived.WideLaws
import Derived.Deep.DeepCutAuto
import Derived.Deep.CutBlock
import Derived.Deep.RegionHeld3
import Derived.Laws.Rows
import Derived.Lib.AppendStr
import Derived.ArgAppend
import Derived.Laws.IdiomCopy
import Derived.OrdersHeld
import Derived.Laws.BitsLemmas
import Derived.RowKit
section
namespace Go.Proofs.Ytngkneknopenmaa.K
open Go.Proofs.Ytngkneknopenmaa
open Go.RowKit Go.Proofs.YtngkneknopenmaaW.PrintWords Go.Proofs.YtngkneknopenmaaW.qi2 Go.Proofs.YtngkneknopenmaaW.qk7
attribute [local go_sem] qr4 qr5 qw7 qw8 qn2 qn3 qr6 qr7   -- for this text's walks alone
set_option linter.unusedVariables false
set_option linter.unusedSimpArgs false
def errW : Option Int → Value
 | none => .nilIface
 | some c => .iface 0 (.int .i64 c)
theorem jF : errW none = .nilIface := rfl
theorem jG (c : Int) : errW (some c) = .iface 0 (.int .i64 c) := rfl
theorem info3 : (Try.prog.info? 3).map (fun i => (i.zero, i.size, i.bytes)) = some (some (.int .i64 0), 1, 8) := by kernel_rfl
theorem qV0 : (Try.prog.info? 55).map (fun i => (i.zero, i.size, i.bytes)) = some (some (.agg #[(.int .i64 0), (.int .i64 0), (.int .i64 0), (.slice none 0 0)]), 4, 48) := by kernel_rfl
structure S51 where
 f0 : Bool
 f1 : Int
 f2 : Int
def z51 : S51 := ⟨false, (0 : Int), (0 : Int)⟩
def k51 : Kd S51 := Kd.iso (Kd.pair Kd.bool (Kd.pair (Kd.int .i64) (Kd.int .i64))) (fun x : S51 => (x.f0, x.f1, x.f2))
theorem zE8 : Kd.Heap k51 := Kd.jX1 _ (Kd.qH6 Kd.zt1 (Kd.qH6 (Kd.qQ3 .i64) (Kd.qQ3 .i64)))
theorem jX4 {w : World} {x : S51} {cs : List Value} (h : k51.K w x cs) : cs = [.bool x.f0, .int .i64 x.f1, .int .i64 x.f2] := by
 obtain ⟨_, _, rfl, rfl, ⟨_, _, rfl, rfl, rfl⟩⟩ := h
 exact rfl
theorem Qf5 (w : World) (x : S51)  : k51.K w x [.bool x.f0, .int .i64 x.f1, .int .i64 x.f2] := ⟨[.bool x.f0], [.int .i64 x.f1, .int .i64 x.f2], rfl, rfl, ⟨[.int .i64 x.f1], [.int .i64 x.f2], rfl, rfl, rfl⟩⟩
theorem zl3 (w : World) (base : Nat) (ok : Nat → Prop) (x : S51)  : k51.M w base ok x [.bool x.f0, .int .i64 x.f1, .int .i64 x.f2] := ⟨[.bool x.f0], [.int .i64 x.f1, .int .i64 x.f2], rfl, rfl, ⟨[.int .i64 x.f1], [.int .i64 x.f2], rfl, rfl, rfl⟩⟩
def qG (xs : List S51) (i : Int) : S51 := xs.getD i.toNat z51
theorem qs5 {w : World} {A : Option Addr} {n : Nat} {xs : List S51} (h : Kd.C k51 w A n xs) (i : Int) (h0 : 0 ≤ i) (h1 : i < n) : ∃ ad , A = some ad ∧ w.cell? (ad.add (i.toNat * 3)) = some (.bool (qG xs i).f0) ∧ w.cell? ⟨(ad.add (i.toNat * 3)).block, (ad.add (i.toNat * 3)).off + 1, none⟩ = some (.int .i64 (qG xs i).f1) ∧ w.cell? ⟨(ad.add (i.toNat * 3)).block, (ad.add (i.toNat * 3)).off + 2, none⟩ = some (.int .i64 (qG xs i).f2) := by
 obtain ⟨ad, c, e, _, hK, hc0⟩ := Kd.jW8 h z51 i h0 h1
 have hc : ∀ j u, c[j]? = some u → w.cell? (ad.add (i.toNat * 3 + j)) = some u := hc0
 obtain rfl := jX4 hK
 exact ⟨ad, e, hc 0 _ rfl, by rw [← zS _ _ 1 (by omega)]; exact hc 1 _ rfl, by rw [← zS _ _ 2 (by omega)]; exact hc 2 _ rfl⟩
structure S55 where
 f0 : Int
 f1 : Int
 f2 : Int
 f3 : (List S51)
def z55 : S55 := ⟨(0 : Int), (0 : Int), (0 : Int), ([] : List S51)⟩
def k55 : Kd S55 := Kd.iso (Kd.pair (Kd.int .i64) (Kd.pair (Kd.int .i64) (Kd.pair (Kd.int .i64) (Kd.slice 51 k51)))) (fun x : S55 => (x.f0, x.f1, x.f2, x.f3))
theorem jT8 : Kd.Heap k55 := Kd.jX1 _ (Kd.qH6 (Kd.qQ3 .i64) (Kd.qH6 (Kd.qQ3 .i64) (Kd.qH6 (Kd.qQ3 .i64) (Kd.zf8 51 zE8))))
theorem jd7 {w : World} {x : S55} {cs : List Value} (h : k55.K w x cs) : ∃ A3 c3, cs = [.int .i64 x.f0, .int .i64 x.f1, .int .i64 x.f2, .slice A3 x.f3.length c3] ∧ x.f3.length ≤ c3 ∧ k51.C w A3 x.f3.length x.f3 := by
 obtain ⟨_, _, rfl, rfl, ⟨_, _, rfl, rfl, ⟨_, _, rfl, rfl, ⟨A3, c3, rfl, l3, g3⟩⟩⟩⟩ := h
 exact ⟨A3, c3, rfl, l3, g3⟩
theorem zE9 (w : World) (x : S55) {A3 : Option Addr} {c3 : Nat} (l3 : x.f3.length ≤ c3) (g3 : k51.C w A3 x.f3.length x.f3) : k55.K w x [.int .i64 x.f0, .int .i64 x.f1, .int .i64 x.f2, .slice A3 x.f3.length c3] := ⟨[.int .i64 x.f0], [.int .i64 x.f1, .int .i64 x.f2, .slice A3 x.f3.length c3], rfl, rfl, ⟨[.int .i64 x.f1], [.int .i64 x.f2, .slice A3 x.f3.length c3], rfl, rfl, ⟨[.int .i64 x.f2], [.slice A3 x.f3.length c3], rfl, rfl, ⟨A3, c3, rfl, l3, g3⟩⟩⟩⟩
theorem qi3 {W : World} {ok : Nat → Prop} {x : S55} {cs : List Value} (h : Kd.FK k55 W ok x cs) : ∃ A3 c3, cs = [.int .i64 x.f0, .int .i64 x.f1, .int .i64 x.f2, .slice A3 x.f3.length c3] ∧ x.f3.length ≤ c3 ∧ Kd.F k51 W ok A3 x.f3.length x.f3 := by
 obtain ⟨A3, c3, rfl, l3, _⟩ := jd7 (Kd.qz7 h)
 exact ⟨A3, c3, rfl, l3, (fun W' hW => by obtain ⟨A3_, c3_, he, l3_, g3_⟩ := jd7 (h W' hW); injection (Option.some.inj (show some (Value.slice A3 x.f3.length c3) = some (Value.slice A3_ x.f3.length c3_) from congrArg (fun l => l[3]?) he)) with ha_ _ _; rw [ha_]; exact g3_)⟩
theorem zj5 (W : World) (ok : Nat → Prop) (x : S55) {A3 : Option Addr} {c3 : Nat} (l3 : x.f3.length ≤ c3) (g3 : Kd.F k51 W ok A3 x.f3.length x.f3) : Kd.FK k55 W ok x [.int .i64 x.f0, .int .i64 x.f1, .int .i64 x.f2, .slice A3 x.f3.length c3] := fun W2 hW => zE9 W2 x l3 (g3 W2 hW)
def qD (xs : List S55) (i : Int) : S55 := xs.getD i.toNat z55
theorem qa5 {w : World} {A : Option Addr} {n : Nat} {xs : List S55} (h : Kd.C k55 w A n xs) (i : Int) (h0 : 0 ≤ i) (h1 : i < n) : ∃ ad A3 c3, A = some ad ∧ w.cell? (ad.add (i.toNat * 4)) = some (.int .i64 (qD xs i).f0) ∧ w.cell? ⟨(ad.add (i.toNat * 4)).block, (ad.add (i.toNat * 4)).off + 1, none⟩ = some (.int .i64 (qD xs i).f1) ∧ w.cell? ⟨(ad.add (i.toNat * 4)).block, (ad.add (i.toNat * 4)).off + 2, none⟩ = some (.int .i64 (qD xs i).f2) ∧ w.cell? ⟨(ad.add (i.toNat * 4)).block, (ad.add (i.toNat * 4)).off + 3, none⟩ = some (.slice A3 (qD xs i).f3.length c3) ∧ (qD xs i).f3.length ≤ c3 ∧ k51.C w A3 (qD xs i).f3.length (qD xs i).f3 := by
 obtain ⟨ad, c, e, _, hK, hc0⟩ := Kd.jW8 h z55 i h0 h1
 have hc : ∀ j u, c[j]? = some u → w.cell? (ad.add (i.toNat * 4 + j)) = some u := hc0
 obtain ⟨A3, c3, rfl, l3, g3⟩ := jd7 hK
 exact ⟨ad, A3, c3, e, hc 0 _ rfl, by rw [← zS _ _ 1 (by omega)]; exact hc 1 _ rfl, by rw [← zS _ _ 2 (by omega)]; exact hc 2 _ rfl, by rw [← zS _ _ 3 (by omega)]; exact hc 3 _ rfl, l3, g3⟩
end Go.Proofs.Ytngkneknopenmaa.K
end
section
namespace Go.Proofs.Ytngkneknopenmaa.K
open Go.Proofs.Ytngkneknopenmaa
open Go.RowKit Go.Proofs.YtngkneknopenmaaW.PrintWords Go.Proofs.YtngkneknopenmaaW.qi2 Go.Proofs.YtngkneknopenmaaW.qk7
attribute [local go_sem] qr4 qr5 qw7 qw8 qn2 qn3 qr6 qr7   -- for this text's walks alone
set_option linter.unusedVariables false
set_option linter.unusedSimpArgs false
theorem zB3 (d : Nat) (w : World) (x0 y0 : Bool) (x1 y1 : Int) (x2 y2 : Int) :
  (Op.equalIn (d + 2) 51 (.agg #[.bool x0, .int .i64 x1, .int .i64 x2]) (.agg #[.bool y0, .int .i64 y1, .int .i64 y2])).run Try.prog w = .ok (x0 == y0 && (x1 == y1 && (x2 == y2))) w := by
 refine Qf2 Try.underlying51 (by kernel_rfl) ?_
 refine jX2 (by rfl) (by go_simp; rfl) (by go_simp; rfl) (by go_simp) ?_
 refine jX2 (by rfl) (by go_simp; rfl) (by go_simp; rfl) (by go_simp) ?_
 exact zE6 (by rfl) (by go_simp; rfl) (by go_simp; rfl) (by go_simp)
end Go.Proofs.Ytngkneknopenmaa.K
end
section
namespace Go.Proofs.Ytngkneknopenmaa.K
open Go.Proofs.Ytngkneknopenmaa
open Go.RowKit Go.Proofs.YtngkneknopenmaaW.PrintWords Go.Proofs.YtngkneknopenmaaW.qi2 Go.Proofs.YtngkneknopenmaaW.qk7
attribute [local go_sem] qr4 qr5 qw7 qw8 qn2 qn3 qr6 qr7   -- for this text's walks alone
set_option linter.unusedVariables false
set_option linter.unusedSimpArgs false
attribute [local go_sem high] zB3
def qy5.f (zD : Bool) (jT : Int) (jQ : Int) : Option (Bool) := if jT < 0 then (some false) else (if jT ≥ 64 then (some false) else (if jQ < 0 then (some false) else (if jQ > 2147483647 then (some false) else (if zD = true then (some (decide (jQ > 0))) else (some true)))))
set_option maxHeartbeats 8000000 in
set_option maxRecDepth 100000 in
theorem qy5.calls (zD : Bool) (jT : Int) (jQ : Int) (r : Bool) (w : World) (h : qy5.f zD jT jQ = some r) :
  Calls Try.prog 55 #[.agg #[.bool zD, .int .i64 jT, .int .i64 jQ]] w fun e w' => e = .returned (.bool r) ∧ Below w.heap.size w w' := by
 have zy4 := Try.underlying51
 have HB := q8.mk (Below.refl w.heap.size w)
 have H : (if jT < 0 then (some false) else (if jT ≥ 64 then (some false) else (if jQ < 0 then (some false) else (if jQ > 2147483647 then (some false) else (if zD = true then (some (decide (jQ > 0))) else (some true)))))) = some r := h
 clear h
 by_cases c2 : jT < 0
 ·rw [if_pos c2] at H
  have jy7 : decide (jT < 0) = true := decide_eq_true c2
  clear c2
  obtain rfl := Option.some.inj H
  go_enter Try.func55, Try.ntmps55
  go_wp2_with (first | ((with_reducible refine zW (N := 1) rfl ?_); refine qa4 ?hg (N := 1) ?hd (cs := #[.bool zD, .int .i64 jT, .int .i64 jQ]) (t := 51) ?hr ?_; (case hd => rfl); (case hg => rfl); (case hr => first | (go_simp; done) | (go_simp; rfl)); intro qg3 hg w3 qb0 hb; have n0_ := q8.mk (jL (by repeat (first | (with_reducible first | exact HB.out | apply qA | apply q9 | apply qB) | exact HB.out)) hb); have n1_ := q8.mk (qb0); have n2_ := q8.mk ((by rw [hg]; exact (qJ (by repeat (first | (with_reducible first | exact HB.out | apply qA | apply q9 | apply qB) | exact HB.out))) : w.heap.size ≤ qg3)); have n3_ := q8.mk ((by rw [hg]; exact (qJ (by repeat (first | (with_reducible first | exact HB.out | apply qA | apply q9 | apply qB) | exact HB.out))) : w.heap.size ≤ qg3)); clear HB; have HB := n0_; have qe6 := n1_; have jX5 := n2_; have qQ6 := n3_; clear n0_ n1_ n2_ n3_; clear hb qb0 hg; have Qf6 : w3.cell? ⟨qg3, 0, none⟩ = some (.bool zD) := (qE qe6.out 0).trans rfl; have Qf7 : w3.cell? ⟨qg3, 1, none⟩ = some (.int .i64 jT) := (qE qe6.out 1).trans rfl; have Qf8 : w3.cell? ⟨qg3, 2, none⟩ = some (.int .i64 jQ) := (qE qe6.out 2).trans rfl; have Qf9 := qC qe6.out 0; have Qg0 := qC qe6.out 1; have Qg1 := qC qe6.out 2))
  go_ret
  exact ⟨by first | rfl | (simp [jF, jG] <;> rfl) | (simp [*, jF, jG] <;> rfl), by repeat (first | (with_reducible first | exact HB.out | apply qA | apply q9 | apply qB | refine qI ?_ qQ6.out) | exact HB.out)⟩
 ·rw [if_neg c2] at H
  have jy7 : decide (jT < 0) = false := decide_eq_false c2
  clear c2
  by_cases c5 : jT ≥ 64
  ·rw [if_pos c5] at H
   have jx5 : decide (64 ≤ jT) = true := decide_eq_true c5
   clear c5
   obtain rfl := Option.some.inj H
   go_enter Try.func55, Try.ntmps55
   go_wp2_with (first | ((with_reducible refine zW (N := 1) rfl ?_); refine qa4 ?hg (N := 1) ?hd (cs := #[.bool zD, .int .i64 jT, .int .i64 jQ]) (t := 51) ?hr ?_; (case hd => rfl); (case hg => rfl); (case hr => first | (go_simp; done) | (go_simp; rfl)); intro qg3 hg w6 qb0 hb; have n0_ := q8.mk (jL (by repeat (first | (with_reducible first | exact HB.out | apply qA | apply q9 | apply qB) | exact HB.out)) hb); have n1_ := q8.mk (qb0); have n2_ := q8.mk ((by rw [hg]; exact (qJ (by repeat (first | (with_reducible first | exact HB.out | apply qA | apply q9 | apply qB) | exact HB.out))) : w.heap.size ≤ qg3)); have n3_ := q8.mk ((by rw [hg]; exact (qJ (by repeat (first | (with_reducible first | exact HB.out | apply qA | apply q9 | apply qB) | exact HB.out))) : w.heap.size ≤ qg3)); clear HB; have HB := n0_; have qe6 := n1_; have jX5 := n2_; have qQ6 := n3_; clear n0_ n1_ n2_ n3_; clear hb qb0 hg; have qW6 : w6.cell? ⟨qg3, 0, none⟩ = some (.bool zD) := (qE qe6.out 0).trans rfl; have qW7 : w6.cell? ⟨qg3, 1, none⟩ = some (.int .i64 jT) := (qE qe6.out 1).trans rfl; have qW8 : w6.cell? ⟨qg3, 2, none⟩ = some (.int .i64 jQ) := (qE qe6.out 2).trans rfl; have qW9 := qC qe6.out 0; have qX0 := qC qe6.out 1; have qX1 := qC qe6.out 2))
   go_ret
   exact ⟨by first | rfl | (simp [jF, jG] <;> rfl) | (simp [*, jF, jG] <;> rfl), by repeat (first | (with_reducible first | exact HB.out | apply qA | apply q9 | apply qB | refine qI ?_ qQ6.out) | exact HB.out)⟩
  ·rw [if_neg c5] at H
   have jx5 : decide (64 ≤ jT) = false := decide_eq_false c5
   clear c5
   by_cases c8 : jQ < 0
   ·rw [if_pos c8] at H
    have qV1 : decide (jQ < 0) = true := decide_eq_true c8
    clear c8
    obtain rfl := Option.some.inj H
    go_enter Try.func55, Try.ntmps55
    go_wp2_with (first | ((with_reducible refine zW (N := 1) rfl ?_); refine qa4 ?hg (N := 1) ?hd (cs := #[.bool zD, .int .i64 jT, .int .i64 jQ]) (t := 51) ?hr ?_; (case hd => rfl); (case hg => rfl); (case hr => first | (go_simp; done) | (go_simp; rfl)); intro qg3 hg w9 qb0 hb; have n0_ := q8.mk (jL (by repeat (first | (with_reducible first | exact HB.out | apply qA | apply q9 | apply qB) | exact HB.out)) hb); have n1_ := q8.mk (qb0); have n2_ := q8.mk ((by rw [hg]; exact (qJ (by repeat (first | (with_reducible first | exact HB.out | apply qA | apply q9 | apply qB) | exact HB.out))) : w.heap.size ≤ qg3)); have n3_ := q8.mk ((by rw [hg]; exact (qJ (by repeat (first | (with_reducible first | exact HB.out | apply qA | apply q9 | apply qB) | exact HB.out))) : w.heap.size ≤ qg3)); clear HB; have HB := n0_; have qe6 := n1_; have jX5 := n2_; have qQ6 := n3_; clear n0_ n1_ n2_ n3_; clear hb qb0 hg; have zm3 : w9.cell? ⟨qg3, 0, none⟩ = some (.bool zD) := (qE qe6.out 0).trans rfl; have zm4 : w9.cell? ⟨qg3, 1, none⟩ = some (.int .i64 jT) := (qE qe6.out 1).trans rfl; have zm5 : w9.cell? ⟨qg3, 2, none⟩ = some (.int .i64 jQ) := (qE qe6.out 2).trans rfl; have zm6 := qC qe6.out 0; have zm7 := qC qe6.out 1; have zm8 := qC qe6.out 2))
    go_ret
    exact ⟨by first | rfl | (simp [jF, jG] <;> rfl) | (simp [*, jF, jG] <;> rfl), by repeat (first | (with_reducible first | exact HB.out | apply qA | apply q9 | apply qB | refine qI ?_ qQ6.out) | exact HB.out)⟩
   ·rw [if_neg c8] at H
    have qV1 : decide (jQ < 0) = false := decide_eq_false c8
    clear c8
    by_cases c11 : jQ > 2147483647
    ·rw [if_pos c11] at H
     have jA9 : decide (2147483647 < jQ) = true := decide_eq_true c11
     clear c11
     obtain rfl := Option.some.inj H
     go_enter Try.func55, Try.ntmps55
     go_wp2_with (first | ((with_reducible refine zW (N := 1) rfl ?_); refine qa4 ?hg (N := 1) ?hd (cs := #[.bool zD, .int .i64 jT, .int .i64 jQ]) (t := 51) ?hr ?_; (case hd => rfl); (case hg => rfl); (case hr => first | (go_simp; done) | (go_simp; rfl)); intro qg3 hg w12 qb0 hb; have n0_ := q8.mk (jL (by repeat (first | (with_reducible first | exact HB.out | apply qA | apply q9 | apply qB) | exact HB.out)) hb); have n1_ := q8.mk (qb0); have n2_ := q8.mk ((by rw [hg]; exact (qJ (by repeat (first | (with_reducible first | exact HB.out | apply qA | apply q9 | apply qB) | exact HB.out))) : w.heap.size ≤ qg3)); have n3_ := q8.mk ((by rw [hg]; exact (qJ (by repeat (first | (with_reducible first | exact HB.out | apply qA | apply q9 | apply qB) | exact HB.out))) : w.heap.size ≤ qg3)); clear HB; have HB := n0_; have qe6 := n1_; have jX5 := n2_; have qQ6 := n3_; clear n0_ n1_ n2_ n3_; clear hb qb0 hg; have qL5 : w12.cell? ⟨qg3, 0, none⟩ = some (.bool zD) := (qE qe6.out 0).trans rfl; have qL6 : w12.cell? ⟨qg3, 1, none⟩ = some (.int .i64 jT) := (qE qe6.out 1).trans rfl; have qL7 : w12.cell? ⟨qg3, 2, none⟩ = some (.int .i64 jQ) := (qE qe6.out 2).trans rfl; have qL8 := qC qe6.out 0; have qL9 := qC qe6.out 1; have qM0 := qC qe6.out 2))
     go_ret
     exact ⟨by first | rfl | (simp [jF, jG] <;> rfl) | (simp [*, jF, jG] <;> rfl), by repeat (first | (with_reducible first | exact HB.out | apply qA | apply q9 | apply qB | refine qI ?_ qQ6.out) | exact HB.out)⟩
    ·rw [if_neg c11] at H
     have jA9 : decide (2147483647 < jQ) = false := decide_eq_false c11
     clear c11
     by_cases c14 : zD = true
     ·subst c14
      have H1 : (some (decide (jQ > 0))) = some r := by rw [if_pos rfl] at H; exact H
      clear H
      have H := H1
      clear H1
      obtain rfl := Option.some.inj H
      go_enter Try.func55, Try.ntmps55
      go_wp2_with (first | ((with_reducible refine zW (N := 1) rfl ?_); refine qa4 ?hg (N := 1) ?hd (cs := #[.bool true, .int .i64 jT, .int .i64 jQ]) (t := 51) ?hr ?_; (case hd => rfl); (case hg => rfl); (case hr => first | (go_simp; done) | (go_simp; rfl)); intro qg3 hg w15 qb0 hb; have n0_ := q8.mk (jL (by repeat (first | (with_reducible first | exact HB.out | apply qA | apply q9 | apply qB) | exact HB.out)) hb); have n1_ := q8.mk (qb0); have n2_ := q8.mk ((by rw [hg]; exact (qJ (by repeat (first | (with_reducible first | exact HB.out | apply qA | apply q9 | apply qB) | exact HB.out))) : w.heap.size ≤ qg3)); have n3_ := q8.mk ((by rw [hg]; exact (qJ (by repeat (first | (with_reducible first | exact HB.out | apply qA | apply q9 | apply qB) | exact HB.out))) : w.heap.size ≤ qg3)); clear HB; have HB := n0_; have qe6 := n1_; have jX5 := n2_; have qQ6 := n3_; clear n0_ n1_ n2_ n3_; clear hb qb0 hg; have qE8 : w15.cell? ⟨qg3, 0, none⟩ = some (.bool true) := (qE qe6.out 0).trans rfl; have qE9 : w15.cell? ⟨qg3, 1, none⟩ = some (.int .i64 jT) := (qE qe6.out 1).trans rfl; have qF0 : w15.cell? ⟨qg3, 2, none⟩ = some (.int .i64 jQ) := (qE qe6.out 2).trans rfl; have qF1 := qC qe6.out 0; have qF2 := qC qe6.out 1; have qF3 := qC qe6.out 2))
      go_ret
      exact ⟨by first | rfl | (simp [jF, jG] <;> rfl) | (simp [*, jF, jG] <;> rfl), by repeat (first | (with_reducible first | exact HB.out | apply qA | apply q9 | apply qB | refine qI ?_ qQ6.out) | exact HB.out)⟩
     ·replace c14 := Bool.eq_false_iff.mpr c14
      subst c14
      have H1 : (some true) = some r := by rw [if_neg (show ¬ (false = true) by decide)] at H; exact H
      clear H
      have H := H1
      clear H1
      obtain rfl := Option.some.inj H
      go_enter Try.func55, Try.ntmps55
      go_wp2_with (first | ((with_reducible refine zW (N := 1) rfl ?_); refine qa4 ?hg (N := 1) ?hd (cs := #[.bool false, .int .i64 jT, .int .i64 jQ]) (t := 51) ?hr ?_; (case hd => rfl); (case hg => rfl); (case hr => first | (go_simp; done) | (go_simp; rfl)); intro qg3 hg w17 qb0 hb; have n0_ := q8.mk (jL (by repeat (first | (with_reducible first | exact HB.out | apply qA | apply q9 | apply qB) | exact HB.out)) hb); have n1_ := q8.mk (qb0); have n2_ := q8.mk ((by rw [hg]; exact (qJ (by repeat (first | (with_reducible first | exact HB.out | apply qA | apply q9 | apply qB) | exact HB.out))) : w.heap.size ≤ qg3)); have n3_ := q8.mk ((by rw [hg]; exact (qJ (by repeat (first | (with_reducible first | exact HB.out | apply qA | apply q9 | apply qB) | exact HB.out))) : w.heap.size ≤ qg3)); clear HB; have HB := n0_; have qe6 := n1_; have jX5 := n2_; have qQ6 := n3_; clear n0_ n1_ n2_ n3_; clear hb qb0 hg; have jm8 : w17.cell? ⟨qg3, 0, none⟩ = some (.bool false) := (qE qe6.out 0).trans rfl; have jm9 : w17.cell? ⟨qg3, 1, none⟩ = some (.int .i64 jT) := (qE qe6.out 1).trans rfl; have jn0 : w17.cell? ⟨qg3, 2, none⟩ = some (.int .i64 jQ) := (qE qe6.out 2).trans rfl; have jn1 := qC qe6.out 0; have jn2 := qC qe6.out 1; have jn3 := qC qe6.out 2))
      go_ret
      exact ⟨by first | rfl | (simp [jF, jG] <;> rfl) | (simp [*, jF, jG] <;> rfl), by repeat (first | (with_reducible first | exact HB.out | apply qA | apply q9 | apply qB | refine qI ?_ qQ6.out) | exact HB.out)⟩
end Go.Proofs.Ytngkneknopenmaa.K
end
section
namespace Go.Proofs.Ytngkneknopenmaa.K
open Go.Proofs.Ytngkneknopenmaa
open Go.RowKit Go.Proofs.YtngkneknopenmaaW.PrintWords Go.Proofs.YtngkneknopenmaaW.qi2 Go.Proofs.YtngkneknopenmaaW.qk7
attribute [local go_sem] qr4 qr5 qw7 qw8 qn2 qn3 qr6 qr7   -- for this text's walks alone
set_option linter.unusedVariables false
set_option linter.unusedSimpArgs false
mutual
def jY.j0 : Nat → Bool → Int → Int → Int → List (S51) → Option (Bool)
 | 0, _, _, _, _, _ => none
 | k + 1, x41, x233000, x233001, x233002, x233003 => if x41 = true then (some false) else (jY.l0 k x233003 (x233003.length : Int) 0)
def jY.l0 : Nat → List (S51) → Int → Int → Option (Bool)
 | 0, _, _, _ => none
 | k + 1, x43, x44, x45 => if x45 < x44 then (if 0 ≤ x45 then (if x45 < (x43.length : Int) then ((qy5.f ((qG x43 x45).f0) ((qG x43 x45).f1) ((qG x43 x45).f2)).bind fun t235 => (if t235 = true then (jY.l0 k x43 x44 (wrap64 (x45 + 1))) else (some false))) else (none)) else (none)) else (some true)
end
def jY.f (k : Nat) (zD : Int) (jT : Int) (jQ : Int) (jM : List (S51)) : Option (Bool) := if zD < 0 then (jY.j0 k true zD jT jQ jM) else (if zD ≥ 64 then (jY.j0 k true zD jT jQ jM) else (if jT < 0 then (jY.j0 k true zD jT jQ jM) else (if jT ≥ jQ then (jY.j0 k true zD jT jQ jM) else (if jQ > 2147483647 then (jY.j0 k true zD jT jQ jM) else (if (jM.length : Int) < 1 then (jY.j0 k true zD jT jQ jM) else (jY.j0 k (decide ((jM.length : Int) > 64)) zD jT jQ jM))))))
set_option maxHeartbeats 8000000 in
set_option maxRecDepth 100000 in
theorem jY.calls (k : Nat) (zD : Int) (jT : Int) (jQ : Int) (qv1 : Option Addr) (ql8 : Nat) (jM : List (S51)) (r : Bool) (w : World) (jX6 : Kd.C k51 w qv1 jM.length jM) (jX7 : jM.length ≤ ql8) (h : jY.f k zD jT jQ jM = some r) :
  Calls Try.prog 29 #[.agg #[.int .i64 zD, .int .i64 jT, .int .i64 jQ, .slice qv1 jM.length ql8]] w fun e w' => e = .returned (.bool r) ∧ Below w.heap.size w w' := by
 have zx1 := Try.underlying55
 have zy4 := Try.underlying51
 have jX8 := q8.mk jX6
 have Qp7 := q8.mk jX7
 clear jX6 jX7
 have HB := q8.mk (Below.refl w.heap.size w)
 have H : (if zD < 0 then (jY.j0 k true zD jT jQ jM) else (if zD ≥ 64 then (jY.j0 k true zD jT jQ jM) else (if jT < 0 then (jY.j0 k true zD jT jQ jM) else (if jT ≥ jQ then (jY.j0 k true zD jT jQ jM) else (if jQ > 2147483647 then (jY.j0 k true zD jT jQ jM) else (if (jM.length : Int) < 1 then (jY.j0 k true zD jT jQ jM) else (jY.j0 k (decide ((jM.length : Int) > 64)) zD jT jQ jM))))))) = some r := h
 clear h
 have HC2 := q8.mk H
 clear H
 go_enter Try.func29, Try.ntmps29
 go_upto_region 1 with (first | ((with_reducible refine zW (N := 1) rfl ?_); (try (refine qL4 (by rfl) ?_; dsimp only)); refine qa4 ?hg (N := 1) ?hd (cs := #[.int .i64 zD, .int .i64 jT, .int .i64 jQ, .slice qv1 jM.length ql8]) (t := 55) ?hr ?_; (case hd => rfl); (case hg => rfl); (case hr => first | (go_simp; done) | (go_simp; rfl)); intro qc8 hg w3 qb0 hb; have n0_ := q8.mk (jL (by repeat (first | (with_reducible first | exact HB.out | apply qA | apply q9 | apply qB) | exact HB.out)) hb); have n1_ := q8.mk (qb0); have n2_ := q8.mk ((by rw [hg]; exact (qJ (by repeat (first | (with_reducible first | exact HB.out | apply qA | apply q9 | apply qB) | exact HB.out))) : w.heap.size ≤ qc8)); have n3_ := q8.mk ((by rw [hg]; exact (qJ (by repeat (first | (with_reducible first | exact HB.out | apply qA | apply q9 | apply qB) | exact HB.out))) : w.heap.size ≤ qc8)); clear HB; have HB := n0_; have jZ := n1_; have GW232 := n2_; have qs9 := n3_; clear n0_ n1_ n2_ n3_; clear hb qb0 hg))
 (try simp only [Act.put, List.setIfInBounds_toArray, List.set_cons_zero, List.set_cons_succ])
 go_cut [41] (fun v41 wc => ∃ (kq : Nat) (zm9 : Bool), v41 = .bool zm9 ∧ q8 (jY.j0 kq zm9 zD jT jQ jM = some r) ∧ q8 (kq ≤ k) ∧ q8 (wc.heap[qc8]? = some (.cells #[.int .i64 zD, .int .i64 jT, .int .i64 jQ, (.slice qv1 jM.length ql8)] 55 (0, 0))) ∧ q8 (Below w.heap.size w wc))
 case first =>
  have H := HC2.out
  clear HC2
  by_cases c4 : zD < 0
  ·rw [if_pos c4] at H
   have qC5 : decide (zD < 0) = true := decide_eq_true c4
   clear c4
   (first | rw [qC5] | (simp only [qa2, qa3]; rw [qC5]) | skip)
   have H' := q8.mk H
   clear H
   have jt6 : w3.cell? ⟨qc8, 0, none⟩ = some (.int .i64 zD) := (qE jZ.out 0).trans rfl
   have jt7 : w3.cell? ⟨qc8, 1, none⟩ = some (.int .i64 jT) := (qE jZ.out 1).trans rfl
   have jt8 : w3.cell? ⟨qc8, 2, none⟩ = some (.int .i64 jQ) := (qE jZ.out 2).trans rfl
   have jt9 : w3.cell? ⟨qc8, 3, none⟩ = some (.slice qv1 jM.length ql8) := (qE jZ.out 3).trans rfl
   have ju0 := qC jZ.out 0
   have ju1 := qC jZ.out 1
   have ju2 := qC jZ.out 2
   have ju3 := qC jZ.out 3
   go_wp2
   go_meet
   case rel => exact ⟨_, (true), (by first | rfl | (simp; done) | (simp [*]; done)), H', ⟨by first | omega | exact Nat.le_refl _⟩, ⟨by (with_reducible repeat (first | refine qK ?_ _ | refine qR ?_ | refine qL ?_ _)); exact jZ.out⟩, ⟨by repeat (first | (with_reducible first | exact HB.out | apply qA | apply q9 | apply qB | refine qI ?_ qs9.out) | exact HB.out)⟩⟩
  ·rw [if_neg c4] at H
   have qC5 : decide (zD < 0) = false := decide_eq_false c4
   clear c4
   (first | rw [qC5] | (simp only [qa2, qa3]; rw [qC5]) | skip)
   by_cases c6 : zD ≥ 64
   ·rw [if_pos c6] at H
    have ja0 : decide (64 ≤ zD) = true := decide_eq_true c6
    clear c6
    have H' := q8.mk H
    clear H
    have qW6 : w3.cell? ⟨qc8, 0, none⟩ = some (.int .i64 zD) := (qE jZ.out 0).trans rfl
    have qW7 : w3.cell? ⟨qc8, 1, none⟩ = some (.int .i64 jT) := (qE jZ.out 1).trans rfl
    have qW8 : w3.cell? ⟨qc8, 2, none⟩ = some (.int .i64 jQ) := (qE jZ.out 2).trans rfl
    have ju4 : w3.cell? ⟨qc8, 3, none⟩ = some (.slice qv1 jM.length ql8) := (qE jZ.out 3).trans rfl
    have qW9 := qC jZ.out 0
    have qX0 := qC jZ.out 1
    have qX1 := qC jZ.out 2
    have ju5 := qC jZ.out 3
    go_wp2
    go_meet
    case rel => exact ⟨_, (true), (by first | rfl | (simp; done) | (simp [*]; done)), H', ⟨by first | omega | exact Nat.le_refl _⟩, ⟨by (with_reducible repeat (first | refine qK ?_ _ | refine qR ?_ | refine qL ?_ _)); exact jZ.out⟩, ⟨by repeat (first | (with_reducible first | exact HB.out | apply qA | apply q9 | apply qB | refine qI ?_ qs9.out) | exact HB.out)⟩⟩
   ·rw [if_neg c6] at H
    have ja0 : decide (64 ≤ zD) = false := decide_eq_false c6
    clear c6
    by_cases c8 : jT < 0
    ·rw [if_pos c8] at H
     have qV1 : decide (jT < 0) = true := decide_eq_true c8
     clear c8
     have H' := q8.mk H
     clear H
     have ju6 : w3.cell? ⟨qc8, 0, none⟩ = some (.int .i64 zD) := (qE jZ.out 0).trans rfl
     have ju7 : w3.cell? ⟨qc8, 1, none⟩ = some (.int .i64 jT) := (qE jZ.out 1).trans rfl
     have ju8 : w3.cell? ⟨qc8, 2, none⟩ = some (.int .i64 jQ) := (qE jZ.out 2).trans rfl
     have ju9 : w3.cell? ⟨qc8, 3, none⟩ = some (.slice qv1 jM.length ql8) := (qE jZ.out 3).trans rfl
     have jv0 := qC jZ.out 0
     have jv1 := qC jZ.out 1
     have jv2 := qC jZ.out 2
     have jv3 := qC jZ.out 3
     go_wp2
     go_meet
     case rel => exact ⟨_, (true), (by first | rfl | (simp; done) | (simp [*]; done)), H', ⟨by first | omega | exact Nat.le_refl _⟩, ⟨by (with_reducible repeat (first | refine qK ?_ _ | refine qR ?_ | refine qL ?_ _)); exact jZ.out⟩, ⟨by repeat (first | (with_reducible first | exact HB.out | apply qA | apply q9 | apply qB | refine qI ?_ qs9.out) | exact HB.out)⟩⟩
    ·rw [if_neg c8] at H
     have qV1 : decide (jT < 0) = false := decide_eq_false c8
     clear c8
     by_cases c10 : jT ≥ jQ
     ·rw [if_pos c10] at H
      have qP1 : decide (jQ ≤ jT) = true := decide_eq_true c10
      clear c10
      have H' := q8.mk H
      clear H
      have jd8 : w3.cell? ⟨qc8, 0, none⟩ = some (.int .i64 zD) := (qE jZ.out 0).trans rfl
      have jd9 : w3.cell? ⟨qc8, 1, none⟩ = some (.int .i64 jT) := (qE jZ.out 1).trans rfl
      have je0 : w3.cell? ⟨qc8, 2, none⟩ = some (.int .i64 jQ) := (qE jZ.out 2).trans rfl
      have je1 : w3.cell? ⟨qc8, 3, none⟩ = some (.slice qv1 jM.length ql8) := (qE jZ.out 3).trans rfl
      have je2 := qC jZ.out 0
      have je3 := qC jZ.out 1
      have je4 := qC jZ.out 2
      have je5 := qC jZ.out 3
      go_wp2
      go_meet
      case rel => exact ⟨_, (true), (by first | rfl | (simp; done) | (simp [*]; done)), H', ⟨by first | omega | exact Nat.le_refl _⟩, ⟨by (with_reducible repeat (first | refine qK ?_ _ | refine qR ?_ | refine qL ?_ _)); exact jZ.out⟩, ⟨by repeat (first | (with_reducible first | exact HB.out | apply qA | apply q9 | apply qB | refine qI ?_ qs9.out) | exact HB.out)⟩⟩
     ·rw [if_neg c10] at H
      have qP1 : decide (jQ ≤ jT) = false := decide_eq_false c10
      clear c10
      by_cases c12 : jQ > 2147483647
      ·rw [if_pos c12] at H
       have qH0 : decide (2147483647 < jQ) = true := decide_eq_true c12
       clear c12
       have H' := q8.mk H
       clear H
       have qL5 : w3.cell? ⟨qc8, 0, none⟩ = some (.int .i64 zD) := (qE jZ.out 0).trans rfl
       have qL6 : w3.cell? ⟨qc8, 1, none⟩ = some (.int .i64 jT) := (qE jZ.out 1).trans rfl
       have qL7 : w3.cell? ⟨qc8, 2, none⟩ = some (.int .i64 jQ) := (qE jZ.out 2).trans rfl
       have je6 : w3.cell? ⟨qc8, 3, none⟩ = some (.slice qv1 jM.length ql8) := (qE jZ.out 3).trans rfl
       have qL8 := qC jZ.out 0
       have qL9 := qC jZ.out 1
       have qM0 := qC jZ.out 2
       have je7 := qC jZ.out 3
       go_wp2
       go_meet
       case rel => exact ⟨_, (true), (by first | rfl | (simp; done) | (simp [*]; done)), H', ⟨by first | omega | exact Nat.le_refl _⟩, ⟨by (with_reducible repeat (first | refine qK ?_ _ | refine qR ?_ | refine qL ?_ _)); exact jZ.out⟩, ⟨by repeat (first | (with_reducible first | exact HB.out | apply qA | apply q9 | apply qB | refine qI ?_ qs9.out) | exact HB.out)⟩⟩
      ·rw [if_neg c12] at H
       have qH0 : decide (2147483647 < jQ) = false := decide_eq_false c12
       clear c12
       by_cases c14 : (jM.length : Int) < 1
       ·rw [if_pos c14] at H
        have qY9 : decide ((jM.length : Int) < 1) = true := decide_eq_true c14
        have jv4 : decide (jM.length < 1) = true := decide_eq_true (by omega)
        clear c14
        have H' := q8.mk H
        clear H
        have je8 : w3.cell? ⟨qc8, 0, none⟩ = some (.int .i64 zD) := (qE jZ.out 0).trans rfl
        have je9 : w3.cell? ⟨qc8, 1, none⟩ = some (.int .i64 jT) := (qE jZ.out 1).trans rfl
        have jf0 : w3.cell? ⟨qc8, 2, none⟩ = some (.int .i64 jQ) := (qE jZ.out 2).trans rfl
        have jf1 : w3.cell? ⟨qc8, 3, none⟩ = some (.slice qv1 jM.length ql8) := (qE jZ.out 3).trans rfl
        have jf2 := qC jZ.out 0
        have jf3 := qC jZ.out 1
        have jf4 := qC jZ.out 2
        have jf5 := qC jZ.out 3
        go_wp2
        go_meet
        case rel => exact ⟨_, (true), (by first | rfl | (simp; done) | (simp [*]; done)), H', ⟨by first | omega | exact Nat.le_refl _⟩, ⟨by (with_reducible repeat (first | refine qK ?_ _ | refine qR ?_ | refine qL ?_ _)); exact jZ.out⟩, ⟨by repeat (first | (with_reducible first | exact HB.out | apply qA | apply q9 | apply qB | refine qI ?_ qs9.out) | exact HB.out)⟩⟩
       ·rw [if_neg c14] at H
        have qY9 : decide ((jM.length : Int) < 1) = false := decide_eq_false c14
        have jv4 : decide (jM.length < 1) = false := decide_eq_false (by omega)
        clear c14
        have H' := q8.mk H
        clear H
        have qE8 : w3.cell? ⟨qc8, 0, none⟩ = some (.int .i64 zD) := (qE jZ.out 0).trans rfl
        have qE9 : w3.cell? ⟨qc8, 1, none⟩ = some (.int .i64 jT) := (qE jZ.out 1).trans rfl
        have qF0 : w3.cell? ⟨qc8, 2, none⟩ = some (.int .i64 jQ) := (qE jZ.out 2).trans rfl
        have jf6 : w3.cell? ⟨qc8, 3, none⟩ = some (.slice qv1 jM.length ql8) := (qE jZ.out 3).trans rfl
        have qF1 := qC jZ.out 0
        have qF2 := qC jZ.out 1
        have qF3 := qC jZ.out 2
        have jf7 := qC jZ.out 3
        go_wp2
        go_meet
        case rel => exact ⟨_, (decide ((jM.length : Int) > 64)), (by first | rfl | (simp; done) | (simp [*]; done)), H', ⟨by first | omega | exact Nat.le_refl _⟩, ⟨by (with_reducible repeat (first | refine qK ?_ _ | refine qR ?_ | refine qL ?_ _)); exact jZ.out⟩, ⟨by repeat (first | (with_reducible first | exact HB.out | apply qA | apply q9 | apply qB | refine qI ?_ qs9.out) | exact HB.out)⟩⟩
 case rest =>
  clear HC2
  try clear c1
  try clear c2
  try clear p2
  try clear c4
  try clear qC5
  try clear c6
  try clear ja0
  try clear c8
  try clear qV1
  try clear c10
  try clear qP1
  try clear c12
  try clear qH0
  try clear c14
  try clear qY9
  try clear jv4
  try clear jd8
  try clear jd9
  try clear je0
  try clear je1
  try clear qL5
  try clear qL6
  try clear qL7
  try clear je6
  try clear je8
  try clear je9
  try clear jf0
  try clear jf1
  try clear qE8
  try clear qE9
  try clear qF0
  try clear jf6
  try clear jt6
  try clear jt7
  try clear jt8
  try clear jt9
  try clear qW6
  try clear qW7
  try clear qW8
  try clear ju4
  try clear ju6
  try clear ju7
  try clear ju8
  try clear ju9
  try clear je2
  try clear je3
  try clear je4
  try clear je5
  try clear qL8
  try clear qL9
  try clear qM0
  try clear je7
  try clear jf2
  try clear jf3
  try clear jf4
  try clear jf5
  try clear qF1
  try clear qF2
  try clear qF3
  try clear jf7
  try clear ju0
  try clear ju1
  try clear ju2
  try clear ju3
  try clear qW9
  try clear qX0
  try clear qX1
  try clear ju5
  try clear jv0
  try clear jv1
  try clear jv2
  try clear jv3
  obtain ⟨kq, zm9, rfl, HA, HJ1, jZ, HB⟩ := hcut
  cases kq with
  | zero => exact absurd HA.out (by simp [jY.j0])
  | succ kj1 =>
   have H := HA.out
   clear HA
   simp only [jY.j0] at H
   by_cases c17 : zm9 = true
   ·subst c17
    have H1 : (some false) = some r := by rw [if_pos rfl] at H; exact H
    clear H
    have H := H1
    clear H1
    obtain rfl := Option.some.inj H
    go_wp2
    go_ret
    exact ⟨by first | rfl | (simp [jF, jG] <;> rfl) | (simp [*, jF, jG] <;> rfl), by repeat (first | (with_reducible first | exact HB.out | apply qA | apply q9 | apply qB | refine qI ?_ qs9.out) | exact HB.out)⟩
   ·replace c17 := Bool.eq_false_iff.mpr c17
    subst c17
    have H1 : (jY.l0 kj1 jM (jM.length : Int) 0) = some r := by rw [if_neg (show ¬ (false = true) by decide)] at H; exact H
    clear H
    have H := H1
    clear H1
    have H' := q8.mk H
    clear H
    have jm8 : wc.cell? ⟨qc8, 0, none⟩ = some (.int .i64 zD) := (qE jZ.out 0).trans rfl
    have jm9 : wc.cell? ⟨qc8, 1, none⟩ = some (.int .i64 jT) := (qE jZ.out 1).trans rfl
    have jn0 : wc.cell? ⟨qc8, 2, none⟩ = some (.int .i64 jQ) := (qE jZ.out 2).trans rfl
    have zQ3 : wc.cell? ⟨qc8, 3, none⟩ = some (.slice qv1 jM.length ql8) := (qE jZ.out 3).trans rfl
    have jn1 := qC jZ.out 0
    have jn2 := qC jZ.out 1
    have jn3 := qC jZ.out 2
    have zQ4 := qC jZ.out 3
    go_wp2
    go_loopg [45] kj1 (fun kq v45 w' => ∃ (qe2 : Int), v45 = .int .i64 qe2 ∧ q8 (jY.l0 kq jM (jM.length : Int) qe2 = some r) ∧ q8 (kq ≤ kj1) ∧ q8 (w'.heap[qc8]? = some (.cells #[.int .i64 zD, .int .i64 jT, .int .i64 jQ, (.slice qv1 jM.length ql8)] 55 (0, 0))) ∧ q8 (Below w.heap.size w w'))
    case atStart => exact ⟨(0), (by first | rfl | (simp; done) | (simp [*]; done)), H', ⟨Nat.le_refl _⟩, ⟨by (with_reducible repeat (first | refine qK ?_ _ | refine qR ?_ | refine qL ?_ _)); exact jZ.out⟩, ⟨by repeat (first | (with_reducible first | exact HB.out | apply qA | apply q9 | apply qB | refine qI ?_ qs9.out) | exact HB.out)⟩⟩
    case round =>
     clear H'
     try clear c1
     try clear c2
     try clear p2
     try clear c4
     try clear qC5
     try clear c6
     try clear ja0
     try clear c8
     try clear qV1
     try clear c10
     try clear qP1
     try clear c12
     try clear qH0
     try clear c14
     try clear qY9
     try clear jv4
     try clear c17
     try clear jd8
     try clear jd9
     try clear je0
     try clear je1
     try clear qL5
     try clear qL6
     try clear qL7
     try clear je6
     try clear je8
     try clear je9
     try clear jf0
     try clear jf1
     try clear qE8
     try clear qE9
     try clear qF0
     try clear jf6
     try clear jm8
     try clear jm9
     try clear jn0
     try clear zQ3
     try clear jt6
     try clear jt7
     try clear jt8
     try clear jt9
     try clear qW6
     try clear qW7
     try clear qW8
     try clear ju4
     try clear ju6
     try clear ju7
     try clear ju8
     try clear ju9
     try clear je2
     try clear je3
     try clear je4
     try clear je5
     try clear qL8
     try clear qL9
     try clear qM0
     try clear je7
     try clear jf2
     try clear jf3
     try clear jf4
     try clear jf5
     try clear qF1
     try clear qF2
     try clear qF3
     try clear jf7
     try clear jn1
     try clear jn2
     try clear jn3
     try clear zQ4
     try clear ju0
     try clear ju1
     try clear ju2
     try clear ju3
     try clear qW9
     try clear qX0
     try clear qX1
     try clear ju5
     try clear jv0
     try clear jv1
     try clear jv2
     try clear jv3
     try clear p2
     obtain ⟨qe2, rfl, HA, HK2, jZ, HB⟩ := hrel
     cases gk with
     | zero => exact absurd HA.out (by simp [jY.l0])
     | succ k2 =>
      have H := HA.out
      clear HA
      simp only [jY.l0] at H
      by_cases c19 : qe2 < (jM.length : Int)
      ·rw [if_pos c19] at H
       have zX3 : decide (qe2 < (jM.length : Int)) = true := decide_eq_true c19
       clear c19
       by_cases c20 : 0 ≤ qe2
       ·rw [if_pos c20] at H
        have Qj8 : decide (0 ≤ qe2) = true := decide_eq_true c20
        clear c20
        by_cases c21 : qe2 < (jM.length : Int)
        ·rw [if_pos c21] at H
         have Qj9 : decide (qe2 < (jM.length : Int)) = true := decide_eq_true c21
         clear c21
         replace H := Option.bind_eq_some_iff.mp H
         obtain ⟨t235, A220, H⟩ := H
         replace H : (if t235 = true then (jY.l0 k2 jM (jM.length : Int) (wrap64 (qe2 + 1))) else (some false)) = some r := H
         have A22 := q8.mk A220
         clear A220
         by_cases c23 : t235 = true
         ·subst c23
          have H1 : (jY.l0 k2 jM (jM.length : Int) (wrap64 (qe2 + 1))) = some r := by rw [if_pos rfl] at H; exact H
          clear H
          have H := H1
          clear H1
          have H' := q8.mk H
          clear H
          have zg1 : 0 ≤ (qe2 : Int) := of_decide_eq_true (by first | (with_reducible assumption) | assumption)
          have zg2 : qe2 < (jM.length : Int) := of_decide_eq_true (by first | (with_reducible assumption) | assumption)
          obtain ⟨jf8, e233, qM1, qM2, qM3⟩ := qs5 jX8.out qe2 zg1 zg2
          cases e233
          replace qM1 := (HB.out.cell (World.block_lt_of_cell? w _ qM1)).trans qM1
          replace qM2 := (HB.out.cell (World.block_lt_of_cell? w _ qM2)).trans qM2
          replace qM3 := (HB.out.cell (World.block_lt_of_cell? w _ qM3)).trans qM3
          replace zg1 := eq_true zg1
          replace zg2 := eq_true zg2
          go_wp2_with (first | ((with_reducible refine zW (N := 4) rfl ?_); (try (refine qL4 (by rfl) ?_; dsimp only)); refine qa4 ?hg (N := 4) ?hd (cs := #[.bool false, .int .i64 0, .int .i64 0]) (t := 51) ?hr ?_; (case hd => rfl); (case hg => rfl); (case hr => first | (go_simp; done) | (go_simp; rfl)); intro qy6 hg w24 qb0 hb; have n0_ := q8.mk (qn4 (g := qc8) (o := .cells #[.int .i64 zD, .int .i64 jT, .int .i64 jQ, .slice (some jf8) jM.length ql8] 55 (0, 0)) (by (with_reducible repeat (first | refine qK ?_ _ | refine qR ?_ | refine qL ?_ _)); exact jZ.out) hb); have n1_ := q8.mk (jL (by repeat (first | (with_reducible first | exact HB.out | apply qA | apply q9 | apply qB | refine qI ?_ qs9.out) | exact HB.out)) hb); have n2_ := q8.mk (qb0); have n3_ := q8.mk ((by rw [hg]; exact (qJ (by repeat (first | (with_reducible first | exact HB.out | apply qA | apply q9 | apply qB | refine qI ?_ qs9.out) | exact HB.out))) : w.heap.size ≤ qy6)); have n4_ := q8.mk ((by rw [hg]; exact (qJ (by repeat (first | (with_reducible first | exact HB.out | apply qA | apply q9 | apply qB | refine qI ?_ qs9.out) | exact HB.out))) : w.heap.size ≤ qy6)); have n5_ := q8.mk ((by rw [hg]; exact Nat.ne_of_lt (qu6 (g := qc8) (o := .cells #[.int .i64 zD, .int .i64 jT, .int .i64 jQ, .slice (some jf8) jM.length ql8] 55 (0, 0)) (by (with_reducible repeat (first | refine qK ?_ _ | refine qR ?_ | refine qL ?_ _)); exact jZ.out)) : qc8 ≠ qy6)); have n6_ := q8.mk ((by rw [hg]; exact Nat.ne_of_gt (qu6 (g := qc8) (o := .cells #[.int .i64 zD, .int .i64 jT, .int .i64 jQ, .slice (some jf8) jM.length ql8] 55 (0, 0)) (by (with_reducible repeat (first | refine qK ?_ _ | refine qR ?_ | refine qL ?_ _)); exact jZ.out)) : qy6 ≠ qc8)); clear jZ; clear HB; have jZ := n0_; have HB := n1_; have qv2 := n2_; have Qp8 := n3_; have jX9 := n4_; have qq4 := n5_; have ji7 := n6_; clear n0_ n1_ n2_ n3_ n4_ n5_ n6_; clear hb qb0 hg; have hnb25 := ji7.out; have hnc25 := qq4.out; have zQ5 : w24.cell? ⟨qy6, 0, none⟩ = some (.bool false) := (qE qv2.out 0).trans rfl; have zQ6 : w24.cell? ⟨qy6, 1, none⟩ = some (.int .i64 0) := (qE qv2.out 1).trans rfl; have zQ7 : w24.cell? ⟨qy6, 2, none⟩ = some (.int .i64 0) := (qE qv2.out 2).trans rfl; have zQ8 := qC qv2.out 0; have zQ9 := qC qv2.out 1; have zR0 := qC qv2.out 2) | ((with_reducible refine qj6 (f := 55) rfl ?_); refine qK1 (some 50) rfl rfl Try.func55 (by kernel_rfl) rfl #[.agg #[.bool ((qG jM qe2).f0), .int .i64 ((qG jM qe2).f1), .int .i64 ((qG jM qe2).f2)]] rfl (by (try simp only [List.map_toArray, List.map_cons, List.map_nil]); first | done | rfl | (simp only [List.length_drop, List.length_take]; rfl)) ?_; (with_reducible refine (qy5.calls ((qG jM qe2).f0) ((qG jM qe2).f1) ((qG jM qe2).f2) true _ A22.out).mono ?_); rintro e w27 ⟨rfl, hb⟩; refine ⟨_, rfl, ?_⟩; have n0_ := q8.mk (qn4 (g := qc8) (o := .cells #[.int .i64 zD, .int .i64 jT, .int .i64 jQ, .slice (some jf8) jM.length ql8] 55 (0, 0)) (by (with_reducible repeat (first | refine qK ?_ _ | refine qR ?_ | refine qL ?_ _)); refine qk2 ?_ qq4.out _; (with_reducible repeat (first | refine qK ?_ _ | refine qR ?_ | refine qL ?_ _)); refine qk2 ?_ qq4.out _; (with_reducible repeat (first | refine qK ?_ _ | refine qR ?_ | refine qL ?_ _)); refine qk2 ?_ qq4.out _; (with_reducible repeat (first | refine qK ?_ _ | refine qR ?_ | refine qL ?_ _)); exact jZ.out) hb); have n1_ := q8.mk (qn4 (g := qy6) (o := .cells #[.bool ((qG jM qe2).f0), .int .i64 ((qG jM qe2).f1), .int .i64 ((qG jM qe2).f2)] 51 (0, 0)) (by (with_reducible repeat (first | refine qK ?_ _ | refine qR ?_ | refine qL ?_ _)); refine qe0 (cs := #[.bool ((qG jM qe2).f0), .int .i64 ((qG jM qe2).f1), .int .i64 0]) ?_ 2 _ rfl; (with_reducible repeat (first | refine qK ?_ _ | refine qR ?_ | refine qL ?_ _)); refine qe0 (cs := #[.bool ((qG jM qe2).f0), .int .i64 0, .int .i64 0]) ?_ 1 _ rfl; (with_reducible repeat (first | refine qK ?_ _ | refine qR ?_ | refine qL ?_ _)); refine qe0 (cs := #[.bool false, .int .i64 0, .int .i64 0]) ?_ 0 _ rfl; (with_reducible repeat (first | refine qK ?_ _ | refine qR ?_ | refine qL ?_ _)); exact qv2.out) hb); have n2_ := q8.mk (jL (by repeat (first | (with_reducible first | exact HB.out | apply qA | apply q9 | apply qB | refine qI ?_ qs9.out | refine qI ?_ jX9.out) | exact HB.out)) hb); clear jZ; clear qv2; clear HB; have jZ := n0_; have qv2 := n1_; have HB := n2_; clear n0_ n1_ n2_; (try clear hb); (try clear hb2); (try clear hk); (try clear hi)))
          go_roundg k2
          case measure => have := HJ1.out; have := HK2.out; omega
          case rel => exact ⟨(wrap64 (qe2 + 1)), (by first | rfl | (simp; done) | (simp [*]; done)), H', ⟨by have := HJ1.out; have := HK2.out; omega⟩, ⟨by (with_reducible repeat (first | refine qK ?_ _ | refine qR ?_ | refine qL ?_ _)); exact jZ.out⟩, ⟨by repeat (first | (with_reducible first | exact HB.out | apply qA | apply q9 | apply qB | refine qI ?_ qs9.out | refine qI ?_ jX9.out) | exact HB.out)⟩⟩
         ·replace c23 := Bool.eq_false_iff.mpr c23
          subst c23
          have H1 : (some false) = some r := by rw [if_neg (show ¬ (false = true) by decide)] at H; exact H
          clear H
          have H := H1
          clear H1
          obtain rfl := Option.some.inj H
          have zg1 : 0 ≤ (qe2 : Int) := of_decide_eq_true (by first | (with_reducible assumption) | assumption)
          have zg2 : qe2 < (jM.length : Int) := of_decide_eq_true (by first | (with_reducible assumption) | assumption)
          obtain ⟨jf8, e233, qM1, qM2, qM3⟩ := qs5 jX8.out qe2 zg1 zg2
          cases e233
          replace qM1 := (HB.out.cell (World.block_lt_of_cell? w _ qM1)).trans qM1
          replace qM2 := (HB.out.cell (World.block_lt_of_cell? w _ qM2)).trans qM2
          replace qM3 := (HB.out.cell (World.block_lt_of_cell? w _ qM3)).trans qM3
          replace zg1 := eq_true zg1
          replace zg2 := eq_true zg2
          go_wp2_with (first | ((with_reducible refine zW (N := 4) rfl ?_); (try (refine qL4 (by rfl) ?_; dsimp only)); refine qa4 ?hg (N := 4) ?hd (cs := #[.bool false, .int .i64 0, .int .i64 0]) (t := 51) ?hr ?_; (case hd => rfl); (case hg => rfl); (case hr => first | (go_simp; done) | (go_simp; rfl)); intro qy6 hg w28 qb0 hb; have n0_ := q8.mk (qn4 (g := qc8) (o := .cells #[.int .i64 zD, .int .i64 jT, .int .i64 jQ, .slice (some jf8) jM.length ql8] 55 (0, 0)) (by (with_reducible repeat (first | refine qK ?_ _ | refine qR ?_ | refine qL ?_ _)); exact jZ.out) hb); have n1_ := q8.mk (jL (by repeat (first | (with_reducible first | exact HB.out | apply qA | apply q9 | apply qB | refine qI ?_ qs9.out) | exact HB.out)) hb); have n2_ := q8.mk (qb0); have n3_ := q8.mk ((by rw [hg]; exact (qJ (by repeat (first | (with_reducible first | exact HB.out | apply qA | apply q9 | apply qB | refine qI ?_ qs9.out) | exact HB.out))) : w.heap.size ≤ qy6)); have n4_ := q8.mk ((by rw [hg]; exact (qJ (by repeat (first | (with_reducible first | exact HB.out | apply qA | apply q9 | apply qB | refine qI ?_ qs9.out) | exact HB.out))) : w.heap.size ≤ qy6)); have n5_ := q8.mk ((by rw [hg]; exact Nat.ne_of_lt (qu6 (g := qc8) (o := .cells #[.int .i64 zD, .int .i64 jT, .int .i64 jQ, .slice (some jf8) jM.length ql8] 55 (0, 0)) (by (with_reducible repeat (first | refine qK ?_ _ | refine qR ?_ | refine qL ?_ _)); exact jZ.out)) : qc8 ≠ qy6)); have n6_ := q8.mk ((by rw [hg]; exact Nat.ne_of_gt (qu6 (g := qc8) (o := .cells #[.int .i64 zD, .int .i64 jT, .int .i64 jQ, .slice (some jf8) jM.length ql8] 55 (0, 0)) (by (with_reducible repeat (first | refine qK ?_ _ | refine qR ?_ | refine qL ?_ _)); exact jZ.out)) : qy6 ≠ qc8)); clear jZ; clear HB; have jZ := n0_; have HB := n1_; have qv2 := n2_; have Qp8 := n3_; have jX9 := n4_; have qq4 := n5_; have ji7 := n6_; clear n0_ n1_ n2_ n3_ n4_ n5_ n6_; clear hb qb0 hg; have hnb29 := ji7.out; have hnc29 := qq4.out; have QB2 : w28.cell? ⟨qy6, 0, none⟩ = some (.bool false) := (qE qv2.out 0).trans rfl; have QB3 : w28.cell? ⟨qy6, 1, none⟩ = some (.int .i64 0) := (qE qv2.out 1).trans rfl; have QB4 : w28.cell? ⟨qy6, 2, none⟩ = some (.int .i64 0) := (qE qv2.out 2).trans rfl; have QB5 := qC qv2.out 0; have QB6 := qC qv2.out 1; have QB7 := qC qv2.out 2) | ((with_reducible refine qj6 (f := 55) rfl ?_); refine qK1 (some 50) rfl rfl Try.func55 (by kernel_rfl) rfl #[.agg #[.bool ((qG jM qe2).f0), .int .i64 ((qG jM qe2).f1), .int .i64 ((qG jM qe2).f2)]] rfl (by (try simp only [List.map_toArray, List.map_cons, List.map_nil]); first | done | rfl | (simp only [List.length_drop, List.length_take]; rfl)) ?_; (with_reducible refine (qy5.calls ((qG jM qe2).f0) ((qG jM qe2).f1) ((qG jM qe2).f2) false _ A22.out).mono ?_); rintro e w31 ⟨rfl, hb⟩; refine ⟨_, rfl, ?_⟩; have n0_ := q8.mk (qn4 (g := qc8) (o := .cells #[.int .i64 zD, .int .i64 jT, .int .i64 jQ, .slice (some jf8) jM.length ql8] 55 (0, 0)) (by (with_reducible repeat (first | refine qK ?_ _ | refine qR ?_ | refine qL ?_ _)); refine qk2 ?_ qq4.out _; (with_reducible repeat (first | refine qK ?_ _ | refine qR ?_ | refine qL ?_ _)); refine qk2 ?_ qq4.out _; (with_reducible repeat (first | refine qK ?_ _ | refine qR ?_ | refine qL ?_ _)); refine qk2 ?_ qq4.out _; (with_reducible repeat (first | refine qK ?_ _ | refine qR ?_ | refine qL ?_ _)); exact jZ.out) hb); have n1_ := q8.mk (qn4 (g := qy6) (o := .cells #[.bool ((qG jM qe2).f0), .int .i64 ((qG jM qe2).f1), .int .i64 ((qG jM qe2).f2)] 51 (0, 0)) (by (with_reducible repeat (first | refine qK ?_ _ | refine qR ?_ | refine qL ?_ _)); refine qe0 (cs := #[.bool ((qG jM qe2).f0), .int .i64 ((qG jM qe2).f1), .int .i64 0]) ?_ 2 _ rfl; (with_reducible repeat (first | refine qK ?_ _ | refine qR ?_ | refine qL ?_ _)); refine qe0 (cs := #[.bool ((qG jM qe2).f0), .int .i64 0, .int .i64 0]) ?_ 1 _ rfl; (with_reducible repeat (first | refine qK ?_ _ | refine qR ?_ | refine qL ?_ _)); refine qe0 (cs := #[.bool false, .int .i64 0, .int .i64 0]) ?_ 0 _ rfl; (with_reducible repeat (first | refine qK ?_ _ | refine qR ?_ | refine qL ?_ _)); exact qv2.out) hb); have n2_ := q8.mk (jL (by repeat (first | (with_reducible first | exact HB.out | apply qA | apply q9 | apply qB | refine qI ?_ qs9.out | refine qI ?_ jX9.out) | exact HB.out)) hb); clear jZ; clear qv2; clear HB; have jZ := n0_; have qv2 := n1_; have HB := n2_; clear n0_ n1_ n2_; (try clear hb); (try clear hb2); (try clear hk); (try clear hi)))
          go_ret
          exact ⟨by first | rfl | (simp [jF, jG] <;> rfl) | (simp [*, jF, jG] <;> rfl), by repeat (first | (with_reducible first | exact HB.out | apply qA | apply q9 | apply qB | refine qI ?_ qs9.out | refine qI ?_ jX9.out) | exact HB.out)⟩
        ·rw [if_neg c21] at H
         exact absurd H (by simp)
       ·rw [if_neg c20] at H
        exact absurd H (by simp)
      ·rw [if_neg c19] at H
       have zX3 : decide (qe2 < (jM.length : Int)) = false := decide_eq_false c19
       clear c19
       obtain rfl := Option.some.inj H
       go_wp2
       go_ret
       exact ⟨by first | rfl | (simp [jF, jG] <;> rfl) | (simp [*, jF, jG] <;> rfl), by repeat (first | (with_reducible first | exact HB.out | apply qA | apply q9 | apply qB | refine qI ?_ qs9.out) | exact HB.out)⟩
def qe1.l0 : Nat → Int → List (S55) → Int → Int → Option (Int)
 | 0, _, _, _, _ => none
 | k + 1, x3, x6, x7, x8 => if x8 < x7 then (if 0 ≤ x8 then (if x8 < (x6.length : Int) then (qe1.l0 k (wrap64 (x3 + (((qD x6 x8).f3).length : Int))) x6 x7 (wrap64 (x8 + 1))) else (none)) else (none)) else (some x3)
def qe1.f (k : Nat) (l0 : List (S55)) : Option (Int) := qe1.l0 k 0 l0 (l0.length : Int) 0
set_option maxHeartbeats 8000000 in
set_option maxRecDepth 100000 in
theorem qe1.calls (k : Nat) (A0 : Option Addr) (c0 : Nat) (l0 : List (S55)) (r : Int) (w : World) (hr0 : Kd.C k55 w A0 l0.length l0) (hc0 : l0.length ≤ c0) (h : qe1.f k l0 = some r) :
  Calls Try.prog 57 #[.slice A0 l0.length c0] w fun e w' => e = .returned (.int .i64 r) ∧ Below w.heap.size w w' := by
 have zx1 := Try.underlying55
 have HR0 := q8.mk hr0
 have HC0 := q8.mk hc0
 clear hr0 hc0
 have HB := q8.mk (Below.refl w.heap.size w)
 have H : (qe1.l0 k 0 l0 (l0.length : Int) 0) = some r := h
 clear h
 have H' := q8.mk H
 clear H
 go_enter Try.func57, Try.ntmps57
 go_wp2
 go_loopg [3, 8] k (fun kq v3 v8 w' => ∃ (qh2 : Int) (qO : Int), v3 = .int .i64 qh2 ∧ v8 = .int .i64 qO ∧ q8 (qe1.l0 kq qh2 l0 (l0.length : Int) qO = some r) ∧ q8 (kq ≤ k) ∧ q8 (Below w.heap.size w w'))
 case atStart => exact ⟨(0), (0), (by first | rfl | (simp; done) | (simp [*]; done)), (by first | rfl | (simp; done) | (simp [*]; done)), H', ⟨Nat.le_refl _⟩, ⟨by repeat (first | (with_reducible first | exact HB.out | apply qA | apply q9 | apply qB) | exact HB.out)⟩⟩
 case round =>
  clear H'
  obtain ⟨qh2, qO, rfl, rfl, HA, HK1, HB⟩ := hrel
  cases gk with
  | zero => exact absurd HA.out (by simp [qe1.l0])
  | succ k1 =>
   have H := HA.out
   clear HA
   simp only [qe1.l0] at H
   by_cases c2 : qO < (l0.length : Int)
   ·rw [if_pos c2] at H
    have jy7 : decide (qO < (l0.length : Int)) = true := decide_eq_true c2
    clear c2
    by_cases c3 : 0 ≤ qO
    ·rw [if_pos c3] at H
     have jx4 : decide (0 ≤ qO) = true := decide_eq_true c3
     clear c3
     by_cases c4 : qO < (l0.length : Int)
     ·rw [if_pos c4] at H
      have qC5 : decide (qO < (l0.length : Int)) = true := decide_eq_true c4
      clear c4
      have H' := q8.mk H
      clear H
      have Qg2 : 0 ≤ (qO : Int) := of_decide_eq_true (by first | (with_reducible assumption) | assumption)
      have Qg3 : qO < (l0.length : Int) := of_decide_eq_true (by first | (with_reducible assumption) | assumption)
      obtain ⟨ad236, A236_3, c236_3, e236, jL6, jL7, jL8, jL9, zn0, zn1⟩ := qa5 HR0.out qO Qg2 Qg3
      cases e236
      replace jL6 := (HB.out.cell (World.block_lt_of_cell? w _ jL6)).trans jL6
      replace jL7 := (HB.out.cell (World.block_lt_of_cell? w _ jL7)).trans jL7
      replace jL8 := (HB.out.cell (World.block_lt_of_cell? w _ jL8)).trans jL8
      replace jL9 := (HB.out.cell (World.block_lt_of_cell? w _ jL9)).trans jL9
      have QB8 := q8.mk zn1
      have QB9 := q8.mk zn0
      clear zn1 zn0
      replace Qg2 := eq_true Qg2
      replace Qg3 := eq_true Qg3
      go_wp2_with (first | ((with_reducible refine zW (N := 5) rfl ?_); refine qa4 ?hg (N := 5) ?hd (cs := #[.int .i64 0, .int .i64 0, .int .i64 0, .slice none 0 0]) (t := 55) ?hr ?_; (case hd => rfl); (case hg => rfl); (case hr => first | (go_simp; done) | (go_simp; rfl)); intro jD2 hg w5 qb0 hb; have n0_ := q8.mk (jL (by repeat (first | (with_reducible first | exact HB.out | apply qA | apply q9 | apply qB) | exact HB.out)) hb); have n1_ := q8.mk (qb0); have n2_ := q8.mk ((by rw [hg]; exact (qJ (by repeat (first | (with_reducible first | exact HB.out | apply qA | apply q9 | apply qB) | exact HB.out))) : w.heap.size ≤ jD2)); have n3_ := q8.mk ((by rw [hg]; exact (qJ (by repeat (first | (with_reducible first | exact HB.out | apply qA | apply q9 | apply qB) | exact HB.out))) : w.heap.size ≤ jD2)); clear HB; have HB := n0_; have jk1 := n1_; have GW237 := n2_; have Qp9 := n3_; clear n0_ n1_ n2_ n3_; clear hb qb0 hg; have hcz6_0 : w5.cell? ⟨jD2, 0, none⟩ = some (.int .i64 0) := (qE jk1.out 0).trans rfl; have hcz6_1 : w5.cell? ⟨jD2, 1, none⟩ = some (.int .i64 0) := (qE jk1.out 1).trans rfl; have hcz6_2 : w5.cell? ⟨jD2, 2, none⟩ = some (.int .i64 0) := (qE jk1.out 2).trans rfl; have hcz6_3 : w5.cell? ⟨jD2, 3, none⟩ = some (.slice none 0 0) := (qE jk1.out 3).trans rfl; have hfz6_0 := qC jk1.out 0; have hfz6_1 := qC jk1.out 1; have hfz6_2 := qC jk1.out 2; have hfz6_3 := qC jk1.out 3))
      go_roundg k1
      case measure => have := HK1.out; omega
      case rel => exact ⟨(wrap64 (qh2 + (((qD l0 qO).f3).length : Int))), (wrap64 (qO + 1)), (by first | rfl | (simp; done) | (simp [*]; done)), (by first | rfl | (simp; done) | (simp [*]; done)), H', ⟨by have := HK1.out; omega⟩, ⟨by repeat (first | (with_reducible first | exact HB.out | apply qA | apply q9 | apply qB | refine qI ?_ Qp9.out) | exact HB.out)⟩⟩
     ·rw [if_neg c4] at H
      exact absurd H (by simp)
    ·rw [if_neg c3] at H
     exact absurd H (by simp)
   ·rw [if_neg c2] at H
    have jy7 : decide (qO < (l0.length : Int)) = false := decide_eq_false c2
    clear c2
    obtain rfl := Option.some.inj H
    go_wp2
    go_ret
    exact ⟨by first | rfl | (simp [jF, jG] <;> rfl) | (simp [*, jF, jG] <;> rfl), by repeat (first | (with_reducible first | exact HB.out | apply qA | apply q9 | apply qB) | exact HB.out)⟩
end Go.Proofs.Ytngkneknopenmaa.K
end
section
namespace Go.Proofs.Ytngkneknopenmaa.K
open Go.Proofs.Ytngkneknopenmaa
open Go.RowKit Go.Proofs.YtngkneknopenmaaW.PrintWords Go.Proofs.YtngkneknopenmaaW.qi2 Go.Proofs.YtngkneknopenmaaW.qk7
attribute [local go_sem] qr4 qr5 qw7 qw8 qn2 qn3 qr6 qr7   -- for this text's walks alone
set_option linter.unusedVariables false
set_option linter.unusedSimpArgs false
def zF.l0 : Nat → Int → List (S55) → Int → Int → Option (Int)
 | 0, _, _, _, _ => none
 | k + 1, x3, x9, x10, x11 => if x11 < x10 then (if 0 ≤ x11 then (if x11 < (x9.length : Int) then (if (wrap64 (x3 + (((qD x9 x11).f3).length : Int))) > 1200 then (some 1) else (zF.l0 k (wrap64 (x3 + (((qD x9 x11).f3).length : Int))) x9 x10 (wrap64 (x11 + 1)))) else (none)) else (none)) else (some 0)
def zF.f (k : Nat) (l0 : List (S55)) : Option (Int) := if (l0.length : Int) > 100 then (some 1) else (zF.l0 k 0 l0 (l0.length : Int) 0)
set_option maxHeartbeats 8000000 in
set_option maxRecDepth 100000 in
theorem zF.calls (k : Nat) (A0 : Option Addr) (c0 : Nat) (l0 : List (S55)) (r : Int) (w : World) (hr0 : Kd.C k55 w A0 l0.length l0) (hc0 : l0.length ≤ c0) (h : zF.f k l0 = some r) :
  Calls Try.prog 12 #[.slice A0 l0.length c0] w fun e w' => e = .returned (.int .i64 r) ∧ Below w.heap.size w w' := by
 have zx1 := Try.underlying55
 have HR0 := q8.mk hr0
 have HC0 := q8.mk hc0
 clear hr0 hc0
 have HB := q8.mk (Below.refl w.heap.size w)
 have H : (if (l0.length : Int) > 100 then (some 1) else (zF.l0 k 0 l0 (l0.length : Int) 0)) = some r := h
 clear h
 by_cases c2 : (l0.length : Int) > 100
 ·rw [if_pos c2] at H
  have jy7 : decide (100 < (l0.length : Int)) = true := decide_eq_true c2
  have c2b1 : decide (100 < l0.length) = true := decide_eq_true (by omega)
  clear c2
  obtain rfl := Option.some.inj H
  go_enter Try.func12, Try.ntmps12
  go_wp2
  go_ret
  exact ⟨by first | rfl | (simp [jF, jG] <;> rfl) | (simp [*, jF, jG] <;> rfl), by repeat (first | (with_reducible first | exact HB.out | apply qA | apply q9 | apply qB) | exact HB.out)⟩
 ·rw [if_neg c2] at H
  have jy7 : decide (100 < (l0.length : Int)) = false := decide_eq_false c2
  have c2b1 : decide (100 < l0.length) = false := decide_eq_false (by omega)
  clear c2
  have H' := q8.mk H
  clear H
  go_enter Try.func12, Try.ntmps12
  go_wp2
  go_loopg [3, 11] k (fun kq v3 v11 w' => ∃ (qh2 : Int) (qs2 : Int), v3 = .int .i64 qh2 ∧ v11 = .int .i64 qs2 ∧ q8 (zF.l0 kq qh2 l0 (l0.length : Int) qs2 = some r) ∧ q8 (kq ≤ k) ∧ q8 (Below w.heap.size w w'))
  case atStart => exact ⟨(0), (0), (by first | rfl | (simp; done) | (simp [*]; done)), (by first | rfl | (simp; done) | (simp [*]; done)), H', ⟨Nat.le_refl _⟩, ⟨by repeat (first | (with_reducible first | exact HB.out | apply qA | apply q9 | apply qB) | exact HB.out)⟩⟩
  case round =>
   clear H'
   try clear c1
   try clear c2
   try clear jy7
   try clear c2b1
   try clear p2
   obtain ⟨qh2, qs2, rfl, rfl, HA, HK1, HB⟩ := hrel
   cases gk with
   | zero => exact absurd HA.out (by simp [zF.l0])
   | succ k1 =>
    have H := HA.out
    clear HA
    simp only [zF.l0] at H
    by_cases c3 : qs2 < (l0.length : Int)
    ·rw [if_pos c3] at H
     have jx4 : decide (qs2 < (l0.length : Int)) = true := decide_eq_true c3
     clear c3
     by_cases c4 : 0 ≤ qs2
     ·rw [if_pos c4] at H
      have qC5 : decide (0 ≤ qs2) = true := decide_eq_true c4
      clear c4
      by_cases c5 : qs2 < (l0.length : Int)
      ·rw [if_pos c5] at H
       have jx5 : decide (qs2 < (l0.length : Int)) = true := decide_eq_true c5
       clear c5
       by_cases c6 : (wrap64 (qh2 + (((qD l0 qs2).f3).length : Int))) > 1200
       ·rw [if_pos c6] at H
        have ja0 : decide (1200 < (wrap64 (qh2 + (((qD l0 qs2).f3).length : Int)))) = true := decide_eq_true c6
        clear c6
        obtain rfl := Option.some.inj H
        have zg3 : 0 ≤ (qs2 : Int) := of_decide_eq_true (by first | (with_reducible assumption) | assumption)
        have zg4 : qs2 < (l0.length : Int) := of_decide_eq_true (by first | (with_reducible assumption) | assumption)
        obtain ⟨Qq0, Qg4, Qg5, Qg6, qM4, qM5, qM6, qM7, jf9, jg0⟩ := qa5 HR0.out qs2 zg3 zg4
        cases Qg6
        replace qM4 := (HB.out.cell (World.block_lt_of_cell? w _ qM4)).trans qM4
        replace qM5 := (HB.out.cell (World.block_lt_of_cell? w _ qM5)).trans qM5
        replace qM6 := (HB.out.cell (World.block_lt_of_cell? w _ qM6)).trans qM6
        replace qM7 := (HB.out.cell (World.block_lt_of_cell? w _ qM7)).trans qM7
        have zR1 := q8.mk jg0
        have zR2 := q8.mk jf9
        clear jg0 jf9
        replace zg3 := eq_true zg3
        replace zg4 := eq_true zg4
        go_wp2_with (first | ((with_reducible refine zW (N := 5) rfl ?_); refine qa4 ?hg (N := 5) ?hd (cs := #[.int .i64 0, .int .i64 0, .int .i64 0, .slice none 0 0]) (t := 55) ?hr ?_; (case hd => rfl); (case hg => rfl); (case hr => first | (go_simp; done) | (go_simp; rfl)); intro qH7 hg w7 qb0 hb; have n0_ := q8.mk (jL (by repeat (first | (with_reducible first | exact HB.out | apply qA | apply q9 | apply qB) | exact HB.out)) hb); have n1_ := q8.mk (qb0); have n2_ := q8.mk ((by rw [hg]; exact (qJ (by repeat (first | (with_reducible first | exact HB.out | apply qA | apply q9 | apply qB) | exact HB.out))) : w.heap.size ≤ qH7)); have n3_ := q8.mk ((by rw [hg]; exact (qJ (by repeat (first | (with_reducible first | exact HB.out | apply qA | apply q9 | apply qB) | exact HB.out))) : w.heap.size ≤ qH7)); clear HB; have HB := n0_; have qy7 := n1_; have Qq1 := n2_; have zF0 := n3_; clear n0_ n1_ n2_ n3_; clear hb qb0 hg; have hcz8_0 : w7.cell? ⟨qH7, 0, none⟩ = some (.int .i64 0) := (qE qy7.out 0).trans rfl; have hcz8_1 : w7.cell? ⟨qH7, 1, none⟩ = some (.int .i64 0) := (qE qy7.out 1).trans rfl; have hcz8_2 : w7.cell? ⟨qH7, 2, none⟩ = some (.int .i64 0) := (qE qy7.out 2).trans rfl; have hcz8_3 : w7.cell? ⟨qH7, 3, none⟩ = some (.slice none 0 0) := (qE qy7.out 3).trans rfl; have hfz8_0 := qC qy7.out 0; have hfz8_1 := qC qy7.out 1; have hfz8_2 := qC qy7.out 2; have hfz8_3 := qC qy7.out 3))
        go_ret
        exact ⟨by first | rfl | (simp [jF, jG] <;> rfl) | (simp [*, jF, jG] <;> rfl), by repeat (first | (with_reducible first | exact HB.out | apply qA | apply q9 | apply qB | refine qI ?_ zF0.out) | exact HB.out)⟩
       ·rw [if_neg c6] at H
        have ja0 : decide (1200 < (wrap64 (qh2 + (((qD l0 qs2).f3).length : Int)))) = false := decide_eq_false c6
        clear c6
        have H' := q8.mk H
        clear H
        have zg3 : 0 ≤ (qs2 : Int) := of_decide_eq_true (by first | (with_reducible assumption) | assumption)
        have zg4 : qs2 < (l0.length : Int) := of_decide_eq_true (by first | (with_reducible assumption) | assumption)
        obtain ⟨Qq0, Qg4, Qg5, Qg6, qM4, qM5, qM6, qM7, jf9, jg0⟩ := qa5 HR0.out qs2 zg3 zg4
        cases Qg6
        replace qM4 := (HB.out.cell (World.block_lt_of_cell? w _ qM4)).trans qM4
        replace qM5 := (HB.out.cell (World.block_lt_of_cell? w _ qM5)).trans qM5
        replace qM6 := (HB.out.cell (World.block_lt_of_cell? w _ qM6)).trans qM6
        replace qM7 := (HB.out.cell (World.block_lt_of_cell? w _ qM7)).trans qM7
        have zR1 := q8.mk jg0
        have zR2 := q8.mk jf9
        clear jg0 jf9
        replace zg3 := eq_true zg3
        replace zg4 := eq_true zg4
        go_wp2_with (first | ((with_reducible refine zW (N := 5) rfl ?_); refine qa4 ?hg (N := 5) ?hd (cs := #[.int .i64 0, .int .i64 0, .int .i64 0, .slice none 0 0]) (t := 55) ?hr ?_; (case hd => rfl); (case hg => rfl); (case hr => first | (go_simp; done) | (go_simp; rfl)); intro qH7 hg w9 qb0 hb; have n0_ := q8.mk (jL (by repeat (first | (with_reducible first | exact HB.out | apply qA | apply q9 | apply qB) | exact HB.out)) hb); have n1_ := q8.mk (qb0); have n2_ := q8.mk ((by rw [hg]; exact (qJ (by repeat (first | (with_reducible first | exact HB.out | apply qA | apply q9 | apply qB) | exact HB.out))) : w.heap.size ≤ qH7)); have n3_ := q8.mk ((by rw [hg]; exact (qJ (by repeat (first | (with_reducible first | exact HB.out | apply qA | apply q9 | apply qB) | exact HB.out))) : w.heap.size ≤ qH7)); clear HB; have HB := n0_; have qy7 := n1_; have Qq1 := n2_; have zF0 := n3_; clear n0_ n1_ n2_ n3_; clear hb qb0 hg; have zm3 : w9.cell? ⟨qH7, 0, none⟩ = some (.int .i64 0) := (qE qy7.out 0).trans rfl; have zm4 : w9.cell? ⟨qH7, 1, none⟩ = some (.int .i64 0) := (qE qy7.out 1).trans rfl; have zm5 : w9.cell? ⟨qH7, 2, none⟩ = some (.int .i64 0) := (qE qy7.out 2).trans rfl; have QC0 : w9.cell? ⟨qH7, 3, none⟩ = some (.slice none 0 0) := (qE qy7.out 3).trans rfl; have zm6 := qC qy7.out 0; have zm7 := qC qy7.out 1; have zm8 := qC qy7.out 2; have QC1 := qC qy7.out 3))
        go_roundg k1
        case measure => have := HK1.out; omega
        case rel => exact ⟨(wrap64 (qh2 + (((qD l0 qs2).f3).length : Int))), (wrap64 (qs2 + 1)), (by first | rfl | (simp; done) | (simp [*]; done)), (by first | rfl | (simp; done) | (simp [*]; done)), H', ⟨by have := HK1.out; omega⟩, ⟨by repeat (first | (with_reducible first | exact HB.out | apply qA | apply q9 | apply qB | refine qI ?_ zF0.out) | exact HB.out)⟩⟩
      ·rw [if_neg c5] at H
       exact absurd H (by simp)
     ·rw [if_neg c4] at H
      exact absurd H (by simp)
    ·rw [if_neg c3] at H
     have jx4 : decide (qs2 < (l0.length : Int)) = false := decide_eq_false c3
     clear c3
     obtain rfl := Option.some.inj H
     go_wp2
     go_ret
     exact ⟨by first | rfl | (simp [jF, jG] <;> rfl) | (simp [*, jF, jG] <;> rfl), by repeat (first | (with_reducible first | exact HB.out | apply qA | apply q9 | apply qB) | exact HB.out)⟩
def zM.l0 : Nat → List (S55) → Int → Int → Option (Int)
 | 0, _, _, _ => none
 | k + 1, x0, x3, x4 => if x4 < (x0.length : Int) then (if 0 ≤ x4 then (zM.l0 k x0 (wrap64 (x3 + (((qD x0 x4).f3).length : Int))) (wrap64 (x4 + 1))) else (none)) else (some x3)
def zM.f (k : Nat) (l0 : List (S55)) : Option (Int) := zM.l0 k l0 0 0
set_option maxHeartbeats 8000000 in
set_option maxRecDepth 100000 in
theorem zM.calls (k : Nat) (A0 : Option Addr) (c0 : Nat) (l0 : List (S55)) (r : Int) (w : World) (hr0 : Kd.C k55 w A0 l0.length l0) (hc0 : l0.length ≤ c0) (h : zM.f k l0 = some r) :
  Calls Try.prog 33 #[.slice A0 l0.length c0] w fun e w' => e = .returned (.int .i64 r) ∧ qa0 w w' := by
 have HR0 := q8.mk hr0
 have HC0 := q8.mk hc0
 clear hr0 hc0
 have H : (zM.l0 k l0 0 0) = some r := h
 clear h
 have H' := q8.mk H
 clear H
 go_enter Try.func33, Try.ntmps33
 go_wp2
 go_loopg [3, 4] k (fun kq v3 v4 w' => ∃ (qh2 : Int) (zC : Int), v3 = .int .i64 qh2 ∧ v4 = .int .i64 zC ∧ q8 (zM.l0 kq l0 qh2 zC = some r) ∧ q8 (kq ≤ k) ∧ qa0 w w')
 case atStart => exact ⟨(0), (0), (by first | rfl | (simp; done) | (simp [*]; done)), (by first | rfl | (simp; done) | (simp [*]; done)), H', ⟨Nat.le_refl _⟩, by repeat (first | exact qa0.refl _ | apply qa0.step)⟩
 case round =>
  clear H'
  obtain ⟨qh2, zC, rfl, rfl, HA, HK1, ⟨m1, rfl⟩⟩ := hrel
  cases gk with
  | zero => exact absurd HA.out (by simp [zM.l0])
  | succ k1 =>
   have H := HA.out
   clear HA
   simp only [zM.l0] at H
   by_cases c2 : zC < (l0.length : Int)
   ·rw [if_pos c2] at H
    have jy7 : decide (zC < (l0.length : Int)) = true := decide_eq_true c2
    clear c2
    by_cases c3 : 0 ≤ zC
    ·rw [if_pos c3] at H
     have jx4 : decide (0 ≤ zC) = true := decide_eq_true c3
     clear c3
     have H' := q8.mk H
     clear H
     have Qg7 : 0 ≤ (zC : Int) := of_decide_eq_true (by first | (with_reducible assumption) | assumption)
     have Qg8 : zC < (l0.length : Int) := of_decide_eq_true (by first | (with_reducible assumption) | assumption)
     obtain ⟨ad103, A103_3, c103_3, e103, QC2, QC3, QC4, QC5, zn2, zn3⟩ := qa5 HR0.out zC Qg7 Qg8
     cases e103
     have QC6 := q8.mk zn3
     have QC7 := q8.mk zn2
     clear zn3 zn2
     replace Qg7 := eq_true Qg7
     replace Qg8 := eq_true Qg8
     go_wp2
     go_roundg k1
     case measure => have := HK1.out; omega
     case rel => exact ⟨(wrap64 (qh2 + (((qD l0 zC).f3).length : Int))), (wrap64 (zC + 1)), (by first | rfl | (simp; done) | (simp [*]; done)), (by first | rfl | (simp; done) | (simp [*]; done)), H', ⟨by have := HK1.out; omega⟩, by repeat (first | exact qa0.refl _ | apply qa0.step)⟩
    ·rw [if_neg c3] at H
     exact absurd H (by simp)
   ·rw [if_neg c2] at H
    have jy7 : decide (zC < (l0.length : Int)) = false := decide_eq_false c2
    clear c2
    obtain rfl := Option.some.inj H
    go_wp2
    go_ret
    exact ⟨by first | rfl | (simp; done) | (simp [*]; done), by repeat (first | exact qa0.refl _ | apply qa0.step)⟩
mutual
def qY.l0 : Nat → List (S55) → Int → Int → Int → Option (Int)
 | 0, _, _, _, _ => none
 | k + 1, x0, x1, x2, x7 => if x7 < (x0.length : Int) then (qY.l1 k x0 x1 x2 x7 0) else (some (-1))
def qY.l1 : Nat → List (S55) → Int → Int → Int → Int → Option (Int)
 | 0, _, _, _, _, _ => none
 | k + 1, x0, x1, x2, x7, x8 => if 0 ≤ x7 then (if x7 < (x0.length : Int) then (if x8 < (((qD x0 x7).f3).length : Int) then (if 0 ≤ x8 then (if (qG ((qD x0 x7).f3) x8).f0 = true then (if ((qG ((qD x0 x7).f3) x8).f1) = x1 then (if ((qG ((qD x0 x7).f3) x8).f2) = x2 then (some x7) else (qY.l1 k x0 x1 x2 x7 (wrap64 (x8 + 1)))) else (qY.l1 k x0 x1 x2 x7 (wrap64 (x8 + 1)))) else (qY.l1 k x0 x1 x2 x7 (wrap64 (x8 + 1)))) else (none)) else (qY.l0 k x0 x1 x2 (wrap64 (x7 + 1)))) else (none)) else (none)
end
def qY.f (k : Nat) (l0 : List (S55)) (a1 : Int) (a2 : Int) : Option (Int) := qY.l0 k l0 a1 a2 0
set_option maxHeartbeats 8000000 in
set_option maxRecDepth 100000 in
theorem qY.calls (k : Nat) (A0 : Option Addr) (c0 : Nat) (l0 : List (S55)) (a1 : Int) (a2 : Int) (r : Int) (w : World) (hr0 : Kd.C k55 w A0 l0.length l0) (hc0 : l0.length ≤ c0) (h : qY.f k l0 a1 a2 = some r) :
  Calls Try.prog 31 #[.slice A0 l0.length c0, .int .i64 a1, .int .i64 a2] w fun e w' => e = .returned (.int .i64 r) ∧ Below w.heap.size w w' := by
 have zy4 := Try.underlying51
 have HR0 := q8.mk hr0
 have HC0 := q8.mk hc0
 clear hr0 hc0
 have HB := q8.mk (Below.refl w.heap.size w)
 have H : (qY.l0 k l0 a1 a2 0) = some r := h
 clear h
 have H' := q8.mk H
 clear H
 go_enter Try.func31, Try.ntmps31
 go_wp2
 go_loopg [7] k (fun kq v7 w' => ∃ (qb3 : Int), v7 = .int .i64 qb3 ∧ q8 (qY.l0 kq l0 a1 a2 qb3 = some r) ∧ q8 (kq ≤ k) ∧ q8 (Below w.heap.size w w'))
 case atStart => exact ⟨(0), (by first | rfl | (simp; done) | (simp [*]; done)), H', ⟨Nat.le_refl _⟩, ⟨by repeat (first | (with_reducible first | exact HB.out | apply qA | apply q9 | apply qB) | exact HB.out)⟩⟩
 case round =>
  clear H'
  try clear p2
  try clear c3
  obtain ⟨qb3, rfl, HA, HK1, HB⟩ := hrel
  cases gk with
  | zero => exact absurd HA.out (by simp [qY.l0])
  | succ k1 =>
   have H := HA.out
   clear HA
   simp only [qY.l0] at H
   by_cases c4 : qb3 < (l0.length : Int)
   ·rw [if_pos c4] at H
    have qC5 : decide (qb3 < (l0.length : Int)) = true := decide_eq_true c4
    clear c4
    have H' := q8.mk H
    clear H
    go_wp2
    go_loopg [8] k1 (fun kq v8 w' => ∃ (qj7 : Int), v8 = .int .i64 qj7 ∧ q8 (qY.l1 kq l0 a1 a2 qb3 qj7 = some r) ∧ q8 (kq ≤ k1) ∧ q8 (Below w.heap.size w w'))
    case atStart => exact ⟨(0), (by first | rfl | (simp; done) | (simp [*]; done)), H', ⟨Nat.le_refl _⟩, ⟨by repeat (first | (with_reducible first | exact HB.out | apply qA | apply q9 | apply qB) | exact HB.out)⟩⟩
    case round =>
     clear H'
     try clear p2
     try clear c3
     try clear c4
     try clear qC5
     try clear p2
     obtain ⟨qj7, rfl, HA, HK2, HB⟩ := hrel
     cases gk with
     | zero => exact absurd HA.out (by simp [qY.l1])
     | succ k2 =>
      have H := HA.out
      clear HA
      simp only [qY.l1] at H
      by_cases c5 : 0 ≤ qb3
      ·rw [if_pos c5] at H
       have jx5 : decide (0 ≤ qb3) = true := decide_eq_true c5
       clear c5
       by_cases c6 : qb3 < (l0.length : Int)
       ·rw [if_pos c6] at H
        have ja0 : decide (qb3 < (l0.length : Int)) = true := decide_eq_true c6
        clear c6
        by_cases c7 : qj7 < (((qD l0 qb3).f3).length : Int)
        ·rw [if_pos c7] at H
         have zJ7 : decide (qj7 < (((qD l0 qb3).f3).length : Int)) = true := decide_eq_true c7
         clear c7
         by_cases c8 : 0 ≤ qj7
         ·rw [if_pos c8] at H
          have qV1 : decide (0 ≤ qj7) = true := decide_eq_true c8
          clear c8
          obtain ⟨bq9, Qg9⟩ : ∃ b_ : Bool, b_ = ((qG ((qD l0 qb3).f3) qj7).f0) := ⟨_, rfl⟩
          replace H : (if bq9 = true then (if ((qG ((qD l0 qb3).f3) qj7).f1) = a1 then (if ((qG ((qD l0 qb3).f3) qj7).f2) = a2 then (some qb3) else (qY.l1 k2 l0 a1 a2 qb3 (wrap64 (qj7 + 1)))) else (qY.l1 k2 l0 a1 a2 qb3 (wrap64 (qj7 + 1)))) else (qY.l1 k2 l0 a1 a2 qb3 (wrap64 (qj7 + 1)))) = some r := by rw [← Qg9] at H; exact H
          have zR3 := q8.mk Qg9
          clear Qg9
          by_cases c10 : bq9 = true
          ·subst c10
           have H1 : (if ((qG ((qD l0 qb3).f3) qj7).f1) = a1 then (if ((qG ((qD l0 qb3).f3) qj7).f2) = a2 then (some qb3) else (qY.l1 k2 l0 a1 a2 qb3 (wrap64 (qj7 + 1)))) else (qY.l1 k2 l0 a1 a2 qb3 (wrap64 (qj7 + 1)))) = some r := by rw [if_pos rfl] at H; exact H
           clear H
           have H := H1
           clear H1
           by_cases c11 : ((qG ((qD l0 qb3).f3) qj7).f1) = a1
           ·rw [if_pos c11] at H
            have jA9 : (((qG ((qD l0 qb3).f3) qj7).f1) == a1) = true := beq_iff_eq.mpr c11
            have Qq2 : (((qG ((qD l0 qb3).f3) qj7).f1) != a1) = false := bne_eq_false_iff_eq.mpr c11
            clear c11
            by_cases c12 : ((qG ((qD l0 qb3).f3) qj7).f2) = a2
            ·rw [if_pos c12] at H
             have qH0 : (((qG ((qD l0 qb3).f3) qj7).f2) == a2) = true := beq_iff_eq.mpr c12
             have Qq3 : (((qG ((qD l0 qb3).f3) qj7).f2) != a2) = false := bne_eq_false_iff_eq.mpr c12
             clear c12
             obtain rfl := Option.some.inj H
             have qM8 : 0 ≤ (qb3 : Int) := of_decide_eq_true (by first | (with_reducible assumption) | assumption)
             have qM9 : qb3 < (l0.length : Int) := of_decide_eq_true (by first | (with_reducible assumption) | assumption)
             obtain ⟨jk2, jM0, jM1, jM2, qh5, qh6, qh7, qf6, qo2, qo3⟩ := qa5 HR0.out qb3 qM8 qM9
             cases jM2
             replace qh5 := (HB.out.cell (World.block_lt_of_cell? w _ qh5)).trans qh5
             replace qh6 := (HB.out.cell (World.block_lt_of_cell? w _ qh6)).trans qh6
             replace qh7 := (HB.out.cell (World.block_lt_of_cell? w _ qh7)).trans qh7
             replace qf6 := (HB.out.cell (World.block_lt_of_cell? w _ qf6)).trans qf6
             have jn4 := q8.mk qo3
             have jn5 := q8.mk qo2
             clear qo3 qo2
             replace qM8 := eq_true qM8
             replace qM9 := eq_true qM9
             have qX2 : 0 ≤ (qb3 : Int) := of_decide_eq_true (by first | (with_reducible assumption) | assumption)
             have qX3 : qb3 < (l0.length : Int) := of_decide_eq_true (by first | (with_reducible assumption) | assumption)
             obtain ⟨jv5, zg5, zg6, zg7, ql9, qm0, qm1, qh8, qv3, qv4⟩ := qa5 HR0.out qb3 qX2 qX3
             obtain rfl : jk2 = jv5 := (by injection zg7)
             replace ql9 := (HB.out.cell (World.block_lt_of_cell? w _ ql9)).trans ql9
             replace qm0 := (HB.out.cell (World.block_lt_of_cell? w _ qm0)).trans qm0
             replace qm1 := (HB.out.cell (World.block_lt_of_cell? w _ qm1)).trans qm1
             replace qh8 := (HB.out.cell (World.block_lt_of_cell? w _ qh8)).trans qh8
             have qN0 := q8.mk qv4
             have jM3 := q8.mk qv3
             clear qv4 qv3
             replace qX2 := eq_true qX2
             replace qX3 := eq_true qX3
             have ea_ := Option.some.inj (qf6.symm.trans qh8)
             injection ea_ with ea_ en_ ec_
             subst ea_
             subst ec_
             clear en_
             have qX4 : 0 ≤ (qj7 : Int) := of_decide_eq_true (by first | (with_reducible assumption) | assumption)
             have qX5 : qj7 < (((qD l0 qb3).f3).length : Int) := of_decide_eq_true (by first | (with_reducible assumption) | assumption)
             obtain ⟨zF1, zg8, qh9, qm2, qm3⟩ := qs5 qN0.out qj7 qX4 qX5
             (try rw [← zR3.out] at qh9)
             cases zg8
             replace qh9 := (HB.out.cell (World.block_lt_of_cell? w _ qh9)).trans qh9
             replace qm2 := (HB.out.cell (World.block_lt_of_cell? w _ qm2)).trans qm2
             replace qm3 := (HB.out.cell (World.block_lt_of_cell? w _ qm3)).trans qm3
             replace qX4 := eq_true qX4
             replace qX5 := eq_true qX5
             go_wp2_with (first | ((with_reducible refine zW (N := 9) rfl ?_); refine qa4 ?hg (N := 9) ?hd (cs := #[.bool false, .int .i64 0, .int .i64 0]) (t := 51) ?hr ?_; (case hd => rfl); (case hg => rfl); (case hr => first | (go_simp; done) | (go_simp; rfl)); intro qp6 hg w13 qb0 hb; have n0_ := q8.mk (jL (by repeat (first | (with_reducible first | exact HB.out | apply qA | apply q9 | apply qB) | exact HB.out)) hb); have n1_ := q8.mk (qb0); have n2_ := q8.mk ((by rw [hg]; exact (qJ (by repeat (first | (with_reducible first | exact HB.out | apply qA | apply q9 | apply qB) | exact HB.out))) : w.heap.size ≤ qp6)); have n3_ := q8.mk ((by rw [hg]; exact (qJ (by repeat (first | (with_reducible first | exact HB.out | apply qA | apply q9 | apply qB) | exact HB.out))) : w.heap.size ≤ qp6)); clear HB; have HB := n0_; have ql1 := n1_; have zF2 := n2_; have jv6 := n3_; clear n0_ n1_ n2_ n3_; clear hb qb0 hg; have QC8 : w13.cell? ⟨qp6, 0, none⟩ = some (.bool false) := (qE ql1.out 0).trans rfl; have QC9 : w13.cell? ⟨qp6, 1, none⟩ = some (.int .i64 0) := (qE ql1.out 1).trans rfl; have QD0 : w13.cell? ⟨qp6, 2, none⟩ = some (.int .i64 0) := (qE ql1.out 2).trans rfl; have QD1 := qC ql1.out 0; have QD2 := qC ql1.out 1; have QD3 := qC ql1.out 2))
             go_ret
             exact ⟨by first | rfl | (simp [jF, jG] <;> rfl) | (simp [*, jF, jG] <;> rfl), by repeat (first | (with_reducible first | exact HB.out | apply qA | apply q9 | apply qB | refine qI ?_ jv6.out) | exact HB.out)⟩
            ·rw [if_neg c12] at H
             have qH0 : (((qG ((qD l0 qb3).f3) qj7).f2) == a2) = false := beq_eq_false_iff_ne.mpr c12
             have Qq3 : (((qG ((qD l0 qb3).f3) qj7).f2) != a2) = true := bne_iff_ne.mpr c12
             have H' := q8.mk H
             clear H
             have qM8 : 0 ≤ (qb3 : Int) := of_decide_eq_true (by first | (with_reducible assumption) | assumption)
             have qM9 : qb3 < (l0.length : Int) := of_decide_eq_true (by first | (with_reducible assumption) | assumption)
             obtain ⟨jk2, jM0, jM1, jM2, qh5, qh6, qh7, qf6, qo2, qo3⟩ := qa5 HR0.out qb3 qM8 qM9
             cases jM2
             replace qh5 := (HB.out.cell (World.block_lt_of_cell? w _ qh5)).trans qh5
             replace qh6 := (HB.out.cell (World.block_lt_of_cell? w _ qh6)).trans qh6
             replace qh7 := (HB.out.cell (World.block_lt_of_cell? w _ qh7)).trans qh7
             replace qf6 := (HB.out.cell (World.block_lt_of_cell? w _ qf6)).trans qf6
             have jn4 := q8.mk qo3
             have jn5 := q8.mk qo2
             clear qo3 qo2
             replace qM8 := eq_true qM8
             replace qM9 := eq_true qM9
             have qX2 : 0 ≤ (qb3 : Int) := of_decide_eq_true (by first | (with_reducible assumption) | assumption)
             have qX3 : qb3 < (l0.length : Int) := of_decide_eq_true (by first | (with_reducible assumption) | assumption)
             obtain ⟨jv5, zg5, zg6, zg7, ql9, qm0, qm1, qh8, qv3, qv4⟩ := qa5 HR0.out qb3 qX2 qX3
             obtain rfl : jk2 = jv5 := (by injection zg7)
             replace ql9 := (HB.out.cell (World.block_lt_of_cell? w _ ql9)).trans ql9
             replace qm0 := (HB.out.cell (World.block_lt_of_cell? w _ qm0)).trans qm0
             replace qm1 := (HB.out.cell (World.block_lt_of_cell? w _ qm1)).trans qm1
             replace qh8 := (HB.out.cell (World.block_lt_of_cell? w _ qh8)).trans qh8
             have qN0 := q8.mk qv4
             have jM3 := q8.mk qv3
             clear qv4 qv3
             replace qX2 := eq_true qX2
             replace qX3 := eq_true qX3
             have ea_ := Option.some.inj (qf6.symm.trans qh8)
             injection ea_ with ea_ en_ ec_
             subst ea_
             subst ec_
             clear en_
             have qX4 : 0 ≤ (qj7 : Int) := of_decide_eq_true (by first | (with_reducible assumption) | assumption)
             have qX5 : qj7 < (((qD l0 qb3).f3).length : Int) := of_decide_eq_true (by first | (with_reducible assumption) | assumption)
             obtain ⟨zF1, zg8, qh9, qm2, qm3⟩ := qs5 qN0.out qj7 qX4 qX5
             (try rw [← zR3.out] at qh9)
             cases zg8
             replace qh9 := (HB.out.cell (World.block_lt_of_cell? w _ qh9)).trans qh9
             replace qm2 := (HB.out.cell (World.block_lt_of_cell? w _ qm2)).trans qm2
             replace qm3 := (HB.out.cell (World.block_lt_of_cell? w _ qm3)).trans qm3
             replace qX4 := eq_true qX4
             replace qX5 := eq_true qX5
             go_wp2_with (first | ((with_reducible refine zW (N := 9) rfl ?_); refine qa4 ?hg (N := 9) ?hd (cs := #[.bool false, .int .i64 0, .int .i64 0]) (t := 51) ?hr ?_; (case hd => rfl); (case hg => rfl); (case hr => first | (go_simp; done) | (go_simp; rfl)); intro qp6 hg w15 qb0 hb; have n0_ := q8.mk (jL (by repeat (first | (with_reducible first | exact HB.out | apply qA | apply q9 | apply qB) | exact HB.out)) hb); have n1_ := q8.mk (qb0); have n2_ := q8.mk ((by rw [hg]; exact (qJ (by repeat (first | (with_reducible first | exact HB.out | apply qA | apply q9 | apply qB) | exact HB.out))) : w.heap.size ≤ qp6)); have n3_ := q8.mk ((by rw [hg]; exact (qJ (by repeat (first | (with_reducible first | exact HB.out | apply qA | apply q9 | apply qB) | exact HB.out))) : w.heap.size ≤ qp6)); clear HB; have HB := n0_; have ql1 := n1_; have zF2 := n2_; have jv6 := n3_; clear n0_ n1_ n2_ n3_; clear hb qb0 hg; have qE8 : w15.cell? ⟨qp6, 0, none⟩ = some (.bool false) := (qE ql1.out 0).trans rfl; have qE9 : w15.cell? ⟨qp6, 1, none⟩ = some (.int .i64 0) := (qE ql1.out 1).trans rfl; have qF0 : w15.cell? ⟨qp6, 2, none⟩ = some (.int .i64 0) := (qE ql1.out 2).trans rfl; have qF1 := qC ql1.out 0; have qF2 := qC ql1.out 1; have qF3 := qC ql1.out 2))
             go_roundg k2
             case measure => have := HK1.out; have := HK2.out; omega
             case rel => exact ⟨(wrap64 (qj7 + 1)), (by first | rfl | (simp; done) | (simp [*]; done)), H', ⟨by have := HK1.out; have := HK2.out; omega⟩, ⟨by repeat (first | (with_reducible first | exact HB.out | apply qA | apply q9 | apply qB | refine qI ?_ jv6.out) | exact HB.out)⟩⟩
           ·rw [if_neg c11] at H
            have jA9 : (((qG ((qD l0 qb3).f3) qj7).f1) == a1) = false := beq_eq_false_iff_ne.mpr c11
            have Qq2 : (((qG ((qD l0 qb3).f3) qj7).f1) != a1) = true := bne_iff_ne.mpr c11
            have H' := q8.mk H
            clear H
            have qM8 : 0 ≤ (qb3 : Int) := of_decide_eq_true (by first | (with_reducible assumption) | assumption)
            have qM9 : qb3 < (l0.length : Int) := of_decide_eq_true (by first | (with_reducible assumption) | assumption)
            obtain ⟨jk2, jM0, jM1, jM2, qh5, qh6, qh7, qf6, qo2, qo3⟩ := qa5 HR0.out qb3 qM8 qM9
            cases jM2
            replace qh5 := (HB.out.cell (World.block_lt_of_cell? w _ qh5)).trans qh5
            replace qh6 := (HB.out.cell (World.block_lt_of_cell? w _ qh6)).trans qh6
            replace qh7 := (HB.out.cell (World.block_lt_of_cell? w _ qh7)).trans qh7
            replace qf6 := (HB.out.cell (World.block_lt_of_cell? w _ qf6)).trans qf6
            have jn4 := q8.mk qo3
            have jn5 := q8.mk qo2
            clear qo3 qo2
            replace qM8 := eq_true qM8
            replace qM9 := eq_true qM9
            have qX2 : 0 ≤ (qb3 : Int) := of_decide_eq_true (by first | (with_reducible assumption) | assumption)
            have qX3 : qb3 < (l0.length : Int) := of_decide_eq_true (by first | (with_reducible assumption) | assumption)
            obtain ⟨jv5, zg5, zg6, zg7, ql9, qm0, qm1, qh8, qv3, qv4⟩ := qa5 HR0.out qb3 qX2 qX3
            obtain rfl : jk2 = jv5 := (by injection zg7)
            replace ql9 := (HB.out.cell (World.block_lt_of_cell? w _ ql9)).trans ql9
            replace qm0 := (HB.out.cell (World.block_lt_of_cell? w _ qm0)).trans qm0
            replace qm1 := (HB.out.cell (World.block_lt_of_cell? w _ qm1)).trans qm1
            replace qh8 := (HB.out.cell (World.block_lt_of_cell? w _ qh8)).trans qh8
            have qN0 := q8.mk qv4
            have jM3 := q8.mk qv3
            clear qv4 qv3
            replace qX2 := eq_true qX2
            replace qX3 := eq_true qX3
            have ea_ := Option.some.inj (qf6.symm.trans qh8)
            injection ea_ with ea_ en_ ec_
            subst ea_
            subst ec_
            clear en_
            have qX4 : 0 ≤ (qj7 : Int) := of_decide_eq_true (by first | (with_reducible assumption) | assumption)
            have qX5 : qj7 < (((qD l0 qb3).f3).length : Int) := of_decide_eq_true (by first | (with_reducible assumption) | assumption)
            obtain ⟨zF1, zg8, qh9, qm2, qm3⟩ := qs5 qN0.out qj7 qX4 qX5
            (try rw [← zR3.out] at qh9)
            cases zg8
            replace qh9 := (HB.out.cell (World.block_lt_of_cell? w _ qh9)).trans qh9
            replace qm2 := (HB.out.cell (World.block_lt_of_cell? w _ qm2)).trans qm2
            replace qm3 := (HB.out.cell (World.block_lt_of_cell? w _ qm3)).trans qm3
            replace qX4 := eq_true qX4
            replace qX5 := eq_true qX5
            go_wp2_with (first | ((with_reducible refine zW (N := 9) rfl ?_); refine qa4 ?hg (N := 9) ?hd (cs := #[.bool false, .int .i64 0, .int .i64 0]) (t := 51) ?hr ?_; (case hd => rfl); (case hg => rfl); (case hr => first | (go_simp; done) | (go_simp; rfl)); intro qp6 hg w17 qb0 hb; have n0_ := q8.mk (jL (by repeat (first | (with_reducible first | exact HB.out | apply qA | apply q9 | apply qB) | exact HB.out)) hb); have n1_ := q8.mk (qb0); have n2_ := q8.mk ((by rw [hg]; exact (qJ (by repeat (first | (with_reducible first | exact HB.out | apply qA | apply q9 | apply qB) | exact HB.out))) : w.heap.size ≤ qp6)); have n3_ := q8.mk ((by rw [hg]; exact (qJ (by repeat (first | (with_reducible first | exact HB.out | apply qA | apply q9 | apply qB) | exact HB.out))) : w.heap.size ≤ qp6)); clear HB; have HB := n0_; have ql1 := n1_; have zF2 := n2_; have jv6 := n3_; clear n0_ n1_ n2_ n3_; clear hb qb0 hg; have jm8 : w17.cell? ⟨qp6, 0, none⟩ = some (.bool false) := (qE ql1.out 0).trans rfl; have jm9 : w17.cell? ⟨qp6, 1, none⟩ = some (.int .i64 0) := (qE ql1.out 1).trans rfl; have jn0 : w17.cell? ⟨qp6, 2, none⟩ = some (.int .i64 0) := (qE ql1.out 2).trans rfl; have jn1 := qC ql1.out 0; have jn2 := qC ql1.out 1; have jn3 := qC ql1.out 2))
            go_roundg k2
            case measure => have := HK1.out; have := HK2.out; omega
            case rel => exact ⟨(wrap64 (qj7 + 1)), (by first | rfl | (simp; done) | (simp [*]; done)), H', ⟨by have := HK1.out; have := HK2.out; omega⟩, ⟨by repeat (first | (with_reducible first | exact HB.out | apply qA | apply q9 | apply qB | refine qI ?_ jv6.out) | exact HB.out)⟩⟩
          ·replace c10 := Bool.eq_false_iff.mpr c10
           subst c10
           have H1 : (qY.l1 k2 l0 a1 a2 qb3 (wrap64 (qj7 + 1))) = some r := by rw [if_neg (show ¬ (false = true) by decide)] at H; exact H
           clear H
           have H := H1
           clear H1
           have H' := q8.mk H
           clear H
           have qM8 : 0 ≤ (qb3 : Int) := of_decide_eq_true (by first | (with_reducible assumption) | assumption)
           have qM9 : qb3 < (l0.length : Int) := of_decide_eq_true (by first | (with_reducible assumption) | assumption)
           obtain ⟨jk2, jM0, jM1, jM2, qh5, qh6, qh7, qf6, qo2, qo3⟩ := qa5 HR0.out qb3 qM8 qM9
           cases jM2
           replace qh5 := (HB.out.cell (World.block_lt_of_cell? w _ qh5)).trans qh5
           replace qh6 := (HB.out.cell (World.block_lt_of_cell? w _ qh6)).trans qh6
           replace qh7 := (HB.out.cell (World.block_lt_of_cell? w _ qh7)).trans qh7
           replace qf6 := (HB.out.cell (World.block_lt_of_cell? w _ qf6)).trans qf6
           have jn4 := q8.mk qo3
           have jn5 := q8.mk qo2
           clear qo3 qo2
           replace qM8 := eq_true qM8
           replace qM9 := eq_true qM9
           have qX2 : 0 ≤ (qb3 : Int) := of_decide_eq_true (by first | (with_reducible assumption) | assumption)
           have qX3 : qb3 < (l0.length : Int) := of_decide_eq_true (by first | (with_reducible assumption) | assumption)
           obtain ⟨jv5, zg5, zg6, zg7, ql9, qm0, qm1, qh8, qv3, qv4⟩ := qa5 HR0.out qb3 qX2 qX3
           obtain rfl : jk2 = jv5 := (by injection zg7)
           replace ql9 := (HB.out.cell (World.block_lt_of_cell? w _ ql9)).trans ql9
           replace qm0 := (HB.out.cell (World.block_lt_of_cell? w _ qm0)).trans qm0
           replace qm1 := (HB.out.cell (World.block_lt_of_cell? w _ qm1)).trans qm1
           replace qh8 := (HB.out.cell (World.block_lt_of_cell? w _ qh8)).trans qh8
           have qN0 := q8.mk qv4
           have jM3 := q8.mk qv3
           clear qv4 qv3
           replace qX2 := eq_true qX2
           replace qX3 := eq_true qX3
           have ea_ := Option.some.inj (qf6.symm.trans qh8)
           injection ea_ with ea_ en_ ec_
           subst ea_
           subst ec_
           clear en_
           have qX4 : 0 ≤ (qj7 : Int) := of_decide_eq_true (by first | (with_reducible assumption) | assumption)
           have qX5 : qj7 < (((qD l0 qb3).f3).length : Int) := of_decide_eq_true (by first | (with_reducible assumption) | assumption)
           obtain ⟨zF1, zg8, qh9, qm2, qm3⟩ := qs5 qN0.out qj7 qX4 qX5
           (try rw [← zR3.out] at qh9)
           cases zg8
           replace qh9 := (HB.out.cell (World.block_lt_of_cell? w _ qh9)).trans qh9
           replace qm2 := (HB.out.cell (World.block_lt_of_cell? w _ qm2)).trans qm2
           replace qm3 := (HB.out.cell (World.block_lt_of_cell? w _ qm3)).trans qm3
           replace qX4 := eq_true qX4
           replace qX5 := eq_true qX5
           go_wp2_with (first | ((with_reducible refine zW (N := 9) rfl ?_); refine qa4 ?hg (N := 9) ?hd (cs := #[.bool false, .int .i64 0, .int .i64 0]) (t := 51) ?hr ?_; (case hd => rfl); (case hg => rfl); (case hr => first | (go_simp; done) | (go_simp; rfl)); intro qp6 hg w19 qb0 hb; have n0_ := q8.mk (jL (by repeat (first | (with_reducible first | exact HB.out | apply qA | apply q9 | apply qB) | exact HB.out)) hb); have n1_ := q8.mk (qb0); have n2_ := q8.mk ((by rw [hg]; exact (qJ (by repeat (first | (with_reducible first | exact HB.out | apply qA | apply q9 | apply qB) | exact HB.out))) : w.heap.size ≤ qp6)); have n3_ := q8.mk ((by rw [hg]; exact (qJ (by repeat (first | (with_reducible first | exact HB.out | apply qA | apply q9 | apply qB) | exact HB.out))) : w.heap.size ≤ qp6)); clear HB; have HB := n0_; have ql1 := n1_; have zF2 := n2_; have jv6 := n3_; clear n0_ n1_ n2_ n3_; clear hb qb0 hg; have QD4 : w19.cell? ⟨qp6, 0, none⟩ = some (.bool false) := (qE ql1.out 0).trans rfl; have QD5 : w19.cell? ⟨qp6, 1, none⟩ = some (.int .i64 0) := (qE ql1.out 1).trans rfl; have QD6 : w19.cell? ⟨qp6, 2, none⟩ = some (.int .i64 0) := (qE ql1.out 2).trans rfl; have QD7 := qC ql1.out 0; have QD8 := qC ql1.out 1; have QD9 := qC ql1.out 2))
           go_roundg k2
           case measure => have := HK1.out; have := HK2.out; omega
           case rel => exact ⟨(wrap64 (qj7 + 1)), (by first | rfl | (simp; done) | (simp [*]; done)), H', ⟨by have := HK1.out; have := HK2.out; omega⟩, ⟨by repeat (first | (with_reducible first | exact HB.out | apply qA | apply q9 | apply qB | refine qI ?_ jv6.out) | exact HB.out)⟩⟩
         ·rw [if_neg c8] at H
          exact absurd H (by simp)
        ·rw [if_neg c7] at H
         have zJ7 : decide (qj7 < (((qD l0 qb3).f3).length : Int)) = false := decide_eq_false c7
         clear c7
         have H' := q8.mk H
         clear H
         have qM8 : 0 ≤ (qb3 : Int) := of_decide_eq_true (by first | (with_reducible assumption) | assumption)
         have qM9 : qb3 < (l0.length : Int) := of_decide_eq_true (by first | (with_reducible assumption) | assumption)
         obtain ⟨jk2, jM0, jM1, jM2, qh5, qh6, qh7, qf6, qo2, qo3⟩ := qa5 HR0.out qb3 qM8 qM9
         cases jM2
         replace qh5 := (HB.out.cell (World.block_lt_of_cell? w _ qh5)).trans qh5
         replace qh6 := (HB.out.cell (World.block_lt_of_cell? w _ qh6)).trans qh6
         replace qh7 := (HB.out.cell (World.block_lt_of_cell? w _ qh7)).trans qh7
         replace qf6 := (HB.out.cell (World.block_lt_of_cell? w _ qf6)).trans qf6
         have jn4 := q8.mk qo3
         have jn5 := q8.mk qo2
         clear qo3 qo2
         replace qM8 := eq_true qM8
         replace qM9 := eq_true qM9
         go_wp2
         go_roundg k2
         case measure => have := HK1.out; have := HK2.out; omega
         case rel => exact ⟨(wrap64 (qb3 + 1)), (by first | rfl | (simp; done) | (simp [*]; done)), H', ⟨by have := HK1.out; have := HK2.out; omega⟩, ⟨by repeat (first | (with_reducible first | exact HB.out | apply qA | apply q9 | apply qB) | exact HB.out)⟩⟩
       ·rw [if_neg c6] at H
        exact absurd H (by simp)
      ·rw [if_neg c5] at H
       exact absurd H (by simp)
   ·rw [if_neg c4] at H
    have qC5 : decide (qb3 < (l0.length : Int)) = false := decide_eq_false c4
    clear c4
    obtain rfl := Option.some.inj H
    go_wp2
    go_ret
    exact ⟨by first | rfl | (simp [jF, jG] <;> rfl) | (simp [*, jF, jG] <;> rfl), by repeat (first | (with_reducible first | exact HB.out | apply qA | apply q9 | apply qB) | exact HB.out)⟩
def qd4.f (zD : Bool) (jT : Int) (jQ : Int) : Option (Bool) := if jT < 0 then (some false) else (if jT > 63 then (some false) else (if jQ < 0 then (some false) else (if jQ > 2147483647 then (some false) else (if zD = true then (some (jQ != 0)) else (some true)))))
set_option maxHeartbeats 8000000 in
set_option maxRecDepth 100000 in
theorem qd4.calls (zD : Bool) (jT : Int) (jQ : Int) (r : Bool) (w : World) (h : qd4.f zD jT jQ = some r) :
  Calls Try.prog 83 #[.agg #[.bool zD, .int .i64 jT, .int .i64 jQ]] w fun e w' => e = .returned (.bool r) ∧ Below w.heap.size w w' := by
 have zy4 := Try.underlying51
 have HB := q8.mk (Below.refl w.heap.size w)
 have H : (if jT < 0 then (some false) else (if jT > 63 then (some false) else (if jQ < 0 then (some false) else (if jQ > 2147483647 then (some false) else (if zD = true then (some (jQ != 0)) else (some true)))))) = some r := h
 clear h
 by_cases c2 : jT < 0
 ·rw [if_pos c2] at H
  have jy7 : decide (jT < 0) = true := decide_eq_true c2
  clear c2
  obtain rfl := Option.some.inj H
  go_enter Try.func83, Try.ntmps83
  go_wp2_with (first | ((with_reducible refine zW (N := 1) rfl ?_); refine qa4 ?hg (N := 1) ?hd (cs := #[.bool zD, .int .i64 jT, .int .i64 jQ]) (t := 51) ?hr ?_; (case hd => rfl); (case hg => rfl); (case hr => first | (go_simp; done) | (go_simp; rfl)); intro qg4 hg w3 qb0 hb; have n0_ := q8.mk (jL (by repeat (first | (with_reducible first | exact HB.out | apply qA | apply q9 | apply qB) | exact HB.out)) hb); have n1_ := q8.mk (qb0); have n2_ := q8.mk ((by rw [hg]; exact (qJ (by repeat (first | (with_reducible first | exact HB.out | apply qA | apply q9 | apply qB) | exact HB.out))) : w.heap.size ≤ qg4)); have n3_ := q8.mk ((by rw [hg]; exact (qJ (by repeat (first | (with_reducible first | exact HB.out | apply qA | apply q9 | apply qB) | exact HB.out))) : w.heap.size ≤ qg4)); clear HB; have HB := n0_; have qe7 := n1_; have jY0 := n2_; have qQ7 := n3_; clear n0_ n1_ n2_ n3_; clear hb qb0 hg; have Qf6 : w3.cell? ⟨qg4, 0, none⟩ = some (.bool zD) := (qE qe7.out 0).trans rfl; have Qf7 : w3.cell? ⟨qg4, 1, none⟩ = some (.int .i64 jT) := (qE qe7.out 1).trans rfl; have Qf8 : w3.cell? ⟨qg4, 2, none⟩ = some (.int .i64 jQ) := (qE qe7.out 2).trans rfl; have Qf9 := qC qe7.out 0; have Qg0 := qC qe7.out 1; have Qg1 := qC qe7.out 2))
  go_ret
  exact ⟨by first | rfl | (simp [jF, jG] <;> rfl) | (simp [*, jF, jG] <;> rfl), by repeat (first | (with_reducible first | exact HB.out | apply qA | apply q9 | apply qB | refine qI ?_ qQ7.out) | exact HB.out)⟩
 ·rw [if_neg c2] at H
  have jy7 : decide (jT < 0) = false := decide_eq_false c2
  clear c2
  by_cases c5 : jT > 63
  ·rw [if_pos c5] at H
   have jx5 : decide (63 < jT) = true := decide_eq_true c5
   clear c5
   obtain rfl := Option.some.inj H
   go_enter Try.func83, Try.ntmps83
   go_wp2_with (first | ((with_reducible refine zW (N := 1) rfl ?_); refine qa4 ?hg (N := 1) ?hd (cs := #[.bool zD, .int .i64 jT, .int .i64 jQ]) (t := 51) ?hr ?_; (case hd => rfl); (case hg => rfl); (case hr => first | (go_simp; done) | (go_simp; rfl)); intro qg4 hg w6 qb0 hb; have n0_ := q8.mk (jL (by repeat (first | (with_reducible first | exact HB.out | apply qA | apply q9 | apply qB) | exact HB.out)) hb); have n1_ := q8.mk (qb0); have n2_ := q8.mk ((by rw [hg]; exact (qJ (by repeat (first | (with_reducible first | exact HB.out | apply qA | apply q9 | apply qB) | exact HB.out))) : w.heap.size ≤ qg4)); have n3_ := q8.mk ((by rw [hg]; exact (qJ (by repeat (first | (with_reducible first | exact HB.out | apply qA | apply q9 | apply qB) | exact HB.out))) : w.heap.size ≤ qg4)); clear HB; have HB := n0_; have qe7 := n1_; have jY0 := n2_; have qQ7 := n3_; clear n0_ n1_ n2_ n3_; clear hb qb0 hg; have qW6 : w6.cell? ⟨qg4, 0, none⟩ = some (.bool zD) := (qE qe7.out 0).trans rfl; have qW7 : w6.cell? ⟨qg4, 1, none⟩ = some (.int .i64 jT) := (qE qe7.out 1).trans rfl; have qW8 : w6.cell? ⟨qg4, 2, none⟩ = some (.int .i64 jQ) := (qE qe7.out 2).trans rfl; have qW9 := qC qe7.out 0; have qX0 := qC qe7.out 1; have qX1 := qC qe7.out 2))
   go_ret
   exact ⟨by first | rfl | (simp [jF, jG] <;> rfl) | (simp [*, jF, jG] <;> rfl), by repeat (first | (with_reducible first | exact HB.out | apply qA | apply q9 | apply qB | refine qI ?_ qQ7.out) | exact HB.out)⟩
  ·rw [if_neg c5] at H
   have jx5 : decide (63 < jT) = false := decide_eq_false c5
   clear c5
   by_cases c8 : jQ < 0
   ·rw [if_pos c8] at H
    have qV1 : decide (jQ < 0) = true := decide_eq_true c8
    clear c8
    obtain rfl := Option.some.inj H
    go_enter Try.func83, Try.ntmps83
    go_wp2_with (first | ((with_reducible refine zW (N := 1) rfl ?_); refine qa4 ?hg (N := 1) ?hd (cs := #[.bool zD, .int .i64 jT, .int .i64 jQ]) (t := 51) ?hr ?_; (case hd => rfl); (case hg => rfl); (case hr => first | (go_simp; done) | (go_simp; rfl)); intro qg4 hg w9 qb0 hb; have n0_ := q8.mk (jL (by repeat (first | (with_reducible first | exact HB.out | apply qA | apply q9 | apply qB) | exact HB.out)) hb); have n1_ := q8.mk (qb0); have n2_ := q8.mk ((by rw [hg]; exact (qJ (by repeat (first | (with_reducible first | exact HB.out | apply qA | apply q9 | apply qB) | exact HB.out))) : w.heap.size ≤ qg4)); have n3_ := q8.mk ((by rw [hg]; exact (qJ (by repeat (first | (with_reducible first | exact HB.out | apply qA | apply q9 | apply qB) | exact HB.out))) : w.heap.size ≤ qg4)); clear HB; have HB := n0_; have qe7 := n1_; have jY0 := n2_; have qQ7 := n3_; clear n0_ n1_ n2_ n3_; clear hb qb0 hg; have zm3 : w9.cell? ⟨qg4, 0, none⟩ = some (.bool zD) := (qE qe7.out 0).trans rfl; have zm4 : w9.cell? ⟨qg4, 1, none⟩ = some (.int .i64 jT) := (qE qe7.out 1).trans rfl; have zm5 : w9.cell? ⟨qg4, 2, none⟩ = some (.int .i64 jQ) := (qE qe7.out 2).trans rfl; have zm6 := qC qe7.out 0; have zm7 := qC qe7.out 1; have zm8 := qC qe7.out 2))
    go_ret
    exact ⟨by first | rfl | (simp [jF, jG] <;> rfl) | (simp [*, jF, jG] <;> rfl), by repeat (first | (with_reducible first | exact HB.out | apply qA | apply q9 | apply qB | refine qI ?_ qQ7.out) | exact HB.out)⟩
   ·rw [if_neg c8] at H
    have qV1 : decide (jQ < 0) = false := decide_eq_false c8
    clear c8
    by_cases c11 : jQ > 2147483647
    ·rw [if_pos c11] at H
     have jA9 : decide (2147483647 < jQ) = true := decide_eq_true c11
     clear c11
     obtain rfl := Option.some.inj H
     go_enter Try.func83, Try.ntmps83
     go_wp2_with (first | ((with_reducible refine zW (N := 1) rfl ?_); refine qa4 ?hg (N := 1) ?hd (cs := #[.bool zD, .int .i64 jT, .int .i64 jQ]) (t := 51) ?hr ?_; (case hd => rfl); (case hg => rfl); (case hr => first | (go_simp; done) | (go_simp; rfl)); intro qg4 hg w12 qb0 hb; have n0_ := q8.mk (jL (by repeat (first | (with_reducible first | exact HB.out | apply qA | apply q9 | apply qB) | exact HB.out)) hb); have n1_ := q8.mk (qb0); have n2_ := q8.mk ((by rw [hg]; exact (qJ (by repeat (first | (with_reducible first | exact HB.out | apply qA | apply q9 | apply qB) | exact HB.out))) : w.heap.size ≤ qg4)); have n3_ := q8.mk ((by rw [hg]; exact (qJ (by repeat (first | (with_reducible first | exact HB.out | apply qA | apply q9 | apply qB) | exact HB.out))) : w.heap.size ≤ qg4)); clear HB; have HB := n0_; have qe7 := n1_; have jY0 := n2_; have qQ7 := n3_; clear n0_ n1_ n2_ n3_; clear hb qb0 hg; have qL5 : w12.cell? ⟨qg4, 0, none⟩ = some (.bool zD) := (qE qe7.out 0).trans rfl; have qL6 : w12.cell? ⟨qg4, 1, none⟩ = some (.int .i64 jT) := (qE qe7.out 1).trans rfl; have qL7 : w12.cell? ⟨qg4, 2, none⟩ = some (.int .i64 jQ) := (qE qe7.out 2).trans rfl; have qL8 := qC qe7.out 0; have qL9 := qC qe7.out 1; have qM0 := qC qe7.out 2))
     go_ret
     exact ⟨by first | rfl | (simp [jF, jG] <;> rfl) | (simp [*, jF, jG] <;> rfl), by repeat (first | (with_reducible first | exact HB.out | apply qA | apply q9 | apply qB | refine qI ?_ qQ7.out) | exact HB.out)⟩
    ·rw [if_neg c11] at H
     have jA9 : decide (2147483647 < jQ) = false := decide_eq_false c11
     clear c11
     by_cases c14 : zD = true
     ·subst c14
      have H1 : (some (jQ != 0)) = some r := by rw [if_pos rfl] at H; exact H
      clear H
      have H := H1
      clear H1
      obtain rfl := Option.some.inj H
      go_enter Try.func83, Try.ntmps83
      go_wp2_with (first | ((with_reducible refine zW (N := 1) rfl ?_); refine qa4 ?hg (N := 1) ?hd (cs := #[.bool true, .int .i64 jT, .int .i64 jQ]) (t := 51) ?hr ?_; (case hd => rfl); (case hg => rfl); (case hr => first | (go_simp; done) | (go_simp; rfl)); intro qg4 hg w15 qb0 hb; have n0_ := q8.mk (jL (by repeat (first | (with_reducible first | exact HB.out | apply qA | apply q9 | apply qB) | exact HB.out)) hb); have n1_ := q8.mk (qb0); have n2_ := q8.mk ((by rw [hg]; exact (qJ (by repeat (first | (with_reducible first | exact HB.out | apply qA | apply q9 | apply qB) | exact HB.out))) : w.heap.size ≤ qg4)); have n3_ := q8.mk ((by rw [hg]; exact (qJ (by repeat (first | (with_reducible first | exact HB.out | apply qA | apply q9 | apply qB) | exact HB.out))) : w.heap.size ≤ qg4)); clear HB; have HB := n0_; have qe7 := n1_; have jY0 := n2_; have qQ7 := n3_; clear n0_ n1_ n2_ n3_; clear hb qb0 hg; have qE8 : w15.cell? ⟨qg4, 0, none⟩ = some (.bool true) := (qE qe7.out 0).trans rfl; have qE9 : w15.cell? ⟨qg4, 1, none⟩ = some (.int .i64 jT) := (qE qe7.out 1).trans rfl; have qF0 : w15.cell? ⟨qg4, 2, none⟩ = some (.int .i64 jQ) := (qE qe7.out 2).trans rfl; have qF1 := qC qe7.out 0; have qF2 := qC qe7.out 1; have qF3 := qC qe7.out 2))
      go_ret
      exact ⟨by first | rfl | (simp [jF, jG] <;> rfl) | (simp [*, jF, jG] <;> rfl), by repeat (first | (with_reducible first | exact HB.out | apply qA | apply q9 | apply qB | refine qI ?_ qQ7.out) | exact HB.out)⟩
     ·replace c14 := Bool.eq_false_iff.mpr c14
      subst c14
      have H1 : (some true) = some r := by rw [if_neg (show ¬ (false = true) by decide)] at H; exact H
      clear H
      have H := H1
      clear H1
      obtain rfl := Option.some.inj H
      go_enter Try.func83, Try.ntmps83
      go_wp2_with (first | ((with_reducible refine zW (N := 1) rfl ?_); refine qa4 ?hg (N := 1) ?hd (cs := #[.bool false, .int .i64 jT, .int .i64 jQ]) (t := 51) ?hr ?_; (case hd => rfl); (case hg => rfl); (case hr => first | (go_simp; done) | (go_simp; rfl)); intro qg4 hg w17 qb0 hb; have n0_ := q8.mk (jL (by repeat (first | (with_reducible first | exact HB.out | apply qA | apply q9 | apply qB) | exact HB.out)) hb); have n1_ := q8.mk (qb0); have n2_ := q8.mk ((by rw [hg]; exact (qJ (by repeat (first | (with_reducible first | exact HB.out | apply qA | apply q9 | apply qB) | exact HB.out))) : w.heap.size ≤ qg4)); have n3_ := q8.mk ((by rw [hg]; exact (qJ (by repeat (first | (with_reducible first | exact HB.out | apply qA | apply q9 | apply qB) | exact HB.out))) : w.heap.size ≤ qg4)); clear HB; have HB := n0_; have qe7 := n1_; have jY0 := n2_; have qQ7 := n3_; clear n0_ n1_ n2_ n3_; clear hb qb0 hg; have jm8 : w17.cell? ⟨qg4, 0, none⟩ = some (.bool false) := (qE qe7.out 0).trans rfl; have jm9 : w17.cell? ⟨qg4, 1, none⟩ = some (.int .i64 jT) := (qE qe7.out 1).trans rfl; have jn0 : w17.cell? ⟨qg4, 2, none⟩ = some (.int .i64 jQ) := (qE qe7.out 2).trans rfl; have jn1 := qC qe7.out 0; have jn2 := qC qe7.out 1; have jn3 := qC qe7.out 2))
      go_ret
      exact ⟨by first | rfl | (simp [jF, jG] <;> rfl) | (simp [*, jF, jG] <;> rfl), by repeat (first | (with_reducible first | exact HB.out | apply qA | apply q9 | apply qB | refine qI ?_ qQ7.out) | exact HB.out)⟩
end Go.Proofs.Ytngkneknopenmaa.K
end
section
namespace Go.Proofs.Ytngkneknopenmaa.K
open Go.Proofs.Ytngkneknopenmaa
open Go.RowKit Go.Proofs.YtngkneknopenmaaW.PrintWords Go.Proofs.YtngkneknopenmaaW.qi2 Go.Proofs.YtngkneknopenmaaW.qk7
attribute [local go_sem] qr4 qr5 qw7 qw8 qn2 qn3 qr6 qr7   -- for this text's walks alone
set_option linter.unusedVariables false
set_option linter.unusedSimpArgs false
mutual
def qN.j0 : Nat → Bool → Int → Int → Int → List (S51) → Option (Bool)
 | 0, _, _, _, _, _ => none
 | k + 1, x40, x110000, x110001, x110002, x110003 => if x40 = true then (some false) else (qN.l0 k 0 x110000 x110001 x110002 x110003)
def qN.l0 : Nat → Int → Int → Int → Int → List (S51) → Option (Bool)
 | 0, _, _, _, _, _ => none
 | k + 1, x3, x110000, x110001, x110002, x110003 => if x3 < (x110003.length : Int) then (if 0 ≤ x3 then ((qd4.f ((qG x110003 x3).f0) ((qG x110003 x3).f1) ((qG x110003 x3).f2)).bind fun t111 => (if t111 = true then (qN.l0 k (wrap64 (x3 + 1)) x110000 x110001 x110002 x110003) else (some false))) else (none)) else (some true)
end
def qN.f (k : Nat) (zD : Int) (jT : Int) (jQ : Int) (jM : List (S51)) : Option (Bool) := if zD < 0 then (qN.j0 k true zD jT jQ jM) else (if zD > 63 then (qN.j0 k true zD jT jQ jM) else (if jT < 0 then (qN.j0 k true zD jT jQ jM) else (if jT ≥ jQ then (qN.j0 k true zD jT jQ jM) else (if jQ > 2147483647 then (qN.j0 k true zD jT jQ jM) else (if (jM.length : Int) < 1 then (qN.j0 k true zD jT jQ jM) else (qN.j0 k (decide ((jM.length : Int) > 64)) zD jT jQ jM))))))
set_option maxHeartbeats 8000000 in
set_option maxRecDepth 100000 in
theorem qN.calls (k : Nat) (zD : Int) (jT : Int) (jQ : Int) (qv1 : Option Addr) (ql8 : Nat) (jM : List (S51)) (r : Bool) (w : World) (jX6 : Kd.C k51 w qv1 jM.length jM) (jX7 : jM.length ≤ ql8) (h : qN.f k zD jT jQ jM = some r) :
  Calls Try.prog 64 #[.agg #[.int .i64 zD, .int .i64 jT, .int .i64 jQ, .slice qv1 jM.length ql8]] w fun e w' => e = .returned (.bool r) ∧ Below w.heap.size w w' := by
 have zx1 := Try.underlying55
 have zy4 := Try.underlying51
 have jX8 := q8.mk jX6
 have Qp7 := q8.mk jX7
 clear jX6 jX7
 have HB := q8.mk (Below.refl w.heap.size w)
 have H : (if zD < 0 then (qN.j0 k true zD jT jQ jM) else (if zD > 63 then (qN.j0 k true zD jT jQ jM) else (if jT < 0 then (qN.j0 k true zD jT jQ jM) else (if jT ≥ jQ then (qN.j0 k true zD jT jQ jM) else (if jQ > 2147483647 then (qN.j0 k true zD jT jQ jM) else (if (jM.length : Int) < 1 then (qN.j0 k true zD jT jQ jM) else (qN.j0 k (decide ((jM.length : Int) > 64)) zD jT jQ jM))))))) = some r := h
 clear h
 have HC2 := q8.mk H
 clear H
 go_enter Try.func64, Try.ntmps64
 go_upto_region 1 with (first | ((with_reducible refine zW (N := 1) rfl ?_); (try (refine qL4 (by rfl) ?_; dsimp only)); refine qa4 ?hg (N := 1) ?hd (cs := #[.int .i64 zD, .int .i64 jT, .int .i64 jQ, .slice qv1 jM.length ql8]) (t := 55) ?hr ?_; (case hd => rfl); (case hg => rfl); (case hr => first | (go_simp; done) | (go_simp; rfl)); intro qd5 hg w3 qb0 hb; have n0_ := q8.mk (jL (by repeat (first | (with_reducible first | exact HB.out | apply qA | apply q9 | apply qB) | exact HB.out)) hb); have n1_ := q8.mk (qb0); have n2_ := q8.mk ((by rw [hg]; exact (qJ (by repeat (first | (with_reducible first | exact HB.out | apply qA | apply q9 | apply qB) | exact HB.out))) : w.heap.size ≤ qd5)); have n3_ := q8.mk ((by rw [hg]; exact (qJ (by repeat (first | (with_reducible first | exact HB.out | apply qA | apply q9 | apply qB) | exact HB.out))) : w.heap.size ≤ qd5)); clear HB; have HB := n0_; have jU := n1_; have GW109 := n2_; have qF4 := n3_; clear n0_ n1_ n2_ n3_; clear hb qb0 hg))
 (try simp only [Act.put, List.setIfInBounds_toArray, List.set_cons_zero, List.set_cons_succ])
 go_cut [40] (fun v40 wc => ∃ (kq : Nat) (zn4 : Bool), v40 = .bool zn4 ∧ q8 (qN.j0 kq zn4 zD jT jQ jM = some r) ∧ q8 (kq ≤ k) ∧ q8 (wc.heap[qd5]? = some (.cells #[.int .i64 zD, .int .i64 jT, .int .i64 jQ, (.slice qv1 jM.length ql8)] 55 (0, 0))) ∧ q8 (Below w.heap.size w wc))
 case first =>
  have H := HC2.out
  clear HC2
  by_cases c4 : zD < 0
  ·rw [if_pos c4] at H
   have qC5 : decide (zD < 0) = true := decide_eq_true c4
   clear c4
   (first | rw [qC5] | (simp only [qa2, qa3]; rw [qC5]) | skip)
   have H' := q8.mk H
   clear H
   have jt6 : w3.cell? ⟨qd5, 0, none⟩ = some (.int .i64 zD) := (qE jU.out 0).trans rfl
   have jt7 : w3.cell? ⟨qd5, 1, none⟩ = some (.int .i64 jT) := (qE jU.out 1).trans rfl
   have jt8 : w3.cell? ⟨qd5, 2, none⟩ = some (.int .i64 jQ) := (qE jU.out 2).trans rfl
   have jt9 : w3.cell? ⟨qd5, 3, none⟩ = some (.slice qv1 jM.length ql8) := (qE jU.out 3).trans rfl
   have ju0 := qC jU.out 0
   have ju1 := qC jU.out 1
   have ju2 := qC jU.out 2
   have ju3 := qC jU.out 3
   go_wp2
   go_meet
   case rel => exact ⟨_, (true), (by first | rfl | (simp; done) | (simp [*]; done)), H', ⟨by first | omega | exact Nat.le_refl _⟩, ⟨by (with_reducible repeat (first | refine qK ?_ _ | refine qR ?_ | refine qL ?_ _)); exact jU.out⟩, ⟨by repeat (first | (with_reducible first | exact HB.out | apply qA | apply q9 | apply qB | refine qI ?_ qF4.out) | exact HB.out)⟩⟩
  ·rw [if_neg c4] at H
   have qC5 : decide (zD < 0) = false := decide_eq_false c4
   clear c4
   (first | rw [qC5] | (simp only [qa2, qa3]; rw [qC5]) | skip)
   by_cases c6 : zD > 63
   ·rw [if_pos c6] at H
    have ja0 : decide (63 < zD) = true := decide_eq_true c6
    clear c6
    have H' := q8.mk H
    clear H
    have qW6 : w3.cell? ⟨qd5, 0, none⟩ = some (.int .i64 zD) := (qE jU.out 0).trans rfl
    have qW7 : w3.cell? ⟨qd5, 1, none⟩ = some (.int .i64 jT) := (qE jU.out 1).trans rfl
    have qW8 : w3.cell? ⟨qd5, 2, none⟩ = some (.int .i64 jQ) := (qE jU.out 2).trans rfl
    have ju4 : w3.cell? ⟨qd5, 3, none⟩ = some (.slice qv1 jM.length ql8) := (qE jU.out 3).trans rfl
    have qW9 := qC jU.out 0
    have qX0 := qC jU.out 1
    have qX1 := qC jU.out 2
    have ju5 := qC jU.out 3
    go_wp2
    go_meet
    case rel => exact ⟨_, (true), (by first | rfl | (simp; done) | (simp [*]; done)), H', ⟨by first | omega | exact Nat.le_refl _⟩, ⟨by (with_reducible repeat (first | refine qK ?_ _ | refine qR ?_ | refine qL ?_ _)); exact jU.out⟩, ⟨by repeat (first | (with_reducible first | exact HB.out | apply qA | apply q9 | apply qB | refine qI ?_ qF4.out) | exact HB.out)⟩⟩
   ·rw [if_neg c6] at H
    have ja0 : decide (63 < zD) = false := decide_eq_false c6
    clear c6
    by_cases c8 : jT < 0
    ·rw [if_pos c8] at H
     have qV1 : decide (jT < 0) = true := decide_eq_true c8
     clear c8
     have H' := q8.mk H
     clear H
     have ju6 : w3.cell? ⟨qd5, 0, none⟩ = some (.int .i64 zD) := (qE jU.out 0).trans rfl
     have ju7 : w3.cell? ⟨qd5, 1, none⟩ = some (.int .i64 jT) := (qE jU.out 1).trans rfl
     have ju8 : w3.cell? ⟨qd5, 2, none⟩ = some (.int .i64 jQ) := (qE jU.out 2).trans rfl
     have ju9 : w3.cell? ⟨qd5, 3, none⟩ = some (.slice qv1 jM.length ql8) := (qE jU.out 3).trans rfl
     have jv0 := qC jU.out 0
     have jv1 := qC jU.out 1
     have jv2 := qC jU.out 2
     have jv3 := qC jU.out 3
     go_wp2
     go_meet
     case rel => exact ⟨_, (true), (by first | rfl | (simp; done) | (simp [*]; done)), H', ⟨by first | omega | exact Nat.le_refl _⟩, ⟨by (with_reducible repeat (first | refine qK ?_ _ | refine qR ?_ | refine qL ?_ _)); exact jU.out⟩, ⟨by repeat (first | (with_reducible first | exact HB.out | apply qA | apply q9 | apply qB | refine qI ?_ qF4.out) | exact HB.out)⟩⟩
    ·rw [if_neg c8] at H
     have qV1 : decide (jT < 0) = false := decide_eq_false c8
     clear c8
     by_cases c10 : jT ≥ jQ
     ·rw [if_pos c10] at H
      have qP1 : decide (jQ ≤ jT) = true := decide_eq_true c10
      clear c10
      have H' := q8.mk H
      clear H
      have jd8 : w3.cell? ⟨qd5, 0, none⟩ = some (.int .i64 zD) := (qE jU.out 0).trans rfl
      have jd9 : w3.cell? ⟨qd5, 1, none⟩ = some (.int .i64 jT) := (qE jU.out 1).trans rfl
      have je0 : w3.cell? ⟨qd5, 2, none⟩ = some (.int .i64 jQ) := (qE jU.out 2).trans rfl
      have je1 : w3.cell? ⟨qd5, 3, none⟩ = some (.slice qv1 jM.length ql8) := (qE jU.out 3).trans rfl
      have je2 := qC jU.out 0
      have je3 := qC jU.out 1
      have je4 := qC jU.out 2
      have je5 := qC jU.out 3
      go_wp2
      go_meet
      case rel => exact ⟨_, (true), (by first | rfl | (simp; done) | (simp [*]; done)), H', ⟨by first | omega | exact Nat.le_refl _⟩, ⟨by (with_reducible repeat (first | refine qK ?_ _ | refine qR ?_ | refine qL ?_ _)); exact jU.out⟩, ⟨by repeat (first | (with_reducible first | exact HB.out | apply qA | apply q9 | apply qB | refine qI ?_ qF4.out) | exact HB.out)⟩⟩
     ·rw [if_neg c10] at H
      have qP1 : decide (jQ ≤ jT) = false := decide_eq_false c10
      clear c10
      by_cases c12 : jQ > 2147483647
      ·rw [if_pos c12] at H
       have qH0 : decide (2147483647 < jQ) = true := decide_eq_true c12
       clear c12
       have H' := q8.mk H
       clear H
       have qL5 : w3.cell? ⟨qd5, 0, none⟩ = some (.int .i64 zD) := (qE jU.out 0).trans rfl
       have qL6 : w3.cell? ⟨qd5, 1, none⟩ = some (.int .i64 jT) := (qE jU.out 1).trans rfl
       have qL7 : w3.cell? ⟨qd5, 2, none⟩ = some (.int .i64 jQ) := (qE jU.out 2).trans rfl
       have je6 : w3.cell? ⟨qd5, 3, none⟩ = some (.slice qv1 jM.length ql8) := (qE jU.out 3).trans rfl
       have qL8 := qC jU.out 0
       have qL9 := qC jU.out 1
       have qM0 := qC jU.out 2
       have je7 := qC jU.out 3
       go_wp2
       go_meet
       case rel => exact ⟨_, (true), (by first | rfl | (simp; done) | (simp [*]; done)), H', ⟨by first | omega | exact Nat.le_refl _⟩, ⟨by (with_reducible repeat (first | refine qK ?_ _ | refine qR ?_ | refine qL ?_ _)); exact jU.out⟩, ⟨by repeat (first | (with_reducible first | exact HB.out | apply qA | apply q9 | apply qB | refine qI ?_ qF4.out) | exact HB.out)⟩⟩
      ·rw [if_neg c12] at H
       have qH0 : decide (2147483647 < jQ) = false := decide_eq_false c12
       clear c12
       by_cases c14 : (jM.length : Int) < 1
       ·rw [if_pos c14] at H
        have qY9 : decide ((jM.length : Int) < 1) = true := decide_eq_true c14
        have jv4 : decide (jM.length < 1) = true := decide_eq_true (by omega)
        clear c14
        have H' := q8.mk H
        clear H
        have je8 : w3.cell? ⟨qd5, 0, none⟩ = some (.int .i64 zD) := (qE jU.out 0).trans rfl
        have je9 : w3.cell? ⟨qd5, 1, none⟩ = some (.int .i64 jT) := (qE jU.out 1).trans rfl
        have jf0 : w3.cell? ⟨qd5, 2, none⟩ = some (.int .i64 jQ) := (qE jU.out 2).trans rfl
        have jf1 : w3.cell? ⟨qd5, 3, none⟩ = some (.slice qv1 jM.length ql8) := (qE jU.out 3).trans rfl
        have jf2 := qC jU.out 0
        have jf3 := qC jU.out 1
        have jf4 := qC jU.out 2
        have jf5 := qC jU.out 3
        go_wp2
        go_meet
        case rel => exact ⟨_, (true), (by first | rfl | (simp; done) | (simp [*]; done)), H', ⟨by first | omega | exact Nat.le_refl _⟩, ⟨by (with_reducible repeat (first | refine qK ?_ _ | refine qR ?_ | refine qL ?_ _)); exact jU.out⟩, ⟨by repeat (first | (with_reducible first | exact HB.out | apply qA | apply q9 | apply qB | refine qI ?_ qF4.out) | exact HB.out)⟩⟩
       ·rw [if_neg c14] at H
        have qY9 : decide ((jM.length : Int) < 1) = false := decide_eq_false c14
        have jv4 : decide (jM.length < 1) = false := decide_eq_false (by omega)
        clear c14
        have H' := q8.mk H
        clear H
        have qE8 : w3.cell? ⟨qd5, 0, none⟩ = some (.int .i64 zD) := (qE jU.out 0).trans rfl
        have qE9 : w3.cell? ⟨qd5, 1, none⟩ = some (.int .i64 jT) := (qE jU.out 1).trans rfl
        have qF0 : w3.cell? ⟨qd5, 2, none⟩ = some (.int .i64 jQ) := (qE jU.out 2).trans rfl
        have jf6 : w3.cell? ⟨qd5, 3, none⟩ = some (.slice qv1 jM.length ql8) := (qE jU.out 3).trans rfl
        have qF1 := qC jU.out 0
        have qF2 := qC jU.out 1
        have qF3 := qC jU.out 2
        have jf7 := qC jU.out 3
        go_wp2
        go_meet
        case rel => exact ⟨_, (decide ((jM.length : Int) > 64)), (by first | rfl | (simp; done) | (simp [*]; done)), H', ⟨by first | omega | exact Nat.le_refl _⟩, ⟨by (with_reducible repeat (first | refine qK ?_ _ | refine qR ?_ | refine qL ?_ _)); exact jU.out⟩, ⟨by repeat (first | (with_reducible first | exact HB.out | apply qA | apply q9 | apply qB | refine qI ?_ qF4.out) | exact HB.out)⟩⟩
 case rest =>
  clear HC2
  try clear c1
  try clear p2
  try clear c4
  try clear qC5
  try clear c6
  try clear ja0
  try clear c8
  try clear qV1
  try clear c10
  try clear qP1
  try clear c12
  try clear qH0
  try clear c14
  try clear qY9
  try clear jv4
  try clear jd8
  try clear jd9
  try clear je0
  try clear je1
  try clear qL5
  try clear qL6
  try clear qL7
  try clear je6
  try clear je8
  try clear je9
  try clear jf0
  try clear jf1
  try clear qE8
  try clear qE9
  try clear qF0
  try clear jf6
  try clear jt6
  try clear jt7
  try clear jt8
  try clear jt9
  try clear qW6
  try clear qW7
  try clear qW8
  try clear ju4
  try clear ju6
  try clear ju7
  try clear ju8
  try clear ju9
  try clear je2
  try clear je3
  try clear je4
  try clear je5
  try clear qL8
  try clear qL9
  try clear qM0
  try clear je7
  try clear jf2
  try clear jf3
  try clear jf4
  try clear jf5
  try clear qF1
  try clear qF2
  try clear qF3
  try clear jf7
  try clear ju0
  try clear ju1
  try clear ju2
  try clear ju3
  try clear qW9
  try clear qX0
  try clear qX1
  try clear ju5
  try clear jv0
  try clear jv1
  try clear jv2
  try clear jv3
  obtain ⟨kq, zn4, rfl, HA, HJ1, jU, HB⟩ := hcut
  cases kq with
  | zero => exact absurd HA.out (by simp [qN.j0])
  | succ kj1 =>
   have H := HA.out
   clear HA
   simp only [qN.j0] at H
   by_cases c17 : zn4 = true
   ·subst c17
    have H1 : (some false) = some r := by rw [if_pos rfl] at H; exact H
    clear H
    have H := H1
    clear H1
    obtain rfl := Option.some.inj H
    go_wp2
    go_ret
    exact ⟨by first | rfl | (simp [jF, jG] <;> rfl) | (simp [*, jF, jG] <;> rfl), by repeat (first | (with_reducible first | exact HB.out | apply qA | apply q9 | apply qB | refine qI ?_ qF4.out) | exact HB.out)⟩
   ·replace c17 := Bool.eq_false_iff.mpr c17
    subst c17
    have H1 : (qN.l0 kj1 0 zD jT jQ jM) = some r := by rw [if_neg (show ¬ (false = true) by decide)] at H; exact H
    clear H
    have H := H1
    clear H1
    have H' := q8.mk H
    clear H
    go_wp2
    go_loopg [3] kj1 (fun kq v3 w' => ∃ (qv5 : Int), v3 = .int .i64 qv5 ∧ q8 (qN.l0 kq qv5 zD jT jQ jM = some r) ∧ q8 (kq ≤ kj1) ∧ q8 (w'.heap[qd5]? = some (.cells #[.int .i64 zD, .int .i64 jT, .int .i64 jQ, (.slice qv1 jM.length ql8)] 55 (0, 0))) ∧ q8 (Below w.heap.size w w'))
    case atStart => exact ⟨(0), (by first | rfl | (simp; done) | (simp [*]; done)), H', ⟨Nat.le_refl _⟩, ⟨by (with_reducible repeat (first | refine qK ?_ _ | refine qR ?_ | refine qL ?_ _)); exact jU.out⟩, ⟨by repeat (first | (with_reducible first | exact HB.out | apply qA | apply q9 | apply qB | refine qI ?_ qF4.out) | exact HB.out)⟩⟩
    case round =>
     clear H'
     try clear c1
     try clear p2
     try clear c4
     try clear qC5
     try clear c6
     try clear ja0
     try clear c8
     try clear qV1
     try clear c10
     try clear qP1
     try clear c12
     try clear qH0
     try clear c14
     try clear qY9
     try clear jv4
     try clear c17
     try clear jd8
     try clear jd9
     try clear je0
     try clear je1
     try clear qL5
     try clear qL6
     try clear qL7
     try clear je6
     try clear je8
     try clear je9
     try clear jf0
     try clear jf1
     try clear qE8
     try clear qE9
     try clear qF0
     try clear jf6
     try clear jt6
     try clear jt7
     try clear jt8
     try clear jt9
     try clear qW6
     try clear qW7
     try clear qW8
     try clear ju4
     try clear ju6
     try clear ju7
     try clear ju8
     try clear ju9
     try clear je2
     try clear je3
     try clear je4
     try clear je5
     try clear qL8
     try clear qL9
     try clear qM0
     try clear je7
     try clear jf2
     try clear jf3
     try clear jf4
     try clear jf5
     try clear qF1
     try clear qF2
     try clear qF3
     try clear jf7
     try clear ju0
     try clear ju1
     try clear ju2
     try clear ju3
     try clear qW9
     try clear qX0
     try clear qX1
     try clear ju5
     try clear jv0
     try clear jv1
     try clear jv2
     try clear jv3
     try clear p2
     obtain ⟨qv5, rfl, HA, HK2, jU, HB⟩ := hrel
     cases gk with
     | zero => exact absurd HA.out (by simp [qN.l0])
     | succ k2 =>
      have H := HA.out
      clear HA
      simp only [qN.l0] at H
      by_cases c18 : qv5 < (jM.length : Int)
      ·rw [if_pos c18] at H
       have zU0 : decide (qv5 < (jM.length : Int)) = true := decide_eq_true c18
       clear c18
       by_cases c19 : 0 ≤ qv5
       ·rw [if_pos c19] at H
        have zX3 : decide (0 ≤ qv5) = true := decide_eq_true c19
        clear c19
        replace H := Option.bind_eq_some_iff.mp H
        obtain ⟨t111, A200, H⟩ := H
        replace H : (if t111 = true then (qN.l0 k2 (wrap64 (qv5 + 1)) zD jT jQ jM) else (some false)) = some r := H
        have A20 := q8.mk A200
        clear A200
        by_cases c21 : t111 = true
        ·subst c21
         have H1 : (qN.l0 k2 (wrap64 (qv5 + 1)) zD jT jQ jM) = some r := by rw [if_pos rfl] at H; exact H
         clear H
         have H := H1
         clear H1
         have H' := q8.mk H
         clear H
         have QE0 : wr.cell? ⟨qd5, 0, none⟩ = some (.int .i64 zD) := (qE jU.out 0).trans rfl
         have QE1 : wr.cell? ⟨qd5, 1, none⟩ = some (.int .i64 jT) := (qE jU.out 1).trans rfl
         have QE2 : wr.cell? ⟨qd5, 2, none⟩ = some (.int .i64 jQ) := (qE jU.out 2).trans rfl
         have QE3 : wr.cell? ⟨qd5, 3, none⟩ = some (.slice qv1 jM.length ql8) := (qE jU.out 3).trans rfl
         have QE4 := qC jU.out 0
         have QE5 := qC jU.out 1
         have QE6 := qC jU.out 2
         have QE7 := qC jU.out 3
         have zg9 : 0 ≤ (qv5 : Int) := of_decide_eq_true (by first | (with_reducible assumption) | assumption)
         have zh0 : qv5 < (jM.length : Int) := of_decide_eq_true (by first | (with_reducible assumption) | assumption)
         obtain ⟨zF3, Qh0, qN1, qN2, qN3⟩ := qs5 jX8.out qv5 zg9 zh0
         cases Qh0
         replace qN1 := (HB.out.cell (World.block_lt_of_cell? w _ qN1)).trans qN1
         replace qN2 := (HB.out.cell (World.block_lt_of_cell? w _ qN2)).trans qN2
         replace qN3 := (HB.out.cell (World.block_lt_of_cell? w _ qN3)).trans qN3
         replace zg9 := eq_true zg9
         replace zh0 := eq_true zh0
         go_wp2_with (first | ((with_reducible refine qj6 (f := 83) rfl ?_); refine qK1 (some 53) rfl rfl Try.func83 (by kernel_rfl) rfl #[.agg #[.bool ((qG jM qv5).f0), .int .i64 ((qG jM qv5).f1), .int .i64 ((qG jM qv5).f2)]] rfl (by (try simp only [List.map_toArray, List.map_cons, List.map_nil]); first | done | rfl | (simp only [List.length_drop, List.length_take]; rfl)) ?_; (with_reducible refine (qd4.calls ((qG jM qv5).f0) ((qG jM qv5).f1) ((qG jM qv5).f2) true _ A20.out).mono ?_); rintro e w23 ⟨rfl, hb⟩; refine ⟨_, rfl, ?_⟩; have n0_ := q8.mk (qn4 (g := qd5) (o := .cells #[.int .i64 zD, .int .i64 jT, .int .i64 jQ, .slice (some zF3) jM.length ql8] 55 (0, 0)) (by (with_reducible repeat (first | refine qK ?_ _ | refine qR ?_ | refine qL ?_ _)); exact jU.out) hb); have n1_ := q8.mk (jL (by repeat (first | (with_reducible first | exact HB.out | apply qA | apply q9 | apply qB | refine qI ?_ qF4.out) | exact HB.out)) hb); clear jU; clear HB; have jU := n0_; have HB := n1_; clear n0_ n1_; (try clear hb); (try clear hb2); (try clear hk); (try clear hi)))
         go_roundg k2
         case measure => have := HJ1.out; have := HK2.out; omega
         case rel => exact ⟨(wrap64 (qv5 + 1)), (by first | rfl | (simp; done) | (simp [*]; done)), H', ⟨by have := HJ1.out; have := HK2.out; omega⟩, ⟨by (with_reducible repeat (first | refine qK ?_ _ | refine qR ?_ | refine qL ?_ _)); exact jU.out⟩, ⟨by repeat (first | (with_reducible first | exact HB.out | apply qA | apply q9 | apply qB | refine qI ?_ qF4.out) | exact HB.out)⟩⟩
        ·replace c21 := Bool.eq_false_iff.mpr c21
         subst c21
         have H1 : (some false) = some r := by rw [if_neg (show ¬ (false = true) by decide)] at H; exact H
         clear H
         have H := H1
         clear H1
         obtain rfl := Option.some.inj H
         have QE8 : wr.cell? ⟨qd5, 0, none⟩ = some (.int .i64 zD) := (qE jU.out 0).trans rfl
         have QE9 : wr.cell? ⟨qd5, 1, none⟩ = some (.int .i64 jT) := (qE jU.out 1).trans rfl
         have QF0 : wr.cell? ⟨qd5, 2, none⟩ = some (.int .i64 jQ) := (qE jU.out 2).trans rfl
         have QF1 : wr.cell? ⟨qd5, 3, none⟩ = some (.slice qv1 jM.length ql8) := (qE jU.out 3).trans rfl
         have QF2 := qC jU.out 0
         have QF3 := qC jU.out 1
         have QF4 := qC jU.out 2
         have QF5 := qC jU.out 3
         have zg9 : 0 ≤ (qv5 : Int) := of_decide_eq_true (by first | (with_reducible assumption) | assumption)
         have zh0 : qv5 < (jM.length : Int) := of_decide_eq_true (by first | (with_reducible assumption) | assumption)
         obtain ⟨zF3, Qh0, qN1, qN2, qN3⟩ := qs5 jX8.out qv5 zg9 zh0
         cases Qh0
         replace qN1 := (HB.out.cell (World.block_lt_of_cell? w _ qN1)).trans qN1
         replace qN2 := (HB.out.cell (World.block_lt_of_cell? w _ qN2)).trans qN2
         replace qN3 := (HB.out.cell (World.block_lt_of_cell? w _ qN3)).trans qN3
         replace zg9 := eq_true zg9
         replace zh0 := eq_true zh0
         go_wp2_with (first | ((with_reducible refine qj6 (f := 83) rfl ?_); refine qK1 (some 53) rfl rfl Try.func83 (by kernel_rfl) rfl #[.agg #[.bool ((qG jM qv5).f0), .int .i64 ((qG jM qv5).f1), .int .i64 ((qG jM qv5).f2)]] rfl (by (try simp only [List.map_toArray, List.map_cons, List.map_nil]); first | done | rfl | (simp only [List.length_drop, List.length_take]; rfl)) ?_; (with_reducible refine (qd4.calls ((qG jM qv5).f0) ((qG jM qv5).f1) ((qG jM qv5).f2) false _ A20.out).mono ?_); rintro e w25 ⟨rfl, hb⟩; refine ⟨_, rfl, ?_⟩; have n0_ := q8.mk (qn4 (g := qd5) (o := .cells #[.int .i64 zD, .int .i64 jT, .int .i64 jQ, .slice (some zF3) jM.length ql8] 55 (0, 0)) (by (with_reducible repeat (first | refine qK ?_ _ | refine qR ?_ | refine qL ?_ _)); exact jU.out) hb); have n1_ := q8.mk (jL (by repeat (first | (with_reducible first | exact HB.out | apply qA | apply q9 | apply qB | refine qI ?_ qF4.out) | exact HB.out)) hb); clear jU; clear HB; have jU := n0_; have HB := n1_; clear n0_ n1_; (try clear hb); (try clear hb2); (try clear hk); (try clear hi)))
         go_ret
         exact ⟨by first | rfl | (simp [jF, jG] <;> rfl) | (simp [*, jF, jG] <;> rfl), by repeat (first | (with_reducible first | exact HB.out | apply qA | apply q9 | apply qB | refine qI ?_ qF4.out) | exact HB.out)⟩
       ·rw [if_neg c19] at H
        exact absurd H (by simp)
      ·rw [if_neg c18] at H
       have zU0 : decide (qv5 < (jM.length : Int)) = false := decide_eq_false c18
       clear c18
       obtain rfl := Option.some.inj H
       have zQ5 : wr.cell? ⟨qd5, 0, none⟩ = some (.int .i64 zD) := (qE jU.out 0).trans rfl
       have zQ6 : wr.cell? ⟨qd5, 1, none⟩ = some (.int .i64 jT) := (qE jU.out 1).trans rfl
       have zQ7 : wr.cell? ⟨qd5, 2, none⟩ = some (.int .i64 jQ) := (qE jU.out 2).trans rfl
       have QF6 : wr.cell? ⟨qd5, 3, none⟩ = some (.slice qv1 jM.length ql8) := (qE jU.out 3).trans rfl
       have zQ8 := qC jU.out 0
       have zQ9 := qC jU.out 1
       have zR0 := qC jU.out 2
       have QF7 := qC jU.out 3
       go_wp2
       go_ret
       exact ⟨by first | rfl | (simp [jF, jG] <;> rfl) | (simp [*, jF, jG] <;> rfl), by repeat (first | (with_reducible first | exact HB.out | apply qA | apply q9 | apply qB | refine qI ?_ qF4.out) | exact HB.out)⟩
mutual
def j5.l0 : Nat → List (S55) → Int → Int → Int → Option (Int)
 | 0, _, _, _, _ => none
 | k + 1, x0, x1, x5, x6 => if x6 < (x0.length : Int) then (j5.l1 k x0 x1 x5 x6 0) else (some x5)
def j5.l1 : Nat → List (S55) → Int → Int → Int → Int → Option (Int)
 | 0, _, _, _, _, _ => none
 | k + 1, x0, x1, x5, x6, x7 => if 0 ≤ x6 then (if x6 < (x0.length : Int) then (if x7 < (((qD x0 x6).f3).length : Int) then (if 0 ≤ x7 then (if (qG ((qD x0 x6).f3) x7).f0 = true then (if ((qG ((qD x0 x6).f3) x7).f2) = x1 then (j5.l1 k x0 x1 (wrap64 (x5 + 1)) x6 (wrap64 (x7 + 1))) else (j5.l1 k x0 x1 x5 x6 (wrap64 (x7 + 1)))) else (j5.l1 k x0 x1 x5 x6 (wrap64 (x7 + 1)))) else (none)) else (j5.l0 k x0 x1 x5 (wrap64 (x6 + 1)))) else (none)) else (none)
end
def j5.f (k : Nat) (l0 : List (S55)) (a1 : Int) : Option (Int) := j5.l0 k l0 a1 0 0
set_option maxHeartbeats 8000000 in
set_option maxRecDepth 100000 in
theorem j5.calls (k : Nat) (A0 : Option Addr) (c0 : Nat) (l0 : List (S55)) (a1 : Int) (r : Int) (w : World) (hr0 : Kd.C k55 w A0 l0.length l0) (hc0 : l0.length ≤ c0) (h : j5.f k l0 a1 = some r) :
  Calls Try.prog 65 #[.slice A0 l0.length c0, .int .i64 a1] w fun e w' => e = .returned (.int .i64 r) ∧ qa0 w w' := by
 have HR0 := q8.mk hr0
 have HC0 := q8.mk hc0
 clear hr0 hc0
 have H : (j5.l0 k l0 a1 0 0) = some r := h
 clear h
 have H' := q8.mk H
 clear H
 go_enter Try.func65, Try.ntmps65
 go_wp2
 go_loopg [5, 6] k (fun kq v5 v6 w' => ∃ (qz1 : Int) (jX : Int), v5 = .int .i64 qz1 ∧ v6 = .int .i64 jX ∧ q8 (j5.l0 kq l0 a1 qz1 jX = some r) ∧ q8 (kq ≤ k) ∧ qa0 w w')
 case atStart => exact ⟨(0), (0), (by first | rfl | (simp; done) | (simp [*]; done)), (by first | rfl | (simp; done) | (simp [*]; done)), H', ⟨Nat.le_refl _⟩, by repeat (first | exact qa0.refl _ | apply qa0.step)⟩
 case round =>
  clear H'
  try clear p2
  obtain ⟨qz1, jX, rfl, rfl, HA, HK1, ⟨m1, rfl⟩⟩ := hrel
  cases gk with
  | zero => exact absurd HA.out (by simp [j5.l0])
  | succ k1 =>
   have H := HA.out
   clear HA
   simp only [j5.l0] at H
   by_cases c3 : jX < (l0.length : Int)
   ·rw [if_pos c3] at H
    have jx4 : decide (jX < (l0.length : Int)) = true := decide_eq_true c3
    clear c3
    have H' := q8.mk H
    clear H
    go_wp2
    go_loopg [5, 7] k1 (fun kq v5 v7 w' => ∃ (zR : Int) (qf7 : Int), v5 = .int .i64 zR ∧ v7 = .int .i64 qf7 ∧ q8 (j5.l1 kq l0 a1 zR jX qf7 = some r) ∧ q8 (kq ≤ k1) ∧ qa0 w w')
    case atStart => exact ⟨(qz1), (0), (by first | rfl | (simp; done) | (simp [*]; done)), (by first | rfl | (simp; done) | (simp [*]; done)), H', ⟨Nat.le_refl _⟩, by repeat (first | exact qa0.refl _ | apply qa0.step)⟩
    case round =>
     clear H'
     try clear p2
     try clear c3
     try clear jx4
     try clear p2
     obtain ⟨zR, qf7, rfl, rfl, HA, HK2, ⟨m2, rfl⟩⟩ := hrel
     cases gk with
     | zero => exact absurd HA.out (by simp [j5.l1])
     | succ k2 =>
      have H := HA.out
      clear HA
      simp only [j5.l1] at H
      by_cases c4 : 0 ≤ jX
      ·rw [if_pos c4] at H
       have qC5 : decide (0 ≤ jX) = true := decide_eq_true c4
       clear c4
       by_cases c5 : jX < (l0.length : Int)
       ·rw [if_pos c5] at H
        have jx5 : decide (jX < (l0.length : Int)) = true := decide_eq_true c5
        clear c5
        by_cases c6 : qf7 < (((qD l0 jX).f3).length : Int)
        ·rw [if_pos c6] at H
         have ja0 : decide (qf7 < (((qD l0 jX).f3).length : Int)) = true := decide_eq_true c6
         clear c6
         by_cases c7 : 0 ≤ qf7
         ·rw [if_pos c7] at H
          have zJ7 : decide (0 ≤ qf7) = true := decide_eq_true c7
          clear c7
          obtain ⟨bq8, Qh1⟩ : ∃ b_ : Bool, b_ = ((qG ((qD l0 jX).f3) qf7).f0) := ⟨_, rfl⟩
          replace H : (if bq8 = true then (if ((qG ((qD l0 jX).f3) qf7).f2) = a1 then (j5.l1 k2 l0 a1 (wrap64 (zR + 1)) jX (wrap64 (qf7 + 1))) else (j5.l1 k2 l0 a1 zR jX (wrap64 (qf7 + 1)))) else (j5.l1 k2 l0 a1 zR jX (wrap64 (qf7 + 1)))) = some r := by rw [← Qh1] at H; exact H
          have zF4 := q8.mk Qh1
          clear Qh1
          by_cases c9 : bq8 = true
          ·subst c9
           have H1 : (if ((qG ((qD l0 jX).f3) qf7).f2) = a1 then (j5.l1 k2 l0 a1 (wrap64 (zR + 1)) jX (wrap64 (qf7 + 1))) else (j5.l1 k2 l0 a1 zR jX (wrap64 (qf7 + 1)))) = some r := by rw [if_pos rfl] at H; exact H
           clear H
           have H := H1
           clear H1
           by_cases c10 : ((qG ((qD l0 jX).f3) qf7).f2) = a1
           ·rw [if_pos c10] at H
            have qP1 : (((qG ((qD l0 jX).f3) qf7).f2) == a1) = true := beq_iff_eq.mpr c10
            have Qq4 : (((qG ((qD l0 jX).f3) qf7).f2) != a1) = false := bne_eq_false_iff_eq.mpr c10
            clear c10
            have H' := q8.mk H
            clear H
            have qX6 : 0 ≤ (jX : Int) := of_decide_eq_true (by first | (with_reducible assumption) | assumption)
            have qX7 : jX < (l0.length : Int) := of_decide_eq_true (by first | (with_reducible assumption) | assumption)
            obtain ⟨jk3, zh1, zh2, zh3, jM4, jM5, jM6, qF5, qv6, qv7⟩ := qa5 HR0.out jX qX6 qX7
            cases zh3
            have jM7 := q8.mk qv7
            have jM8 := q8.mk qv6
            clear qv7 qv6
            replace qX6 := eq_true qX6
            replace qX7 := eq_true qX7
            have jv7 : 0 ≤ (jX : Int) := of_decide_eq_true (by first | (with_reducible assumption) | assumption)
            have jv8 : jX < (l0.length : Int) := of_decide_eq_true (by first | (with_reducible assumption) | assumption)
            obtain ⟨jY1, zF5, zF6, zF7, zn5, zn6, zn7, jg1, qF6, qF7⟩ := qa5 HR0.out jX jv7 jv8
            obtain rfl : jk3 = jY1 := (by injection zF7)
            have jg2 := q8.mk qF7
            have zn8 := q8.mk qF6
            clear qF7 qF6
            replace jv7 := eq_true jv7
            replace jv8 := eq_true jv8
            have ea_ := Option.some.inj (qF5.symm.trans jg1)
            injection ea_ with ea_ en_ ec_
            subst ea_
            subst ec_
            clear en_
            have jv9 : 0 ≤ (qf7 : Int) := of_decide_eq_true (by first | (with_reducible assumption) | assumption)
            have jw0 : qf7 < (((qD l0 jX).f3).length : Int) := of_decide_eq_true (by first | (with_reducible assumption) | assumption)
            obtain ⟨zX4, zF8, jg3, zn9, zo0⟩ := qs5 jg2.out qf7 jv9 jw0
            (try rw [← zF4.out] at jg3)
            cases zF8
            replace jv9 := eq_true jv9
            replace jw0 := eq_true jw0
            have zh4 : 0 ≤ (jX : Int) := of_decide_eq_true (by first | (with_reducible assumption) | assumption)
            have zh5 : jX < (l0.length : Int) := of_decide_eq_true (by first | (with_reducible assumption) | assumption)
            obtain ⟨zF9, Qh2, Qh3, e115, zR4, zR5, zR6, jM9, jg4, jg5⟩ := qa5 HR0.out jX zh4 zh5
            obtain rfl : jk3 = zF9 := (by injection e115)
            have jN0 := q8.mk jg5
            have zR7 := q8.mk jg4
            clear jg5 jg4
            replace zh4 := eq_true zh4
            replace zh5 := eq_true zh5
            have ea_ := Option.some.inj (qF5.symm.trans jM9)
            injection ea_ with ea_ en_ ec_
            subst ea_
            subst ec_
            clear en_
            have zh6 : 0 ≤ (qf7 : Int) := of_decide_eq_true (by first | (with_reducible assumption) | assumption)
            have zh7 : qf7 < (((qD l0 jX).f3).length : Int) := of_decide_eq_true (by first | (with_reducible assumption) | assumption)
            obtain ⟨Qq5, e116, jN1, zR8, zR9⟩ := qs5 jN0.out qf7 zh6 zh7
            (try rw [← zF4.out] at jN1)
            cases e116
            replace zh6 := eq_true zh6
            replace zh7 := eq_true zh7
            go_wp2
            go_roundg k2
            case measure => have := HK1.out; have := HK2.out; omega
            case rel => exact ⟨(wrap64 (zR + 1)), (wrap64 (qf7 + 1)), (by first | rfl | (simp; done) | (simp [*]; done)), (by first | rfl | (simp; done) | (simp [*]; done)), H', ⟨by have := HK1.out; have := HK2.out; omega⟩, by repeat (first | exact qa0.refl _ | apply qa0.step)⟩
           ·rw [if_neg c10] at H
            have qP1 : (((qG ((qD l0 jX).f3) qf7).f2) == a1) = false := beq_eq_false_iff_ne.mpr c10
            have Qq4 : (((qG ((qD l0 jX).f3) qf7).f2) != a1) = true := bne_iff_ne.mpr c10
            have H' := q8.mk H
            clear H
            have qX6 : 0 ≤ (jX : Int) := of_decide_eq_true (by first | (with_reducible assumption) | assumption)
            have qX7 : jX < (l0.length : Int) := of_decide_eq_true (by first | (with_reducible assumption) | assumption)
            obtain ⟨jk3, zh1, zh2, zh3, jM4, jM5, jM6, qF5, qv6, qv7⟩ := qa5 HR0.out jX qX6 qX7
            cases zh3
            have jM7 := q8.mk qv7
            have jM8 := q8.mk qv6
            clear qv7 qv6
            replace qX6 := eq_true qX6
            replace qX7 := eq_true qX7
            have jv7 : 0 ≤ (jX : Int) := of_decide_eq_true (by first | (with_reducible assumption) | assumption)
            have jv8 : jX < (l0.length : Int) := of_decide_eq_true (by first | (with_reducible assumption) | assumption)
            obtain ⟨jY1, zF5, zF6, zF7, zn5, zn6, zn7, jg1, qF6, qF7⟩ := qa5 HR0.out jX jv7 jv8
            obtain rfl : jk3 = jY1 := (by injection zF7)
            have jg2 := q8.mk qF7
            have zn8 := q8.mk qF6
            clear qF7 qF6
            replace jv7 := eq_true jv7
            replace jv8 := eq_true jv8
            have ea_ := Option.some.inj (qF5.symm.trans jg1)
            injection ea_ with ea_ en_ ec_
            subst ea_
            subst ec_
            clear en_
            have jv9 : 0 ≤ (qf7 : Int) := of_decide_eq_true (by first | (with_reducible assumption) | assumption)
            have jw0 : qf7 < (((qD l0 jX).f3).length : Int) := of_decide_eq_true (by first | (with_reducible assumption) | assumption)
            obtain ⟨zX4, zF8, jg3, zn9, zo0⟩ := qs5 jg2.out qf7 jv9 jw0
            (try rw [← zF4.out] at jg3)
            cases zF8
            replace jv9 := eq_true jv9
            replace jw0 := eq_true jw0
            have zh4 : 0 ≤ (jX : Int) := of_decide_eq_true (by first | (with_reducible assumption) | assumption)
            have zh5 : jX < (l0.length : Int) := of_decide_eq_true (by first | (with_reducible assumption) | assumption)
            obtain ⟨zF9, Qh2, Qh3, e115, zR4, zR5, zR6, jM9, jg4, jg5⟩ := qa5 HR0.out jX zh4 zh5
            obtain rfl : jk3 = zF9 := (by injection e115)
            have jN0 := q8.mk jg5
            have zR7 := q8.mk jg4
            clear jg5 jg4
            replace zh4 := eq_true zh4
            replace zh5 := eq_true zh5
            have ea_ := Option.some.inj (qF5.symm.trans jM9)
            injection ea_ with ea_ en_ ec_
            subst ea_
            subst ec_
            clear en_
            have zh6 : 0 ≤ (qf7 : Int) := of_decide_eq_true (by first | (with_reducible assumption) | assumption)
            have zh7 : qf7 < (((qD l0 jX).f3).length : Int) := of_decide_eq_true (by first | (with_reducible assumption) | assumption)
            obtain ⟨Qq5, e116, jN1, zR8, zR9⟩ := qs5 jN0.out qf7 zh6 zh7
            (try rw [← zF4.out] at jN1)
            cases e116
            replace zh6 := eq_true zh6
            replace zh7 := eq_true zh7
            go_wp2
            go_roundg k2
            case measure => have := HK1.out; have := HK2.out; omega
            case rel => exact ⟨(zR), (wrap64 (qf7 + 1)), (by first | rfl | (simp; done) | (simp [*]; done)), (by first | rfl | (simp; done) | (simp [*]; done)), H', ⟨by have := HK1.out; have := HK2.out; omega⟩, by repeat (first | exact qa0.refl _ | apply qa0.step)⟩
          ·replace c9 := Bool.eq_false_iff.mpr c9
           subst c9
           have H1 : (j5.l1 k2 l0 a1 zR jX (wrap64 (qf7 + 1))) = some r := by rw [if_neg (show ¬ (false = true) by decide)] at H; exact H
           clear H
           have H := H1
           clear H1
           have H' := q8.mk H
           clear H
           have qX6 : 0 ≤ (jX : Int) := of_decide_eq_true (by first | (with_reducible assumption) | assumption)
           have qX7 : jX < (l0.length : Int) := of_decide_eq_true (by first | (with_reducible assumption) | assumption)
           obtain ⟨jk3, zh1, zh2, zh3, jM4, jM5, jM6, qF5, qv6, qv7⟩ := qa5 HR0.out jX qX6 qX7
           cases zh3
           have jM7 := q8.mk qv7
           have jM8 := q8.mk qv6
           clear qv7 qv6
           replace qX6 := eq_true qX6
           replace qX7 := eq_true qX7
           have jv7 : 0 ≤ (jX : Int) := of_decide_eq_true (by first | (with_reducible assumption) | assumption)
           have jv8 : jX < (l0.length : Int) := of_decide_eq_true (by first | (with_reducible assumption) | assumption)
           obtain ⟨jY1, zF5, zF6, zF7, zn5, zn6, zn7, jg1, qF6, qF7⟩ := qa5 HR0.out jX jv7 jv8
           obtain rfl : jk3 = jY1 := (by injection zF7)
           have jg2 := q8.mk qF7
           have zn8 := q8.mk qF6
           clear qF7 qF6
           replace jv7 := eq_true jv7
           replace jv8 := eq_true jv8
           have ea_ := Option.some.inj (qF5.symm.trans jg1)
           injection ea_ with ea_ en_ ec_
           subst ea_
           subst ec_
           clear en_
           have jv9 : 0 ≤ (qf7 : Int) := of_decide_eq_true (by first | (with_reducible assumption) | assumption)
           have jw0 : qf7 < (((qD l0 jX).f3).length : Int) := of_decide_eq_true (by first | (with_reducible assumption) | assumption)
           obtain ⟨zX4, zF8, jg3, zn9, zo0⟩ := qs5 jg2.out qf7 jv9 jw0
           (try rw [← zF4.out] at jg3)
           cases zF8
           replace jv9 := eq_true jv9
           replace jw0 := eq_true jw0
           go_wp2
           go_roundg k2
           case measure => have := HK1.out; have := HK2.out; omega
           case rel => exact ⟨(zR), (wrap64 (qf7 + 1)), (by first | rfl | (simp; done) | (simp [*]; done)), (by first | rfl | (simp; done) | (simp [*]; done)), H', ⟨by have := HK1.out; have := HK2.out; omega⟩, by repeat (first | exact qa0.refl _ | apply qa0.step)⟩
         ·rw [if_neg c7] at H
          exact absurd H (by simp)
        ·rw [if_neg c6] at H
         have ja0 : decide (qf7 < (((qD l0 jX).f3).length : Int)) = false := decide_eq_false c6
         clear c6
         have H' := q8.mk H
         clear H
         have qX6 : 0 ≤ (jX : Int) := of_decide_eq_true (by first | (with_reducible assumption) | assumption)
         have qX7 : jX < (l0.length : Int) := of_decide_eq_true (by first | (with_reducible assumption) | assumption)
         obtain ⟨jk3, zh1, zh2, zh3, jM4, jM5, jM6, qF5, qv6, qv7⟩ := qa5 HR0.out jX qX6 qX7
         cases zh3
         have jM7 := q8.mk qv7
         have jM8 := q8.mk qv6
         clear qv7 qv6
         replace qX6 := eq_true qX6
         replace qX7 := eq_true qX7
         go_wp2
         go_roundg k2
         case measure => have := HK1.out; have := HK2.out; omega
         case rel => exact ⟨(zR), (wrap64 (jX + 1)), (by first | rfl | (simp; done) | (simp [*]; done)), (by first | rfl | (simp; done) | (simp [*]; done)), H', ⟨by have := HK1.out; have := HK2.out; omega⟩, by repeat (first | exact qa0.refl _ | apply qa0.step)⟩
       ·rw [if_neg c5] at H
        exact absurd H (by simp)
      ·rw [if_neg c4] at H
       exact absurd H (by simp)
   ·rw [if_neg c3] at H
    have jx4 : decide (jX < (l0.length : Int)) = false := decide_eq_false c3
    clear c3
    obtain rfl := Option.some.inj H
    go_wp2
    go_ret
    exact ⟨by first | rfl | (simp; done) | (simp [*]; done), by repeat (first | exact qa0.refl _ | apply qa0.step)⟩
end Go.Proofs.Ytngkneknopenmaa.K
end
