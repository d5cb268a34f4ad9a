/- qr7 of this claim, joined by a program of this session: the zP that its theorem uses. -/
import Derived.Test.YtngkneknopenmaaZH2
import Derived.Test.YtngkneknopenmaaZH5
import Derived.Test.YtngkneknopenmaaProg
import Derived.Below
import Derived.Deep.Draws
import Derived.Deep.AppendLies
import Derived.Maps.AppendAt
import Derived.OwnWalk
import Derived.Laws.BytesArg
import Derived.Laws.MakeOwn
import Derived.Laws.OwnMore
import Derived.Deep.OwnRows
import Derived.Tactics
import Derived.Lib.ConvBytes
import Derived.Laws.Slices
import Derived.WalkKit
import Derived.KernelRfl
import Derived.RowKit3
import Derived.Deep.LoopGhost
import Derived.Deep.QuietTactic
import Derived.BigQuiet
import Derived.WideLaws
import Derived.Deep.DeepCutAuto
import Derived.Deep.CutBlock
import Derived.Deep.RegionHeld3
import Derived.Laws.Rows
import Derived.Lib.AppendStr
import Derived.ArgAppend
import Derived.Laws.IdiomCopy
import Derived.OrdersHeld
import Derived.Laws.BitsLemmas
import Derived.RowKit
section
namespace Go.Proofs.Ytngkneknopenmaa.K
open Go.Proofs.Ytngkneknopenmaa
open Go.RowKit Go.Proofs.YtngkneknopenmaaW.PrintWords Go.Proofs.YtngkneknopenmaaW.qi5 Go.Proofs.YtngkneknopenmaaW.ql6
attribute [local go_sem] qs6 qs7 qy1 qy2 qo3 qo4 qs8 qs9   -- for this text's walks alone
set_option linter.unusedVariables false
set_option linter.unusedSimpArgs false
def errW : Option Int → Value
 | none => .nilIface
 | some c => .iface 0 (.int .i64 c)
theorem jI : errW none = .nilIface := rfl
theorem jJ (c : Int) : errW (some c) = .iface 0 (.int .i64 c) := rfl
theorem info3 : (Try.prog.info? 3).map (fun i => (i.zero, i.size, i.bytes)) = some (some (.int .i64 0), 1, 8) := by kernel_rfl
theorem qW1 : (Try.prog.info? 55).map (fun i => (i.zero, i.size, i.bytes)) = some (some (.agg #[(.int .i64 0), (.int .i64 0), (.int .i64 0), (.slice none 0 0)]), 4, 48) := by kernel_rfl
structure S51 where
 f0 : Bool
 f1 : Int
 f2 : Int
def z51 : S51 := ⟨false, (0 : Int), (0 : Int)⟩
def k51 : Kd S51 := Kd.iso (Kd.pair Kd.bool (Kd.pair (Kd.int .i64) (Kd.int .i64))) (fun x : S51 => (x.f0, x.f1, x.f2))
theorem zF5 : Kd.Heap k51 := Kd.jY2 _ (Kd.qJ1 Kd.zt6 (Kd.qJ1 (Kd.qR3 .i64) (Kd.qR3 .i64)))
theorem jY5 {w : World} {x : S51} {cs : List Value} (h : k51.K w x cs) : cs = [.bool x.f0, .int .i64 x.f1, .int .i64 x.f2] := by
 obtain ⟨_, _, rfl, rfl, ⟨_, _, rfl, rfl, rfl⟩⟩ := h
 exact rfl
theorem Qh0 (w : World) (x : S51)  : k51.K w x [.bool x.f0, .int .i64 x.f1, .int .i64 x.f2] := ⟨[.bool x.f0], [.int .i64 x.f1, .int .i64 x.f2], rfl, rfl, ⟨[.int .i64 x.f1], [.int .i64 x.f2], rfl, rfl, rfl⟩⟩
theorem zm5 (w : World) (base : Nat) (ok : Nat → Prop) (x : S51)  : k51.M w base ok x [.bool x.f0, .int .i64 x.f1, .int .i64 x.f2] := ⟨[.bool x.f0], [.int .i64 x.f1, .int .i64 x.f2], rfl, rfl, ⟨[.int .i64 x.f1], [.int .i64 x.f2], rfl, rfl, rfl⟩⟩
def qG (xs : List S51) (i : Int) : S51 := xs.getD i.toNat z51
theorem qt7 {w : World} {A : Option Addr} {n : Nat} {xs : List S51} (h : Kd.C k51 w A n xs) (i : Int) (h0 : 0 ≤ i) (h1 : i < n) : ∃ ad , A = some ad ∧ w.cell? (ad.add (i.toNat * 3)) = some (.bool (qG xs i).f0) ∧ w.cell? ⟨(ad.add (i.toNat * 3)).block, (ad.add (i.toNat * 3)).off + 1, none⟩ = some (.int .i64 (qG xs i).f1) ∧ w.cell? ⟨(ad.add (i.toNat * 3)).block, (ad.add (i.toNat * 3)).off + 2, none⟩ = some (.int .i64 (qG xs i).f2) := by
 obtain ⟨ad, c, e, _, hK, hc0⟩ := Kd.jX9 h z51 i h0 h1
 have hc : ∀ j u, c[j]? = some u → w.cell? (ad.add (i.toNat * 3 + j)) = some u := hc0
 obtain rfl := jY5 hK
 exact ⟨ad, e, hc 0 _ rfl, by rw [← zS _ _ 1 (by omega)]; exact hc 1 _ rfl, by rw [← zS _ _ 2 (by omega)]; exact hc 2 _ rfl⟩
structure S55 where
 f0 : Int
 f1 : Int
 f2 : Int
 f3 : (List S51)
def z55 : S55 := ⟨(0 : Int), (0 : Int), (0 : Int), ([] : List S51)⟩
def k55 : Kd S55 := Kd.iso (Kd.pair (Kd.int .i64) (Kd.pair (Kd.int .i64) (Kd.pair (Kd.int .i64) (Kd.slice 51 k51)))) (fun x : S55 => (x.f0, x.f1, x.f2, x.f3))
theorem jU9 : Kd.Heap k55 := Kd.jY2 _ (Kd.qJ1 (Kd.qR3 .i64) (Kd.qJ1 (Kd.qR3 .i64) (Kd.qJ1 (Kd.qR3 .i64) (Kd.zh1 51 zF5))))
theorem je7 {w : World} {x : S55} {cs : List Value} (h : k55.K w x cs) : ∃ A3 c3, cs = [.int .i64 x.f0, .int .i64 x.f1, .int .i64 x.f2, .slice A3 x.f3.length c3] ∧ x.f3.length ≤ c3 ∧ k51.C w A3 x.f3.length x.f3 := by
 obtain ⟨_, _, rfl, rfl, ⟨_, _, rfl, rfl, ⟨_, _, rfl, rfl, ⟨A3, c3, rfl, l3, g3⟩⟩⟩⟩ := h
 exact ⟨A3, c3, rfl, l3, g3⟩
theorem zF6 (w : World) (x : S55) {A3 : Option Addr} {c3 : Nat} (l3 : x.f3.length ≤ c3) (g3 : k51.C w A3 x.f3.length x.f3) : k55.K w x [.int .i64 x.f0, .int .i64 x.f1, .int .i64 x.f2, .slice A3 x.f3.length c3] := ⟨[.int .i64 x.f0], [.int .i64 x.f1, .int .i64 x.f2, .slice A3 x.f3.length c3], rfl, rfl, ⟨[.int .i64 x.f1], [.int .i64 x.f2, .slice A3 x.f3.length c3], rfl, rfl, ⟨[.int .i64 x.f2], [.slice A3 x.f3.length c3], rfl, rfl, ⟨A3, c3, rfl, l3, g3⟩⟩⟩⟩
theorem qi6 {W : World} {ok : Nat → Prop} {x : S55} {cs : List Value} (h : Kd.FK k55 W ok x cs) : ∃ A3 c3, cs = [.int .i64 x.f0, .int .i64 x.f1, .int .i64 x.f2, .slice A3 x.f3.length c3] ∧ x.f3.length ≤ c3 ∧ Kd.F k51 W ok A3 x.f3.length x.f3 := by
 obtain ⟨A3, c3, rfl, l3, _⟩ := je7 (Kd.qB1 h)
 exact ⟨A3, c3, rfl, l3, (fun W' hW => by obtain ⟨A3_, c3_, he, l3_, g3_⟩ := je7 (h W' hW); injection (Option.some.inj (show some (Value.slice A3 x.f3.length c3) = some (Value.slice A3_ x.f3.length c3_) from congrArg (fun l => l[3]?) he)) with ha_ _ _; rw [ha_]; exact g3_)⟩
theorem zk7 (W : World) (ok : Nat → Prop) (x : S55) {A3 : Option Addr} {c3 : Nat} (l3 : x.f3.length ≤ c3) (g3 : Kd.F k51 W ok A3 x.f3.length x.f3) : Kd.FK k55 W ok x [.int .i64 x.f0, .int .i64 x.f1, .int .i64 x.f2, .slice A3 x.f3.length c3] := fun W2 hW => zF6 W2 x l3 (g3 W2 hW)
def qD (xs : List S55) (i : Int) : S55 := xs.getD i.toNat z55
theorem qa9 {w : World} {A : Option Addr} {n : Nat} {xs : List S55} (h : Kd.C k55 w A n xs) (i : Int) (h0 : 0 ≤ i) (h1 : i < n) : ∃ ad A3 c3, A = some ad ∧ w.cell? (ad.add (i.toNat * 4)) = some (.int .i64 (qD xs i).f0) ∧ w.cell? ⟨(ad.add (i.toNat * 4)).block, (ad.add (i.toNat * 4)).off + 1, none⟩ = some (.int .i64 (qD xs i).f1) ∧ w.cell? ⟨(ad.add (i.toNat * 4)).block, (ad.add (i.toNat * 4)).off + 2, none⟩ = some (.int .i64 (qD xs i).f2) ∧ w.cell? ⟨(ad.add (i.toNat * 4)).block, (ad.add (i.toNat * 4)).off + 3, none⟩ = some (.slice A3 (qD xs i).f3.length c3) ∧ (qD xs i).f3.length ≤ c3 ∧ k51.C w A3 (qD xs i).f3.length (qD xs i).f3 := by
 obtain ⟨ad, c, e, _, hK, hc0⟩ := Kd.jX9 h z55 i h0 h1
 have hc : ∀ j u, c[j]? = some u → w.cell? (ad.add (i.toNat * 4 + j)) = some u := hc0
 obtain ⟨A3, c3, rfl, l3, g3⟩ := je7 hK
 exact ⟨ad, A3, c3, e, hc 0 _ rfl, by rw [← zS _ _ 1 (by omega)]; exact hc 1 _ rfl, by rw [← zS _ _ 2 (by omega)]; exact hc 2 _ rfl, by rw [← zS _ _ 3 (by omega)]; exact hc 3 _ rfl, l3, g3⟩
end Go.Proofs.Ytngkneknopenmaa.K
end
section
namespace Go.Proofs.Ytngkneknopenmaa.K
open Go.Proofs.Ytngkneknopenmaa
open Go.RowKit Go.Proofs.YtngkneknopenmaaW.PrintWords Go.Proofs.YtngkneknopenmaaW.qi5 Go.Proofs.YtngkneknopenmaaW.ql6
attribute [local go_sem] qs6 qs7 qy1 qy2 qo3 qo4 qs8 qs9   -- for this text's walks alone
set_option linter.unusedVariables false
set_option linter.unusedSimpArgs false
theorem zW9 (d : Nat) (w : World) (x0 y0 : Bool) (x1 y1 : Int) (x2 y2 : Int) :
  (Op.equalIn (d + 2) 51 (.agg #[.bool x0, .int .i64 x1, .int .i64 x2]) (.agg #[.bool y0, .int .i64 y1, .int .i64 y2])).run Try.prog w = .ok (x0 == y0 && (x1 == y1 && (x2 == y2))) w := by
 refine Qg7 Try.underlying51 (by kernel_rfl) ?_
 refine jY3 (by rfl) (by go_simp; rfl) (by go_simp; rfl) (by go_simp) ?_
 refine jY3 (by rfl) (by go_simp; rfl) (by go_simp; rfl) (by go_simp) ?_
 exact zF3 (by rfl) (by go_simp; rfl) (by go_simp; rfl) (by go_simp)
end Go.Proofs.Ytngkneknopenmaa.K
end
section
namespace Go.Proofs.Ytngkneknopenmaa.K
open Go.Proofs.Ytngkneknopenmaa
open Go.RowKit Go.Proofs.YtngkneknopenmaaW.PrintWords Go.Proofs.YtngkneknopenmaaW.qi5 Go.Proofs.YtngkneknopenmaaW.ql6
attribute [local go_sem] qs6 qs7 qy1 qy2 qo3 qo4 qs8 qs9   -- for this text's walks alone
set_option linter.unusedVariables false
set_option linter.unusedSimpArgs false
attribute [local go_sem high] zW9
def qA1.f (zG : Bool) (jU : Int) (jR : Int) : Option (Bool) := if jU < 0 then (some false) else (if jU ≥ 64 then (some false) else (if jR < 0 then (some false) else (if jR > 2147483647 then (some false) else (if zG = true then (some (decide (jR > 0))) else (some true)))))
set_option maxHeartbeats 8000000 in
set_option maxRecDepth 100000 in
theorem qA1.calls (zG : Bool) (jU : Int) (jR : Int) (r : Bool) (w : World) (h : qA1.f zG jU jR = some r) :
  Calls Try.prog 55 #[.agg #[.bool zG, .int .i64 jU, .int .i64 jR]] w fun e w' => e = .returned (.bool r) ∧ Below w.heap.size w w' := by
 have zz0 := Try.underlying51
 have HB := q8.mk (Below.refl w.heap.size w)
 have H : (if jU < 0 then (some false) else (if jU ≥ 64 then (some false) else (if jR < 0 then (some false) else (if jR > 2147483647 then (some false) else (if zG = true then (some (decide (jR > 0))) else (some true)))))) = some r := h
 clear h
 by_cases c2 : jU < 0
 ·rw [if_pos c2] at H
  have zh4 : decide (jU < 0) = true := decide_eq_true c2
  clear c2
  obtain rfl := Option.some.inj H
  go_enter Try.func55, Try.ntmps55
  go_wp2_with (first | ((with_reducible refine qa1 (N := 1) rfl ?_); refine qb0 ?hg (N := 1) ?hd (cs := #[.bool zG, .int .i64 jU, .int .i64 jR]) (t := 51) ?hr ?_; (case hd => rfl); (case hg => rfl); (case hr => first | (go_simp; done) | (go_simp; rfl)); intro qg4 hg w3 qb7 hb; have n0_ := q8.mk (jM (by repeat (first | (with_reducible first | exact HB.out | apply qA | apply q9 | apply qB) | exact HB.out)) hb); have n1_ := q8.mk (qb7); have n2_ := q8.mk ((by rw [hg]; exact (qM (by repeat (first | (with_reducible first | exact HB.out | apply qA | apply q9 | apply qB) | exact HB.out))) : w.heap.size ≤ qg4)); have n3_ := q8.mk ((by rw [hg]; exact (qM (by repeat (first | (with_reducible first | exact HB.out | apply qA | apply q9 | apply qB) | exact HB.out))) : w.heap.size ≤ qg4)); clear HB; have HB := n0_; have qe8 := n1_; have jY6 := n2_; have qR6 := n3_; clear n0_ n1_ n2_ n3_; clear hb qb7 hg; have Qh1 : w3.cell? ⟨qg4, 0, none⟩ = some (.bool zG) := (qE qe8.out 0).trans rfl; have Qh2 : w3.cell? ⟨qg4, 1, none⟩ = some (.int .i64 jU) := (qE qe8.out 1).trans rfl; have Qh3 : w3.cell? ⟨qg4, 2, none⟩ = some (.int .i64 jR) := (qE qe8.out 2).trans rfl; have Qh4 := qC qe8.out 0; have Qh5 := qC qe8.out 1; have Qh6 := qC qe8.out 2))
  go_ret
  exact ⟨by first | rfl | (simp [jI, jJ] <;> rfl) | (simp [*, jI, jJ] <;> rfl), by repeat (first | (with_reducible first | exact HB.out | apply qA | apply q9 | apply qB | refine qK ?_ qR6.out) | exact HB.out)⟩
 ·rw [if_neg c2] at H
  have zh4 : decide (jU < 0) = false := decide_eq_false c2
  clear c2
  by_cases c5 : jU ≥ 64
  ·rw [if_pos c5] at H
   have jH8 : decide (64 ≤ jU) = true := decide_eq_true c5
   clear c5
   obtain rfl := Option.some.inj H
   go_enter Try.func55, Try.ntmps55
   go_wp2_with (first | ((with_reducible refine qa1 (N := 1) rfl ?_); refine qb0 ?hg (N := 1) ?hd (cs := #[.bool zG, .int .i64 jU, .int .i64 jR]) (t := 51) ?hr ?_; (case hd => rfl); (case hg => rfl); (case hr => first | (go_simp; done) | (go_simp; rfl)); intro qg4 hg w6 qb7 hb; have n0_ := q8.mk (jM (by repeat (first | (with_reducible first | exact HB.out | apply qA | apply q9 | apply qB) | exact HB.out)) hb); have n1_ := q8.mk (qb7); have n2_ := q8.mk ((by rw [hg]; exact (qM (by repeat (first | (with_reducible first | exact HB.out | apply qA | apply q9 | apply qB) | exact HB.out))) : w.heap.size ≤ qg4)); have n3_ := q8.mk ((by rw [hg]; exact (qM (by repeat (first | (with_reducible first | exact HB.out | apply qA | apply q9 | apply qB) | exact HB.out))) : w.heap.size ≤ qg4)); clear HB; have HB := n0_; have qe8 := n1_; have jY6 := n2_; have qR6 := n3_; clear n0_ n1_ n2_ n3_; clear hb qb7 hg; have qX6 : w6.cell? ⟨qg4, 0, none⟩ = some (.bool zG) := (qE qe8.out 0).trans rfl; have qX7 : w6.cell? ⟨qg4, 1, none⟩ = some (.int .i64 jU) := (qE qe8.out 1).trans rfl; have qX8 : w6.cell? ⟨qg4, 2, none⟩ = some (.int .i64 jR) := (qE qe8.out 2).trans rfl; have qX9 := qC qe8.out 0; have qY0 := qC qe8.out 1; have qY1 := qC qe8.out 2))
   go_ret
   exact ⟨by first | rfl | (simp [jI, jJ] <;> rfl) | (simp [*, jI, jJ] <;> rfl), by repeat (first | (with_reducible first | exact HB.out | apply qA | apply q9 | apply qB | refine qK ?_ qR6.out) | exact HB.out)⟩
  ·rw [if_neg c5] at H
   have jH8 : decide (64 ≤ jU) = false := decide_eq_false c5
   clear c5
   by_cases c8 : jR < 0
   ·rw [if_pos c8] at H
    have qW2 : decide (jR < 0) = true := decide_eq_true c8
    clear c8
    obtain rfl := Option.some.inj H
    go_enter Try.func55, Try.ntmps55
    go_wp2_with (first | ((with_reducible refine qa1 (N := 1) rfl ?_); refine qb0 ?hg (N := 1) ?hd (cs := #[.bool zG, .int .i64 jU, .int .i64 jR]) (t := 51) ?hr ?_; (case hd => rfl); (case hg => rfl); (case hr => first | (go_simp; done) | (go_simp; rfl)); intro qg4 hg w9 qb7 hb; have n0_ := q8.mk (jM (by repeat (first | (with_reducible first | exact HB.out | apply qA | apply q9 | apply qB) | exact HB.out)) hb); have n1_ := q8.mk (qb7); have n2_ := q8.mk ((by rw [hg]; exact (qM (by repeat (first | (with_reducible first | exact HB.out | apply qA | apply q9 | apply qB) | exact HB.out))) : w.heap.size ≤ qg4)); have n3_ := q8.mk ((by rw [hg]; exact (qM (by repeat (first | (with_reducible first | exact HB.out | apply qA | apply q9 | apply qB) | exact HB.out))) : w.heap.size ≤ qg4)); clear HB; have HB := n0_; have qe8 := n1_; have jY6 := n2_; have qR6 := n3_; clear n0_ n1_ n2_ n3_; clear hb qb7 hg; have zQ9 : w9.cell? ⟨qg4, 0, none⟩ = some (.bool zG) := (qE qe8.out 0).trans rfl; have zR0 : w9.cell? ⟨qg4, 1, none⟩ = some (.int .i64 jU) := (qE qe8.out 1).trans rfl; have zR1 : w9.cell? ⟨qg4, 2, none⟩ = some (.int .i64 jR) := (qE qe8.out 2).trans rfl; have zR2 := qC qe8.out 0; have zR3 := qC qe8.out 1; have zR4 := qC qe8.out 2))
    go_ret
    exact ⟨by first | rfl | (simp [jI, jJ] <;> rfl) | (simp [*, jI, jJ] <;> rfl), by repeat (first | (with_reducible first | exact HB.out | apply qA | apply q9 | apply qB | refine qK ?_ qR6.out) | exact HB.out)⟩
   ·rw [if_neg c8] at H
    have qW2 : decide (jR < 0) = false := decide_eq_false c8
    clear c8
    by_cases c11 : jR > 2147483647
    ·rw [if_pos c11] at H
     have jB9 : decide (2147483647 < jR) = true := decide_eq_true c11
     clear c11
     obtain rfl := Option.some.inj H
     go_enter Try.func55, Try.ntmps55
     go_wp2_with (first | ((with_reducible refine qa1 (N := 1) rfl ?_); refine qb0 ?hg (N := 1) ?hd (cs := #[.bool zG, .int .i64 jU, .int .i64 jR]) (t := 51) ?hr ?_; (case hd => rfl); (case hg => rfl); (case hr => first | (go_simp; done) | (go_simp; rfl)); intro qg4 hg w12 qb7 hb; have n0_ := q8.mk (jM (by repeat (first | (with_reducible first | exact HB.out | apply qA | apply q9 | apply qB) | exact HB.out)) hb); have n1_ := q8.mk (qb7); have n2_ := q8.mk ((by rw [hg]; exact (qM (by repeat (first | (with_reducible first | exact HB.out | apply qA | apply q9 | apply qB) | exact HB.out))) : w.heap.size ≤ qg4)); have n3_ := q8.mk ((by rw [hg]; exact (qM (by repeat (first | (with_reducible first | exact HB.out | apply qA | apply q9 | apply qB) | exact HB.out))) : w.heap.size ≤ qg4)); clear HB; have HB := n0_; have qe8 := n1_; have jY6 := n2_; have qR6 := n3_; clear n0_ n1_ n2_ n3_; clear hb qb7 hg; have qM7 : w12.cell? ⟨qg4, 0, none⟩ = some (.bool zG) := (qE qe8.out 0).trans rfl; have qM8 : w12.cell? ⟨qg4, 1, none⟩ = some (.int .i64 jU) := (qE qe8.out 1).trans rfl; have qM9 : w12.cell? ⟨qg4, 2, none⟩ = some (.int .i64 jR) := (qE qe8.out 2).trans rfl; have qN0 := qC qe8.out 0; have qN1 := qC qe8.out 1; have qN2 := qC qe8.out 2))
     go_ret
     exact ⟨by first | rfl | (simp [jI, jJ] <;> rfl) | (simp [*, jI, jJ] <;> rfl), by repeat (first | (with_reducible first | exact HB.out | apply qA | apply q9 | apply qB | refine qK ?_ qR6.out) | exact HB.out)⟩
    ·rw [if_neg c11] at H
     have jB9 : decide (2147483647 < jR) = false := decide_eq_false c11
     clear c11
     by_cases c14 : zG = true
     ·subst c14
      have H1 : (some (decide (jR > 0))) = some r := by rw [if_pos rfl] at H; exact H
      clear H
      have H := H1
      clear H1
      obtain rfl := Option.some.inj H
      go_enter Try.func55, Try.ntmps55
      go_wp2_with (first | ((with_reducible refine qa1 (N := 1) rfl ?_); refine qb0 ?hg (N := 1) ?hd (cs := #[.bool true, .int .i64 jU, .int .i64 jR]) (t := 51) ?hr ?_; (case hd => rfl); (case hg => rfl); (case hr => first | (go_simp; done) | (go_simp; rfl)); intro qg4 hg w15 qb7 hb; have n0_ := q8.mk (jM (by repeat (first | (with_reducible first | exact HB.out | apply qA | apply q9 | apply qB) | exact HB.out)) hb); have n1_ := q8.mk (qb7); have n2_ := q8.mk ((by rw [hg]; exact (qM (by repeat (first | (with_reducible first | exact HB.out | apply qA | apply q9 | apply qB) | exact HB.out))) : w.heap.size ≤ qg4)); have n3_ := q8.mk ((by rw [hg]; exact (qM (by repeat (first | (with_reducible first | exact HB.out | apply qA | apply q9 | apply qB) | exact HB.out))) : w.heap.size ≤ qg4)); clear HB; have HB := n0_; have qe8 := n1_; have jY6 := n2_; have qR6 := n3_; clear n0_ n1_ n2_ n3_; clear hb qb7 hg; have qG5 : w15.cell? ⟨qg4, 0, none⟩ = some (.bool true) := (qE qe8.out 0).trans rfl; have qG6 : w15.cell? ⟨qg4, 1, none⟩ = some (.int .i64 jU) := (qE qe8.out 1).trans rfl; have qG7 : w15.cell? ⟨qg4, 2, none⟩ = some (.int .i64 jR) := (qE qe8.out 2).trans rfl; have qG8 := qC qe8.out 0; have qG9 := qC qe8.out 1; have qH0 := qC qe8.out 2))
      go_ret
      exact ⟨by first | rfl | (simp [jI, jJ] <;> rfl) | (simp [*, jI, jJ] <;> rfl), by repeat (first | (with_reducible first | exact HB.out | apply qA | apply q9 | apply qB | refine qK ?_ qR6.out) | exact HB.out)⟩
     ·replace c14 := Bool.eq_false_iff.mpr c14
      subst c14
      have H1 : (some true) = some r := by rw [if_neg (show ¬ (false = true) by decide)] at H; exact H
      clear H
      have H := H1
      clear H1
      obtain rfl := Option.some.inj H
      go_enter Try.func55, Try.ntmps55
      go_wp2_with (first | ((with_reducible refine qa1 (N := 1) rfl ?_); refine qb0 ?hg (N := 1) ?hd (cs := #[.bool false, .int .i64 jU, .int .i64 jR]) (t := 51) ?hr ?_; (case hd => rfl); (case hg => rfl); (case hr => first | (go_simp; done) | (go_simp; rfl)); intro qg4 hg w17 qb7 hb; have n0_ := q8.mk (jM (by repeat (first | (with_reducible first | exact HB.out | apply qA | apply q9 | apply qB) | exact HB.out)) hb); have n1_ := q8.mk (qb7); have n2_ := q8.mk ((by rw [hg]; exact (qM (by repeat (first | (with_reducible first | exact HB.out | apply qA | apply q9 | apply qB) | exact HB.out))) : w.heap.size ≤ qg4)); have n3_ := q8.mk ((by rw [hg]; exact (qM (by repeat (first | (with_reducible first | exact HB.out | apply qA | apply q9 | apply qB) | exact HB.out))) : w.heap.size ≤ qg4)); clear HB; have HB := n0_; have qe8 := n1_; have jY6 := n2_; have qR6 := n3_; clear n0_ n1_ n2_ n3_; clear hb qb7 hg; have jn7 : w17.cell? ⟨qg4, 0, none⟩ = some (.bool false) := (qE qe8.out 0).trans rfl; have jn8 : w17.cell? ⟨qg4, 1, none⟩ = some (.int .i64 jU) := (qE qe8.out 1).trans rfl; have jn9 : w17.cell? ⟨qg4, 2, none⟩ = some (.int .i64 jR) := (qE qe8.out 2).trans rfl; have jo0 := qC qe8.out 0; have jo1 := qC qe8.out 1; have jo2 := qC qe8.out 2))
      go_ret
      exact ⟨by first | rfl | (simp [jI, jJ] <;> rfl) | (simp [*, jI, jJ] <;> rfl), by repeat (first | (with_reducible first | exact HB.out | apply qA | apply q9 | apply qB | refine qK ?_ qR6.out) | exact HB.out)⟩
end Go.Proofs.Ytngkneknopenmaa.K
end
section
namespace Go.Proofs.Ytngkneknopenmaa.K
open Go.Proofs.Ytngkneknopenmaa
open Go.RowKit Go.Proofs.YtngkneknopenmaaW.PrintWords Go.Proofs.YtngkneknopenmaaW.qi5 Go.Proofs.YtngkneknopenmaaW.ql6
attribute [local go_sem] qs6 qs7 qy1 qy2 qo3 qo4 qs8 qs9   -- for this text's walks alone
set_option linter.unusedVariables false
set_option linter.unusedSimpArgs false
mutual
def jZ.j0 : Nat → Bool → Int → Int → Int → List (S51) → Option (Bool)
 | 0, _, _, _, _, _ => none
 | k + 1, x41, x233000, x233001, x233002, x233003 => if x41 = true then (some false) else (jZ.l0 k x233003 (x233003.length : Int) 0)
def jZ.l0 : Nat → List (S51) → Int → Int → Option (Bool)
 | 0, _, _, _ => none
 | k + 1, x43, x44, x45 => if x45 < x44 then (if 0 ≤ x45 then (if x45 < (x43.length : Int) then ((qA1.f ((qG x43 x45).f0) ((qG x43 x45).f1) ((qG x43 x45).f2)).bind fun t235 => (if t235 = true then (jZ.l0 k x43 x44 (wrap64 (x45 + 1))) else (some false))) else (none)) else (none)) else (some true)
end
def jZ.f (k : Nat) (zG : Int) (jU : Int) (jR : Int) (jN : List (S51)) : Option (Bool) := if zG < 0 then (jZ.j0 k true zG jU jR jN) else (if zG ≥ 64 then (jZ.j0 k true zG jU jR jN) else (if jU < 0 then (jZ.j0 k true zG jU jR jN) else (if jU ≥ jR then (jZ.j0 k true zG jU jR jN) else (if jR > 2147483647 then (jZ.j0 k true zG jU jR jN) else (if (jN.length : Int) < 1 then (jZ.j0 k true zG jU jR jN) else (jZ.j0 k (decide ((jN.length : Int) > 64)) zG jU jR jN))))))
set_option maxHeartbeats 8000000 in
set_option maxRecDepth 100000 in
theorem jZ.calls (k : Nat) (zG : Int) (jU : Int) (jR : Int) (qw6 : Option Addr) (qn0 : Nat) (jN : List (S51)) (r : Bool) (w : World) (jY7 : Kd.C k51 w qw6 jN.length jN) (jY8 : jN.length ≤ qn0) (h : jZ.f k zG jU jR jN = some r) :
  Calls Try.prog 29 #[.agg #[.int .i64 zG, .int .i64 jU, .int .i64 jR, .slice qw6 jN.length qn0]] w fun e w' => e = .returned (.bool r) ∧ Below w.heap.size w w' := by
 have zI6 := Try.underlying55
 have zz0 := Try.underlying51
 have jY9 := q8.mk jY7
 have Qr1 := q8.mk jY8
 clear jY7 jY8
 have HB := q8.mk (Below.refl w.heap.size w)
 have H : (if zG < 0 then (jZ.j0 k true zG jU jR jN) else (if zG ≥ 64 then (jZ.j0 k true zG jU jR jN) else (if jU < 0 then (jZ.j0 k true zG jU jR jN) else (if jU ≥ jR then (jZ.j0 k true zG jU jR jN) else (if jR > 2147483647 then (jZ.j0 k true zG jU jR jN) else (if (jN.length : Int) < 1 then (jZ.j0 k true zG jU jR jN) else (jZ.j0 k (decide ((jN.length : Int) > 64)) zG jU jR jN))))))) = some r := h
 clear h
 have HC2 := q8.mk H
 clear H
 go_enter Try.func29, Try.ntmps29
 go_upto_region 1 with (first | ((with_reducible refine qa1 (N := 1) rfl ?_); (try (refine qM6 (by rfl) ?_; dsimp only)); refine qb0 ?hg (N := 1) ?hd (cs := #[.int .i64 zG, .int .i64 jU, .int .i64 jR, .slice qw6 jN.length qn0]) (t := 55) ?hr ?_; (case hd => rfl); (case hg => rfl); (case hr => first | (go_simp; done) | (go_simp; rfl)); intro qc9 hg w3 qb7 hb; have n0_ := q8.mk (jM (by repeat (first | (with_reducible first | exact HB.out | apply qA | apply q9 | apply qB) | exact HB.out)) hb); have n1_ := q8.mk (qb7); have n2_ := q8.mk ((by rw [hg]; exact (qM (by repeat (first | (with_reducible first | exact HB.out | apply qA | apply q9 | apply qB) | exact HB.out))) : w.heap.size ≤ qc9)); have n3_ := q8.mk ((by rw [hg]; exact (qM (by repeat (first | (with_reducible first | exact HB.out | apply qA | apply q9 | apply qB) | exact HB.out))) : w.heap.size ≤ qc9)); clear HB; have HB := n0_; have z8 := n1_; have GW232 := n2_; have qu3 := n3_; clear n0_ n1_ n2_ n3_; clear hb qb7 hg))
 (try simp only [Act.put, List.setIfInBounds_toArray, List.set_cons_zero, List.set_cons_succ])
 go_cut [41] (fun v41 wc => ∃ (kq : Nat) (zn6 : Bool), v41 = .bool zn6 ∧ q8 (jZ.j0 kq zn6 zG jU jR jN = some r) ∧ q8 (kq ≤ k) ∧ q8 (wc.heap[qc9]? = some (.cells #[.int .i64 zG, .int .i64 jU, .int .i64 jR, (.slice qw6 jN.length qn0)] 55 (0, 0))) ∧ q8 (Below w.heap.size w wc))
 case first =>
  have H := HC2.out
  clear HC2
  by_cases c4 : zG < 0
  ·rw [if_pos c4] at H
   have qF0 : decide (zG < 0) = true := decide_eq_true c4
   clear c4
   (first | rw [qF0] | (simp only [qa2, qa3]; rw [qF0]) | skip)
   have H' := q8.mk H
   clear H
   have ju7 : w3.cell? ⟨qc9, 0, none⟩ = some (.int .i64 zG) := (qE z8.out 0).trans rfl
   have ju8 : w3.cell? ⟨qc9, 1, none⟩ = some (.int .i64 jU) := (qE z8.out 1).trans rfl
   have ju9 : w3.cell? ⟨qc9, 2, none⟩ = some (.int .i64 jR) := (qE z8.out 2).trans rfl
   have jv0 : w3.cell? ⟨qc9, 3, none⟩ = some (.slice qw6 jN.length qn0) := (qE z8.out 3).trans rfl
   have jv1 := qC z8.out 0
   have jv2 := qC z8.out 1
   have jv3 := qC z8.out 2
   have jv4 := qC z8.out 3
   go_wp2
   go_meet
   case rel => exact ⟨_, (true), (by first | rfl | (simp; done) | (simp [*]; done)), H', ⟨by first | omega | exact Nat.le_refl _⟩, ⟨by (with_reducible repeat (first | refine qI ?_ _ | refine qR ?_ | refine qJ ?_ _)); exact z8.out⟩, ⟨by repeat (first | (with_reducible first | exact HB.out | apply qA | apply q9 | apply qB | refine qK ?_ qu3.out) | exact HB.out)⟩⟩
  ·rw [if_neg c4] at H
   have qF0 : decide (zG < 0) = false := decide_eq_false c4
   clear c4
   (first | rw [qF0] | (simp only [qa2, qa3]; rw [qF0]) | skip)
   by_cases c6 : zG ≥ 64
   ·rw [if_pos c6] at H
    have jl4 : decide (64 ≤ zG) = true := decide_eq_true c6
    clear c6
    have H' := q8.mk H
    clear H
    have qX6 : w3.cell? ⟨qc9, 0, none⟩ = some (.int .i64 zG) := (qE z8.out 0).trans rfl
    have qX7 : w3.cell? ⟨qc9, 1, none⟩ = some (.int .i64 jU) := (qE z8.out 1).trans rfl
    have qX8 : w3.cell? ⟨qc9, 2, none⟩ = some (.int .i64 jR) := (qE z8.out 2).trans rfl
    have jv5 : w3.cell? ⟨qc9, 3, none⟩ = some (.slice qw6 jN.length qn0) := (qE z8.out 3).trans rfl
    have qX9 := qC z8.out 0
    have qY0 := qC z8.out 1
    have qY1 := qC z8.out 2
    have jv6 := qC z8.out 3
    go_wp2
    go_meet
    case rel => exact ⟨_, (true), (by first | rfl | (simp; done) | (simp [*]; done)), H', ⟨by first | omega | exact Nat.le_refl _⟩, ⟨by (with_reducible repeat (first | refine qI ?_ _ | refine qR ?_ | refine qJ ?_ _)); exact z8.out⟩, ⟨by repeat (first | (with_reducible first | exact HB.out | apply qA | apply q9 | apply qB | refine qK ?_ qu3.out) | exact HB.out)⟩⟩
   ·rw [if_neg c6] at H
    have jl4 : decide (64 ≤ zG) = false := decide_eq_false c6
    clear c6
    by_cases c8 : jU < 0
    ·rw [if_pos c8] at H
     have qW2 : decide (jU < 0) = true := decide_eq_true c8
     clear c8
     have H' := q8.mk H
     clear H
     have jv7 : w3.cell? ⟨qc9, 0, none⟩ = some (.int .i64 zG) := (qE z8.out 0).trans rfl
     have jv8 : w3.cell? ⟨qc9, 1, none⟩ = some (.int .i64 jU) := (qE z8.out 1).trans rfl
     have jv9 : w3.cell? ⟨qc9, 2, none⟩ = some (.int .i64 jR) := (qE z8.out 2).trans rfl
     have jw0 : w3.cell? ⟨qc9, 3, none⟩ = some (.slice qw6 jN.length qn0) := (qE z8.out 3).trans rfl
     have jw1 := qC z8.out 0
     have jw2 := qC z8.out 1
     have jw3 := qC z8.out 2
     have jw4 := qC z8.out 3
     go_wp2
     go_meet
     case rel => exact ⟨_, (true), (by first | rfl | (simp; done) | (simp [*]; done)), H', ⟨by first | omega | exact Nat.le_refl _⟩, ⟨by (with_reducible repeat (first | refine qI ?_ _ | refine qR ?_ | refine qJ ?_ _)); exact z8.out⟩, ⟨by repeat (first | (with_reducible first | exact HB.out | apply qA | apply q9 | apply qB | refine qK ?_ qu3.out) | exact HB.out)⟩⟩
    ·rw [if_neg c8] at H
     have qW2 : decide (jU < 0) = false := decide_eq_false c8
     clear c8
     by_cases c10 : jU ≥ jR
     ·rw [if_pos c10] at H
      have qQ0 : decide (jR ≤ jU) = true := decide_eq_true c10
      clear c10
      have H' := q8.mk H
      clear H
      have je8 : w3.cell? ⟨qc9, 0, none⟩ = some (.int .i64 zG) := (qE z8.out 0).trans rfl
      have je9 : w3.cell? ⟨qc9, 1, none⟩ = some (.int .i64 jU) := (qE z8.out 1).trans rfl
      have jf0 : w3.cell? ⟨qc9, 2, none⟩ = some (.int .i64 jR) := (qE z8.out 2).trans rfl
      have jf1 : w3.cell? ⟨qc9, 3, none⟩ = some (.slice qw6 jN.length qn0) := (qE z8.out 3).trans rfl
      have jf2 := qC z8.out 0
      have jf3 := qC z8.out 1
      have jf4 := qC z8.out 2
      have jf5 := qC z8.out 3
      go_wp2
      go_meet
      case rel => exact ⟨_, (true), (by first | rfl | (simp; done) | (simp [*]; done)), H', ⟨by first | omega | exact Nat.le_refl _⟩, ⟨by (with_reducible repeat (first | refine qI ?_ _ | refine qR ?_ | refine qJ ?_ _)); exact z8.out⟩, ⟨by repeat (first | (with_reducible first | exact HB.out | apply qA | apply q9 | apply qB | refine qK ?_ qu3.out) | exact HB.out)⟩⟩
     ·rw [if_neg c10] at H
      have qQ0 : decide (jR ≤ jU) = false := decide_eq_false c10
      clear c10
      by_cases c12 : jR > 2147483647
      ·rw [if_pos c12] at H
       have qI5 : decide (2147483647 < jR) = true := decide_eq_true c12
       clear c12
       have H' := q8.mk H
       clear H
       have qM7 : w3.cell? ⟨qc9, 0, none⟩ = some (.int .i64 zG) := (qE z8.out 0).trans rfl
       have qM8 : w3.cell? ⟨qc9, 1, none⟩ = some (.int .i64 jU) := (qE z8.out 1).trans rfl
       have qM9 : w3.cell? ⟨qc9, 2, none⟩ = some (.int .i64 jR) := (qE z8.out 2).trans rfl
       have jf6 : w3.cell? ⟨qc9, 3, none⟩ = some (.slice qw6 jN.length qn0) := (qE z8.out 3).trans rfl
       have qN0 := qC z8.out 0
       have qN1 := qC z8.out 1
       have qN2 := qC z8.out 2
       have jf7 := qC z8.out 3
       go_wp2
       go_meet
       case rel => exact ⟨_, (true), (by first | rfl | (simp; done) | (simp [*]; done)), H', ⟨by first | omega | exact Nat.le_refl _⟩, ⟨by (with_reducible repeat (first | refine qI ?_ _ | refine qR ?_ | refine qJ ?_ _)); exact z8.out⟩, ⟨by repeat (first | (with_reducible first | exact HB.out | apply qA | apply q9 | apply qB | refine qK ?_ qu3.out) | exact HB.out)⟩⟩
      ·rw [if_neg c12] at H
       have qI5 : decide (2147483647 < jR) = false := decide_eq_false c12
       clear c12
       by_cases c14 : (jN.length : Int) < 1
       ·rw [if_pos c14] at H
        have ja0 : decide ((jN.length : Int) < 1) = true := decide_eq_true c14
        have jw5 : decide (jN.length < 1) = true := decide_eq_true (by omega)
        clear c14
        have H' := q8.mk H
        clear H
        have jf8 : w3.cell? ⟨qc9, 0, none⟩ = some (.int .i64 zG) := (qE z8.out 0).trans rfl
        have jf9 : w3.cell? ⟨qc9, 1, none⟩ = some (.int .i64 jU) := (qE z8.out 1).trans rfl
        have jg0 : w3.cell? ⟨qc9, 2, none⟩ = some (.int .i64 jR) := (qE z8.out 2).trans rfl
        have jg1 : w3.cell? ⟨qc9, 3, none⟩ = some (.slice qw6 jN.length qn0) := (qE z8.out 3).trans rfl
        have jg2 := qC z8.out 0
        have jg3 := qC z8.out 1
        have jg4 := qC z8.out 2
        have jg5 := qC z8.out 3
        go_wp2
        go_meet
        case rel => exact ⟨_, (true), (by first | rfl | (simp; done) | (simp [*]; done)), H', ⟨by first | omega | exact Nat.le_refl _⟩, ⟨by (with_reducible repeat (first | refine qI ?_ _ | refine qR ?_ | refine qJ ?_ _)); exact z8.out⟩, ⟨by repeat (first | (with_reducible first | exact HB.out | apply qA | apply q9 | apply qB | refine qK ?_ qu3.out) | exact HB.out)⟩⟩
       ·rw [if_neg c14] at H
        have ja0 : decide ((jN.length : Int) < 1) = false := decide_eq_false c14
        have jw5 : decide (jN.length < 1) = false := decide_eq_false (by omega)
        clear c14
        have H' := q8.mk H
        clear H
        have qG5 : w3.cell? ⟨qc9, 0, none⟩ = some (.int .i64 zG) := (qE z8.out 0).trans rfl
        have qG6 : w3.cell? ⟨qc9, 1, none⟩ = some (.int .i64 jU) := (qE z8.out 1).trans rfl
        have qG7 : w3.cell? ⟨qc9, 2, none⟩ = some (.int .i64 jR) := (qE z8.out 2).trans rfl
        have jg6 : w3.cell? ⟨qc9, 3, none⟩ = some (.slice qw6 jN.length qn0) := (qE z8.out 3).trans rfl
        have qG8 := qC z8.out 0
        have qG9 := qC z8.out 1
        have qH0 := qC z8.out 2
        have jg7 := qC z8.out 3
        go_wp2
        go_meet
        case rel => exact ⟨_, (decide ((jN.length : Int) > 64)), (by first | rfl | (simp; done) | (simp [*]; done)), H', ⟨by first | omega | exact Nat.le_refl _⟩, ⟨by (with_reducible repeat (first | refine qI ?_ _ | refine qR ?_ | refine qJ ?_ _)); exact z8.out⟩, ⟨by repeat (first | (with_reducible first | exact HB.out | apply qA | apply q9 | apply qB | refine qK ?_ qu3.out) | exact HB.out)⟩⟩
 case rest =>
  clear HC2
  try clear c1
  try clear c2
  try clear p2
  try clear c4
  try clear qF0
  try clear c6
  try clear jl4
  try clear c8
  try clear qW2
  try clear c10
  try clear qQ0
  try clear c12
  try clear qI5
  try clear c14
  try clear ja0
  try clear jw5
  try clear je8
  try clear je9
  try clear jf0
  try clear jf1
  try clear qM7
  try clear qM8
  try clear qM9
  try clear jf6
  try clear jf8
  try clear jf9
  try clear jg0
  try clear jg1
  try clear qG5
  try clear qG6
  try clear qG7
  try clear jg6
  try clear ju7
  try clear ju8
  try clear ju9
  try clear jv0
  try clear qX6
  try clear qX7
  try clear qX8
  try clear jv5
  try clear jv7
  try clear jv8
  try clear jv9
  try clear jw0
  try clear jf2
  try clear jf3
  try clear jf4
  try clear jf5
  try clear qN0
  try clear qN1
  try clear qN2
  try clear jf7
  try clear jg2
  try clear jg3
  try clear jg4
  try clear jg5
  try clear qG8
  try clear qG9
  try clear qH0
  try clear jg7
  try clear jv1
  try clear jv2
  try clear jv3
  try clear jv4
  try clear qX9
  try clear qY0
  try clear qY1
  try clear jv6
  try clear jw1
  try clear jw2
  try clear jw3
  try clear jw4
  obtain ⟨kq, zn6, rfl, HA, HJ1, z8, HB⟩ := hcut
  cases kq with
  | zero => exact absurd HA.out (by simp [jZ.j0])
  | succ kj1 =>
   have H := HA.out
   clear HA
   simp only [jZ.j0] at H
   by_cases c17 : zn6 = true
   ·subst c17
    have H1 : (some false) = some r := by rw [if_pos rfl] at H; exact H
    clear H
    have H := H1
    clear H1
    obtain rfl := Option.some.inj H
    go_wp2
    go_ret
    exact ⟨by first | rfl | (simp [jI, jJ] <;> rfl) | (simp [*, jI, jJ] <;> rfl), by repeat (first | (with_reducible first | exact HB.out | apply qA | apply q9 | apply qB | refine qK ?_ qu3.out) | exact HB.out)⟩
   ·replace c17 := Bool.eq_false_iff.mpr c17
    subst c17
    have H1 : (jZ.l0 kj1 jN (jN.length : Int) 0) = some r := by rw [if_neg (show ¬ (false = true) by decide)] at H; exact H
    clear H
    have H := H1
    clear H1
    have H' := q8.mk H
    clear H
    have jn7 : wc.cell? ⟨qc9, 0, none⟩ = some (.int .i64 zG) := (qE z8.out 0).trans rfl
    have jn8 : wc.cell? ⟨qc9, 1, none⟩ = some (.int .i64 jU) := (qE z8.out 1).trans rfl
    have jn9 : wc.cell? ⟨qc9, 2, none⟩ = some (.int .i64 jR) := (qE z8.out 2).trans rfl
    have zR5 : wc.cell? ⟨qc9, 3, none⟩ = some (.slice qw6 jN.length qn0) := (qE z8.out 3).trans rfl
    have jo0 := qC z8.out 0
    have jo1 := qC z8.out 1
    have jo2 := qC z8.out 2
    have zR6 := qC z8.out 3
    go_wp2
    go_loopg [45] kj1 (fun kq v45 w' => ∃ (qe2 : Int), v45 = .int .i64 qe2 ∧ q8 (jZ.l0 kq jN (jN.length : Int) qe2 = some r) ∧ q8 (kq ≤ kj1) ∧ q8 (w'.heap[qc9]? = some (.cells #[.int .i64 zG, .int .i64 jU, .int .i64 jR, (.slice qw6 jN.length qn0)] 55 (0, 0))) ∧ q8 (Below w.heap.size w w'))
    case atStart => exact ⟨(0), (by first | rfl | (simp; done) | (simp [*]; done)), H', ⟨Nat.le_refl _⟩, ⟨by (with_reducible repeat (first | refine qI ?_ _ | refine qR ?_ | refine qJ ?_ _)); exact z8.out⟩, ⟨by repeat (first | (with_reducible first | exact HB.out | apply qA | apply q9 | apply qB | refine qK ?_ qu3.out) | exact HB.out)⟩⟩
    case round =>
     clear H'
     try clear c1
     try clear c2
     try clear p2
     try clear c4
     try clear qF0
     try clear c6
     try clear jl4
     try clear c8
     try clear qW2
     try clear c10
     try clear qQ0
     try clear c12
     try clear qI5
     try clear c14
     try clear ja0
     try clear jw5
     try clear c17
     try clear je8
     try clear je9
     try clear jf0
     try clear jf1
     try clear qM7
     try clear qM8
     try clear qM9
     try clear jf6
     try clear jf8
     try clear jf9
     try clear jg0
     try clear jg1
     try clear qG5
     try clear qG6
     try clear qG7
     try clear jg6
     try clear jn7
     try clear jn8
     try clear jn9
     try clear zR5
     try clear ju7
     try clear ju8
     try clear ju9
     try clear jv0
     try clear qX6
     try clear qX7
     try clear qX8
     try clear jv5
     try clear jv7
     try clear jv8
     try clear jv9
     try clear jw0
     try clear jf2
     try clear jf3
     try clear jf4
     try clear jf5
     try clear qN0
     try clear qN1
     try clear qN2
     try clear jf7
     try clear jg2
     try clear jg3
     try clear jg4
     try clear jg5
     try clear qG8
     try clear qG9
     try clear qH0
     try clear jg7
     try clear jo0
     try clear jo1
     try clear jo2
     try clear zR6
     try clear jv1
     try clear jv2
     try clear jv3
     try clear jv4
     try clear qX9
     try clear qY0
     try clear qY1
     try clear jv6
     try clear jw1
     try clear jw2
     try clear jw3
     try clear jw4
     try clear p2
     obtain ⟨qe2, rfl, HA, HK2, z8, HB⟩ := hrel
     cases gk with
     | zero => exact absurd HA.out (by simp [jZ.l0])
     | succ k2 =>
      have H := HA.out
      clear HA
      simp only [jZ.l0] at H
      by_cases c19 : qe2 < (jN.length : Int)
      ·rw [if_pos c19] at H
       have zY4 : decide (qe2 < (jN.length : Int)) = true := decide_eq_true c19
       clear c19
       by_cases c20 : 0 ≤ qe2
       ·rw [if_pos c20] at H
        have Qk9 : decide (0 ≤ qe2) = true := decide_eq_true c20
        clear c20
        by_cases c21 : qe2 < (jN.length : Int)
        ·rw [if_pos c21] at H
         have Ql0 : decide (qe2 < (jN.length : Int)) = true := decide_eq_true c21
         clear c21
         replace H := Option.bind_eq_some_iff.mp H
         obtain ⟨t235, A220, H⟩ := H
         replace H : (if t235 = true then (jZ.l0 k2 jN (jN.length : Int) (wrap64 (qe2 + 1))) else (some false)) = some r := H
         have A22 := q8.mk A220
         clear A220
         by_cases c23 : t235 = true
         ·subst c23
          have H1 : (jZ.l0 k2 jN (jN.length : Int) (wrap64 (qe2 + 1))) = some r := by rw [if_pos rfl] at H; exact H
          clear H
          have H := H1
          clear H1
          have H' := q8.mk H
          clear H
          have zh5 : 0 ≤ (qe2 : Int) := of_decide_eq_true (by first | (with_reducible assumption) | assumption)
          have zh6 : qe2 < (jN.length : Int) := of_decide_eq_true (by first | (with_reducible assumption) | assumption)
          obtain ⟨jg8, e233, qN3, qN4, qN5⟩ := qt7 jY9.out qe2 zh5 zh6
          cases e233
          replace qN3 := (HB.out.cell (World.block_lt_of_cell? w _ qN3)).trans qN3
          replace qN4 := (HB.out.cell (World.block_lt_of_cell? w _ qN4)).trans qN4
          replace qN5 := (HB.out.cell (World.block_lt_of_cell? w _ qN5)).trans qN5
          replace zh5 := eq_true zh5
          replace zh6 := eq_true zh6
          go_wp2_with (first | ((with_reducible refine qa1 (N := 4) rfl ?_); (try (refine qM6 (by rfl) ?_; dsimp only)); refine qb0 ?hg (N := 4) ?hd (cs := #[.bool false, .int .i64 0, .int .i64 0]) (t := 51) ?hr ?_; (case hd => rfl); (case hg => rfl); (case hr => first | (go_simp; done) | (go_simp; rfl)); intro qA2 hg w24 qb7 hb; have n0_ := q8.mk (qo5 (g := qc9) (o := .cells #[.int .i64 zG, .int .i64 jU, .int .i64 jR, .slice (some jg8) jN.length qn0] 55 (0, 0)) (by (with_reducible repeat (first | refine qI ?_ _ | refine qR ?_ | refine qJ ?_ _)); exact z8.out) hb); have n1_ := q8.mk (jM (by repeat (first | (with_reducible first | exact HB.out | apply qA | apply q9 | apply qB | refine qK ?_ qu3.out) | exact HB.out)) hb); have n2_ := q8.mk (qb7); have n3_ := q8.mk ((by rw [hg]; exact (qM (by repeat (first | (with_reducible first | exact HB.out | apply qA | apply q9 | apply qB | refine qK ?_ qu3.out) | exact HB.out))) : w.heap.size ≤ qA2)); have n4_ := q8.mk ((by rw [hg]; exact (qM (by repeat (first | (with_reducible first | exact HB.out | apply qA | apply q9 | apply qB | refine qK ?_ qu3.out) | exact HB.out))) : w.heap.size ≤ qA2)); have n5_ := q8.mk ((by rw [hg]; exact Nat.ne_of_lt (qw1 (g := qc9) (o := .cells #[.int .i64 zG, .int .i64 jU, .int .i64 jR, .slice (some jg8) jN.length qn0] 55 (0, 0)) (by (with_reducible repeat (first | refine qI ?_ _ | refine qR ?_ | refine qJ ?_ _)); exact z8.out)) : qc9 ≠ qA2)); have n6_ := q8.mk ((by rw [hg]; exact Nat.ne_of_gt (qw1 (g := qc9) (o := .cells #[.int .i64 zG, .int .i64 jU, .int .i64 jR, .slice (some jg8) jN.length qn0] 55 (0, 0)) (by (with_reducible repeat (first | refine qI ?_ _ | refine qR ?_ | refine qJ ?_ _)); exact z8.out)) : qA2 ≠ qc9)); clear z8; clear HB; have z8 := n0_; have HB := n1_; have qw7 := n2_; have Qr2 := n3_; have jZ0 := n4_; have qr6 := n5_; have jj5 := n6_; clear n0_ n1_ n2_ n3_ n4_ n5_ n6_; clear hb qb7 hg; have hnb25 := jj5.out; have hnc25 := qr6.out; have zR7 : w24.cell? ⟨qA2, 0, none⟩ = some (.bool false) := (qE qw7.out 0).trans rfl; have zR8 : w24.cell? ⟨qA2, 1, none⟩ = some (.int .i64 0) := (qE qw7.out 1).trans rfl; have zR9 : w24.cell? ⟨qA2, 2, none⟩ = some (.int .i64 0) := (qE qw7.out 2).trans rfl; have zS0 := qC qw7.out 0; have zS1 := qC qw7.out 1; have zS2 := qC qw7.out 2) | ((with_reducible refine qk3 (f := 55) rfl ?_); refine qL3 (some 50) rfl rfl Try.func55 (by kernel_rfl) rfl #[.agg #[.bool ((qG jN qe2).f0), .int .i64 ((qG jN qe2).f1), .int .i64 ((qG jN qe2).f2)]] rfl (by (try simp only [List.map_toArray, List.map_cons, List.map_nil]); first | done | rfl | (simp only [List.length_drop, List.length_take]; rfl)) ?_; (with_reducible refine (qA1.calls ((qG jN qe2).f0) ((qG jN qe2).f1) ((qG jN qe2).f2) true _ A22.out).mono ?_); rintro e w27 ⟨rfl, hb⟩; refine ⟨_, rfl, ?_⟩; have n0_ := q8.mk (qo5 (g := qc9) (o := .cells #[.int .i64 zG, .int .i64 jU, .int .i64 jR, .slice (some jg8) jN.length qn0] 55 (0, 0)) (by (with_reducible repeat (first | refine qI ?_ _ | refine qR ?_ | refine qJ ?_ _)); refine ql0 ?_ qr6.out _; (with_reducible repeat (first | refine qI ?_ _ | refine qR ?_ | refine qJ ?_ _)); refine ql0 ?_ qr6.out _; (with_reducible repeat (first | refine qI ?_ _ | refine qR ?_ | refine qJ ?_ _)); refine ql0 ?_ qr6.out _; (with_reducible repeat (first | refine qI ?_ _ | refine qR ?_ | refine qJ ?_ _)); exact z8.out) hb); have n1_ := q8.mk (qo5 (g := qA2) (o := .cells #[.bool ((qG jN qe2).f0), .int .i64 ((qG jN qe2).f1), .int .i64 ((qG jN qe2).f2)] 51 (0, 0)) (by (with_reducible repeat (first | refine qI ?_ _ | refine qR ?_ | refine qJ ?_ _)); refine qd9 (cs := #[.bool ((qG jN qe2).f0), .int .i64 ((qG jN qe2).f1), .int .i64 0]) ?_ 2 _ rfl; (with_reducible repeat (first | refine qI ?_ _ | refine qR ?_ | refine qJ ?_ _)); refine qd9 (cs := #[.bool ((qG jN qe2).f0), .int .i64 0, .int .i64 0]) ?_ 1 _ rfl; (with_reducible repeat (first | refine qI ?_ _ | refine qR ?_ | refine qJ ?_ _)); refine qd9 (cs := #[.bool false, .int .i64 0, .int .i64 0]) ?_ 0 _ rfl; (with_reducible repeat (first | refine qI ?_ _ | refine qR ?_ | refine qJ ?_ _)); exact qw7.out) hb); have n2_ := q8.mk (jM (by repeat (first | (with_reducible first | exact HB.out | apply qA | apply q9 | apply qB | refine qK ?_ qu3.out | refine qK ?_ jZ0.out) | exact HB.out)) hb); clear z8; clear qw7; clear HB; have z8 := n0_; have qw7 := n1_; have HB := n2_; clear n0_ n1_ n2_; (try clear hb); (try clear hb2); (try clear hk); (try clear hi)))
          go_roundg k2
          case measure => have := HJ1.out; have := HK2.out; omega
          case rel => exact ⟨(wrap64 (qe2 + 1)), (by first | rfl | (simp; done) | (simp [*]; done)), H', ⟨by have := HJ1.out; have := HK2.out; omega⟩, ⟨by (with_reducible repeat (first | refine qI ?_ _ | refine qR ?_ | refine qJ ?_ _)); exact z8.out⟩, ⟨by repeat (first | (with_reducible first | exact HB.out | apply qA | apply q9 | apply qB | refine qK ?_ qu3.out | refine qK ?_ jZ0.out) | exact HB.out)⟩⟩
         ·replace c23 := Bool.eq_false_iff.mpr c23
          subst c23
          have H1 : (some false) = some r := by rw [if_neg (show ¬ (false = true) by decide)] at H; exact H
          clear H
          have H := H1
          clear H1
          obtain rfl := Option.some.inj H
          have zh5 : 0 ≤ (qe2 : Int) := of_decide_eq_true (by first | (with_reducible assumption) | assumption)
          have zh6 : qe2 < (jN.length : Int) := of_decide_eq_true (by first | (with_reducible assumption) | assumption)
          obtain ⟨jg8, e233, qN3, qN4, qN5⟩ := qt7 jY9.out qe2 zh5 zh6
          cases e233
          replace qN3 := (HB.out.cell (World.block_lt_of_cell? w _ qN3)).trans qN3
          replace qN4 := (HB.out.cell (World.block_lt_of_cell? w _ qN4)).trans qN4
          replace qN5 := (HB.out.cell (World.block_lt_of_cell? w _ qN5)).trans qN5
          replace zh5 := eq_true zh5
          replace zh6 := eq_true zh6
          go_wp2_with (first | ((with_reducible refine qa1 (N := 4) rfl ?_); (try (refine qM6 (by rfl) ?_; dsimp only)); refine qb0 ?hg (N := 4) ?hd (cs := #[.bool false, .int .i64 0, .int .i64 0]) (t := 51) ?hr ?_; (case hd => rfl); (case hg => rfl); (case hr => first | (go_simp; done) | (go_simp; rfl)); intro qA2 hg w28 qb7 hb; have n0_ := q8.mk (qo5 (g := qc9) (o := .cells #[.int .i64 zG, .int .i64 jU, .int .i64 jR, .slice (some jg8) jN.length qn0] 55 (0, 0)) (by (with_reducible repeat (first | refine qI ?_ _ | refine qR ?_ | refine qJ ?_ _)); exact z8.out) hb); have n1_ := q8.mk (jM (by repeat (first | (with_reducible first | exact HB.out | apply qA | apply q9 | apply qB | refine qK ?_ qu3.out) | exact HB.out)) hb); have n2_ := q8.mk (qb7); have n3_ := q8.mk ((by rw [hg]; exact (qM (by repeat (first | (with_reducible first | exact HB.out | apply qA | apply q9 | apply qB | refine qK ?_ qu3.out) | exact HB.out))) : w.heap.size ≤ qA2)); have n4_ := q8.mk ((by rw [hg]; exact (qM (by repeat (first | (with_reducible first | exact HB.out | apply qA | apply q9 | apply qB | refine qK ?_ qu3.out) | exact HB.out))) : w.heap.size ≤ qA2)); have n5_ := q8.mk ((by rw [hg]; exact Nat.ne_of_lt (qw1 (g := qc9) (o := .cells #[.int .i64 zG, .int .i64 jU, .int .i64 jR, .slice (some jg8) jN.length qn0] 55 (0, 0)) (by (with_reducible repeat (first | refine qI ?_ _ | refine qR ?_ | refine qJ ?_ _)); exact z8.out)) : qc9 ≠ qA2)); have n6_ := q8.mk ((by rw [hg]; exact Nat.ne_of_gt (qw1 (g := qc9) (o := .cells #[.int .i64 zG, .int .i64 jU, .int .i64 jR, .slice (some jg8) jN.length qn0] 55 (0, 0)) (by (with_reducible repeat (first | refine qI ?_ _ | refine qR ?_ | refine qJ ?_ _)); exact z8.out)) : qA2 ≠ qc9)); clear z8; clear HB; have z8 := n0_; have HB := n1_; have qw7 := n2_; have Qr2 := n3_; have jZ0 := n4_; have qr6 := n5_; have jj5 := n6_; clear n0_ n1_ n2_ n3_ n4_ n5_ n6_; clear hb qb7 hg; have hnb29 := jj5.out; have hnc29 := qr6.out; have QC4 : w28.cell? ⟨qA2, 0, none⟩ = some (.bool false) := (qE qw7.out 0).trans rfl; have QC5 : w28.cell? ⟨qA2, 1, none⟩ = some (.int .i64 0) := (qE qw7.out 1).trans rfl; have QC6 : w28.cell? ⟨qA2, 2, none⟩ = some (.int .i64 0) := (qE qw7.out 2).trans rfl; have QC7 := qC qw7.out 0; have QC8 := qC qw7.out 1; have QC9 := qC qw7.out 2) | ((with_reducible refine qk3 (f := 55) rfl ?_); refine qL3 (some 50) rfl rfl Try.func55 (by kernel_rfl) rfl #[.agg #[.bool ((qG jN qe2).f0), .int .i64 ((qG jN qe2).f1), .int .i64 ((qG jN qe2).f2)]] rfl (by (try simp only [List.map_toArray, List.map_cons, List.map_nil]); first | done | rfl | (simp only [List.length_drop, List.length_take]; rfl)) ?_; (with_reducible refine (qA1.calls ((qG jN qe2).f0) ((qG jN qe2).f1) ((qG jN qe2).f2) false _ A22.out).mono ?_); rintro e w31 ⟨rfl, hb⟩; refine ⟨_, rfl, ?_⟩; have n0_ := q8.mk (qo5 (g := qc9) (o := .cells #[.int .i64 zG, .int .i64 jU, .int .i64 jR, .slice (some jg8) jN.length qn0] 55 (0, 0)) (by (with_reducible repeat (first | refine qI ?_ _ | refine qR ?_ | refine qJ ?_ _)); refine ql0 ?_ qr6.out _; (with_reducible repeat (first | refine qI ?_ _ | refine qR ?_ | refine qJ ?_ _)); refine ql0 ?_ qr6.out _; (with_reducible repeat (first | refine qI ?_ _ | refine qR ?_ | refine qJ ?_ _)); refine ql0 ?_ qr6.out _; (with_reducible repeat (first | refine qI ?_ _ | refine qR ?_ | refine qJ ?_ _)); exact z8.out) hb); have n1_ := q8.mk (qo5 (g := qA2) (o := .cells #[.bool ((qG jN qe2).f0), .int .i64 ((qG jN qe2).f1), .int .i64 ((qG jN qe2).f2)] 51 (0, 0)) (by (with_reducible repeat (first | refine qI ?_ _ | refine qR ?_ | refine qJ ?_ _)); refine qd9 (cs := #[.bool ((qG jN qe2).f0), .int .i64 ((qG jN qe2).f1), .int .i64 0]) ?_ 2 _ rfl; (with_reducible repeat (first | refine qI ?_ _ | refine qR ?_ | refine qJ ?_ _)); refine qd9 (cs := #[.bool ((qG jN qe2).f0), .int .i64 0, .int .i64 0]) ?_ 1 _ rfl; (with_reducible repeat (first | refine qI ?_ _ | refine qR ?_ | refine qJ ?_ _)); refine qd9 (cs := #[.bool false, .int .i64 0, .int .i64 0]) ?_ 0 _ rfl; (with_reducible repeat (first | refine qI ?_ _ | refine qR ?_ | refine qJ ?_ _)); exact qw7.out) hb); have n2_ := q8.mk (jM (by repeat (first | (with_reducible first | exact HB.out | apply qA | apply q9 | apply qB | refine qK ?_ qu3.out | refine qK ?_ jZ0.out) | exact HB.out)) hb); clear z8; clear qw7; clear HB; have z8 := n0_; have qw7 := n1_; have HB := n2_; clear n0_ n1_ n2_; (try clear hb); (try clear hb2); (try clear hk); (try clear hi)))
          go_ret
          exact ⟨by first | rfl | (simp [jI, jJ] <;> rfl) | (simp [*, jI, jJ] <;> rfl), by repeat (first | (with_reducible first | exact HB.out | apply qA | apply q9 | apply qB | refine qK ?_ qu3.out | refine qK ?_ jZ0.out) | exact HB.out)⟩
        ·rw [if_neg c21] at H
         exact absurd H (by simp)
       ·rw [if_neg c20] at H
        exact absurd H (by simp)
      ·rw [if_neg c19] at H
       have zY4 : decide (qe2 < (jN.length : Int)) = false := decide_eq_false c19
       clear c19
       obtain rfl := Option.some.inj H
       go_wp2
       go_ret
       exact ⟨by first | rfl | (simp [jI, jJ] <;> rfl) | (simp [*, jI, jJ] <;> rfl), by repeat (first | (with_reducible first | exact HB.out | apply qA | apply q9 | apply qB | refine qK ?_ qu3.out) | exact HB.out)⟩
def qe0.l0 : Nat → Int → List (S55) → Int → Int → Option (Int)
 | 0, _, _, _, _ => none
 | k + 1, x3, x6, x7, x8 => if x8 < x7 then (if 0 ≤ x8 then (if x8 < (x6.length : Int) then (qe0.l0 k (wrap64 (x3 + (((qD x6 x8).f3).length : Int))) x6 x7 (wrap64 (x8 + 1))) else (none)) else (none)) else (some x3)
def qe0.f (k : Nat) (l0 : List (S55)) : Option (Int) := qe0.l0 k 0 l0 (l0.length : Int) 0
set_option maxHeartbeats 8000000 in
set_option maxRecDepth 100000 in
theorem qe0.calls (k : Nat) (A0 : Option Addr) (c0 : Nat) (l0 : List (S55)) (r : Int) (w : World) (hr0 : Kd.C k55 w A0 l0.length l0) (hc0 : l0.length ≤ c0) (h : qe0.f k l0 = some r) :
  Calls Try.prog 57 #[.slice A0 l0.length c0] w fun e w' => e = .returned (.int .i64 r) ∧ Below w.heap.size w w' := by
 have zI6 := Try.underlying55
 have HR0 := q8.mk hr0
 have HC0 := q8.mk hc0
 clear hr0 hc0
 have HB := q8.mk (Below.refl w.heap.size w)
 have H : (qe0.l0 k 0 l0 (l0.length : Int) 0) = some r := h
 clear h
 have H' := q8.mk H
 clear H
 go_enter Try.func57, Try.ntmps57
 go_wp2
 go_loopg [3, 8] k (fun kq v3 v8 w' => ∃ (ql7 : Int) (qO : Int), v3 = .int .i64 ql7 ∧ v8 = .int .i64 qO ∧ q8 (qe0.l0 kq ql7 l0 (l0.length : Int) qO = some r) ∧ q8 (kq ≤ k) ∧ q8 (Below w.heap.size w w'))
 case atStart => exact ⟨(0), (0), (by first | rfl | (simp; done) | (simp [*]; done)), (by first | rfl | (simp; done) | (simp [*]; done)), H', ⟨Nat.le_refl _⟩, ⟨by repeat (first | (with_reducible first | exact HB.out | apply qA | apply q9 | apply qB) | exact HB.out)⟩⟩
 case round =>
  clear H'
  obtain ⟨ql7, qO, rfl, rfl, HA, HK1, HB⟩ := hrel
  cases gk with
  | zero => exact absurd HA.out (by simp [qe0.l0])
  | succ k1 =>
   have H := HA.out
   clear HA
   simp only [qe0.l0] at H
   by_cases c2 : qO < (l0.length : Int)
   ·rw [if_pos c2] at H
    have zh4 : decide (qO < (l0.length : Int)) = true := decide_eq_true c2
    clear c2
    by_cases c3 : 0 ≤ qO
    ·rw [if_pos c3] at H
     have jS6 : decide (0 ≤ qO) = true := decide_eq_true c3
     clear c3
     by_cases c4 : qO < (l0.length : Int)
     ·rw [if_pos c4] at H
      have qF0 : decide (qO < (l0.length : Int)) = true := decide_eq_true c4
      clear c4
      have H' := q8.mk H
      clear H
      have Qh7 : 0 ≤ (qO : Int) := of_decide_eq_true (by first | (with_reducible assumption) | assumption)
      have Qh8 : qO < (l0.length : Int) := of_decide_eq_true (by first | (with_reducible assumption) | assumption)
      obtain ⟨ad236, A236_3, c236_3, e236, jM4, jM5, jM6, jM7, zn7, zn8⟩ := qa9 HR0.out qO Qh7 Qh8
      cases e236
      replace jM4 := (HB.out.cell (World.block_lt_of_cell? w _ jM4)).trans jM4
      replace jM5 := (HB.out.cell (World.block_lt_of_cell? w _ jM5)).trans jM5
      replace jM6 := (HB.out.cell (World.block_lt_of_cell? w _ jM6)).trans jM6
      replace jM7 := (HB.out.cell (World.block_lt_of_cell? w _ jM7)).trans jM7
      have QD0 := q8.mk zn8
      have QD1 := q8.mk zn7
      clear zn8 zn7
      replace Qh7 := eq_true Qh7
      replace Qh8 := eq_true Qh8
      go_wp2_with (first | ((with_reducible refine qa1 (N := 5) rfl ?_); refine qb0 ?hg (N := 5) ?hd (cs := #[.int .i64 0, .int .i64 0, .int .i64 0, .slice none 0 0]) (t := 55) ?hr ?_; (case hd => rfl); (case hg => rfl); (case hr => first | (go_simp; done) | (go_simp; rfl)); intro jE3 hg w5 qb7 hb; have n0_ := q8.mk (jM (by repeat (first | (with_reducible first | exact HB.out | apply qA | apply q9 | apply qB) | exact HB.out)) hb); have n1_ := q8.mk (qb7); have n2_ := q8.mk ((by rw [hg]; exact (qM (by repeat (first | (with_reducible first | exact HB.out | apply qA | apply q9 | apply qB) | exact HB.out))) : w.heap.size ≤ jE3)); have n3_ := q8.mk ((by rw [hg]; exact (qM (by repeat (first | (with_reducible first | exact HB.out | apply qA | apply q9 | apply qB) | exact HB.out))) : w.heap.size ≤ jE3)); clear HB; have HB := n0_; have jl1 := n1_; have GW237 := n2_; have Qr3 := n3_; clear n0_ n1_ n2_ n3_; clear hb qb7 hg; have hcz6_0 : w5.cell? ⟨jE3, 0, none⟩ = some (.int .i64 0) := (qE jl1.out 0).trans rfl; have hcz6_1 : w5.cell? ⟨jE3, 1, none⟩ = some (.int .i64 0) := (qE jl1.out 1).trans rfl; have hcz6_2 : w5.cell? ⟨jE3, 2, none⟩ = some (.int .i64 0) := (qE jl1.out 2).trans rfl; have hcz6_3 : w5.cell? ⟨jE3, 3, none⟩ = some (.slice none 0 0) := (qE jl1.out 3).trans rfl; have hfz6_0 := qC jl1.out 0; have hfz6_1 := qC jl1.out 1; have hfz6_2 := qC jl1.out 2; have hfz6_3 := qC jl1.out 3))
      go_roundg k1
      case measure => have := HK1.out; omega
      case rel => exact ⟨(wrap64 (ql7 + (((qD l0 qO).f3).length : Int))), (wrap64 (qO + 1)), (by first | rfl | (simp; done) | (simp [*]; done)), (by first | rfl | (simp; done) | (simp [*]; done)), H', ⟨by have := HK1.out; omega⟩, ⟨by repeat (first | (with_reducible first | exact HB.out | apply qA | apply q9 | apply qB | refine qK ?_ Qr3.out) | exact HB.out)⟩⟩
     ·rw [if_neg c4] at H
      exact absurd H (by simp)
    ·rw [if_neg c3] at H
     exact absurd H (by simp)
   ·rw [if_neg c2] at H
    have zh4 : decide (qO < (l0.length : Int)) = false := decide_eq_false c2
    clear c2
    obtain rfl := Option.some.inj H
    go_wp2
    go_ret
    exact ⟨by first | rfl | (simp [jI, jJ] <;> rfl) | (simp [*, jI, jJ] <;> rfl), by repeat (first | (with_reducible first | exact HB.out | apply qA | apply q9 | apply qB) | exact HB.out)⟩
end Go.Proofs.Ytngkneknopenmaa.K
end
section
namespace Go.Proofs.Ytngkneknopenmaa.K
open Go.Proofs.Ytngkneknopenmaa
open Go.RowKit Go.Proofs.YtngkneknopenmaaW.PrintWords Go.Proofs.YtngkneknopenmaaW.qi5 Go.Proofs.YtngkneknopenmaaW.ql6
attribute [local go_sem] qs6 qs7 qy1 qy2 qo3 qo4 qs8 qs9   -- for this text's walks alone
set_option linter.unusedVariables false
set_option linter.unusedSimpArgs false
def zN.l0 : Nat → List (S55) → Int → Int → Option (Int)
 | 0, _, _, _ => none
 | k + 1, x0, x3, x4 => if x4 < (x0.length : Int) then (if 0 ≤ x4 then (zN.l0 k x0 (wrap64 (x3 + (((qD x0 x4).f3).length : Int))) (wrap64 (x4 + 1))) else (none)) else (some x3)
def zN.f (k : Nat) (l0 : List (S55)) : Option (Int) := zN.l0 k l0 0 0
set_option maxHeartbeats 8000000 in
set_option maxRecDepth 100000 in
theorem zN.calls (k : Nat) (A0 : Option Addr) (c0 : Nat) (l0 : List (S55)) (r : Int) (w : World) (hr0 : Kd.C k55 w A0 l0.length l0) (hc0 : l0.length ≤ c0) (h : zN.f k l0 = some r) :
  Calls Try.prog 33 #[.slice A0 l0.length c0] w fun e w' => e = .returned (.int .i64 r) ∧ zZ w w' := by
 have HR0 := q8.mk hr0
 have HC0 := q8.mk hc0
 clear hr0 hc0
 have H : (zN.l0 k l0 0 0) = some r := h
 clear h
 have H' := q8.mk H
 clear H
 go_enter Try.func33, Try.ntmps33
 go_wp2
 go_loopg [3, 4] k (fun kq v3 v4 w' => ∃ (ql7 : Int) (zF : Int), v3 = .int .i64 ql7 ∧ v4 = .int .i64 zF ∧ q8 (zN.l0 kq l0 ql7 zF = some r) ∧ q8 (kq ≤ k) ∧ zZ w w')
 case atStart => exact ⟨(0), (0), (by first | rfl | (simp; done) | (simp [*]; done)), (by first | rfl | (simp; done) | (simp [*]; done)), H', ⟨Nat.le_refl _⟩, by repeat (first | exact zZ.refl _ | apply zZ.step)⟩
 case round =>
  clear H'
  obtain ⟨ql7, zF, rfl, rfl, HA, HK1, ⟨m1, rfl⟩⟩ := hrel
  cases gk with
  | zero => exact absurd HA.out (by simp [zN.l0])
  | succ k1 =>
   have H := HA.out
   clear HA
   simp only [zN.l0] at H
   by_cases c2 : zF < (l0.length : Int)
   ·rw [if_pos c2] at H
    have zh4 : decide (zF < (l0.length : Int)) = true := decide_eq_true c2
    clear c2
    by_cases c3 : 0 ≤ zF
    ·rw [if_pos c3] at H
     have jS6 : decide (0 ≤ zF) = true := decide_eq_true c3
     clear c3
     have H' := q8.mk H
     clear H
     have Qh9 : 0 ≤ (zF : Int) := of_decide_eq_true (by first | (with_reducible assumption) | assumption)
     have Qi0 : zF < (l0.length : Int) := of_decide_eq_true (by first | (with_reducible assumption) | assumption)
     obtain ⟨ad103, A103_3, c103_3, e103, QD2, QD3, QD4, QD5, zn9, zo0⟩ := qa9 HR0.out zF Qh9 Qi0
     cases e103
     have QD6 := q8.mk zo0
     have QD7 := q8.mk zn9
     clear zo0 zn9
     replace Qh9 := eq_true Qh9
     replace Qi0 := eq_true Qi0
     go_wp2
     go_roundg k1
     case measure => have := HK1.out; omega
     case rel => exact ⟨(wrap64 (ql7 + (((qD l0 zF).f3).length : Int))), (wrap64 (zF + 1)), (by first | rfl | (simp; done) | (simp [*]; done)), (by first | rfl | (simp; done) | (simp [*]; done)), H', ⟨by have := HK1.out; omega⟩, by repeat (first | exact zZ.refl _ | apply zZ.step)⟩
    ·rw [if_neg c3] at H
     exact absurd H (by simp)
   ·rw [if_neg c2] at H
    have zh4 : decide (zF < (l0.length : Int)) = false := decide_eq_false c2
    clear c2
    obtain rfl := Option.some.inj H
    go_wp2
    go_ret
    exact ⟨by first | rfl | (simp; done) | (simp [*]; done), by repeat (first | exact zZ.refl _ | apply zZ.step)⟩
mutual
def qZ.l0 : Nat → List (S55) → Int → Int → Int → Option (Int)
 | 0, _, _, _, _ => none
 | k + 1, x0, x1, x2, x7 => if x7 < (x0.length : Int) then (qZ.l1 k x0 x1 x2 x7 0) else (some (-1))
def qZ.l1 : Nat → List (S55) → Int → Int → Int → Int → Option (Int)
 | 0, _, _, _, _, _ => none
 | k + 1, x0, x1, x2, x7, x8 => if 0 ≤ x7 then (if x7 < (x0.length : Int) then (if x8 < (((qD x0 x7).f3).length : Int) then (if 0 ≤ x8 then (if (qG ((qD x0 x7).f3) x8).f0 = true then (if ((qG ((qD x0 x7).f3) x8).f1) = x1 then (if ((qG ((qD x0 x7).f3) x8).f2) = x2 then (some x7) else (qZ.l1 k x0 x1 x2 x7 (wrap64 (x8 + 1)))) else (qZ.l1 k x0 x1 x2 x7 (wrap64 (x8 + 1)))) else (qZ.l1 k x0 x1 x2 x7 (wrap64 (x8 + 1)))) else (none)) else (qZ.l0 k x0 x1 x2 (wrap64 (x7 + 1)))) else (none)) else (none)
end
def qZ.f (k : Nat) (l0 : List (S55)) (a1 : Int) (a2 : Int) : Option (Int) := qZ.l0 k l0 a1 a2 0
set_option maxHeartbeats 8000000 in
set_option maxRecDepth 100000 in
theorem qZ.calls (k : Nat) (A0 : Option Addr) (c0 : Nat) (l0 : List (S55)) (a1 : Int) (a2 : Int) (r : Int) (w : World) (hr0 : Kd.C k55 w A0 l0.length l0) (hc0 : l0.length ≤ c0) (h : qZ.f k l0 a1 a2 = some r) :
  Calls Try.prog 31 #[.slice A0 l0.length c0, .int .i64 a1, .int .i64 a2] w fun e w' => e = .returned (.int .i64 r) ∧ Below w.heap.size w w' := by
 have zz0 := Try.underlying51
 have HR0 := q8.mk hr0
 have HC0 := q8.mk hc0
 clear hr0 hc0
 have HB := q8.mk (Below.refl w.heap.size w)
 have H : (qZ.l0 k l0 a1 a2 0) = some r := h
 clear h
 have H' := q8.mk H
 clear H
 go_enter Try.func31, Try.ntmps31
 go_wp2
 go_loopg [7] k (fun kq v7 w' => ∃ (qb3 : Int), v7 = .int .i64 qb3 ∧ q8 (qZ.l0 kq l0 a1 a2 qb3 = some r) ∧ q8 (kq ≤ k) ∧ q8 (Below w.heap.size w w'))
 case atStart => exact ⟨(0), (by first | rfl | (simp; done) | (simp [*]; done)), H', ⟨Nat.le_refl _⟩, ⟨by repeat (first | (with_reducible first | exact HB.out | apply qA | apply q9 | apply qB) | exact HB.out)⟩⟩
 case round =>
  clear H'
  try clear p2
  try clear c3
  obtain ⟨qb3, rfl, HA, HK1, HB⟩ := hrel
  cases gk with
  | zero => exact absurd HA.out (by simp [qZ.l0])
  | succ k1 =>
   have H := HA.out
   clear HA
   simp only [qZ.l0] at H
   by_cases c4 : qb3 < (l0.length : Int)
   ·rw [if_pos c4] at H
    have qF0 : decide (qb3 < (l0.length : Int)) = true := decide_eq_true c4
    clear c4
    have H' := q8.mk H
    clear H
    go_wp2
    go_loopg [8] k1 (fun kq v8 w' => ∃ (qk4 : Int), v8 = .int .i64 qk4 ∧ q8 (qZ.l1 kq l0 a1 a2 qb3 qk4 = some r) ∧ q8 (kq ≤ k1) ∧ q8 (Below w.heap.size w w'))
    case atStart => exact ⟨(0), (by first | rfl | (simp; done) | (simp [*]; done)), H', ⟨Nat.le_refl _⟩, ⟨by repeat (first | (with_reducible first | exact HB.out | apply qA | apply q9 | apply qB) | exact HB.out)⟩⟩
    case round =>
     clear H'
     try clear p2
     try clear c3
     try clear c4
     try clear qF0
     try clear p2
     obtain ⟨qk4, rfl, HA, HK2, HB⟩ := hrel
     cases gk with
     | zero => exact absurd HA.out (by simp [qZ.l1])
     | succ k2 =>
      have H := HA.out
      clear HA
      simp only [qZ.l1] at H
      by_cases c5 : 0 ≤ qb3
      ·rw [if_pos c5] at H
       have jH8 : decide (0 ≤ qb3) = true := decide_eq_true c5
       clear c5
       by_cases c6 : qb3 < (l0.length : Int)
       ·rw [if_pos c6] at H
        have jl4 : decide (qb3 < (l0.length : Int)) = true := decide_eq_true c6
        clear c6
        by_cases c7 : qk4 < (((qD l0 qb3).f3).length : Int)
        ·rw [if_pos c7] at H
         have zK3 : decide (qk4 < (((qD l0 qb3).f3).length : Int)) = true := decide_eq_true c7
         clear c7
         by_cases c8 : 0 ≤ qk4
         ·rw [if_pos c8] at H
          have qW2 : decide (0 ≤ qk4) = true := decide_eq_true c8
          clear c8
          obtain ⟨bq9, Qi1⟩ : ∃ b_ : Bool, b_ = ((qG ((qD l0 qb3).f3) qk4).f0) := ⟨_, rfl⟩
          replace H : (if bq9 = true then (if ((qG ((qD l0 qb3).f3) qk4).f1) = a1 then (if ((qG ((qD l0 qb3).f3) qk4).f2) = a2 then (some qb3) else (qZ.l1 k2 l0 a1 a2 qb3 (wrap64 (qk4 + 1)))) else (qZ.l1 k2 l0 a1 a2 qb3 (wrap64 (qk4 + 1)))) else (qZ.l1 k2 l0 a1 a2 qb3 (wrap64 (qk4 + 1)))) = some r := by rw [← Qi1] at H; exact H
          have zS3 := q8.mk Qi1
          clear Qi1
          by_cases c10 : bq9 = true
          ·subst c10
           have H1 : (if ((qG ((qD l0 qb3).f3) qk4).f1) = a1 then (if ((qG ((qD l0 qb3).f3) qk4).f2) = a2 then (some qb3) else (qZ.l1 k2 l0 a1 a2 qb3 (wrap64 (qk4 + 1)))) else (qZ.l1 k2 l0 a1 a2 qb3 (wrap64 (qk4 + 1)))) = some r := by rw [if_pos rfl] at H; exact H
           clear H
           have H := H1
           clear H1
           by_cases c11 : ((qG ((qD l0 qb3).f3) qk4).f1) = a1
           ·rw [if_pos c11] at H
            have jB9 : (((qG ((qD l0 qb3).f3) qk4).f1) == a1) = true := beq_iff_eq.mpr c11
            have Qr4 : (((qG ((qD l0 qb3).f3) qk4).f1) != a1) = false := bne_eq_false_iff_eq.mpr c11
            clear c11
            by_cases c12 : ((qG ((qD l0 qb3).f3) qk4).f2) = a2
            ·rw [if_pos c12] at H
             have qI5 : (((qG ((qD l0 qb3).f3) qk4).f2) == a2) = true := beq_iff_eq.mpr c12
             have Qr5 : (((qG ((qD l0 qb3).f3) qk4).f2) != a2) = false := bne_eq_false_iff_eq.mpr c12
             clear c12
             obtain rfl := Option.some.inj H
             have qN6 : 0 ≤ (qb3 : Int) := of_decide_eq_true (by first | (with_reducible assumption) | assumption)
             have qN7 : qb3 < (l0.length : Int) := of_decide_eq_true (by first | (with_reducible assumption) | assumption)
             obtain ⟨jl2, jM8, jM9, jN0, qh8, qh9, qi0, qf8, qp2, qp3⟩ := qa9 HR0.out qb3 qN6 qN7
             cases jN0
             replace qh8 := (HB.out.cell (World.block_lt_of_cell? w _ qh8)).trans qh8
             replace qh9 := (HB.out.cell (World.block_lt_of_cell? w _ qh9)).trans qh9
             replace qi0 := (HB.out.cell (World.block_lt_of_cell? w _ qi0)).trans qi0
             replace qf8 := (HB.out.cell (World.block_lt_of_cell? w _ qf8)).trans qf8
             have jo3 := q8.mk qp3
             have jo4 := q8.mk qp2
             clear qp3 qp2
             replace qN6 := eq_true qN6
             replace qN7 := eq_true qN7
             have qY2 : 0 ≤ (qb3 : Int) := of_decide_eq_true (by first | (with_reducible assumption) | assumption)
             have qY3 : qb3 < (l0.length : Int) := of_decide_eq_true (by first | (with_reducible assumption) | assumption)
             obtain ⟨jw6, zh7, zh8, zh9, qn1, qn2, qn3, qi1, qw8, qw9⟩ := qa9 HR0.out qb3 qY2 qY3
             obtain rfl : jl2 = jw6 := (by injection zh9)
             replace qn1 := (HB.out.cell (World.block_lt_of_cell? w _ qn1)).trans qn1
             replace qn2 := (HB.out.cell (World.block_lt_of_cell? w _ qn2)).trans qn2
             replace qn3 := (HB.out.cell (World.block_lt_of_cell? w _ qn3)).trans qn3
             replace qi1 := (HB.out.cell (World.block_lt_of_cell? w _ qi1)).trans qi1
             have qN8 := q8.mk qw9
             have jN1 := q8.mk qw8
             clear qw9 qw8
             replace qY2 := eq_true qY2
             replace qY3 := eq_true qY3
             have ea_ := Option.some.inj (qf8.symm.trans qi1)
             injection ea_ with ea_ en_ ec_
             subst ea_
             subst ec_
             clear en_
             have qY4 : 0 ≤ (qk4 : Int) := of_decide_eq_true (by first | (with_reducible assumption) | assumption)
             have qY5 : qk4 < (((qD l0 qb3).f3).length : Int) := of_decide_eq_true (by first | (with_reducible assumption) | assumption)
             obtain ⟨zF7, zi0, qi2, qn4, qn5⟩ := qt7 qN8.out qk4 qY4 qY5
             (try rw [← zS3.out] at qi2)
             cases zi0
             replace qi2 := (HB.out.cell (World.block_lt_of_cell? w _ qi2)).trans qi2
             replace qn4 := (HB.out.cell (World.block_lt_of_cell? w _ qn4)).trans qn4
             replace qn5 := (HB.out.cell (World.block_lt_of_cell? w _ qn5)).trans qn5
             replace qY4 := eq_true qY4
             replace qY5 := eq_true qY5
             go_wp2_with (first | ((with_reducible refine qa1 (N := 9) rfl ?_); refine qb0 ?hg (N := 9) ?hd (cs := #[.bool false, .int .i64 0, .int .i64 0]) (t := 51) ?hr ?_; (case hd => rfl); (case hg => rfl); (case hr => first | (go_simp; done) | (go_simp; rfl)); intro qq7 hg w13 qb7 hb; have n0_ := q8.mk (jM (by repeat (first | (with_reducible first | exact HB.out | apply qA | apply q9 | apply qB) | exact HB.out)) hb); have n1_ := q8.mk (qb7); have n2_ := q8.mk ((by rw [hg]; exact (qM (by repeat (first | (with_reducible first | exact HB.out | apply qA | apply q9 | apply qB) | exact HB.out))) : w.heap.size ≤ qq7)); have n3_ := q8.mk ((by rw [hg]; exact (qM (by repeat (first | (with_reducible first | exact HB.out | apply qA | apply q9 | apply qB) | exact HB.out))) : w.heap.size ≤ qq7)); clear HB; have HB := n0_; have qm1 := n1_; have zF8 := n2_; have jw7 := n3_; clear n0_ n1_ n2_ n3_; clear hb qb7 hg; have QD8 : w13.cell? ⟨qq7, 0, none⟩ = some (.bool false) := (qE qm1.out 0).trans rfl; have QD9 : w13.cell? ⟨qq7, 1, none⟩ = some (.int .i64 0) := (qE qm1.out 1).trans rfl; have QE0 : w13.cell? ⟨qq7, 2, none⟩ = some (.int .i64 0) := (qE qm1.out 2).trans rfl; have QE1 := qC qm1.out 0; have QE2 := qC qm1.out 1; have QE3 := qC qm1.out 2))
             go_ret
             exact ⟨by first | rfl | (simp [jI, jJ] <;> rfl) | (simp [*, jI, jJ] <;> rfl), by repeat (first | (with_reducible first | exact HB.out | apply qA | apply q9 | apply qB | refine qK ?_ jw7.out) | exact HB.out)⟩
            ·rw [if_neg c12] at H
             have qI5 : (((qG ((qD l0 qb3).f3) qk4).f2) == a2) = false := beq_eq_false_iff_ne.mpr c12
             have Qr5 : (((qG ((qD l0 qb3).f3) qk4).f2) != a2) = true := bne_iff_ne.mpr c12
             have H' := q8.mk H
             clear H
             have qN6 : 0 ≤ (qb3 : Int) := of_decide_eq_true (by first | (with_reducible assumption) | assumption)
             have qN7 : qb3 < (l0.length : Int) := of_decide_eq_true (by first | (with_reducible assumption) | assumption)
             obtain ⟨jl2, jM8, jM9, jN0, qh8, qh9, qi0, qf8, qp2, qp3⟩ := qa9 HR0.out qb3 qN6 qN7
             cases jN0
             replace qh8 := (HB.out.cell (World.block_lt_of_cell? w _ qh8)).trans qh8
             replace qh9 := (HB.out.cell (World.block_lt_of_cell? w _ qh9)).trans qh9
             replace qi0 := (HB.out.cell (World.block_lt_of_cell? w _ qi0)).trans qi0
             replace qf8 := (HB.out.cell (World.block_lt_of_cell? w _ qf8)).trans qf8
             have jo3 := q8.mk qp3
             have jo4 := q8.mk qp2
             clear qp3 qp2
             replace qN6 := eq_true qN6
             replace qN7 := eq_true qN7
             have qY2 : 0 ≤ (qb3 : Int) := of_decide_eq_true (by first | (with_reducible assumption) | assumption)
             have qY3 : qb3 < (l0.length : Int) := of_decide_eq_true (by first | (with_reducible assumption) | assumption)
             obtain ⟨jw6, zh7, zh8, zh9, qn1, qn2, qn3, qi1, qw8, qw9⟩ := qa9 HR0.out qb3 qY2 qY3
             obtain rfl : jl2 = jw6 := (by injection zh9)
             replace qn1 := (HB.out.cell (World.block_lt_of_cell? w _ qn1)).trans qn1
             replace qn2 := (HB.out.cell (World.block_lt_of_cell? w _ qn2)).trans qn2
             replace qn3 := (HB.out.cell (World.block_lt_of_cell? w _ qn3)).trans qn3
             replace qi1 := (HB.out.cell (World.block_lt_of_cell? w _ qi1)).trans qi1
             have qN8 := q8.mk qw9
             have jN1 := q8.mk qw8
             clear qw9 qw8
             replace qY2 := eq_true qY2
             replace qY3 := eq_true qY3
             have ea_ := Option.some.inj (qf8.symm.trans qi1)
             injection ea_ with ea_ en_ ec_
             subst ea_
             subst ec_
             clear en_
             have qY4 : 0 ≤ (qk4 : Int) := of_decide_eq_true (by first | (with_reducible assumption) | assumption)
             have qY5 : qk4 < (((qD l0 qb3).f3).length : Int) := of_decide_eq_true (by first | (with_reducible assumption) | assumption)
             obtain ⟨zF7, zi0, qi2, qn4, qn5⟩ := qt7 qN8.out qk4 qY4 qY5
             (try rw [← zS3.out] at qi2)
             cases zi0
             replace qi2 := (HB.out.cell (World.block_lt_of_cell? w _ qi2)).trans qi2
             replace qn4 := (HB.out.cell (World.block_lt_of_cell? w _ qn4)).trans qn4
             replace qn5 := (HB.out.cell (World.block_lt_of_cell? w _ qn5)).trans qn5
             replace qY4 := eq_true qY4
             replace qY5 := eq_true qY5
             go_wp2_with (first | ((with_reducible refine qa1 (N := 9) rfl ?_); refine qb0 ?hg (N := 9) ?hd (cs := #[.bool false, .int .i64 0, .int .i64 0]) (t := 51) ?hr ?_; (case hd => rfl); (case hg => rfl); (case hr => first | (go_simp; done) | (go_simp; rfl)); intro qq7 hg w15 qb7 hb; have n0_ := q8.mk (jM (by repeat (first | (with_reducible first | exact HB.out | apply qA | apply q9 | apply qB) | exact HB.out)) hb); have n1_ := q8.mk (qb7); have n2_ := q8.mk ((by rw [hg]; exact (qM (by repeat (first | (with_reducible first | exact HB.out | apply qA | apply q9 | apply qB) | exact HB.out))) : w.heap.size ≤ qq7)); have n3_ := q8.mk ((by rw [hg]; exact (qM (by repeat (first | (with_reducible first | exact HB.out | apply qA | apply q9 | apply qB) | exact HB.out))) : w.heap.size ≤ qq7)); clear HB; have HB := n0_; have qm1 := n1_; have zF8 := n2_; have jw7 := n3_; clear n0_ n1_ n2_ n3_; clear hb qb7 hg; have qG5 : w15.cell? ⟨qq7, 0, none⟩ = some (.bool false) := (qE qm1.out 0).trans rfl; have qG6 : w15.cell? ⟨qq7, 1, none⟩ = some (.int .i64 0) := (qE qm1.out 1).trans rfl; have qG7 : w15.cell? ⟨qq7, 2, none⟩ = some (.int .i64 0) := (qE qm1.out 2).trans rfl; have qG8 := qC qm1.out 0; have qG9 := qC qm1.out 1; have qH0 := qC qm1.out 2))
             go_roundg k2
             case measure => have := HK1.out; have := HK2.out; omega
             case rel => exact ⟨(wrap64 (qk4 + 1)), (by first | rfl | (simp; done) | (simp [*]; done)), H', ⟨by have := HK1.out; have := HK2.out; omega⟩, ⟨by repeat (first | (with_reducible first | exact HB.out | apply qA | apply q9 | apply qB | refine qK ?_ jw7.out) | exact HB.out)⟩⟩
           ·rw [if_neg c11] at H
            have jB9 : (((qG ((qD l0 qb3).f3) qk4).f1) == a1) = false := beq_eq_false_iff_ne.mpr c11
            have Qr4 : (((qG ((qD l0 qb3).f3) qk4).f1) != a1) = true := bne_iff_ne.mpr c11
            have H' := q8.mk H
            clear H
            have qN6 : 0 ≤ (qb3 : Int) := of_decide_eq_true (by first | (with_reducible assumption) | assumption)
            have qN7 : qb3 < (l0.length : Int) := of_decide_eq_true (by first | (with_reducible assumption) | assumption)
            obtain ⟨jl2, jM8, jM9, jN0, qh8, qh9, qi0, qf8, qp2, qp3⟩ := qa9 HR0.out qb3 qN6 qN7
            cases jN0
            replace qh8 := (HB.out.cell (World.block_lt_of_cell? w _ qh8)).trans qh8
            replace qh9 := (HB.out.cell (World.block_lt_of_cell? w _ qh9)).trans qh9
            replace qi0 := (HB.out.cell (World.block_lt_of_cell? w _ qi0)).trans qi0
            replace qf8 := (HB.out.cell (World.block_lt_of_cell? w _ qf8)).trans qf8
            have jo3 := q8.mk qp3
            have jo4 := q8.mk qp2
            clear qp3 qp2
            replace qN6 := eq_true qN6
            replace qN7 := eq_true qN7
            have qY2 : 0 ≤ (qb3 : Int) := of_decide_eq_true (by first | (with_reducible assumption) | assumption)
            have qY3 : qb3 < (l0.length : Int) := of_decide_eq_true (by first | (with_reducible assumption) | assumption)
            obtain ⟨jw6, zh7, zh8, zh9, qn1, qn2, qn3, qi1, qw8, qw9⟩ := qa9 HR0.out qb3 qY2 qY3
            obtain rfl : jl2 = jw6 := (by injection zh9)
            replace qn1 := (HB.out.cell (World.block_lt_of_cell? w _ qn1)).trans qn1
            replace qn2 := (HB.out.cell (World.block_lt_of_cell? w _ qn2)).trans qn2
            replace qn3 := (HB.out.cell (World.block_lt_of_cell? w _ qn3)).trans qn3
            replace qi1 := (HB.out.cell (World.block_lt_of_cell? w _ qi1)).trans qi1
            have qN8 := q8.mk qw9
            have jN1 := q8.mk qw8
            clear qw9 qw8
            replace qY2 := eq_true qY2
            replace qY3 := eq_true qY3
            have ea_ := Option.some.inj (qf8.symm.trans qi1)
            injection ea_ with ea_ en_ ec_
            subst ea_
            subst ec_
            clear en_
            have qY4 : 0 ≤ (qk4 : Int) := of_decide_eq_true (by first | (with_reducible assumption) | assumption)
            have qY5 : qk4 < (((qD l0 qb3).f3).length : Int) := of_decide_eq_true (by first | (with_reducible assumption) | assumption)
            obtain ⟨zF7, zi0, qi2, qn4, qn5⟩ := qt7 qN8.out qk4 qY4 qY5
            (try rw [← zS3.out] at qi2)
            cases zi0
            replace qi2 := (HB.out.cell (World.block_lt_of_cell? w _ qi2)).trans qi2
            replace qn4 := (HB.out.cell (World.block_lt_of_cell? w _ qn4)).trans qn4
            replace qn5 := (HB.out.cell (World.block_lt_of_cell? w _ qn5)).trans qn5
            replace qY4 := eq_true qY4
            replace qY5 := eq_true qY5
            go_wp2_with (first | ((with_reducible refine qa1 (N := 9) rfl ?_); refine qb0 ?hg (N := 9) ?hd (cs := #[.bool false, .int .i64 0, .int .i64 0]) (t := 51) ?hr ?_; (case hd => rfl); (case hg => rfl); (case hr => first | (go_simp; done) | (go_simp; rfl)); intro qq7 hg w17 qb7 hb; have n0_ := q8.mk (jM (by repeat (first | (with_reducible first | exact HB.out | apply qA | apply q9 | apply qB) | exact HB.out)) hb); have n1_ := q8.mk (qb7); have n2_ := q8.mk ((by rw [hg]; exact (qM (by repeat (first | (with_reducible first | exact HB.out | apply qA | apply q9 | apply qB) | exact HB.out))) : w.heap.size ≤ qq7)); have n3_ := q8.mk ((by rw [hg]; exact (qM (by repeat (first | (with_reducible first | exact HB.out | apply qA | apply q9 | apply qB) | exact HB.out))) : w.heap.size ≤ qq7)); clear HB; have HB := n0_; have qm1 := n1_; have zF8 := n2_; have jw7 := n3_; clear n0_ n1_ n2_ n3_; clear hb qb7 hg; have jn7 : w17.cell? ⟨qq7, 0, none⟩ = some (.bool false) := (qE qm1.out 0).trans rfl; have jn8 : w17.cell? ⟨qq7, 1, none⟩ = some (.int .i64 0) := (qE qm1.out 1).trans rfl; have jn9 : w17.cell? ⟨qq7, 2, none⟩ = some (.int .i64 0) := (qE qm1.out 2).trans rfl; have jo0 := qC qm1.out 0; have jo1 := qC qm1.out 1; have jo2 := qC qm1.out 2))
            go_roundg k2
            case measure => have := HK1.out; have := HK2.out; omega
            case rel => exact ⟨(wrap64 (qk4 + 1)), (by first | rfl | (simp; done) | (simp [*]; done)), H', ⟨by have := HK1.out; have := HK2.out; omega⟩, ⟨by repeat (first | (with_reducible first | exact HB.out | apply qA | apply q9 | apply qB | refine qK ?_ jw7.out) | exact HB.out)⟩⟩
          ·replace c10 := Bool.eq_false_iff.mpr c10
           subst c10
           have H1 : (qZ.l1 k2 l0 a1 a2 qb3 (wrap64 (qk4 + 1))) = some r := by rw [if_neg (show ¬ (false = true) by decide)] at H; exact H
           clear H
           have H := H1
           clear H1
           have H' := q8.mk H
           clear H
           have qN6 : 0 ≤ (qb3 : Int) := of_decide_eq_true (by first | (with_reducible assumption) | assumption)
           have qN7 : qb3 < (l0.length : Int) := of_decide_eq_true (by first | (with_reducible assumption) | assumption)
           obtain ⟨jl2, jM8, jM9, jN0, qh8, qh9, qi0, qf8, qp2, qp3⟩ := qa9 HR0.out qb3 qN6 qN7
           cases jN0
           replace qh8 := (HB.out.cell (World.block_lt_of_cell? w _ qh8)).trans qh8
           replace qh9 := (HB.out.cell (World.block_lt_of_cell? w _ qh9)).trans qh9
           replace qi0 := (HB.out.cell (World.block_lt_of_cell? w _ qi0)).trans qi0
           replace qf8 := (HB.out.cell (World.block_lt_of_cell? w _ qf8)).trans qf8
           have jo3 := q8.mk qp3
           have jo4 := q8.mk qp2
           clear qp3 qp2
           replace qN6 := eq_true qN6
           replace qN7 := eq_true qN7
           have qY2 : 0 ≤ (qb3 : Int) := of_decide_eq_true (by first | (with_reducible assumption) | assumption)
           have qY3 : qb3 < (l0.length : Int) := of_decide_eq_true (by first | (with_reducible assumption) | assumption)
           obtain ⟨jw6, zh7, zh8, zh9, qn1, qn2, qn3, qi1, qw8, qw9⟩ := qa9 HR0.out qb3 qY2 qY3
           obtain rfl : jl2 = jw6 := (by injection zh9)
           replace qn1 := (HB.out.cell (World.block_lt_of_cell? w _ qn1)).trans qn1
           replace qn2 := (HB.out.cell (World.block_lt_of_cell? w _ qn2)).trans qn2
           replace qn3 := (HB.out.cell (World.block_lt_of_cell? w _ qn3)).trans qn3
           replace qi1 := (HB.out.cell (World.block_lt_of_cell? w _ qi1)).trans qi1
           have qN8 := q8.mk qw9
           have jN1 := q8.mk qw8
           clear qw9 qw8
           replace qY2 := eq_true qY2
           replace qY3 := eq_true qY3
           have ea_ := Option.some.inj (qf8.symm.trans qi1)
           injection ea_ with ea_ en_ ec_
           subst ea_
           subst ec_
           clear en_
           have qY4 : 0 ≤ (qk4 : Int) := of_decide_eq_true (by first | (with_reducible assumption) | assumption)
           have qY5 : qk4 < (((qD l0 qb3).f3).length : Int) := of_decide_eq_true (by first | (with_reducible assumption) | assumption)
           obtain ⟨zF7, zi0, qi2, qn4, qn5⟩ := qt7 qN8.out qk4 qY4 qY5
           (try rw [← zS3.out] at qi2)
           cases zi0
           replace qi2 := (HB.out.cell (World.block_lt_of_cell? w _ qi2)).trans qi2
           replace qn4 := (HB.out.cell (World.block_lt_of_cell? w _ qn4)).trans qn4
           replace qn5 := (HB.out.cell (World.block_lt_of_cell? w _ qn5)).trans qn5
           replace qY4 := eq_true qY4
           replace qY5 := eq_true qY5
           go_wp2_with (first | ((with_reducible refine qa1 (N := 9) rfl ?_); refine qb0 ?hg (N := 9) ?hd (cs := #[.bool false, .int .i64 0, .int .i64 0]) (t := 51) ?hr ?_; (case hd => rfl); (case hg => rfl); (case hr => first | (go_simp; done) | (go_simp; rfl)); intro qq7 hg w19 qb7 hb; have n0_ := q8.mk (jM (by repeat (first | (with_reducible first | exact HB.out | apply qA | apply q9 | apply qB) | exact HB.out)) hb); have n1_ := q8.mk (qb7); have n2_ := q8.mk ((by rw [hg]; exact (qM (by repeat (first | (with_reducible first | exact HB.out | apply qA | apply q9 | apply qB) | exact HB.out))) : w.heap.size ≤ qq7)); have n3_ := q8.mk ((by rw [hg]; exact (qM (by repeat (first | (with_reducible first | exact HB.out | apply qA | apply q9 | apply qB) | exact HB.out))) : w.heap.size ≤ qq7)); clear HB; have HB := n0_; have qm1 := n1_; have zF8 := n2_; have jw7 := n3_; clear n0_ n1_ n2_ n3_; clear hb qb7 hg; have QE4 : w19.cell? ⟨qq7, 0, none⟩ = some (.bool false) := (qE qm1.out 0).trans rfl; have QE5 : w19.cell? ⟨qq7, 1, none⟩ = some (.int .i64 0) := (qE qm1.out 1).trans rfl; have QE6 : w19.cell? ⟨qq7, 2, none⟩ = some (.int .i64 0) := (qE qm1.out 2).trans rfl; have QE7 := qC qm1.out 0; have QE8 := qC qm1.out 1; have QE9 := qC qm1.out 2))
           go_roundg k2
           case measure => have := HK1.out; have := HK2.out; omega
           case rel => exact ⟨(wrap64 (qk4 + 1)), (by first | rfl | (simp; done) | (simp [*]; done)), H', ⟨by have := HK1.out; have := HK2.out; omega⟩, ⟨by repeat (first | (with_reducible first | exact HB.out | apply qA | apply q9 | apply qB | refine qK ?_ jw7.out) | exact HB.out)⟩⟩
         ·rw [if_neg c8] at H
          exact absurd H (by simp)
        ·rw [if_neg c7] at H
         have zK3 : decide (qk4 < (((qD l0 qb3).f3).length : Int)) = false := decide_eq_false c7
         clear c7
         have H' := q8.mk H
         clear H
         have qN6 : 0 ≤ (qb3 : Int) := of_decide_eq_true (by first | (with_reducible assumption) | assumption)
         have qN7 : qb3 < (l0.length : Int) := of_decide_eq_true (by first | (with_reducible assumption) | assumption)
         obtain ⟨jl2, jM8, jM9, jN0, qh8, qh9, qi0, qf8, qp2, qp3⟩ := qa9 HR0.out qb3 qN6 qN7
         cases jN0
         replace qh8 := (HB.out.cell (World.block_lt_of_cell? w _ qh8)).trans qh8
         replace qh9 := (HB.out.cell (World.block_lt_of_cell? w _ qh9)).trans qh9
         replace qi0 := (HB.out.cell (World.block_lt_of_cell? w _ qi0)).trans qi0
         replace qf8 := (HB.out.cell (World.block_lt_of_cell? w _ qf8)).trans qf8
         have jo3 := q8.mk qp3
         have jo4 := q8.mk qp2
         clear qp3 qp2
         replace qN6 := eq_true qN6
         replace qN7 := eq_true qN7
         go_wp2
         go_roundg k2
         case measure => have := HK1.out; have := HK2.out; omega
         case rel => exact ⟨(wrap64 (qb3 + 1)), (by first | rfl | (simp; done) | (simp [*]; done)), H', ⟨by have := HK1.out; have := HK2.out; omega⟩, ⟨by repeat (first | (with_reducible first | exact HB.out | apply qA | apply q9 | apply qB) | exact HB.out)⟩⟩
       ·rw [if_neg c6] at H
        exact absurd H (by simp)
      ·rw [if_neg c5] at H
       exact absurd H (by simp)
   ·rw [if_neg c4] at H
    have qF0 : decide (qb3 < (l0.length : Int)) = false := decide_eq_false c4
    clear c4
    obtain rfl := Option.some.inj H
    go_wp2
    go_ret
    exact ⟨by first | rfl | (simp [jI, jJ] <;> rfl) | (simp [*, jI, jJ] <;> rfl), by repeat (first | (with_reducible first | exact HB.out | apply qA | apply q9 | apply qB) | exact HB.out)⟩
def qd4.f (zG : Bool) (jU : Int) (jR : Int) : Option (Bool) := if jU < 0 then (some false) else (if jU > 63 then (some false) else (if jR < 0 then (some false) else (if jR > 2147483647 then (some false) else (if zG = true then (some (jR != 0)) else (some true)))))
set_option maxHeartbeats 8000000 in
set_option maxRecDepth 100000 in
theorem qd4.calls (zG : Bool) (jU : Int) (jR : Int) (r : Bool) (w : World) (h : qd4.f zG jU jR = some r) :
  Calls Try.prog 83 #[.agg #[.bool zG, .int .i64 jU, .int .i64 jR]] w fun e w' => e = .returned (.bool r) ∧ Below w.heap.size w w' := by
 have zz0 := Try.underlying51
 have HB := q8.mk (Below.refl w.heap.size w)
 have H : (if jU < 0 then (some false) else (if jU > 63 then (some false) else (if jR < 0 then (some false) else (if jR > 2147483647 then (some false) else (if zG = true then (some (jR != 0)) else (some true)))))) = some r := h
 clear h
 by_cases c2 : jU < 0
 ·rw [if_pos c2] at H
  have zh4 : decide (jU < 0) = true := decide_eq_true c2
  clear c2
  obtain rfl := Option.some.inj H
  go_enter Try.func83, Try.ntmps83
  go_wp2_with (first | ((with_reducible refine qa1 (N := 1) rfl ?_); refine qb0 ?hg (N := 1) ?hd (cs := #[.bool zG, .int .i64 jU, .int .i64 jR]) (t := 51) ?hr ?_; (case hd => rfl); (case hg => rfl); (case hr => first | (go_simp; done) | (go_simp; rfl)); intro qg5 hg w3 qb7 hb; have n0_ := q8.mk (jM (by repeat (first | (with_reducible first | exact HB.out | apply qA | apply q9 | apply qB) | exact HB.out)) hb); have n1_ := q8.mk (qb7); have n2_ := q8.mk ((by rw [hg]; exact (qM (by repeat (first | (with_reducible first | exact HB.out | apply qA | apply q9 | apply qB) | exact HB.out))) : w.heap.size ≤ qg5)); have n3_ := q8.mk ((by rw [hg]; exact (qM (by repeat (first | (with_reducible first | exact HB.out | apply qA | apply q9 | apply qB) | exact HB.out))) : w.heap.size ≤ qg5)); clear HB; have HB := n0_; have qe9 := n1_; have jZ1 := n2_; have qR7 := n3_; clear n0_ n1_ n2_ n3_; clear hb qb7 hg; have Qh1 : w3.cell? ⟨qg5, 0, none⟩ = some (.bool zG) := (qE qe9.out 0).trans rfl; have Qh2 : w3.cell? ⟨qg5, 1, none⟩ = some (.int .i64 jU) := (qE qe9.out 1).trans rfl; have Qh3 : w3.cell? ⟨qg5, 2, none⟩ = some (.int .i64 jR) := (qE qe9.out 2).trans rfl; have Qh4 := qC qe9.out 0; have Qh5 := qC qe9.out 1; have Qh6 := qC qe9.out 2))
  go_ret
  exact ⟨by first | rfl | (simp [jI, jJ] <;> rfl) | (simp [*, jI, jJ] <;> rfl), by repeat (first | (with_reducible first | exact HB.out | apply qA | apply q9 | apply qB | refine qK ?_ qR7.out) | exact HB.out)⟩
 ·rw [if_neg c2] at H
  have zh4 : decide (jU < 0) = false := decide_eq_false c2
  clear c2
  by_cases c5 : jU > 63
  ·rw [if_pos c5] at H
   have jH8 : decide (63 < jU) = true := decide_eq_true c5
   clear c5
   obtain rfl := Option.some.inj H
   go_enter Try.func83, Try.ntmps83
   go_wp2_with (first | ((with_reducible refine qa1 (N := 1) rfl ?_); refine qb0 ?hg (N := 1) ?hd (cs := #[.bool zG, .int .i64 jU, .int .i64 jR]) (t := 51) ?hr ?_; (case hd => rfl); (case hg => rfl); (case hr => first | (go_simp; done) | (go_simp; rfl)); intro qg5 hg w6 qb7 hb; have n0_ := q8.mk (jM (by repeat (first | (with_reducible first | exact HB.out | apply qA | apply q9 | apply qB) | exact HB.out)) hb); have n1_ := q8.mk (qb7); have n2_ := q8.mk ((by rw [hg]; exact (qM (by repeat (first | (with_reducible first | exact HB.out | apply qA | apply q9 | apply qB) | exact HB.out))) : w.heap.size ≤ qg5)); have n3_ := q8.mk ((by rw [hg]; exact (qM (by repeat (first | (with_reducible first | exact HB.out | apply qA | apply q9 | apply qB) | exact HB.out))) : w.heap.size ≤ qg5)); clear HB; have HB := n0_; have qe9 := n1_; have jZ1 := n2_; have qR7 := n3_; clear n0_ n1_ n2_ n3_; clear hb qb7 hg; have qX6 : w6.cell? ⟨qg5, 0, none⟩ = some (.bool zG) := (qE qe9.out 0).trans rfl; have qX7 : w6.cell? ⟨qg5, 1, none⟩ = some (.int .i64 jU) := (qE qe9.out 1).trans rfl; have qX8 : w6.cell? ⟨qg5, 2, none⟩ = some (.int .i64 jR) := (qE qe9.out 2).trans rfl; have qX9 := qC qe9.out 0; have qY0 := qC qe9.out 1; have qY1 := qC qe9.out 2))
   go_ret
   exact ⟨by first | rfl | (simp [jI, jJ] <;> rfl) | (simp [*, jI, jJ] <;> rfl), by repeat (first | (with_reducible first | exact HB.out | apply qA | apply q9 | apply qB | refine qK ?_ qR7.out) | exact HB.out)⟩
  ·rw [if_neg c5] at H
   have jH8 : decide (63 < jU) = false := decide_eq_false c5
   clear c5
   by_cases c8 : jR < 0
   ·rw [if_pos c8] at H
    have qW2 : decide (jR < 0) = true := decide_eq_true c8
    clear c8
    obtain rfl := Option.some.inj H
    go_enter Try.func83, Try.ntmps83
    go_wp2_with (first | ((with_reducible refine qa1 (N := 1) rfl ?_); refine qb0 ?hg (N := 1) ?hd (cs := #[.bool zG, .int .i64 jU, .int .i64 jR]) (t := 51) ?hr ?_; (case hd => rfl); (case hg => rfl); (case hr => first | (go_simp; done) | (go_simp; rfl)); intro qg5 hg w9 qb7 hb; have n0_ := q8.mk (jM (by repeat (first | (with_reducible first | exact HB.out | apply qA | apply q9 | apply qB) | exact HB.out)) hb); have n1_ := q8.mk (qb7); have n2_ := q8.mk ((by rw [hg]; exact (qM (by repeat (first | (with_reducible first | exact HB.out | apply qA | apply q9 | apply qB) | exact HB.out))) : w.heap.size ≤ qg5)); have n3_ := q8.mk ((by rw [hg]; exact (qM (by repeat (first | (with_reducible first | exact HB.out | apply qA | apply q9 | apply qB) | exact HB.out))) : w.heap.size ≤ qg5)); clear HB; have HB := n0_; have qe9 := n1_; have jZ1 := n2_; have qR7 := n3_; clear n0_ n1_ n2_ n3_; clear hb qb7 hg; have zQ9 : w9.cell? ⟨qg5, 0, none⟩ = some (.bool zG) := (qE qe9.out 0).trans rfl; have zR0 : w9.cell? ⟨qg5, 1, none⟩ = some (.int .i64 jU) := (qE qe9.out 1).trans rfl; have zR1 : w9.cell? ⟨qg5, 2, none⟩ = some (.int .i64 jR) := (qE qe9.out 2).trans rfl; have zR2 := qC qe9.out 0; have zR3 := qC qe9.out 1; have zR4 := qC qe9.out 2))
    go_ret
    exact ⟨by first | rfl | (simp [jI, jJ] <;> rfl) | (simp [*, jI, jJ] <;> rfl), by repeat (first | (with_reducible first | exact HB.out | apply qA | apply q9 | apply qB | refine qK ?_ qR7.out) | exact HB.out)⟩
   ·rw [if_neg c8] at H
    have qW2 : decide (jR < 0) = false := decide_eq_false c8
    clear c8
    by_cases c11 : jR > 2147483647
    ·rw [if_pos c11] at H
     have jB9 : decide (2147483647 < jR) = true := decide_eq_true c11
     clear c11
     obtain rfl := Option.some.inj H
     go_enter Try.func83, Try.ntmps83
     go_wp2_with (first | ((with_reducible refine qa1 (N := 1) rfl ?_); refine qb0 ?hg (N := 1) ?hd (cs := #[.bool zG, .int .i64 jU, .int .i64 jR]) (t := 51) ?hr ?_; (case hd => rfl); (case hg => rfl); (case hr => first | (go_simp; done) | (go_simp; rfl)); intro qg5 hg w12 qb7 hb; have n0_ := q8.mk (jM (by repeat (first | (with_reducible first | exact HB.out | apply qA | apply q9 | apply qB) | exact HB.out)) hb); have n1_ := q8.mk (qb7); have n2_ := q8.mk ((by rw [hg]; exact (qM (by repeat (first | (with_reducible first | exact HB.out | apply qA | apply q9 | apply qB) | exact HB.out))) : w.heap.size ≤ qg5)); have n3_ := q8.mk ((by rw [hg]; exact (qM (by repeat (first | (with_reducible first | exact HB.out | apply qA | apply q9 | apply qB) | exact HB.out))) : w.heap.size ≤ qg5)); clear HB; have HB := n0_; have qe9 := n1_; have jZ1 := n2_; have qR7 := n3_; clear n0_ n1_ n2_ n3_; clear hb qb7 hg; have qM7 : w12.cell? ⟨qg5, 0, none⟩ = some (.bool zG) := (qE qe9.out 0).trans rfl; have qM8 : w12.cell? ⟨qg5, 1, none⟩ = some (.int .i64 jU) := (qE qe9.out 1).trans rfl; have qM9 : w12.cell? ⟨qg5, 2, none⟩ = some (.int .i64 jR) := (qE qe9.out 2).trans rfl; have qN0 := qC qe9.out 0; have qN1 := qC qe9.out 1; have qN2 := qC qe9.out 2))
     go_ret
     exact ⟨by first | rfl | (simp [jI, jJ] <;> rfl) | (simp [*, jI, jJ] <;> rfl), by repeat (first | (with_reducible first | exact HB.out | apply qA | apply q9 | apply qB | refine qK ?_ qR7.out) | exact HB.out)⟩
    ·rw [if_neg c11] at H
     have jB9 : decide (2147483647 < jR) = false := decide_eq_false c11
     clear c11
     by_cases c14 : zG = true
     ·subst c14
      have H1 : (some (jR != 0)) = some r := by rw [if_pos rfl] at H; exact H
      clear H
      have H := H1
      clear H1
      obtain rfl := Option.some.inj H
      go_enter Try.func83, Try.ntmps83
      go_wp2_with (first | ((with_reducible refine qa1 (N := 1) rfl ?_); refine qb0 ?hg (N := 1) ?hd (cs := #[.bool true, .int .i64 jU, .int .i64 jR]) (t := 51) ?hr ?_; (case hd => rfl); (case hg => rfl); (case hr => first | (go_simp; done) | (go_simp; rfl)); intro qg5 hg w15 qb7 hb; have n0_ := q8.mk (jM (by repeat (first | (with_reducible first | exact HB.out | apply qA | apply q9 | apply qB) | exact HB.out)) hb); have n1_ := q8.mk (qb7); have n2_ := q8.mk ((by rw [hg]; exact (qM (by repeat (first | (with_reducible first | exact HB.out | apply qA | apply q9 | apply qB) | exact HB.out))) : w.heap.size ≤ qg5)); have n3_ := q8.mk ((by rw [hg]; exact (qM (by repeat (first | (with_reducible first | exact HB.out | apply qA | apply q9 | apply qB) | exact HB.out))) : w.heap.size ≤ qg5)); clear HB; have HB := n0_; have qe9 := n1_; have jZ1 := n2_; have qR7 := n3_; clear n0_ n1_ n2_ n3_; clear hb qb7 hg; have qG5 : w15.cell? ⟨qg5, 0, none⟩ = some (.bool true) := (qE qe9.out 0).trans rfl; have qG6 : w15.cell? ⟨qg5, 1, none⟩ = some (.int .i64 jU) := (qE qe9.out 1).trans rfl; have qG7 : w15.cell? ⟨qg5, 2, none⟩ = some (.int .i64 jR) := (qE qe9.out 2).trans rfl; have qG8 := qC qe9.out 0; have qG9 := qC qe9.out 1; have qH0 := qC qe9.out 2))
      go_ret
      exact ⟨by first | rfl | (simp [jI, jJ] <;> rfl) | (simp [*, jI, jJ] <;> rfl), by repeat (first | (with_reducible first | exact HB.out | apply qA | apply q9 | apply qB | refine qK ?_ qR7.out) | exact HB.out)⟩
     ·replace c14 := Bool.eq_false_iff.mpr c14
      subst c14
      have H1 : (some true) = some r := by rw [if_neg (show ¬ (false = true) by decide)] at H; exact H
      clear H
      have H := H1
      clear H1
      obtain rfl := Option.some.inj H
      go_enter Try.func83, Try.ntmps83
      go_wp2_with (first | ((with_reducible refine qa1 (N := 1) rfl ?_); refine qb0 ?hg (N := 1) ?hd (cs := #[.bool false, .int .i64 jU, .int .i64 jR]) (t := 51) ?hr ?_; (case hd => rfl); (case hg => rfl); (case hr => first | (go_simp; done) | (go_simp; rfl)); intro qg5 hg w17 qb7 hb; have n0_ := q8.mk (jM (by repeat (first | (with_reducible first | exact HB.out | apply qA | apply q9 | apply qB) | exact HB.out)) hb); have n1_ := q8.mk (qb7); have n2_ := q8.mk ((by rw [hg]; exact (qM (by repeat (first | (with_reducible first | exact HB.out | apply qA | apply q9 | apply qB) | exact HB.out))) : w.heap.size ≤ qg5)); have n3_ := q8.mk ((by rw [hg]; exact (qM (by repeat (first | (with_reducible first | exact HB.out | apply qA | apply q9 | apply qB) | exact HB.out))) : w.heap.size ≤ qg5)); clear HB; have HB := n0_; have qe9 := n1_; have jZ1 := n2_; have qR7 := n3_; clear n0_ n1_ n2_ n3_; clear hb qb7 hg; have jn7 : w17.cell? ⟨qg5, 0, none⟩ = some (.bool false) := (qE qe9.out 0).trans rfl; have jn8 : w17.cell? ⟨qg5, 1, none⟩ = some (.int .i64 jU) := (qE qe9.out 1).trans rfl; have jn9 : w17.cell? ⟨qg5, 2, none⟩ = some (.int .i64 jR) := (qE qe9.out 2).trans rfl; have jo0 := qC qe9.out 0; have jo1 := qC qe9.out 1; have jo2 := qC qe9.out 2))
      go_ret
      exact ⟨by first | rfl | (simp [jI, jJ] <;> rfl) | (simp [*, jI, jJ] <;> rfl), by repeat (first | (with_reducible first | exact HB.out | apply qA | apply q9 | apply qB | refine qK ?_ qR7.out) | exact HB.out)⟩
end Go.Proofs.Ytngkneknopenmaa.K
end
section
namespace Go.Proofs.Ytngkneknopenmaa.K
open Go.Proofs.Ytngkneknopenmaa
open Go.RowKit Go.Proofs.YtngkneknopenmaaW.PrintWords Go.Proofs.YtngkneknopenmaaW.qi5 Go.Proofs.YtngkneknopenmaaW.ql6
attribute [local go_sem] qs6 qs7 qy1 qy2 qo3 qo4 qs8 qs9   -- for this text's walks alone
set_option linter.unusedVariables false
set_option linter.unusedSimpArgs false
mutual
def qN.j0 : Nat → Bool → Int → Int → Int → List (S51) → Option (Bool)
 | 0, _, _, _, _, _ => none
 | k + 1, x40, x110000, x110001, x110002, x110003 => if x40 = true then (some false) else (qN.l0 k 0 x110000 x110001 x110002 x110003)
def qN.l0 : Nat → Int → Int → Int → Int → List (S51) → Option (Bool)
 | 0, _, _, _, _, _ => none
 | k + 1, x3, x110000, x110001, x110002, x110003 => if x3 < (x110003.length : Int) then (if 0 ≤ x3 then ((qd4.f ((qG x110003 x3).f0) ((qG x110003 x3).f1) ((qG x110003 x3).f2)).bind fun t111 => (if t111 = true then (qN.l0 k (wrap64 (x3 + 1)) x110000 x110001 x110002 x110003) else (some false))) else (none)) else (some true)
end
def qN.f (k : Nat) (zG : Int) (jU : Int) (jR : Int) (jN : List (S51)) : Option (Bool) := if zG < 0 then (qN.j0 k true zG jU jR jN) else (if zG > 63 then (qN.j0 k true zG jU jR jN) else (if jU < 0 then (qN.j0 k true zG jU jR jN) else (if jU ≥ jR then (qN.j0 k true zG jU jR jN) else (if jR > 2147483647 then (qN.j0 k true zG jU jR jN) else (if (jN.length : Int) < 1 then (qN.j0 k true zG jU jR jN) else (qN.j0 k (decide ((jN.length : Int) > 64)) zG jU jR jN))))))
set_option maxHeartbeats 8000000 in
set_option maxRecDepth 100000 in
theorem qN.calls (k : Nat) (zG : Int) (jU : Int) (jR : Int) (qw6 : Option Addr) (qn0 : Nat) (jN : List (S51)) (r : Bool) (w : World) (jY7 : Kd.C k51 w qw6 jN.length jN) (jY8 : jN.length ≤ qn0) (h : qN.f k zG jU jR jN = some r) :
  Calls Try.prog 64 #[.agg #[.int .i64 zG, .int .i64 jU, .int .i64 jR, .slice qw6 jN.length qn0]] w fun e w' => e = .returned (.bool r) ∧ Below w.heap.size w w' := by
 have zI6 := Try.underlying55
 have zz0 := Try.underlying51
 have jY9 := q8.mk jY7
 have Qr1 := q8.mk jY8
 clear jY7 jY8
 have HB := q8.mk (Below.refl w.heap.size w)
 have H : (if zG < 0 then (qN.j0 k true zG jU jR jN) else (if zG > 63 then (qN.j0 k true zG jU jR jN) else (if jU < 0 then (qN.j0 k true zG jU jR jN) else (if jU ≥ jR then (qN.j0 k true zG jU jR jN) else (if jR > 2147483647 then (qN.j0 k true zG jU jR jN) else (if (jN.length : Int) < 1 then (qN.j0 k true zG jU jR jN) else (qN.j0 k (decide ((jN.length : Int) > 64)) zG jU jR jN))))))) = some r := h
 clear h
 have HC2 := q8.mk H
 clear H
 go_enter Try.func64, Try.ntmps64
 go_upto_region 1 with (first | ((with_reducible refine qa1 (N := 1) rfl ?_); (try (refine qM6 (by rfl) ?_; dsimp only)); refine qb0 ?hg (N := 1) ?hd (cs := #[.int .i64 zG, .int .i64 jU, .int .i64 jR, .slice qw6 jN.length qn0]) (t := 55) ?hr ?_; (case hd => rfl); (case hg => rfl); (case hr => first | (go_simp; done) | (go_simp; rfl)); intro qd5 hg w3 qb7 hb; have n0_ := q8.mk (jM (by repeat (first | (with_reducible first | exact HB.out | apply qA | apply q9 | apply qB) | exact HB.out)) hb); have n1_ := q8.mk (qb7); have n2_ := q8.mk ((by rw [hg]; exact (qM (by repeat (first | (with_reducible first | exact HB.out | apply qA | apply q9 | apply qB) | exact HB.out))) : w.heap.size ≤ qd5)); have n3_ := q8.mk ((by rw [hg]; exact (qM (by repeat (first | (with_reducible first | exact HB.out | apply qA | apply q9 | apply qB) | exact HB.out))) : w.heap.size ≤ qd5)); clear HB; have HB := n0_; have jV := n1_; have GW109 := n2_; have qH1 := n3_; clear n0_ n1_ n2_ n3_; clear hb qb7 hg))
 (try simp only [Act.put, List.setIfInBounds_toArray, List.set_cons_zero, List.set_cons_succ])
 go_cut [40] (fun v40 wc => ∃ (kq : Nat) (zo1 : Bool), v40 = .bool zo1 ∧ q8 (qN.j0 kq zo1 zG jU jR jN = some r) ∧ q8 (kq ≤ k) ∧ q8 (wc.heap[qd5]? = some (.cells #[.int .i64 zG, .int .i64 jU, .int .i64 jR, (.slice qw6 jN.length qn0)] 55 (0, 0))) ∧ q8 (Below w.heap.size w wc))
 case first =>
  have H := HC2.out
  clear HC2
  by_cases c4 : zG < 0
  ·rw [if_pos c4] at H
   have qF0 : decide (zG < 0) = true := decide_eq_true c4
   clear c4
   (first | rw [qF0] | (simp only [qa2, qa3]; rw [qF0]) | skip)
   have H' := q8.mk H
   clear H
   have ju7 : w3.cell? ⟨qd5, 0, none⟩ = some (.int .i64 zG) := (qE jV.out 0).trans rfl
   have ju8 : w3.cell? ⟨qd5, 1, none⟩ = some (.int .i64 jU) := (qE jV.out 1).trans rfl
   have ju9 : w3.cell? ⟨qd5, 2, none⟩ = some (.int .i64 jR) := (qE jV.out 2).trans rfl
   have jv0 : w3.cell? ⟨qd5, 3, none⟩ = some (.slice qw6 jN.length qn0) := (qE jV.out 3).trans rfl
   have jv1 := qC jV.out 0
   have jv2 := qC jV.out 1
   have jv3 := qC jV.out 2
   have jv4 := qC jV.out 3
   go_wp2
   go_meet
   case rel => exact ⟨_, (true), (by first | rfl | (simp; done) | (simp [*]; done)), H', ⟨by first | omega | exact Nat.le_refl _⟩, ⟨by (with_reducible repeat (first | refine qI ?_ _ | refine qR ?_ | refine qJ ?_ _)); exact jV.out⟩, ⟨by repeat (first | (with_reducible first | exact HB.out | apply qA | apply q9 | apply qB | refine qK ?_ qH1.out) | exact HB.out)⟩⟩
  ·rw [if_neg c4] at H
   have qF0 : decide (zG < 0) = false := decide_eq_false c4
   clear c4
   (first | rw [qF0] | (simp only [qa2, qa3]; rw [qF0]) | skip)
   by_cases c6 : zG > 63
   ·rw [if_pos c6] at H
    have jl4 : decide (63 < zG) = true := decide_eq_true c6
    clear c6
    have H' := q8.mk H
    clear H
    have qX6 : w3.cell? ⟨qd5, 0, none⟩ = some (.int .i64 zG) := (qE jV.out 0).trans rfl
    have qX7 : w3.cell? ⟨qd5, 1, none⟩ = some (.int .i64 jU) := (qE jV.out 1).trans rfl
    have qX8 : w3.cell? ⟨qd5, 2, none⟩ = some (.int .i64 jR) := (qE jV.out 2).trans rfl
    have jv5 : w3.cell? ⟨qd5, 3, none⟩ = some (.slice qw6 jN.length qn0) := (qE jV.out 3).trans rfl
    have qX9 := qC jV.out 0
    have qY0 := qC jV.out 1
    have qY1 := qC jV.out 2
    have jv6 := qC jV.out 3
    go_wp2
    go_meet
    case rel => exact ⟨_, (true), (by first | rfl | (simp; done) | (simp [*]; done)), H', ⟨by first | omega | exact Nat.le_refl _⟩, ⟨by (with_reducible repeat (first | refine qI ?_ _ | refine qR ?_ | refine qJ ?_ _)); exact jV.out⟩, ⟨by repeat (first | (with_reducible first | exact HB.out | apply qA | apply q9 | apply qB | refine qK ?_ qH1.out) | exact HB.out)⟩⟩
   ·rw [if_neg c6] at H
    have jl4 : decide (63 < zG) = false := decide_eq_false c6
    clear c6
    by_cases c8 : jU < 0
    ·rw [if_pos c8] at H
     have qW2 : decide (jU < 0) = true := decide_eq_true c8
     clear c8
     have H' := q8.mk H
     clear H
     have jv7 : w3.cell? ⟨qd5, 0, none⟩ = some (.int .i64 zG) := (qE jV.out 0).trans rfl
     have jv8 : w3.cell? ⟨qd5, 1, none⟩ = some (.int .i64 jU) := (qE jV.out 1).trans rfl
     have jv9 : w3.cell? ⟨qd5, 2, none⟩ = some (.int .i64 jR) := (qE jV.out 2).trans rfl
     have jw0 : w3.cell? ⟨qd5, 3, none⟩ = some (.slice qw6 jN.length qn0) := (qE jV.out 3).trans rfl
     have jw1 := qC jV.out 0
     have jw2 := qC jV.out 1
     have jw3 := qC jV.out 2
     have jw4 := qC jV.out 3
     go_wp2
     go_meet
     case rel => exact ⟨_, (true), (by first | rfl | (simp; done) | (simp [*]; done)), H', ⟨by first | omega | exact Nat.le_refl _⟩, ⟨by (with_reducible repeat (first | refine qI ?_ _ | refine qR ?_ | refine qJ ?_ _)); exact jV.out⟩, ⟨by repeat (first | (with_reducible first | exact HB.out | apply qA | apply q9 | apply qB | refine qK ?_ qH1.out) | exact HB.out)⟩⟩
    ·rw [if_neg c8] at H
     have qW2 : decide (jU < 0) = false := decide_eq_false c8
     clear c8
     by_cases c10 : jU ≥ jR
     ·rw [if_pos c10] at H
      have qQ0 : decide (jR ≤ jU) = true := decide_eq_true c10
      clear c10
      have H' := q8.mk H
      clear H
      have je8 : w3.cell? ⟨qd5, 0, none⟩ = some (.int .i64 zG) := (qE jV.out 0).trans rfl
      have je9 : w3.cell? ⟨qd5, 1, none⟩ = some (.int .i64 jU) := (qE jV.out 1).trans rfl
      have jf0 : w3.cell? ⟨qd5, 2, none⟩ = some (.int .i64 jR) := (qE jV.out 2).trans rfl
      have jf1 : w3.cell? ⟨qd5, 3, none⟩ = some (.slice qw6 jN.length qn0) := (qE jV.out 3).trans rfl
      have jf2 := qC jV.out 0
      have jf3 := qC jV.out 1
      have jf4 := qC jV.out 2
      have jf5 := qC jV.out 3
      go_wp2
      go_meet
      case rel => exact ⟨_, (true), (by first | rfl | (simp; done) | (simp [*]; done)), H', ⟨by first | omega | exact Nat.le_refl _⟩, ⟨by (with_reducible repeat (first | refine qI ?_ _ | refine qR ?_ | refine qJ ?_ _)); exact jV.out⟩, ⟨by repeat (first | (with_reducible first | exact HB.out | apply qA | apply q9 | apply qB | refine qK ?_ qH1.out) | exact HB.out)⟩⟩
     ·rw [if_neg c10] at H
      have qQ0 : decide (jR ≤ jU) = false := decide_eq_false c10
      clear c10
      by_cases c12 : jR > 2147483647
      ·rw [if_pos c12] at H
       have qI5 : decide (2147483647 < jR) = true := decide_eq_true c12
       clear c12
       have H' := q8.mk H
       clear H
       have qM7 : w3.cell? ⟨qd5, 0, none⟩ = some (.int .i64 zG) := (qE jV.out 0).trans rfl
       have qM8 : w3.cell? ⟨qd5, 1, none⟩ = some (.int .i64 jU) := (qE jV.out 1).trans rfl
       have qM9 : w3.cell? ⟨qd5, 2, none⟩ = some (.int .i64 jR) := (qE jV.out 2).trans rfl
       have jf6 : w3.cell? ⟨qd5, 3, none⟩ = some (.slice qw6 jN.length qn0) := (qE jV.out 3).trans rfl
       have qN0 := qC jV.out 0
       have qN1 := qC jV.out 1
       have qN2 := qC jV.out 2
       have jf7 := qC jV.out 3
       go_wp2
       go_meet
       case rel => exact ⟨_, (true), (by first | rfl | (simp; done) | (simp [*]; done)), H', ⟨by first | omega | exact Nat.le_refl _⟩, ⟨by (with_reducible repeat (first | refine qI ?_ _ | refine qR ?_ | refine qJ ?_ _)); exact jV.out⟩, ⟨by repeat (first | (with_reducible first | exact HB.out | apply qA | apply q9 | apply qB | refine qK ?_ qH1.out) | exact HB.out)⟩⟩
      ·rw [if_neg c12] at H
       have qI5 : decide (2147483647 < jR) = false := decide_eq_false c12
       clear c12
       by_cases c14 : (jN.length : Int) < 1
       ·rw [if_pos c14] at H
        have ja0 : decide ((jN.length : Int) < 1) = true := decide_eq_true c14
        have jw5 : decide (jN.length < 1) = true := decide_eq_true (by omega)
        clear c14
        have H' := q8.mk H
        clear H
        have jf8 : w3.cell? ⟨qd5, 0, none⟩ = some (.int .i64 zG) := (qE jV.out 0).trans rfl
        have jf9 : w3.cell? ⟨qd5, 1, none⟩ = some (.int .i64 jU) := (qE jV.out 1).trans rfl
        have jg0 : w3.cell? ⟨qd5, 2, none⟩ = some (.int .i64 jR) := (qE jV.out 2).trans rfl
        have jg1 : w3.cell? ⟨qd5, 3, none⟩ = some (.slice qw6 jN.length qn0) := (qE jV.out 3).trans rfl
        have jg2 := qC jV.out 0
        have jg3 := qC jV.out 1
        have jg4 := qC jV.out 2
        have jg5 := qC jV.out 3
        go_wp2
        go_meet
        case rel => exact ⟨_, (true), (by first | rfl | (simp; done) | (simp [*]; done)), H', ⟨by first | omega | exact Nat.le_refl _⟩, ⟨by (with_reducible repeat (first | refine qI ?_ _ | refine qR ?_ | refine qJ ?_ _)); exact jV.out⟩, ⟨by repeat (first | (with_reducible first | exact HB.out | apply qA | apply q9 | apply qB | refine qK ?_ qH1.out) | exact HB.out)⟩⟩
       ·rw [if_neg c14] at H
        have ja0 : decide ((jN.length : Int) < 1) = false := decide_eq_false c14
        have jw5 : decide (jN.length < 1) = false := decide_eq_false (by omega)
        clear c14
        have H' := q8.mk H
        clear H
        have qG5 : w3.cell? ⟨qd5, 0, none⟩ = some (.int .i64 zG) := (qE jV.out 0).trans rfl
        have qG6 : w3.cell? ⟨qd5, 1, none⟩ = some (.int .i64 jU) := (qE jV.out 1).trans rfl
        have qG7 : w3.cell? ⟨qd5, 2, none⟩ = some (.int .i64 jR) := (qE jV.out 2).trans rfl
        have jg6 : w3.cell? ⟨qd5, 3, none⟩ = some (.slice qw6 jN.length qn0) := (qE jV.out 3).trans rfl
        have qG8 := qC jV.out 0
        have qG9 := qC jV.out 1
        have qH0 := qC jV.out 2
        have jg7 := qC jV.out 3
        go_wp2
        go_meet
        case rel => exact ⟨_, (decide ((jN.length : Int) > 64)), (by first | rfl | (simp; done) | (simp [*]; done)), H', ⟨by first | omega | exact Nat.le_refl _⟩, ⟨by (with_reducible repeat (first | refine qI ?_ _ | refine qR ?_ | refine qJ ?_ _)); exact jV.out⟩, ⟨by repeat (first | (with_reducible first | exact HB.out | apply qA | apply q9 | apply qB | refine qK ?_ qH1.out) | exact HB.out)⟩⟩
 case rest =>
  clear HC2
  try clear c1
  try clear p2
  try clear c4
  try clear qF0
  try clear c6
  try clear jl4
  try clear c8
  try clear qW2
  try clear c10
  try clear qQ0
  try clear c12
  try clear qI5
  try clear c14
  try clear ja0
  try clear jw5
  try clear je8
  try clear je9
  try clear jf0
  try clear jf1
  try clear qM7
  try clear qM8
  try clear qM9
  try clear jf6
  try clear jf8
  try clear jf9
  try clear jg0
  try clear jg1
  try clear qG5
  try clear qG6
  try clear qG7
  try clear jg6
  try clear ju7
  try clear ju8
  try clear ju9
  try clear jv0
  try clear qX6
  try clear qX7
  try clear qX8
  try clear jv5
  try clear jv7
  try clear jv8
  try clear jv9
  try clear jw0
  try clear jf2
  try clear jf3
  try clear jf4
  try clear jf5
  try clear qN0
  try clear qN1
  try clear qN2
  try clear jf7
  try clear jg2
  try clear jg3
  try clear jg4
  try clear jg5
  try clear qG8
  try clear qG9
  try clear qH0
  try clear jg7
  try clear jv1
  try clear jv2
  try clear jv3
  try clear jv4
  try clear qX9
  try clear qY0
  try clear qY1
  try clear jv6
  try clear jw1
  try clear jw2
  try clear jw3
  try clear jw4
  obtain ⟨kq, zo1, rfl, HA, HJ1, jV, HB⟩ := hcut
  cases kq with
  | zero => exact absurd HA.out (by simp [qN.j0])
  | succ kj1 =>
   have H := HA.out
   clear HA
   simp only [qN.j0] at H
   by_cases c17 : zo1 = true
   ·subst c17
    have H1 : (some false) = some r := by rw [if_pos rfl] at H; exact H
    clear H
    have H := H1
    clear H1
    obtain rfl := Option.some.inj H
    go_wp2
    go_ret
    exact ⟨by first | rfl | (simp [jI, jJ] <;> rfl) | (simp [*, jI, jJ] <;> rfl), by repeat (first | (with_reducible first | exact HB.out | apply qA | apply q9 | apply qB | refine qK ?_ qH1.out) | exact HB.out)⟩
   ·replace c17 := Bool.eq_false_iff.mpr c17
    subst c17
    have H1 : (qN.l0 kj1 0 zG jU jR jN) = some r := by rw [if_neg (show ¬ (false = true) by decide)] at H; exact H
    clear H
    have H := H1
    clear H1
    have H' := q8.mk H
    clear H
    go_wp2
    go_loopg [3] kj1 (fun kq v3 w' => ∃ (qx0 : Int), v3 = .int .i64 qx0 ∧ q8 (qN.l0 kq qx0 zG jU jR jN = some r) ∧ q8 (kq ≤ kj1) ∧ q8 (w'.heap[qd5]? = some (.cells #[.int .i64 zG, .int .i64 jU, .int .i64 jR, (.slice qw6 jN.length qn0)] 55 (0, 0))) ∧ q8 (Below w.heap.size w w'))
    case atStart => exact ⟨(0), (by first | rfl | (simp; done) | (simp [*]; done)), H', ⟨Nat.le_refl _⟩, ⟨by (with_reducible repeat (first | refine qI ?_ _ | refine qR ?_ | refine qJ ?_ _)); exact jV.out⟩, ⟨by repeat (first | (with_reducible first | exact HB.out | apply qA | apply q9 | apply qB | refine qK ?_ qH1.out) | exact HB.out)⟩⟩
    case round =>
     clear H'
     try clear c1
     try clear p2
     try clear c4
     try clear qF0
     try clear c6
     try clear jl4
     try clear c8
     try clear qW2
     try clear c10
     try clear qQ0
     try clear c12
     try clear qI5
     try clear c14
     try clear ja0
     try clear jw5
     try clear c17
     try clear je8
     try clear je9
     try clear jf0
     try clear jf1
     try clear qM7
     try clear qM8
     try clear qM9
     try clear jf6
     try clear jf8
     try clear jf9
     try clear jg0
     try clear jg1
     try clear qG5
     try clear qG6
     try clear qG7
     try clear jg6
     try clear ju7
     try clear ju8
     try clear ju9
     try clear jv0
     try clear qX6
     try clear qX7
     try clear qX8
     try clear jv5
     try clear jv7
     try clear jv8
     try clear jv9
     try clear jw0
     try clear jf2
     try clear jf3
     try clear jf4
     try clear jf5
     try clear qN0
     try clear qN1
     try clear qN2
     try clear jf7
     try clear jg2
     try clear jg3
     try clear jg4
     try clear jg5
     try clear qG8
     try clear qG9
     try clear qH0
     try clear jg7
     try clear jv1
     try clear jv2
     try clear jv3
     try clear jv4
     try clear qX9
     try clear qY0
     try clear qY1
     try clear jv6
     try clear jw1
     try clear jw2
     try clear jw3
     try clear jw4
     try clear p2
     obtain ⟨qx0, rfl, HA, HK2, jV, HB⟩ := hrel
     cases gk with
     | zero => exact absurd HA.out (by simp [qN.l0])
     | succ k2 =>
      have H := HA.out
      clear HA
      simp only [qN.l0] at H
      by_cases c18 : qx0 < (jN.length : Int)
      ·rw [if_pos c18] at H
       have zV1 : decide (qx0 < (jN.length : Int)) = true := decide_eq_true c18
       clear c18
       by_cases c19 : 0 ≤ qx0
       ·rw [if_pos c19] at H
        have zY4 : decide (0 ≤ qx0) = true := decide_eq_true c19
        clear c19
        replace H := Option.bind_eq_some_iff.mp H
        obtain ⟨t111, A200, H⟩ := H
        replace H : (if t111 = true then (qN.l0 k2 (wrap64 (qx0 + 1)) zG jU jR jN) else (some false)) = some r := H
        have A20 := q8.mk A200
        clear A200
        by_cases c21 : t111 = true
        ·subst c21
         have H1 : (qN.l0 k2 (wrap64 (qx0 + 1)) zG jU jR jN) = some r := by rw [if_pos rfl] at H; exact H
         clear H
         have H := H1
         clear H1
         have H' := q8.mk H
         clear H
         have QF0 : wr.cell? ⟨qd5, 0, none⟩ = some (.int .i64 zG) := (qE jV.out 0).trans rfl
         have QF1 : wr.cell? ⟨qd5, 1, none⟩ = some (.int .i64 jU) := (qE jV.out 1).trans rfl
         have QF2 : wr.cell? ⟨qd5, 2, none⟩ = some (.int .i64 jR) := (qE jV.out 2).trans rfl
         have QF3 : wr.cell? ⟨qd5, 3, none⟩ = some (.slice qw6 jN.length qn0) := (qE jV.out 3).trans rfl
         have QF4 := qC jV.out 0
         have QF5 := qC jV.out 1
         have QF6 := qC jV.out 2
         have QF7 := qC jV.out 3
         have zi1 : 0 ≤ (qx0 : Int) := of_decide_eq_true (by first | (with_reducible assumption) | assumption)
         have zi2 : qx0 < (jN.length : Int) := of_decide_eq_true (by first | (with_reducible assumption) | assumption)
         obtain ⟨zF9, Qi2, qN9, qO0, qO1⟩ := qt7 jY9.out qx0 zi1 zi2
         cases Qi2
         replace qN9 := (HB.out.cell (World.block_lt_of_cell? w _ qN9)).trans qN9
         replace qO0 := (HB.out.cell (World.block_lt_of_cell? w _ qO0)).trans qO0
         replace qO1 := (HB.out.cell (World.block_lt_of_cell? w _ qO1)).trans qO1
         replace zi1 := eq_true zi1
         replace zi2 := eq_true zi2
         go_wp2_with (first | ((with_reducible refine qk3 (f := 83) rfl ?_); refine qL3 (some 53) rfl rfl Try.func83 (by kernel_rfl) rfl #[.agg #[.bool ((qG jN qx0).f0), .int .i64 ((qG jN qx0).f1), .int .i64 ((qG jN qx0).f2)]] rfl (by (try simp only [List.map_toArray, List.map_cons, List.map_nil]); first | done | rfl | (simp only [List.length_drop, List.length_take]; rfl)) ?_; (with_reducible refine (qd4.calls ((qG jN qx0).f0) ((qG jN qx0).f1) ((qG jN qx0).f2) true _ A20.out).mono ?_); rintro e w23 ⟨rfl, hb⟩; refine ⟨_, rfl, ?_⟩; have n0_ := q8.mk (qo5 (g := qd5) (o := .cells #[.int .i64 zG, .int .i64 jU, .int .i64 jR, .slice (some zF9) jN.length qn0] 55 (0, 0)) (by (with_reducible repeat (first | refine qI ?_ _ | refine qR ?_ | refine qJ ?_ _)); exact jV.out) hb); have n1_ := q8.mk (jM (by repeat (first | (with_reducible first | exact HB.out | apply qA | apply q9 | apply qB | refine qK ?_ qH1.out) | exact HB.out)) hb); clear jV; clear HB; have jV := n0_; have HB := n1_; clear n0_ n1_; (try clear hb); (try clear hb2); (try clear hk); (try clear hi)))
         go_roundg k2
         case measure => have := HJ1.out; have := HK2.out; omega
         case rel => exact ⟨(wrap64 (qx0 + 1)), (by first | rfl | (simp; done) | (simp [*]; done)), H', ⟨by have := HJ1.out; have := HK2.out; omega⟩, ⟨by (with_reducible repeat (first | refine qI ?_ _ | refine qR ?_ | refine qJ ?_ _)); exact jV.out⟩, ⟨by repeat (first | (with_reducible first | exact HB.out | apply qA | apply q9 | apply qB | refine qK ?_ qH1.out) | exact HB.out)⟩⟩
        ·replace c21 := Bool.eq_false_iff.mpr c21
         subst c21
         have H1 : (some false) = some r := by rw [if_neg (show ¬ (false = true) by decide)] at H; exact H
         clear H
         have H := H1
         clear H1
         obtain rfl := Option.some.inj H
         have QF8 : wr.cell? ⟨qd5, 0, none⟩ = some (.int .i64 zG) := (qE jV.out 0).trans rfl
         have QF9 : wr.cell? ⟨qd5, 1, none⟩ = some (.int .i64 jU) := (qE jV.out 1).trans rfl
         have QG0 : wr.cell? ⟨qd5, 2, none⟩ = some (.int .i64 jR) := (qE jV.out 2).trans rfl
         have QG1 : wr.cell? ⟨qd5, 3, none⟩ = some (.slice qw6 jN.length qn0) := (qE jV.out 3).trans rfl
         have QG2 := qC jV.out 0
         have QG3 := qC jV.out 1
         have QG4 := qC jV.out 2
         have QG5 := qC jV.out 3
         have zi1 : 0 ≤ (qx0 : Int) := of_decide_eq_true (by first | (with_reducible assumption) | assumption)
         have zi2 : qx0 < (jN.length : Int) := of_decide_eq_true (by first | (with_reducible assumption) | assumption)
         obtain ⟨zF9, Qi2, qN9, qO0, qO1⟩ := qt7 jY9.out qx0 zi1 zi2
         cases Qi2
         replace qN9 := (HB.out.cell (World.block_lt_of_cell? w _ qN9)).trans qN9
         replace qO0 := (HB.out.cell (World.block_lt_of_cell? w _ qO0)).trans qO0
         replace qO1 := (HB.out.cell (World.block_lt_of_cell? w _ qO1)).trans qO1
         replace zi1 := eq_true zi1
         replace zi2 := eq_true zi2
         go_wp2_with (first | ((with_reducible refine qk3 (f := 83) rfl ?_); refine qL3 (some 53) rfl rfl Try.func83 (by kernel_rfl) rfl #[.agg #[.bool ((qG jN qx0).f0), .int .i64 ((qG jN qx0).f1), .int .i64 ((qG jN qx0).f2)]] rfl (by (try simp only [List.map_toArray, List.map_cons, List.map_nil]); first | done | rfl | (simp only [List.length_drop, List.length_take]; rfl)) ?_; (with_reducible refine (qd4.calls ((qG jN qx0).f0) ((qG jN qx0).f1) ((qG jN qx0).f2) false _ A20.out).mono ?_); rintro e w25 ⟨rfl, hb⟩; refine ⟨_, rfl, ?_⟩; have n0_ := q8.mk (qo5 (g := qd5) (o := .cells #[.int .i64 zG, .int .i64 jU, .int .i64 jR, .slice (some zF9) jN.length qn0] 55 (0, 0)) (by (with_reducible repeat (first | refine qI ?_ _ | refine qR ?_ | refine qJ ?_ _)); exact jV.out) hb); have n1_ := q8.mk (jM (by repeat (first | (with_reducible first | exact HB.out | apply qA | apply q9 | apply qB | refine qK ?_ qH1.out) | exact HB.out)) hb); clear jV; clear HB; have jV := n0_; have HB := n1_; clear n0_ n1_; (try clear hb); (try clear hb2); (try clear hk); (try clear hi)))
         go_ret
         exact ⟨by first | rfl | (simp [jI, jJ] <;> rfl) | (simp [*, jI, jJ] <;> rfl), by repeat (first | (with_reducible first | exact HB.out | apply qA | apply q9 | apply qB | refine qK ?_ qH1.out) | exact HB.out)⟩
       ·rw [if_neg c19] at H
        exact absurd H (by simp)
      ·rw [if_neg c18] at H
       have zV1 : decide (qx0 < (jN.length : Int)) = false := decide_eq_false c18
       clear c18
       obtain rfl := Option.some.inj H
       have zR7 : wr.cell? ⟨qd5, 0, none⟩ = some (.int .i64 zG) := (qE jV.out 0).trans rfl
       have zR8 : wr.cell? ⟨qd5, 1, none⟩ = some (.int .i64 jU) := (qE jV.out 1).trans rfl
       have zR9 : wr.cell? ⟨qd5, 2, none⟩ = some (.int .i64 jR) := (qE jV.out 2).trans rfl
       have QG6 : wr.cell? ⟨qd5, 3, none⟩ = some (.slice qw6 jN.length qn0) := (qE jV.out 3).trans rfl
       have zS0 := qC jV.out 0
       have zS1 := qC jV.out 1
       have zS2 := qC jV.out 2
       have QG7 := qC jV.out 3
       go_wp2
       go_ret
       exact ⟨by first | rfl | (simp [jI, jJ] <;> rfl) | (simp [*, jI, jJ] <;> rfl), by repeat (first | (with_reducible first | exact HB.out | apply qA | apply q9 | apply qB | refine qK ?_ qH1.out) | exact HB.out)⟩
mutual
def j6.l0 : Nat → List (S55) → Int → Int → Int → Option (Int)
 | 0, _, _, _, _ => none
 | k + 1, x0, x1, x5, x6 => if x6 < (x0.length : Int) then (j6.l1 k x0 x1 x5 x6 0) else (some x5)
def j6.l1 : Nat → List (S55) → Int → Int → Int → Int → Option (Int)
 | 0, _, _, _, _, _ => none
 | k + 1, x0, x1, x5, x6, x7 => if 0 ≤ x6 then (if x6 < (x0.length : Int) then (if x7 < (((qD x0 x6).f3).length : Int) then (if 0 ≤ x7 then (if (qG ((qD x0 x6).f3) x7).f0 = true then (if ((qG ((qD x0 x6).f3) x7).f2) = x1 then (j6.l1 k x0 x1 (wrap64 (x5 + 1)) x6 (wrap64 (x7 + 1))) else (j6.l1 k x0 x1 x5 x6 (wrap64 (x7 + 1)))) else (j6.l1 k x0 x1 x5 x6 (wrap64 (x7 + 1)))) else (none)) else (j6.l0 k x0 x1 x5 (wrap64 (x6 + 1)))) else (none)) else (none)
end
def j6.f (k : Nat) (l0 : List (S55)) (a1 : Int) : Option (Int) := j6.l0 k l0 a1 0 0
set_option maxHeartbeats 8000000 in
set_option maxRecDepth 100000 in
theorem j6.calls (k : Nat) (A0 : Option Addr) (c0 : Nat) (l0 : List (S55)) (a1 : Int) (r : Int) (w : World) (hr0 : Kd.C k55 w A0 l0.length l0) (hc0 : l0.length ≤ c0) (h : j6.f k l0 a1 = some r) :
  Calls Try.prog 65 #[.slice A0 l0.length c0, .int .i64 a1] w fun e w' => e = .returned (.int .i64 r) ∧ zZ w w' := by
 have HR0 := q8.mk hr0
 have HC0 := q8.mk hc0
 clear hr0 hc0
 have H : (j6.l0 k l0 a1 0 0) = some r := h
 clear h
 have H' := q8.mk H
 clear H
 go_enter Try.func65, Try.ntmps65
 go_wp2
 go_loopg [5, 6] k (fun kq v5 v6 w' => ∃ (qA4 : Int) (jY : Int), v5 = .int .i64 qA4 ∧ v6 = .int .i64 jY ∧ q8 (j6.l0 kq l0 a1 qA4 jY = some r) ∧ q8 (kq ≤ k) ∧ zZ w w')
 case atStart => exact ⟨(0), (0), (by first | rfl | (simp; done) | (simp [*]; done)), (by first | rfl | (simp; done) | (simp [*]; done)), H', ⟨Nat.le_refl _⟩, by repeat (first | exact zZ.refl _ | apply zZ.step)⟩
 case round =>
  clear H'
  try clear p2
  obtain ⟨qA4, jY, rfl, rfl, HA, HK1, ⟨m1, rfl⟩⟩ := hrel
  cases gk with
  | zero => exact absurd HA.out (by simp [j6.l0])
  | succ k1 =>
   have H := HA.out
   clear HA
   simp only [j6.l0] at H
   by_cases c3 : jY < (l0.length : Int)
   ·rw [if_pos c3] at H
    have jS6 : decide (jY < (l0.length : Int)) = true := decide_eq_true c3
    clear c3
    have H' := q8.mk H
    clear H
    go_wp2
    go_loopg [5, 7] k1 (fun kq v5 v7 w' => ∃ (zR : Int) (qf9 : Int), v5 = .int .i64 zR ∧ v7 = .int .i64 qf9 ∧ q8 (j6.l1 kq l0 a1 zR jY qf9 = some r) ∧ q8 (kq ≤ k1) ∧ zZ w w')
    case atStart => exact ⟨(qA4), (0), (by first | rfl | (simp; done) | (simp [*]; done)), (by first | rfl | (simp; done) | (simp [*]; done)), H', ⟨Nat.le_refl _⟩, by repeat (first | exact zZ.refl _ | apply zZ.step)⟩
    case round =>
     clear H'
     try clear p2
     try clear c3
     try clear jS6
     try clear p2
     obtain ⟨zR, qf9, rfl, rfl, HA, HK2, ⟨m2, rfl⟩⟩ := hrel
     cases gk with
     | zero => exact absurd HA.out (by simp [j6.l1])
     | succ k2 =>
      have H := HA.out
      clear HA
      simp only [j6.l1] at H
      by_cases c4 : 0 ≤ jY
      ·rw [if_pos c4] at H
       have qF0 : decide (0 ≤ jY) = true := decide_eq_true c4
       clear c4
       by_cases c5 : jY < (l0.length : Int)
       ·rw [if_pos c5] at H
        have jH8 : decide (jY < (l0.length : Int)) = true := decide_eq_true c5
        clear c5
        by_cases c6 : qf9 < (((qD l0 jY).f3).length : Int)
        ·rw [if_pos c6] at H
         have jl4 : decide (qf9 < (((qD l0 jY).f3).length : Int)) = true := decide_eq_true c6
         clear c6
         by_cases c7 : 0 ≤ qf9
         ·rw [if_pos c7] at H
          have zK3 : decide (0 ≤ qf9) = true := decide_eq_true c7
          clear c7
          obtain ⟨bq8, Qi3⟩ : ∃ b_ : Bool, b_ = ((qG ((qD l0 jY).f3) qf9).f0) := ⟨_, rfl⟩
          replace H : (if bq8 = true then (if ((qG ((qD l0 jY).f3) qf9).f2) = a1 then (j6.l1 k2 l0 a1 (wrap64 (zR + 1)) jY (wrap64 (qf9 + 1))) else (j6.l1 k2 l0 a1 zR jY (wrap64 (qf9 + 1)))) else (j6.l1 k2 l0 a1 zR jY (wrap64 (qf9 + 1)))) = some r := by rw [← Qi3] at H; exact H
          have zG0 := q8.mk Qi3
          clear Qi3
          by_cases c9 : bq8 = true
          ·subst c9
           have H1 : (if ((qG ((qD l0 jY).f3) qf9).f2) = a1 then (j6.l1 k2 l0 a1 (wrap64 (zR + 1)) jY (wrap64 (qf9 + 1))) else (j6.l1 k2 l0 a1 zR jY (wrap64 (qf9 + 1)))) = some r := by rw [if_pos rfl] at H; exact H
           clear H
           have H := H1
           clear H1
           by_cases c10 : ((qG ((qD l0 jY).f3) qf9).f2) = a1
           ·rw [if_pos c10] at H
            have qQ0 : (((qG ((qD l0 jY).f3) qf9).f2) == a1) = true := beq_iff_eq.mpr c10
            have Qr6 : (((qG ((qD l0 jY).f3) qf9).f2) != a1) = false := bne_eq_false_iff_eq.mpr c10
            clear c10
            have H' := q8.mk H
            clear H
            have qY6 : 0 ≤ (jY : Int) := of_decide_eq_true (by first | (with_reducible assumption) | assumption)
            have qY7 : jY < (l0.length : Int) := of_decide_eq_true (by first | (with_reducible assumption) | assumption)
            obtain ⟨jl3, zi3, zi4, zi5, jN2, jN3, jN4, qH2, qx1, qx2⟩ := qa9 HR0.out jY qY6 qY7
            cases zi5
            have jN5 := q8.mk qx2
            have jN6 := q8.mk qx1
            clear qx2 qx1
            replace qY6 := eq_true qY6
            replace qY7 := eq_true qY7
            have jw8 : 0 ≤ (jY : Int) := of_decide_eq_true (by first | (with_reducible assumption) | assumption)
            have jw9 : jY < (l0.length : Int) := of_decide_eq_true (by first | (with_reducible assumption) | assumption)
            obtain ⟨jZ2, zG1, zG2, zG3, zo2, zo3, zo4, jg9, qH3, qH4⟩ := qa9 HR0.out jY jw8 jw9
            obtain rfl : jl3 = jZ2 := (by injection zG3)
            have jh0 := q8.mk qH4
            have zo5 := q8.mk qH3
            clear qH4 qH3
            replace jw8 := eq_true jw8
            replace jw9 := eq_true jw9
            have ea_ := Option.some.inj (qH2.symm.trans jg9)
            injection ea_ with ea_ en_ ec_
            subst ea_
            subst ec_
            clear en_
            have jx0 : 0 ≤ (qf9 : Int) := of_decide_eq_true (by first | (with_reducible assumption) | assumption)
            have jx1 : qf9 < (((qD l0 jY).f3).length : Int) := of_decide_eq_true (by first | (with_reducible assumption) | assumption)
            obtain ⟨zY5, zG4, jh1, zo6, zo7⟩ := qt7 jh0.out qf9 jx0 jx1
            (try rw [← zG0.out] at jh1)
            cases zG4
            replace jx0 := eq_true jx0
            replace jx1 := eq_true jx1
            have zi6 : 0 ≤ (jY : Int) := of_decide_eq_true (by first | (with_reducible assumption) | assumption)
            have zi7 : jY < (l0.length : Int) := of_decide_eq_true (by first | (with_reducible assumption) | assumption)
            obtain ⟨zG5, Qi4, Qi5, e115, zS4, zS5, zS6, jN7, jh2, jh3⟩ := qa9 HR0.out jY zi6 zi7
            obtain rfl : jl3 = zG5 := (by injection e115)
            have jN8 := q8.mk jh3
            have zS7 := q8.mk jh2
            clear jh3 jh2
            replace zi6 := eq_true zi6
            replace zi7 := eq_true zi7
            have ea_ := Option.some.inj (qH2.symm.trans jN7)
            injection ea_ with ea_ en_ ec_
            subst ea_
            subst ec_
            clear en_
            have zi8 : 0 ≤ (qf9 : Int) := of_decide_eq_true (by first | (with_reducible assumption) | assumption)
            have zi9 : qf9 < (((qD l0 jY).f3).length : Int) := of_decide_eq_true (by first | (with_reducible assumption) | assumption)
            obtain ⟨Qr7, e116, jN9, zS8, zS9⟩ := qt7 jN8.out qf9 zi8 zi9
            (try rw [← zG0.out] at jN9)
            cases e116
            replace zi8 := eq_true zi8
            replace zi9 := eq_true zi9
            go_wp2
            go_roundg k2
            case measure => have := HK1.out; have := HK2.out; omega
            case rel => exact ⟨(wrap64 (zR + 1)), (wrap64 (qf9 + 1)), (by first | rfl | (simp; done) | (simp [*]; done)), (by first | rfl | (simp; done) | (simp [*]; done)), H', ⟨by have := HK1.out; have := HK2.out; omega⟩, by repeat (first | exact zZ.refl _ | apply zZ.step)⟩
           ·rw [if_neg c10] at H
            have qQ0 : (((qG ((qD l0 jY).f3) qf9).f2) == a1) = false := beq_eq_false_iff_ne.mpr c10
            have Qr6 : (((qG ((qD l0 jY).f3) qf9).f2) != a1) = true := bne_iff_ne.mpr c10
            have H' := q8.mk H
            clear H
            have qY6 : 0 ≤ (jY : Int) := of_decide_eq_true (by first | (with_reducible assumption) | assumption)
            have qY7 : jY < (l0.length : Int) := of_decide_eq_true (by first | (with_reducible assumption) | assumption)
            obtain ⟨jl3, zi3, zi4, zi5, jN2, jN3, jN4, qH2, qx1, qx2⟩ := qa9 HR0.out jY qY6 qY7
            cases zi5
            have jN5 := q8.mk qx2
            have jN6 := q8.mk qx1
            clear qx2 qx1
            replace qY6 := eq_true qY6
            replace qY7 := eq_true qY7
            have jw8 : 0 ≤ (jY : Int) := of_decide_eq_true (by first | (with_reducible assumption) | assumption)
            have jw9 : jY < (l0.length : Int) := of_decide_eq_true (by first | (with_reducible assumption) | assumption)
            obtain ⟨jZ2, zG1, zG2, zG3, zo2, zo3, zo4, jg9, qH3, qH4⟩ := qa9 HR0.out jY jw8 jw9
            obtain rfl : jl3 = jZ2 := (by injection zG3)
            have jh0 := q8.mk qH4
            have zo5 := q8.mk qH3
            clear qH4 qH3
            replace jw8 := eq_true jw8
            replace jw9 := eq_true jw9
            have ea_ := Option.some.inj (qH2.symm.trans jg9)
            injection ea_ with ea_ en_ ec_
            subst ea_
            subst ec_
            clear en_
            have jx0 : 0 ≤ (qf9 : Int) := of_decide_eq_true (by first | (with_reducible assumption) | assumption)
            have jx1 : qf9 < (((qD l0 jY).f3).length : Int) := of_decide_eq_true (by first | (with_reducible assumption) | assumption)
            obtain ⟨zY5, zG4, jh1, zo6, zo7⟩ := qt7 jh0.out qf9 jx0 jx1
            (try rw [← zG0.out] at jh1)
            cases zG4
            replace jx0 := eq_true jx0
            replace jx1 := eq_true jx1
            have zi6 : 0 ≤ (jY : Int) := of_decide_eq_true (by first | (with_reducible assumption) | assumption)
            have zi7 : jY < (l0.length : Int) := of_decide_eq_true (by first | (with_reducible assumption) | assumption)
            obtain ⟨zG5, Qi4, Qi5, e115, zS4, zS5, zS6, jN7, jh2, jh3⟩ := qa9 HR0.out jY zi6 zi7
            obtain rfl : jl3 = zG5 := (by injection e115)
            have jN8 := q8.mk jh3
            have zS7 := q8.mk jh2
            clear jh3 jh2
            replace zi6 := eq_true zi6
            replace zi7 := eq_true zi7
            have ea_ := Option.some.inj (qH2.symm.trans jN7)
            injection ea_ with ea_ en_ ec_
            subst ea_
            subst ec_
            clear en_
            have zi8 : 0 ≤ (qf9 : Int) := of_decide_eq_true (by first | (with_reducible assumption) | assumption)
            have zi9 : qf9 < (((qD l0 jY).f3).length : Int) := of_decide_eq_true (by first | (with_reducible assumption) | assumption)
            obtain ⟨Qr7, e116, jN9, zS8, zS9⟩ := qt7 jN8.out qf9 zi8 zi9
            (try rw [← zG0.out] at jN9)
            cases e116
            replace zi8 := eq_true zi8
            replace zi9 := eq_true zi9
            go_wp2
            go_roundg k2
            case measure => have := HK1.out; have := HK2.out; omega
            case rel => exact ⟨(zR), (wrap64 (qf9 + 1)), (by first | rfl | (simp; done) | (simp [*]; done)), (by first | rfl | (simp; done) | (simp [*]; done)), H', ⟨by have := HK1.out; have := HK2.out; omega⟩, by repeat (first | exact zZ.refl _ | apply zZ.step)⟩
          ·replace c9 := Bool.eq_false_iff.mpr c9
           subst c9
           have H1 : (j6.l1 k2 l0 a1 zR jY (wrap64 (qf9 + 1))) = some r := by rw [if_neg (show ¬ (false = true) by decide)] at H; exact H
           clear H
           have H := H1
           clear H1
           have H' := q8.mk H
           clear H
           have qY6 : 0 ≤ (jY : Int) := of_decide_eq_true (by first | (with_reducible assumption) | assumption)
           have qY7 : jY < (l0.length : Int) := of_decide_eq_true (by first | (with_reducible assumption) | assumption)
           obtain ⟨jl3, zi3, zi4, zi5, jN2, jN3, jN4, qH2, qx1, qx2⟩ := qa9 HR0.out jY qY6 qY7
           cases zi5
           have jN5 := q8.mk qx2
           have jN6 := q8.mk qx1
           clear qx2 qx1
           replace qY6 := eq_true qY6
           replace qY7 := eq_true qY7
           have jw8 : 0 ≤ (jY : Int) := of_decide_eq_true (by first | (with_reducible assumption) | assumption)
           have jw9 : jY < (l0.length : Int) := of_decide_eq_true (by first | (with_reducible assumption) | assumption)
           obtain ⟨jZ2, zG1, zG2, zG3, zo2, zo3, zo4, jg9, qH3, qH4⟩ := qa9 HR0.out jY jw8 jw9
           obtain rfl : jl3 = jZ2 := (by injection zG3)
           have jh0 := q8.mk qH4
           have zo5 := q8.mk qH3
           clear qH4 qH3
           replace jw8 := eq_true jw8
           replace jw9 := eq_true jw9
           have ea_ := Option.some.inj (qH2.symm.trans jg9)
           injection ea_ with ea_ en_ ec_
           subst ea_
           subst ec_
           clear en_
           have jx0 : 0 ≤ (qf9 : Int) := of_decide_eq_true (by first | (with_reducible assumption) | assumption)
           have jx1 : qf9 < (((qD l0 jY).f3).length : Int) := of_decide_eq_true (by first | (with_reducible assumption) | assumption)
           obtain ⟨zY5, zG4, jh1, zo6, zo7⟩ := qt7 jh0.out qf9 jx0 jx1
           (try rw [← zG0.out] at jh1)
           cases zG4
           replace jx0 := eq_true jx0
           replace jx1 := eq_true jx1
           go_wp2
           go_roundg k2
           case measure => have := HK1.out; have := HK2.out; omega
           case rel => exact ⟨(zR), (wrap64 (qf9 + 1)), (by first | rfl | (simp; done) | (simp [*]; done)), (by first | rfl | (simp; done) | (simp [*]; done)), H', ⟨by have := HK1.out; have := HK2.out; omega⟩, by repeat (first | exact zZ.refl _ | apply zZ.step)⟩
         ·rw [if_neg c7] at H
          exact absurd H (by simp)
        ·rw [if_neg c6] at H
         have jl4 : decide (qf9 < (((qD l0 jY).f3).length : Int)) = false := decide_eq_false c6
         clear c6
         have H' := q8.mk H
         clear H
         have qY6 : 0 ≤ (jY : Int) := of_decide_eq_true (by first | (with_reducible assumption) | assumption)
         have qY7 : jY < (l0.length : Int) := of_decide_eq_true (by first | (with_reducible assumption) | assumption)
         obtain ⟨jl3, zi3, zi4, zi5, jN2, jN3, jN4, qH2, qx1, qx2⟩ := qa9 HR0.out jY qY6 qY7
         cases zi5
         have jN5 := q8.mk qx2
         have jN6 := q8.mk qx1
         clear qx2 qx1
         replace qY6 := eq_true qY6
         replace qY7 := eq_true qY7
         go_wp2
         go_roundg k2
         case measure => have := HK1.out; have := HK2.out; omega
         case rel => exact ⟨(zR), (wrap64 (jY + 1)), (by first | rfl | (simp; done) | (simp [*]; done)), (by first | rfl | (simp; done) | (simp [*]; done)), H', ⟨by have := HK1.out; have := HK2.out; omega⟩, by repeat (first | exact zZ.refl _ | apply zZ.step)⟩
       ·rw [if_neg c5] at H
        exact absurd H (by simp)
      ·rw [if_neg c4] at H
       exact absurd H (by simp)
   ·rw [if_neg c3] at H
    have jS6 : decide (jY < (l0.length : Int)) = false := decide_eq_false c3
    clear c3
    obtain rfl := Option.some.inj H
    go_wp2
    go_ret
    exact ⟨by first | rfl | (simp; done) | (simp [*]; done), by repeat (first | exact zZ.refl _ | apply zZ.step)⟩
end Go.Proofs.Ytngkneknopenmaa.K
end
