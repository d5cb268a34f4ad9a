/- Texts of this claim, joined by a program of this session: the declarations that its theorem uses. -/
import Derived.Test.YtngkneknopenmaaZN1
import Derived.Test.YtngkneknopenmaaZN4
import Derived.Test.YtngkneknopenmaaProg
import Derived.Below
import Derived.Deep.Draws
import Derived.Deep.AppendLies
import Derived.Maps.AppendAt
import Derived.OwnWalk
import Derived.Laws.BytesArg
import Derived.Laws.MakeOwn
import Derived.Laws.OwnMore
import Derived.Deep.OwnRows
import Derived.Tactics
import Derived.Lib.ConvBytes
import Derived.Laws.Slices
import Derived.WalkKit
import Derived.KernelRfl
import Derived.RowKit3
import Derived.Deep.LoopGhost
import Derived.Deep.QuietTactic
import Derived.BigQuiet
import Derived.WideLaws
import Derived.Deep.DeepCutAuto
import Derived.Deep.CutBlock
import Derived.Deep.RegionHeld3
import Derived.Laws.Rows
import Derived.Lib.AppendStr
import Derived.ArgAppend
import Derived.Laws.IdiomCopy
import Derived.OrdersHeld
import Derived.Laws.BitsLemmas
import Derived.RowKit
section
namespace Go.Proofs.Ytngkneknopenmaa.K
open Go.Proofs.Ytngkneknopenmaa
open Go.RowKit Go.Proofs.YtngkneknopenmaaW.PrintWords Go.Proofs.YtngkneknopenmaaW.PrintLast Go.Proofs.YtngkneknopenmaaW.PrintMore
attribute [local go_sem] qb3 qb1 qca qb9 qbu qbt qb2 qb0   -- for this text's walks alone
set_option linter.unusedVariables false
set_option linter.unusedSimpArgs false
def errW : Option Int → Value
 | none => .nilIface
 | some c => .iface 0 (.int .i64 c)
theorem qao : errW none = .nilIface := rfl
theorem qan (c : Int) : errW (some c) = .iface 0 (.int .i64 c) := rfl
theorem info3 : (Try.prog.info? 3).map (fun i => (i.zero, i.size, i.bytes)) = some (some (.int .i64 0), 1, 8) := by kernel_rfl
theorem info55 : (Try.prog.info? 55).map (fun i => (i.zero, i.size, i.bytes)) = some (some (.agg #[(.int .i64 0), (.int .i64 0), (.int .i64 0), (.slice none 0 0)]), 4, 48) := by kernel_rfl
structure S51 where
 f0 : Bool
 f1 : Int
 f2 : Int
def z51 : S51 := ⟨false, (0 : Int), (0 : Int)⟩
def k51 : Kd S51 := Kd.iso (Kd.pair Kd.bool (Kd.pair (Kd.int .i64) (Kd.int .i64))) (fun x : S51 => (x.f0, x.f1, x.f2))
theorem k51_heap : Kd.Heap k51 := Kd.heap_iso _ (Kd.heap_pair Kd.heap_bool (Kd.heap_pair (Kd.heap_int .i64) (Kd.heap_int .i64)))
theorem k51_open {w : World} {x : S51} {cs : List Value} (h : k51.K w x cs) : cs = [.bool x.f0, .int .i64 x.f1, .int .i64 x.f2] := by
 obtain ⟨_, _, rfl, rfl, ⟨_, _, rfl, rfl, rfl⟩⟩ := h
 exact rfl
theorem k51_mk (w : World) (x : S51)  : k51.K w x [.bool x.f0, .int .i64 x.f1, .int .i64 x.f2] := ⟨[.bool x.f0], [.int .i64 x.f1, .int .i64 x.f2], rfl, rfl, ⟨[.int .i64 x.f1], [.int .i64 x.f2], rfl, rfl, rfl⟩⟩
theorem k51_mkM (w : World) (base : Nat) (ok : Nat → Prop) (x : S51)  : k51.M w base ok x [.bool x.f0, .int .i64 x.f1, .int .i64 x.f2] := ⟨[.bool x.f0], [.int .i64 x.f1, .int .i64 x.f2], rfl, rfl, ⟨[.int .i64 x.f1], [.int .i64 x.f2], rfl, rfl, rfl⟩⟩
def qaj (xs : List S51) (i : Int) : S51 := xs.getD i.toNat z51
theorem qbx {w : World} {A : Option Addr} {n : Nat} {xs : List S51} (h : Kd.C k51 w A n xs) (i : Int) (h0 : 0 ≤ i) (h1 : i < n) : ∃ ad , A = some ad ∧ w.cell? (ad.add (i.toNat * 3)) = some (.bool (qaj xs i).f0) ∧ w.cell? ⟨(ad.add (i.toNat * 3)).block, (ad.add (i.toNat * 3)).off + 1, none⟩ = some (.int .i64 (qaj xs i).f1) ∧ w.cell? ⟨(ad.add (i.toNat * 3)).block, (ad.add (i.toNat * 3)).off + 2, none⟩ = some (.int .i64 (qaj xs i).f2) := by
 obtain ⟨ad, c, e, _, hK, hc0⟩ := Kd.C_get h z51 i h0 h1
 have hc : ∀ j u, c[j]? = some u → w.cell? (ad.add (i.toNat * 3 + j)) = some u := hc0
 obtain rfl := k51_open hK
 exact ⟨ad, e, hc 0 _ rfl, by rw [← qax _ _ 1 (by omega)]; exact hc 1 _ rfl, by rw [← qax _ _ 2 (by omega)]; exact hc 2 _ rfl⟩
structure S55 where
 f0 : Int
 f1 : Int
 f2 : Int
 f3 : (List S51)
def z55 : S55 := ⟨(0 : Int), (0 : Int), (0 : Int), ([] : List S51)⟩
def k55 : Kd S55 := Kd.iso (Kd.pair (Kd.int .i64) (Kd.pair (Kd.int .i64) (Kd.pair (Kd.int .i64) (Kd.slice 51 k51)))) (fun x : S55 => (x.f0, x.f1, x.f2, x.f3))
theorem k55_heap : Kd.Heap k55 := Kd.heap_iso _ (Kd.heap_pair (Kd.heap_int .i64) (Kd.heap_pair (Kd.heap_int .i64) (Kd.heap_pair (Kd.heap_int .i64) (Kd.heap_slice 51 k51_heap))))
theorem k55_open {w : World} {x : S55} {cs : List Value} (h : k55.K w x cs) : ∃ A3 c3, cs = [.int .i64 x.f0, .int .i64 x.f1, .int .i64 x.f2, .slice A3 x.f3.length c3] ∧ x.f3.length ≤ c3 ∧ k51.C w A3 x.f3.length x.f3 := by
 obtain ⟨_, _, rfl, rfl, ⟨_, _, rfl, rfl, ⟨_, _, rfl, rfl, ⟨A3, c3, rfl, l3, g3⟩⟩⟩⟩ := h
 exact ⟨A3, c3, rfl, l3, g3⟩
theorem k55_mk (w : World) (x : S55) {A3 : Option Addr} {c3 : Nat} (l3 : x.f3.length ≤ c3) (g3 : k51.C w A3 x.f3.length x.f3) : k55.K w x [.int .i64 x.f0, .int .i64 x.f1, .int .i64 x.f2, .slice A3 x.f3.length c3] := ⟨[.int .i64 x.f0], [.int .i64 x.f1, .int .i64 x.f2, .slice A3 x.f3.length c3], rfl, rfl, ⟨[.int .i64 x.f1], [.int .i64 x.f2, .slice A3 x.f3.length c3], rfl, rfl, ⟨[.int .i64 x.f2], [.slice A3 x.f3.length c3], rfl, rfl, ⟨A3, c3, rfl, l3, g3⟩⟩⟩⟩
theorem k55_mkM (w : World) (base : Nat) (ok : Nat → Prop) (x : S55) {v3 : Value} (g3 : k51.R 51 w base ok v3 x.f3) : k55.M w base ok x [.int .i64 x.f0, .int .i64 x.f1, .int .i64 x.f2, v3] := ⟨[.int .i64 x.f0], [.int .i64 x.f1, .int .i64 x.f2, v3], rfl, rfl, ⟨[.int .i64 x.f1], [.int .i64 x.f2, v3], rfl, rfl, ⟨[.int .i64 x.f2], [v3], rfl, rfl, ⟨v3, rfl, g3⟩⟩⟩⟩
theorem qbo {W : World} {ok : Nat → Prop} {x : S55} {cs : List Value} (h : Kd.FK k55 W ok x cs) : ∃ A3 c3, cs = [.int .i64 x.f0, .int .i64 x.f1, .int .i64 x.f2, .slice A3 x.f3.length c3] ∧ x.f3.length ≤ c3 ∧ Kd.F k51 W ok A3 x.f3.length x.f3 := by
 obtain ⟨A3, c3, rfl, l3, _⟩ := k55_open (Kd.FK_now h)
 exact ⟨A3, c3, rfl, l3, (fun W' hW => by obtain ⟨A3_, c3_, he, l3_, g3_⟩ := k55_open (h W' hW); injection (Option.some.inj (show some (Value.slice A3 x.f3.length c3) = some (Value.slice A3_ x.f3.length c3_) from congrArg (fun l => l[3]?) he)) with ha_ _ _; rw [ha_]; exact g3_)⟩
theorem k55_mkF (W : World) (ok : Nat → Prop) (x : S55) {A3 : Option Addr} {c3 : Nat} (l3 : x.f3.length ≤ c3) (g3 : Kd.F k51 W ok A3 x.f3.length x.f3) : Kd.FK k55 W ok x [.int .i64 x.f0, .int .i64 x.f1, .int .i64 x.f2, .slice A3 x.f3.length c3] := fun W2 hW => k55_mk W2 x l3 (g3 W2 hW)
def qab (xs : List S55) (i : Int) : S55 := xs.getD i.toNat z55
theorem qa8 {w : World} {A : Option Addr} {n : Nat} {xs : List S55} (h : Kd.C k55 w A n xs) (i : Int) (h0 : 0 ≤ i) (h1 : i < n) : ∃ ad A3 c3, A = some ad ∧ w.cell? (ad.add (i.toNat * 4)) = some (.int .i64 (qab xs i).f0) ∧ w.cell? ⟨(ad.add (i.toNat * 4)).block, (ad.add (i.toNat * 4)).off + 1, none⟩ = some (.int .i64 (qab xs i).f1) ∧ w.cell? ⟨(ad.add (i.toNat * 4)).block, (ad.add (i.toNat * 4)).off + 2, none⟩ = some (.int .i64 (qab xs i).f2) ∧ w.cell? ⟨(ad.add (i.toNat * 4)).block, (ad.add (i.toNat * 4)).off + 3, none⟩ = some (.slice A3 (qab xs i).f3.length c3) ∧ (qab xs i).f3.length ≤ c3 ∧ k51.C w A3 (qab xs i).f3.length (qab xs i).f3 := by
 obtain ⟨ad, c, e, _, hK, hc0⟩ := Kd.C_get h z55 i h0 h1
 have hc : ∀ j u, c[j]? = some u → w.cell? (ad.add (i.toNat * 4 + j)) = some u := hc0
 obtain ⟨A3, c3, rfl, l3, g3⟩ := k55_open hK
 exact ⟨ad, A3, c3, e, hc 0 _ rfl, by rw [← qax _ _ 1 (by omega)]; exact hc 1 _ rfl, by rw [← qax _ _ 2 (by omega)]; exact hc 2 _ rfl, by rw [← qax _ _ 3 (by omega)]; exact hc 3 _ rfl, l3, g3⟩
end Go.Proofs.Ytngkneknopenmaa.K
end
section
namespace Go.Proofs.Ytngkneknopenmaa.K
open Go.Proofs.Ytngkneknopenmaa
open Go.RowKit Go.Proofs.YtngkneknopenmaaW.PrintWords Go.Proofs.YtngkneknopenmaaW.PrintLast Go.Proofs.YtngkneknopenmaaW.PrintMore
attribute [local go_sem] qb3 qb1 qca qb9 qbu qbt qb2 qb0   -- for this text's walks alone
set_option linter.unusedVariables false
set_option linter.unusedSimpArgs false
theorem eqA51 (d : Nat) (w : World) (x0 y0 : Bool) (x1 y1 : Int) (x2 y2 : Int) :
  (Op.equalIn (d + 2) 51 (.agg #[.bool x0, .int .i64 x1, .int .i64 x2]) (.agg #[.bool y0, .int .i64 y1, .int .i64 y2])).run Try.prog w = .ok (x0 == y0 && (x1 == y1 && (x2 == y2))) w := by
 refine eqA_of Try.underlying51 (by kernel_rfl) ?_
 refine eqf_cons (by rfl) (by go_simp; rfl) (by go_simp; rfl) (by go_simp) ?_
 refine eqf_cons (by rfl) (by go_simp; rfl) (by go_simp; rfl) (by go_simp) ?_
 exact eqf_last (by rfl) (by go_simp; rfl) (by go_simp; rfl) (by go_simp)
end Go.Proofs.Ytngkneknopenmaa.K
end
section
namespace Go.Proofs.Ytngkneknopenmaa.K
open Go.Proofs.Ytngkneknopenmaa
open Go.RowKit Go.Proofs.YtngkneknopenmaaW.PrintWords Go.Proofs.YtngkneknopenmaaW.PrintLast Go.Proofs.YtngkneknopenmaaW.PrintMore
attribute [local go_sem] qb3 qb1 qca qb9 qbu qbt qb2 qb0   -- for this text's walks alone
set_option linter.unusedVariables false
set_option linter.unusedSimpArgs false
attribute [local go_sem high] eqA51
mutual
def history_Same.l0 : Nat → List (S55) → List (S55) → Int → Int → Option (Bool)
 | 0, _, _, _, _ => none
 | k + 1, x1, x15, x16, x17 => if x17 < x16 then (if 0 ≤ x17 then (if x17 < (x15.length : Int) then (if x17 < (x1.length : Int) then (if ((qab x15 x17).f0) = ((qab x1 x17).f0) then (if ((qab x15 x17).f1) = ((qab x1 x17).f1) then (if ((qab x15 x17).f2) = ((qab x1 x17).f2) then (history_Same.j1 k x1 x15 x16 x17 ((((qab x15 x17).f3).length : Int) != (((qab x1 x17).f3).length : Int)) ((qab x15 x17).f0) ((qab x15 x17).f1) ((qab x15 x17).f2) ((qab x15 x17).f3) ((qab x1 x17).f0) ((qab x1 x17).f1) ((qab x1 x17).f2) ((qab x1 x17).f3)) else (history_Same.j1 k x1 x15 x16 x17 true ((qab x15 x17).f0) ((qab x15 x17).f1) ((qab x15 x17).f2) ((qab x15 x17).f3) ((qab x1 x17).f0) ((qab x1 x17).f1) ((qab x1 x17).f2) ((qab x1 x17).f3))) else (history_Same.j1 k x1 x15 x16 x17 true ((qab x15 x17).f0) ((qab x15 x17).f1) ((qab x15 x17).f2) ((qab x15 x17).f3) ((qab x1 x17).f0) ((qab x1 x17).f1) ((qab x1 x17).f2) ((qab x1 x17).f3))) else (history_Same.j1 k x1 x15 x16 x17 true ((qab x15 x17).f0) ((qab x15 x17).f1) ((qab x15 x17).f2) ((qab x15 x17).f3) ((qab x1 x17).f0) ((qab x1 x17).f1) ((qab x1 x17).f2) ((qab x1 x17).f3))) else (none)) else (none)) else (none)) else (some true)
def history_Same.j1 : Nat → List (S55) → List (S55) → Int → Int → Bool → Int → Int → Int → List (S51) → Int → Int → Int → List (S51) → Option (Bool)
 | 0, _, _, _, _, _, _, _, _, _, _, _, _, _ => none
 | k + 1, x1, x15, x16, x17, x53, x226000, x226001, x226002, x226003, x228000, x228001, x228002, x228003 => if x53 = true then (some false) else (history_Same.l1 k x1 x15 x16 x17 x226003 (x226003.length : Int) 0 x228000 x228001 x228002 x228003)
def history_Same.l1 : Nat → List (S55) → List (S55) → Int → Int → List (S51) → Int → Int → Int → Int → Int → List (S51) → Option (Bool)
 | 0, _, _, _, _, _, _, _, _, _, _, _ => none
 | k + 1, x1, x15, x16, x17, x55, x56, x57, x228000, x228001, x228002, x228003 => if x57 < x56 then (if 0 ≤ x57 then (if x57 < (x55.length : Int) then (if x57 < (x228003.length : Int) then (if (!(((qaj x228003 x57).f0) == ((qaj x55 x57).f0)) || (!(((qaj x228003 x57).f1) == ((qaj x55 x57).f1)) || (!(((qaj x228003 x57).f2) == ((qaj x55 x57).f2))))) = true then (some false) else (history_Same.l1 k x1 x15 x16 x17 x55 x56 (wrap64 (x57 + 1)) x228000 x228001 x228002 x228003)) else (none)) else (none)) else (none)) else (history_Same.l0 k x1 x15 x16 (wrap64 (x17 + 1)))
end
def history_Same.f (k : Nat) (l0 : List (S55)) (l1 : List (S55)) : Option (Bool) := if (l0.length : Int) = (l1.length : Int) then (history_Same.l0 k l1 l0 (l0.length : Int) 0) else (some false)
theorem history_Same.mono_l : ∀ k, (∀ y0 y1 y2 y3, LeO (history_Same.l0 k y0 y1 y2 y3) (history_Same.l0 (k + 1) y0 y1 y2 y3)) ∧ (∀ y0 y1 y2 y3 y4 y5 y6 y7 y8 y9 y10 y11 y12, LeO (history_Same.j1 k y0 y1 y2 y3 y4 y5 y6 y7 y8 y9 y10 y11 y12) (history_Same.j1 (k + 1) y0 y1 y2 y3 y4 y5 y6 y7 y8 y9 y10 y11 y12)) ∧ (∀ y0 y1 y2 y3 y4 y5 y6 y7 y8 y9 y10, LeO (history_Same.l1 k y0 y1 y2 y3 y4 y5 y6 y7 y8 y9 y10) (history_Same.l1 (k + 1) y0 y1 y2 y3 y4 y5 y6 y7 y8 y9 y10))
 | 0 => ⟨fun _ _ _ _ r h => by simp [history_Same.l0] at h, fun _ _ _ _ _ _ _ _ _ _ _ _ _ r h => by simp [history_Same.j1] at h, fun _ _ _ _ _ _ _ _ _ _ _ r h => by simp [history_Same.l1] at h⟩
 | k + 1 => by
  obtain ⟨ih0, ih1, ih2⟩ := history_Same.mono_l k
  refine ⟨?_, ?_, ?_⟩
  ·intro y0 y1 y2 y3
   unfold history_Same.l0
   repeat' first
   | (with_reducible exact ih0 _ _ _ _)
   | (with_reducible exact ih1 _ _ _ _ _ _ _ _ _ _ _ _ _)
   | (with_reducible exact ih2 _ _ _ _ _ _ _ _ _ _ _)
   | (with_reducible exact LeO.refl _)
   | (with_reducible exact LeO.none _)
   | (with_reducible refine LeO.ite ?_ ?_)
   | (with_reducible refine LeO.bind ?_ (fun _ => ?_))
   | exact ih0 _ _ _ _
   | exact ih1 _ _ _ _ _ _ _ _ _ _ _ _ _
   | exact ih2 _ _ _ _ _ _ _ _ _ _ _
   | exact LeO.none _
   | refine LeO.ite ?_ ?_
   | refine LeO.bind ?_ (fun _ => ?_)
  ·intro y0 y1 y2 y3 y4 y5 y6 y7 y8 y9 y10 y11 y12
   unfold history_Same.j1
   repeat' first
   | (with_reducible exact ih0 _ _ _ _)
   | (with_reducible exact ih1 _ _ _ _ _ _ _ _ _ _ _ _ _)
   | (with_reducible exact ih2 _ _ _ _ _ _ _ _ _ _ _)
   | (with_reducible exact LeO.refl _)
   | (with_reducible exact LeO.none _)
   | (with_reducible refine LeO.ite ?_ ?_)
   | (with_reducible refine LeO.bind ?_ (fun _ => ?_))
   | exact ih0 _ _ _ _
   | exact ih1 _ _ _ _ _ _ _ _ _ _ _ _ _
   | exact ih2 _ _ _ _ _ _ _ _ _ _ _
   | exact LeO.none _
   | refine LeO.ite ?_ ?_
   | refine LeO.bind ?_ (fun _ => ?_)
  ·intro y0 y1 y2 y3 y4 y5 y6 y7 y8 y9 y10
   unfold history_Same.l1
   repeat' first
   | (with_reducible exact ih0 _ _ _ _)
   | (with_reducible exact ih1 _ _ _ _ _ _ _ _ _ _ _ _ _)
   | (with_reducible exact ih2 _ _ _ _ _ _ _ _ _ _ _)
   | (with_reducible exact LeO.refl _)
   | (with_reducible exact LeO.none _)
   | (with_reducible refine LeO.ite ?_ ?_)
   | (with_reducible refine LeO.bind ?_ (fun _ => ?_))
   | exact ih0 _ _ _ _
   | exact ih1 _ _ _ _ _ _ _ _ _ _ _ _ _
   | exact ih2 _ _ _ _ _ _ _ _ _ _ _
   | exact LeO.none _
   | refine LeO.ite ?_ ?_
   | refine LeO.bind ?_ (fun _ => ?_)
theorem history_Same.mono : ∀ a0 a1 k, LeO (history_Same.f k a0 a1) (history_Same.f (k + 1) a0 a1) := by
 intro a0 a1 k
 obtain ⟨ih0, ih1, ih2⟩ := history_Same.mono_l k
 unfold history_Same.f
 repeat' first
   | (with_reducible exact ih0 _ _ _ _)
   | (with_reducible exact ih1 _ _ _ _ _ _ _ _ _ _ _ _ _)
   | (with_reducible exact ih2 _ _ _ _ _ _ _ _ _ _ _)
   | (with_reducible exact LeO.refl _)
   | (with_reducible exact LeO.none _)
   | (with_reducible refine LeO.ite ?_ ?_)
   | (with_reducible refine LeO.bind ?_ (fun _ => ?_))
   | exact ih0 _ _ _ _
   | exact ih1 _ _ _ _ _ _ _ _ _ _ _ _ _
   | exact ih2 _ _ _ _ _ _ _ _ _ _ _
   | exact LeO.none _
   | refine LeO.ite ?_ ?_
   | refine LeO.bind ?_ (fun _ => ?_)
def op_Right.f (a0_0 : Bool) (a0_1 : Int) (a0_2 : Int) : Option (Bool) := if a0_1 < 0 then (some false) else (if a0_1 ≥ 64 then (some false) else (if a0_2 < 0 then (some false) else (if a0_2 > 2147483647 then (some false) else (if a0_0 = true then (some (decide (a0_2 > 0))) else (some true)))))
set_option maxHeartbeats 8000000 in
set_option maxRecDepth 100000 in
theorem op_Right.calls (a0_0 : Bool) (a0_1 : Int) (a0_2 : Int) (r : Bool) (w : World) (h : op_Right.f a0_0 a0_1 a0_2 = some r) :
  Calls Try.prog 55 #[.agg #[.bool a0_0, .int .i64 a0_1, .int .i64 a0_2]] w fun e w' => e = .returned (.bool r) ∧ Below w.heap.size w w' := by
 have hu51 := Try.underlying51
 have HB := Aside0.mk (Below.refl w.heap.size w)
 have H : (if a0_1 < 0 then (some false) else (if a0_1 ≥ 64 then (some false) else (if a0_2 < 0 then (some false) else (if a0_2 > 2147483647 then (some false) else (if a0_0 = true then (some (decide (a0_2 > 0))) else (some true)))))) = some r := h
 clear h
 by_cases c2 : a0_1 < 0
 ·rw [if_pos c2] at H
  have c2b0 : decide (a0_1 < 0) = true := decide_eq_true c2
  clear c2
  obtain rfl := Option.some.inj H
  go_enter Try.func55, Try.ntmps55
  go_wp2_with (first | ((with_reducible refine qau (N := 1) rfl ?_); refine qat ?hg (N := 1) ?hd (cs := #[.bool a0_0, .int .i64 a0_1, .int .i64 a0_2]) (t := 51) ?hr ?_; (case hd => rfl); (case hg => rfl); (case hr => first | (go_simp; done) | (go_simp; rfl)); intro gb231 hg w3 hbox hb; have n0_ := Aside0.mk (qam (by repeat (first | (with_reducible first | exact HB.out | apply qac | apply qaa | apply qad) | exact HB.out)) hb); have n1_ := Aside0.mk (hbox); have n2_ := Aside0.mk ((by rw [hg]; exact (qal (by repeat (first | (with_reducible first | exact HB.out | apply qac | apply qaa | apply qad) | exact HB.out))) : w.heap.size ≤ gb231)); have n3_ := Aside0.mk ((by rw [hg]; exact (qal (by repeat (first | (with_reducible first | exact HB.out | apply qac | apply qaa | apply qad) | exact HB.out))) : w.heap.size ≤ gb231)); clear HB; have HB := n0_; have BK231 := n1_; have GW231 := n2_; have GE231 := n3_; clear n0_ n1_ n2_ n3_; clear hb hbox hg; have hcz4_0 : w3.cell? ⟨gb231, 0, none⟩ = some (.bool a0_0) := (qah BK231.out 0).trans rfl; have hcz4_1 : w3.cell? ⟨gb231, 1, none⟩ = some (.int .i64 a0_1) := (qah BK231.out 1).trans rfl; have hcz4_2 : w3.cell? ⟨gb231, 2, none⟩ = some (.int .i64 a0_2) := (qah BK231.out 2).trans rfl; have hfz4_0 := qae BK231.out 0; have hfz4_1 := qae BK231.out 1; have hfz4_2 := qae BK231.out 2))
  go_ret
  exact ⟨by first | rfl | (simp [qao, qan] <;> rfl) | (simp [*, qao, qan] <;> rfl), by repeat (first | (with_reducible first | exact HB.out | apply qac | apply qaa | apply qad | refine qak ?_ GE231.out) | exact HB.out)⟩
 ·rw [if_neg c2] at H
  have c2b0 : decide (a0_1 < 0) = false := decide_eq_false c2
  clear c2
  by_cases c5 : a0_1 ≥ 64
  ·rw [if_pos c5] at H
   have c5b0 : decide (64 ≤ a0_1) = true := decide_eq_true c5
   clear c5
   obtain rfl := Option.some.inj H
   go_enter Try.func55, Try.ntmps55
   go_wp2_with (first | ((with_reducible refine qau (N := 1) rfl ?_); refine qat ?hg (N := 1) ?hd (cs := #[.bool a0_0, .int .i64 a0_1, .int .i64 a0_2]) (t := 51) ?hr ?_; (case hd => rfl); (case hg => rfl); (case hr => first | (go_simp; done) | (go_simp; rfl)); intro gb231 hg w6 hbox hb; have n0_ := Aside0.mk (qam (by repeat (first | (with_reducible first | exact HB.out | apply qac | apply qaa | apply qad) | exact HB.out)) hb); have n1_ := Aside0.mk (hbox); have n2_ := Aside0.mk ((by rw [hg]; exact (qal (by repeat (first | (with_reducible first | exact HB.out | apply qac | apply qaa | apply qad) | exact HB.out))) : w.heap.size ≤ gb231)); have n3_ := Aside0.mk ((by rw [hg]; exact (qal (by repeat (first | (with_reducible first | exact HB.out | apply qac | apply qaa | apply qad) | exact HB.out))) : w.heap.size ≤ gb231)); clear HB; have HB := n0_; have BK231 := n1_; have GW231 := n2_; have GE231 := n3_; clear n0_ n1_ n2_ n3_; clear hb hbox hg; have hcz7_0 : w6.cell? ⟨gb231, 0, none⟩ = some (.bool a0_0) := (qah BK231.out 0).trans rfl; have hcz7_1 : w6.cell? ⟨gb231, 1, none⟩ = some (.int .i64 a0_1) := (qah BK231.out 1).trans rfl; have hcz7_2 : w6.cell? ⟨gb231, 2, none⟩ = some (.int .i64 a0_2) := (qah BK231.out 2).trans rfl; have hfz7_0 := qae BK231.out 0; have hfz7_1 := qae BK231.out 1; have hfz7_2 := qae BK231.out 2))
   go_ret
   exact ⟨by first | rfl | (simp [qao, qan] <;> rfl) | (simp [*, qao, qan] <;> rfl), by repeat (first | (with_reducible first | exact HB.out | apply qac | apply qaa | apply qad | refine qak ?_ GE231.out) | exact HB.out)⟩
  ·rw [if_neg c5] at H
   have c5b0 : decide (64 ≤ a0_1) = false := decide_eq_false c5
   clear c5
   by_cases c8 : a0_2 < 0
   ·rw [if_pos c8] at H
    have c8b0 : decide (a0_2 < 0) = true := decide_eq_true c8
    clear c8
    obtain rfl := Option.some.inj H
    go_enter Try.func55, Try.ntmps55
    go_wp2_with (first | ((with_reducible refine qau (N := 1) rfl ?_); refine qat ?hg (N := 1) ?hd (cs := #[.bool a0_0, .int .i64 a0_1, .int .i64 a0_2]) (t := 51) ?hr ?_; (case hd => rfl); (case hg => rfl); (case hr => first | (go_simp; done) | (go_simp; rfl)); intro gb231 hg w9 hbox hb; have n0_ := Aside0.mk (qam (by repeat (first | (with_reducible first | exact HB.out | apply qac | apply qaa | apply qad) | exact HB.out)) hb); have n1_ := Aside0.mk (hbox); have n2_ := Aside0.mk ((by rw [hg]; exact (qal (by repeat (first | (with_reducible first | exact HB.out | apply qac | apply qaa | apply qad) | exact HB.out))) : w.heap.size ≤ gb231)); have n3_ := Aside0.mk ((by rw [hg]; exact (qal (by repeat (first | (with_reducible first | exact HB.out | apply qac | apply qaa | apply qad) | exact HB.out))) : w.heap.size ≤ gb231)); clear HB; have HB := n0_; have BK231 := n1_; have GW231 := n2_; have GE231 := n3_; clear n0_ n1_ n2_ n3_; clear hb hbox hg; have hcz10_0 : w9.cell? ⟨gb231, 0, none⟩ = some (.bool a0_0) := (qah BK231.out 0).trans rfl; have hcz10_1 : w9.cell? ⟨gb231, 1, none⟩ = some (.int .i64 a0_1) := (qah BK231.out 1).trans rfl; have hcz10_2 : w9.cell? ⟨gb231, 2, none⟩ = some (.int .i64 a0_2) := (qah BK231.out 2).trans rfl; have hfz10_0 := qae BK231.out 0; have hfz10_1 := qae BK231.out 1; have hfz10_2 := qae BK231.out 2))
    go_ret
    exact ⟨by first | rfl | (simp [qao, qan] <;> rfl) | (simp [*, qao, qan] <;> rfl), by repeat (first | (with_reducible first | exact HB.out | apply qac | apply qaa | apply qad | refine qak ?_ GE231.out) | exact HB.out)⟩
   ·rw [if_neg c8] at H
    have c8b0 : decide (a0_2 < 0) = false := decide_eq_false c8
    clear c8
    by_cases c11 : a0_2 > 2147483647
    ·rw [if_pos c11] at H
     have c11b0 : decide (2147483647 < a0_2) = true := decide_eq_true c11
     clear c11
     obtain rfl := Option.some.inj H
     go_enter Try.func55, Try.ntmps55
     go_wp2_with (first | ((with_reducible refine qau (N := 1) rfl ?_); refine qat ?hg (N := 1) ?hd (cs := #[.bool a0_0, .int .i64 a0_1, .int .i64 a0_2]) (t := 51) ?hr ?_; (case hd => rfl); (case hg => rfl); (case hr => first | (go_simp; done) | (go_simp; rfl)); intro gb231 hg w12 hbox hb; have n0_ := Aside0.mk (qam (by repeat (first | (with_reducible first | exact HB.out | apply qac | apply qaa | apply qad) | exact HB.out)) hb); have n1_ := Aside0.mk (hbox); have n2_ := Aside0.mk ((by rw [hg]; exact (qal (by repeat (first | (with_reducible first | exact HB.out | apply qac | apply qaa | apply qad) | exact HB.out))) : w.heap.size ≤ gb231)); have n3_ := Aside0.mk ((by rw [hg]; exact (qal (by repeat (first | (with_reducible first | exact HB.out | apply qac | apply qaa | apply qad) | exact HB.out))) : w.heap.size ≤ gb231)); clear HB; have HB := n0_; have BK231 := n1_; have GW231 := n2_; have GE231 := n3_; clear n0_ n1_ n2_ n3_; clear hb hbox hg; have hcz13_0 : w12.cell? ⟨gb231, 0, none⟩ = some (.bool a0_0) := (qah BK231.out 0).trans rfl; have hcz13_1 : w12.cell? ⟨gb231, 1, none⟩ = some (.int .i64 a0_1) := (qah BK231.out 1).trans rfl; have hcz13_2 : w12.cell? ⟨gb231, 2, none⟩ = some (.int .i64 a0_2) := (qah BK231.out 2).trans rfl; have hfz13_0 := qae BK231.out 0; have hfz13_1 := qae BK231.out 1; have hfz13_2 := qae BK231.out 2))
     go_ret
     exact ⟨by first | rfl | (simp [qao, qan] <;> rfl) | (simp [*, qao, qan] <;> rfl), by repeat (first | (with_reducible first | exact HB.out | apply qac | apply qaa | apply qad | refine qak ?_ GE231.out) | exact HB.out)⟩
    ·rw [if_neg c11] at H
     have c11b0 : decide (2147483647 < a0_2) = false := decide_eq_false c11
     clear c11
     by_cases c14 : a0_0 = true
     ·subst c14
      have H1 : (some (decide (a0_2 > 0))) = some r := by rw [if_pos rfl] at H; exact H
      clear H
      have H := H1
      clear H1
      obtain rfl := Option.some.inj H
      go_enter Try.func55, Try.ntmps55
      go_wp2_with (first | ((with_reducible refine qau (N := 1) rfl ?_); refine qat ?hg (N := 1) ?hd (cs := #[.bool true, .int .i64 a0_1, .int .i64 a0_2]) (t := 51) ?hr ?_; (case hd => rfl); (case hg => rfl); (case hr => first | (go_simp; done) | (go_simp; rfl)); intro gb231 hg w15 hbox hb; have n0_ := Aside0.mk (qam (by repeat (first | (with_reducible first | exact HB.out | apply qac | apply qaa | apply qad) | exact HB.out)) hb); have n1_ := Aside0.mk (hbox); have n2_ := Aside0.mk ((by rw [hg]; exact (qal (by repeat (first | (with_reducible first | exact HB.out | apply qac | apply qaa | apply qad) | exact HB.out))) : w.heap.size ≤ gb231)); have n3_ := Aside0.mk ((by rw [hg]; exact (qal (by repeat (first | (with_reducible first | exact HB.out | apply qac | apply qaa | apply qad) | exact HB.out))) : w.heap.size ≤ gb231)); clear HB; have HB := n0_; have BK231 := n1_; have GW231 := n2_; have GE231 := n3_; clear n0_ n1_ n2_ n3_; clear hb hbox hg; have hcz16_0 : w15.cell? ⟨gb231, 0, none⟩ = some (.bool true) := (qah BK231.out 0).trans rfl; have hcz16_1 : w15.cell? ⟨gb231, 1, none⟩ = some (.int .i64 a0_1) := (qah BK231.out 1).trans rfl; have hcz16_2 : w15.cell? ⟨gb231, 2, none⟩ = some (.int .i64 a0_2) := (qah BK231.out 2).trans rfl; have hfz16_0 := qae BK231.out 0; have hfz16_1 := qae BK231.out 1; have hfz16_2 := qae BK231.out 2))
      go_ret
      exact ⟨by first | rfl | (simp [qao, qan] <;> rfl) | (simp [*, qao, qan] <;> rfl), by repeat (first | (with_reducible first | exact HB.out | apply qac | apply qaa | apply qad | refine qak ?_ GE231.out) | exact HB.out)⟩
     ·replace c14 := Bool.eq_false_iff.mpr c14
      subst c14
      have H1 : (some true) = some r := by rw [if_neg (show ¬ (false = true) by decide)] at H; exact H
      clear H
      have H := H1
      clear H1
      obtain rfl := Option.some.inj H
      go_enter Try.func55, Try.ntmps55
      go_wp2_with (first | ((with_reducible refine qau (N := 1) rfl ?_); refine qat ?hg (N := 1) ?hd (cs := #[.bool false, .int .i64 a0_1, .int .i64 a0_2]) (t := 51) ?hr ?_; (case hd => rfl); (case hg => rfl); (case hr => first | (go_simp; done) | (go_simp; rfl)); intro gb231 hg w17 hbox hb; have n0_ := Aside0.mk (qam (by repeat (first | (with_reducible first | exact HB.out | apply qac | apply qaa | apply qad) | exact HB.out)) hb); have n1_ := Aside0.mk (hbox); have n2_ := Aside0.mk ((by rw [hg]; exact (qal (by repeat (first | (with_reducible first | exact HB.out | apply qac | apply qaa | apply qad) | exact HB.out))) : w.heap.size ≤ gb231)); have n3_ := Aside0.mk ((by rw [hg]; exact (qal (by repeat (first | (with_reducible first | exact HB.out | apply qac | apply qaa | apply qad) | exact HB.out))) : w.heap.size ≤ gb231)); clear HB; have HB := n0_; have BK231 := n1_; have GW231 := n2_; have GE231 := n3_; clear n0_ n1_ n2_ n3_; clear hb hbox hg; have hcz18_0 : w17.cell? ⟨gb231, 0, none⟩ = some (.bool false) := (qah BK231.out 0).trans rfl; have hcz18_1 : w17.cell? ⟨gb231, 1, none⟩ = some (.int .i64 a0_1) := (qah BK231.out 1).trans rfl; have hcz18_2 : w17.cell? ⟨gb231, 2, none⟩ = some (.int .i64 a0_2) := (qah BK231.out 2).trans rfl; have hfz18_0 := qae BK231.out 0; have hfz18_1 := qae BK231.out 1; have hfz18_2 := qae BK231.out 2))
      go_ret
      exact ⟨by first | rfl | (simp [qao, qan] <;> rfl) | (simp [*, qao, qan] <;> rfl), by repeat (first | (with_reducible first | exact HB.out | apply qac | apply qaa | apply qad | refine qak ?_ GE231.out) | exact HB.out)⟩
end Go.Proofs.Ytngkneknopenmaa.K
end
section
namespace Go.Proofs.Ytngkneknopenmaa.K
open Go.Proofs.Ytngkneknopenmaa
open Go.RowKit Go.Proofs.YtngkneknopenmaaW.PrintWords Go.Proofs.YtngkneknopenmaaW.PrintLast Go.Proofs.YtngkneknopenmaaW.PrintMore
attribute [local go_sem] qb3 qb1 qca qb9 qbu qbt qb2 qb0   -- for this text's walks alone
set_option linter.unusedVariables false
set_option linter.unusedSimpArgs false
mutual
def txn_Right.j0 : Nat → Bool → Int → Int → Int → List (S51) → Option (Bool)
 | 0, _, _, _, _, _ => none
 | k + 1, x41, x233000, x233001, x233002, x233003 => if x41 = true then (some false) else (txn_Right.l0 k x233003 (x233003.length : Int) 0)
def txn_Right.l0 : Nat → List (S51) → Int → Int → Option (Bool)
 | 0, _, _, _ => none
 | k + 1, x43, x44, x45 => if x45 < x44 then (if 0 ≤ x45 then (if x45 < (x43.length : Int) then ((op_Right.f ((qaj x43 x45).f0) ((qaj x43 x45).f1) ((qaj x43 x45).f2)).bind fun t235 => (if t235 = true then (txn_Right.l0 k x43 x44 (wrap64 (x45 + 1))) else (some false))) else (none)) else (none)) else (some true)
end
def txn_Right.f (k : Nat) (a0_0 : Int) (a0_1 : Int) (a0_2 : Int) (l0_3 : List (S51)) : Option (Bool) := if a0_0 < 0 then (txn_Right.j0 k true a0_0 a0_1 a0_2 l0_3) else (if a0_0 ≥ 64 then (txn_Right.j0 k true a0_0 a0_1 a0_2 l0_3) else (if a0_1 < 0 then (txn_Right.j0 k true a0_0 a0_1 a0_2 l0_3) else (if a0_1 ≥ a0_2 then (txn_Right.j0 k true a0_0 a0_1 a0_2 l0_3) else (if a0_2 > 2147483647 then (txn_Right.j0 k true a0_0 a0_1 a0_2 l0_3) else (if (l0_3.length : Int) < 1 then (txn_Right.j0 k true a0_0 a0_1 a0_2 l0_3) else (txn_Right.j0 k (decide ((l0_3.length : Int) > 64)) a0_0 a0_1 a0_2 l0_3))))))
theorem txn_Right.mono_l : ∀ k, (∀ y0 y1 y2 y3 y4, LeO (txn_Right.j0 k y0 y1 y2 y3 y4) (txn_Right.j0 (k + 1) y0 y1 y2 y3 y4)) ∧ (∀ y0 y1 y2, LeO (txn_Right.l0 k y0 y1 y2) (txn_Right.l0 (k + 1) y0 y1 y2))
 | 0 => ⟨fun _ _ _ _ _ r h => by simp [txn_Right.j0] at h, fun _ _ _ r h => by simp [txn_Right.l0] at h⟩
 | k + 1 => by
  obtain ⟨ih0, ih1⟩ := txn_Right.mono_l k
  refine ⟨?_, ?_⟩
  ·intro y0 y1 y2 y3 y4
   unfold txn_Right.j0
   repeat' first
   | (with_reducible exact ih0 _ _ _ _ _)
   | (with_reducible exact ih1 _ _ _)
   | (with_reducible exact LeO.refl _)
   | (with_reducible exact LeO.none _)
   | (with_reducible refine LeO.ite ?_ ?_)
   | (with_reducible refine LeO.bind ?_ (fun _ => ?_))
   | exact ih0 _ _ _ _ _
   | exact ih1 _ _ _
   | exact LeO.none _
   | refine LeO.ite ?_ ?_
   | refine LeO.bind ?_ (fun _ => ?_)
  ·intro y0 y1 y2
   unfold txn_Right.l0
   repeat' first
   | (with_reducible exact ih0 _ _ _ _ _)
   | (with_reducible exact ih1 _ _ _)
   | (with_reducible exact LeO.refl _)
   | (with_reducible exact LeO.none _)
   | (with_reducible refine LeO.ite ?_ ?_)
   | (with_reducible refine LeO.bind ?_ (fun _ => ?_))
   | exact ih0 _ _ _ _ _
   | exact ih1 _ _ _
   | exact LeO.none _
   | refine LeO.ite ?_ ?_
   | refine LeO.bind ?_ (fun _ => ?_)
theorem txn_Right.mono : ∀ a0 a1 a2 a3 k, LeO (txn_Right.f k a0 a1 a2 a3) (txn_Right.f (k + 1) a0 a1 a2 a3) := by
 intro a0 a1 a2 a3 k
 obtain ⟨ih0, ih1⟩ := txn_Right.mono_l k
 unfold txn_Right.f
 repeat' first
   | (with_reducible exact ih0 _ _ _ _ _)
   | (with_reducible exact ih1 _ _ _)
   | (with_reducible exact LeO.refl _)
   | (with_reducible exact LeO.none _)
   | (with_reducible refine LeO.ite ?_ ?_)
   | (with_reducible refine LeO.bind ?_ (fun _ => ?_))
   | exact ih0 _ _ _ _ _
   | exact ih1 _ _ _
   | exact LeO.none _
   | refine LeO.ite ?_ ?_
   | refine LeO.bind ?_ (fun _ => ?_)
set_option maxHeartbeats 8000000 in
set_option maxRecDepth 100000 in
theorem txn_Right.calls (k : Nat) (a0_0 : Int) (a0_1 : Int) (a0_2 : Int) (A0_3 : Option Addr) (c0_3 : Nat) (l0_3 : List (S51)) (r : Bool) (w : World) (hr0_3 : Kd.C k51 w A0_3 l0_3.length l0_3) (hc0_3 : l0_3.length ≤ c0_3) (h : txn_Right.f k a0_0 a0_1 a0_2 l0_3 = some r) :
  Calls Try.prog 29 #[.agg #[.int .i64 a0_0, .int .i64 a0_1, .int .i64 a0_2, .slice A0_3 l0_3.length c0_3]] w fun e w' => e = .returned (.bool r) ∧ Below w.heap.size w w' := by
 have hu55 := Try.underlying55
 have hu51 := Try.underlying51
 have HR0_3 := Aside0.mk hr0_3
 have HC0_3 := Aside0.mk hc0_3
 clear hr0_3 hc0_3
 have HB := Aside0.mk (Below.refl w.heap.size w)
 have H : (if a0_0 < 0 then (txn_Right.j0 k true a0_0 a0_1 a0_2 l0_3) else (if a0_0 ≥ 64 then (txn_Right.j0 k true a0_0 a0_1 a0_2 l0_3) else (if a0_1 < 0 then (txn_Right.j0 k true a0_0 a0_1 a0_2 l0_3) else (if a0_1 ≥ a0_2 then (txn_Right.j0 k true a0_0 a0_1 a0_2 l0_3) else (if a0_2 > 2147483647 then (txn_Right.j0 k true a0_0 a0_1 a0_2 l0_3) else (if (l0_3.length : Int) < 1 then (txn_Right.j0 k true a0_0 a0_1 a0_2 l0_3) else (txn_Right.j0 k (decide ((l0_3.length : Int) > 64)) a0_0 a0_1 a0_2 l0_3))))))) = some r := h
 clear h
 have HC2 := Aside0.mk H
 clear H
 go_enter Try.func29, Try.ntmps29
 go_upto_region 1 with (first | ((with_reducible refine qau (N := 1) rfl ?_); (try (refine qbf (by rfl) ?_; dsimp only)); refine qat ?hg (N := 1) ?hd (cs := #[.int .i64 a0_0, .int .i64 a0_1, .int .i64 a0_2, .slice A0_3 l0_3.length c0_3]) (t := 55) ?hr ?_; (case hd => rfl); (case hg => rfl); (case hr => first | (go_simp; done) | (go_simp; rfl)); intro gb232 hg w3 hbox hb; have n0_ := Aside0.mk (qam (by repeat (first | (with_reducible first | exact HB.out | apply qac | apply qaa | apply qad) | exact HB.out)) hb); have n1_ := Aside0.mk (hbox); have n2_ := Aside0.mk ((by rw [hg]; exact (qal (by repeat (first | (with_reducible first | exact HB.out | apply qac | apply qaa | apply qad) | exact HB.out))) : w.heap.size ≤ gb232)); have n3_ := Aside0.mk ((by rw [hg]; exact (qal (by repeat (first | (with_reducible first | exact HB.out | apply qac | apply qaa | apply qad) | exact HB.out))) : w.heap.size ≤ gb232)); clear HB; have HB := n0_; have BK232 := n1_; have GW232 := n2_; have GE232 := n3_; clear n0_ n1_ n2_ n3_; clear hb hbox hg))
 (try simp only [Act.put, List.setIfInBounds_toArray, List.set_cons_zero, List.set_cons_succ])
 go_cut [41] (fun v41 wc => ∃ (kq : Nat) (x41_1 : Bool), v41 = .bool x41_1 ∧ Aside0 (txn_Right.j0 kq x41_1 a0_0 a0_1 a0_2 l0_3 = some r) ∧ Aside0 (kq ≤ k) ∧ Aside0 (wc.heap[gb232]? = some (.cells #[.int .i64 a0_0, .int .i64 a0_1, .int .i64 a0_2, (.slice A0_3 l0_3.length c0_3)] 55 (0, 0))) ∧ Aside0 (Below w.heap.size w wc))
 case first =>
  have H := HC2.out
  clear HC2
  by_cases c4 : a0_0 < 0
  ·rw [if_pos c4] at H
   have c4b0 : decide (a0_0 < 0) = true := decide_eq_true c4
   clear c4
   (first | rw [c4b0] | (simp only [qbb, qbc]; rw [c4b0]) | skip)
   have H' := Aside0.mk H
   clear H
   have hcz5_0 : w3.cell? ⟨gb232, 0, none⟩ = some (.int .i64 a0_0) := (qah BK232.out 0).trans rfl
   have hcz5_1 : w3.cell? ⟨gb232, 1, none⟩ = some (.int .i64 a0_1) := (qah BK232.out 1).trans rfl
   have hcz5_2 : w3.cell? ⟨gb232, 2, none⟩ = some (.int .i64 a0_2) := (qah BK232.out 2).trans rfl
   have hcz5_3 : w3.cell? ⟨gb232, 3, none⟩ = some (.slice A0_3 l0_3.length c0_3) := (qah BK232.out 3).trans rfl
   have hfz5_0 := qae BK232.out 0
   have hfz5_1 := qae BK232.out 1
   have hfz5_2 := qae BK232.out 2
   have hfz5_3 := qae BK232.out 3
   go_wp2
   go_meet
   case rel => exact ⟨_, (true), (by first | rfl | (simp; done) | (simp [*]; done)), H', ⟨by first | omega | exact Nat.le_refl _⟩, ⟨by (with_reducible repeat (first | refine qaf ?_ _ | refine qai ?_ | refine qag ?_ _)); exact BK232.out⟩, ⟨by repeat (first | (with_reducible first | exact HB.out | apply qac | apply qaa | apply qad | refine qak ?_ GE232.out) | exact HB.out)⟩⟩
  ·rw [if_neg c4] at H
   have c4b0 : decide (a0_0 < 0) = false := decide_eq_false c4
   clear c4
   (first | rw [c4b0] | (simp only [qbb, qbc]; rw [c4b0]) | skip)
   by_cases c6 : a0_0 ≥ 64
   ·rw [if_pos c6] at H
    have c6b0 : decide (64 ≤ a0_0) = true := decide_eq_true c6
    clear c6
    have H' := Aside0.mk H
    clear H
    have hcz7_0 : w3.cell? ⟨gb232, 0, none⟩ = some (.int .i64 a0_0) := (qah BK232.out 0).trans rfl
    have hcz7_1 : w3.cell? ⟨gb232, 1, none⟩ = some (.int .i64 a0_1) := (qah BK232.out 1).trans rfl
    have hcz7_2 : w3.cell? ⟨gb232, 2, none⟩ = some (.int .i64 a0_2) := (qah BK232.out 2).trans rfl
    have hcz7_3 : w3.cell? ⟨gb232, 3, none⟩ = some (.slice A0_3 l0_3.length c0_3) := (qah BK232.out 3).trans rfl
    have hfz7_0 := qae BK232.out 0
    have hfz7_1 := qae BK232.out 1
    have hfz7_2 := qae BK232.out 2
    have hfz7_3 := qae BK232.out 3
    go_wp2
    go_meet
    case rel => exact ⟨_, (true), (by first | rfl | (simp; done) | (simp [*]; done)), H', ⟨by first | omega | exact Nat.le_refl _⟩, ⟨by (with_reducible repeat (first | refine qaf ?_ _ | refine qai ?_ | refine qag ?_ _)); exact BK232.out⟩, ⟨by repeat (first | (with_reducible first | exact HB.out | apply qac | apply qaa | apply qad | refine qak ?_ GE232.out) | exact HB.out)⟩⟩
   ·rw [if_neg c6] at H
    have c6b0 : decide (64 ≤ a0_0) = false := decide_eq_false c6
    clear c6
    by_cases c8 : a0_1 < 0
    ·rw [if_pos c8] at H
     have c8b0 : decide (a0_1 < 0) = true := decide_eq_true c8
     clear c8
     have H' := Aside0.mk H
     clear H
     have hcz9_0 : w3.cell? ⟨gb232, 0, none⟩ = some (.int .i64 a0_0) := (qah BK232.out 0).trans rfl
     have hcz9_1 : w3.cell? ⟨gb232, 1, none⟩ = some (.int .i64 a0_1) := (qah BK232.out 1).trans rfl
     have hcz9_2 : w3.cell? ⟨gb232, 2, none⟩ = some (.int .i64 a0_2) := (qah BK232.out 2).trans rfl
     have hcz9_3 : w3.cell? ⟨gb232, 3, none⟩ = some (.slice A0_3 l0_3.length c0_3) := (qah BK232.out 3).trans rfl
     have hfz9_0 := qae BK232.out 0
     have hfz9_1 := qae BK232.out 1
     have hfz9_2 := qae BK232.out 2
     have hfz9_3 := qae BK232.out 3
     go_wp2
     go_meet
     case rel => exact ⟨_, (true), (by first | rfl | (simp; done) | (simp [*]; done)), H', ⟨by first | omega | exact Nat.le_refl _⟩, ⟨by (with_reducible repeat (first | refine qaf ?_ _ | refine qai ?_ | refine qag ?_ _)); exact BK232.out⟩, ⟨by repeat (first | (with_reducible first | exact HB.out | apply qac | apply qaa | apply qad | refine qak ?_ GE232.out) | exact HB.out)⟩⟩
    ·rw [if_neg c8] at H
     have c8b0 : decide (a0_1 < 0) = false := decide_eq_false c8
     clear c8
     by_cases c10 : a0_1 ≥ a0_2
     ·rw [if_pos c10] at H
      have c10b0 : decide (a0_2 ≤ a0_1) = true := decide_eq_true c10
      clear c10
      have H' := Aside0.mk H
      clear H
      have hcz11_0 : w3.cell? ⟨gb232, 0, none⟩ = some (.int .i64 a0_0) := (qah BK232.out 0).trans rfl
      have hcz11_1 : w3.cell? ⟨gb232, 1, none⟩ = some (.int .i64 a0_1) := (qah BK232.out 1).trans rfl
      have hcz11_2 : w3.cell? ⟨gb232, 2, none⟩ = some (.int .i64 a0_2) := (qah BK232.out 2).trans rfl
      have hcz11_3 : w3.cell? ⟨gb232, 3, none⟩ = some (.slice A0_3 l0_3.length c0_3) := (qah BK232.out 3).trans rfl
      have hfz11_0 := qae BK232.out 0
      have hfz11_1 := qae BK232.out 1
      have hfz11_2 := qae BK232.out 2
      have hfz11_3 := qae BK232.out 3
      go_wp2
      go_meet
      case rel => exact ⟨_, (true), (by first | rfl | (simp; done) | (simp [*]; done)), H', ⟨by first | omega | exact Nat.le_refl _⟩, ⟨by (with_reducible repeat (first | refine qaf ?_ _ | refine qai ?_ | refine qag ?_ _)); exact BK232.out⟩, ⟨by repeat (first | (with_reducible first | exact HB.out | apply qac | apply qaa | apply qad | refine qak ?_ GE232.out) | exact HB.out)⟩⟩
     ·rw [if_neg c10] at H
      have c10b0 : decide (a0_2 ≤ a0_1) = false := decide_eq_false c10
      clear c10
      by_cases c12 : a0_2 > 2147483647
      ·rw [if_pos c12] at H
       have c12b0 : decide (2147483647 < a0_2) = true := decide_eq_true c12
       clear c12
       have H' := Aside0.mk H
       clear H
       have hcz13_0 : w3.cell? ⟨gb232, 0, none⟩ = some (.int .i64 a0_0) := (qah BK232.out 0).trans rfl
       have hcz13_1 : w3.cell? ⟨gb232, 1, none⟩ = some (.int .i64 a0_1) := (qah BK232.out 1).trans rfl
       have hcz13_2 : w3.cell? ⟨gb232, 2, none⟩ = some (.int .i64 a0_2) := (qah BK232.out 2).trans rfl
       have hcz13_3 : w3.cell? ⟨gb232, 3, none⟩ = some (.slice A0_3 l0_3.length c0_3) := (qah BK232.out 3).trans rfl
       have hfz13_0 := qae BK232.out 0
       have hfz13_1 := qae BK232.out 1
       have hfz13_2 := qae BK232.out 2
       have hfz13_3 := qae BK232.out 3
       go_wp2
       go_meet
       case rel => exact ⟨_, (true), (by first | rfl | (simp; done) | (simp [*]; done)), H', ⟨by first | omega | exact Nat.le_refl _⟩, ⟨by (with_reducible repeat (first | refine qaf ?_ _ | refine qai ?_ | refine qag ?_ _)); exact BK232.out⟩, ⟨by repeat (first | (with_reducible first | exact HB.out | apply qac | apply qaa | apply qad | refine qak ?_ GE232.out) | exact HB.out)⟩⟩
      ·rw [if_neg c12] at H
       have c12b0 : decide (2147483647 < a0_2) = false := decide_eq_false c12
       clear c12
       by_cases c14 : (l0_3.length : Int) < 1
       ·rw [if_pos c14] at H
        have c14b0 : decide ((l0_3.length : Int) < 1) = true := decide_eq_true c14
        have c14b1 : decide (l0_3.length < 1) = true := decide_eq_true (by omega)
        clear c14
        have H' := Aside0.mk H
        clear H
        have hcz15_0 : w3.cell? ⟨gb232, 0, none⟩ = some (.int .i64 a0_0) := (qah BK232.out 0).trans rfl
        have hcz15_1 : w3.cell? ⟨gb232, 1, none⟩ = some (.int .i64 a0_1) := (qah BK232.out 1).trans rfl
        have hcz15_2 : w3.cell? ⟨gb232, 2, none⟩ = some (.int .i64 a0_2) := (qah BK232.out 2).trans rfl
        have hcz15_3 : w3.cell? ⟨gb232, 3, none⟩ = some (.slice A0_3 l0_3.length c0_3) := (qah BK232.out 3).trans rfl
        have hfz15_0 := qae BK232.out 0
        have hfz15_1 := qae BK232.out 1
        have hfz15_2 := qae BK232.out 2
        have hfz15_3 := qae BK232.out 3
        go_wp2
        go_meet
        case rel => exact ⟨_, (true), (by first | rfl | (simp; done) | (simp [*]; done)), H', ⟨by first | omega | exact Nat.le_refl _⟩, ⟨by (with_reducible repeat (first | refine qaf ?_ _ | refine qai ?_ | refine qag ?_ _)); exact BK232.out⟩, ⟨by repeat (first | (with_reducible first | exact HB.out | apply qac | apply qaa | apply qad | refine qak ?_ GE232.out) | exact HB.out)⟩⟩
       ·rw [if_neg c14] at H
        have c14b0 : decide ((l0_3.length : Int) < 1) = false := decide_eq_false c14
        have c14b1 : decide (l0_3.length < 1) = false := decide_eq_false (by omega)
        clear c14
        have H' := Aside0.mk H
        clear H
        have hcz16_0 : w3.cell? ⟨gb232, 0, none⟩ = some (.int .i64 a0_0) := (qah BK232.out 0).trans rfl
        have hcz16_1 : w3.cell? ⟨gb232, 1, none⟩ = some (.int .i64 a0_1) := (qah BK232.out 1).trans rfl
        have hcz16_2 : w3.cell? ⟨gb232, 2, none⟩ = some (.int .i64 a0_2) := (qah BK232.out 2).trans rfl
        have hcz16_3 : w3.cell? ⟨gb232, 3, none⟩ = some (.slice A0_3 l0_3.length c0_3) := (qah BK232.out 3).trans rfl
        have hfz16_0 := qae BK232.out 0
        have hfz16_1 := qae BK232.out 1
        have hfz16_2 := qae BK232.out 2
        have hfz16_3 := qae BK232.out 3
        go_wp2
        go_meet
        case rel => exact ⟨_, (decide ((l0_3.length : Int) > 64)), (by first | rfl | (simp; done) | (simp [*]; done)), H', ⟨by first | omega | exact Nat.le_refl _⟩, ⟨by (with_reducible repeat (first | refine qaf ?_ _ | refine qai ?_ | refine qag ?_ _)); exact BK232.out⟩, ⟨by repeat (first | (with_reducible first | exact HB.out | apply qac | apply qaa | apply qad | refine qak ?_ GE232.out) | exact HB.out)⟩⟩
 case rest =>
  clear HC2
  try clear c1
  try clear c2
  try clear p2
  try clear c4
  try clear c4b0
  try clear c6
  try clear c6b0
  try clear c8
  try clear c8b0
  try clear c10
  try clear c10b0
  try clear c12
  try clear c12b0
  try clear c14
  try clear c14b0
  try clear c14b1
  try clear hcz11_0
  try clear hcz11_1
  try clear hcz11_2
  try clear hcz11_3
  try clear hcz13_0
  try clear hcz13_1
  try clear hcz13_2
  try clear hcz13_3
  try clear hcz15_0
  try clear hcz15_1
  try clear hcz15_2
  try clear hcz15_3
  try clear hcz16_0
  try clear hcz16_1
  try clear hcz16_2
  try clear hcz16_3
  try clear hcz5_0
  try clear hcz5_1
  try clear hcz5_2
  try clear hcz5_3
  try clear hcz7_0
  try clear hcz7_1
  try clear hcz7_2
  try clear hcz7_3
  try clear hcz9_0
  try clear hcz9_1
  try clear hcz9_2
  try clear hcz9_3
  try clear hfz11_0
  try clear hfz11_1
  try clear hfz11_2
  try clear hfz11_3
  try clear hfz13_0
  try clear hfz13_1
  try clear hfz13_2
  try clear hfz13_3
  try clear hfz15_0
  try clear hfz15_1
  try clear hfz15_2
  try clear hfz15_3
  try clear hfz16_0
  try clear hfz16_1
  try clear hfz16_2
  try clear hfz16_3
  try clear hfz5_0
  try clear hfz5_1
  try clear hfz5_2
  try clear hfz5_3
  try clear hfz7_0
  try clear hfz7_1
  try clear hfz7_2
  try clear hfz7_3
  try clear hfz9_0
  try clear hfz9_1
  try clear hfz9_2
  try clear hfz9_3
  obtain ⟨kq, x41_1, rfl, HA, HJ1, BK232, HB⟩ := hcut
  cases kq with
  | zero => exact absurd HA.out (by simp [txn_Right.j0])
  | succ kj1 =>
   have H := HA.out
   clear HA
   simp only [txn_Right.j0] at H
   by_cases c17 : x41_1 = true
   ·subst c17
    have H1 : (some false) = some r := by rw [if_pos rfl] at H; exact H
    clear H
    have H := H1
    clear H1
    obtain rfl := Option.some.inj H
    go_wp2
    go_ret
    exact ⟨by first | rfl | (simp [qao, qan] <;> rfl) | (simp [*, qao, qan] <;> rfl), by repeat (first | (with_reducible first | exact HB.out | apply qac | apply qaa | apply qad | refine qak ?_ GE232.out) | exact HB.out)⟩
   ·replace c17 := Bool.eq_false_iff.mpr c17
    subst c17
    have H1 : (txn_Right.l0 kj1 l0_3 (l0_3.length : Int) 0) = some r := by rw [if_neg (show ¬ (false = true) by decide)] at H; exact H
    clear H
    have H := H1
    clear H1
    have H' := Aside0.mk H
    clear H
    have hcz18_0 : wc.cell? ⟨gb232, 0, none⟩ = some (.int .i64 a0_0) := (qah BK232.out 0).trans rfl
    have hcz18_1 : wc.cell? ⟨gb232, 1, none⟩ = some (.int .i64 a0_1) := (qah BK232.out 1).trans rfl
    have hcz18_2 : wc.cell? ⟨gb232, 2, none⟩ = some (.int .i64 a0_2) := (qah BK232.out 2).trans rfl
    have hcz18_3 : wc.cell? ⟨gb232, 3, none⟩ = some (.slice A0_3 l0_3.length c0_3) := (qah BK232.out 3).trans rfl
    have hfz18_0 := qae BK232.out 0
    have hfz18_1 := qae BK232.out 1
    have hfz18_2 := qae BK232.out 2
    have hfz18_3 := qae BK232.out 3
    go_wp2
    go_loopg [45] kj1 (fun kq v45 w' => ∃ (x45_2 : Int), v45 = .int .i64 x45_2 ∧ Aside0 (txn_Right.l0 kq l0_3 (l0_3.length : Int) x45_2 = some r) ∧ Aside0 (kq ≤ kj1) ∧ Aside0 (w'.heap[gb232]? = some (.cells #[.int .i64 a0_0, .int .i64 a0_1, .int .i64 a0_2, (.slice A0_3 l0_3.length c0_3)] 55 (0, 0))) ∧ Aside0 (Below w.heap.size w w'))
    case atStart => exact ⟨(0), (by first | rfl | (simp; done) | (simp [*]; done)), H', ⟨Nat.le_refl _⟩, ⟨by (with_reducible repeat (first | refine qaf ?_ _ | refine qai ?_ | refine qag ?_ _)); exact BK232.out⟩, ⟨by repeat (first | (with_reducible first | exact HB.out | apply qac | apply qaa | apply qad | refine qak ?_ GE232.out) | exact HB.out)⟩⟩
    case round =>
     clear H'
     try clear c1
     try clear c2
     try clear p2
     try clear c4
     try clear c4b0
     try clear c6
     try clear c6b0
     try clear c8
     try clear c8b0
     try clear c10
     try clear c10b0
     try clear c12
     try clear c12b0
     try clear c14
     try clear c14b0
     try clear c14b1
     try clear c17
     try clear hcz11_0
     try clear hcz11_1
     try clear hcz11_2
     try clear hcz11_3
     try clear hcz13_0
     try clear hcz13_1
     try clear hcz13_2
     try clear hcz13_3
     try clear hcz15_0
     try clear hcz15_1
     try clear hcz15_2
     try clear hcz15_3
     try clear hcz16_0
     try clear hcz16_1
     try clear hcz16_2
     try clear hcz16_3
     try clear hcz18_0
     try clear hcz18_1
     try clear hcz18_2
     try clear hcz18_3
     try clear hcz5_0
     try clear hcz5_1
     try clear hcz5_2
     try clear hcz5_3
     try clear hcz7_0
     try clear hcz7_1
     try clear hcz7_2
     try clear hcz7_3
     try clear hcz9_0
     try clear hcz9_1
     try clear hcz9_2
     try clear hcz9_3
     try clear hfz11_0
     try clear hfz11_1
     try clear hfz11_2
     try clear hfz11_3
     try clear hfz13_0
     try clear hfz13_1
     try clear hfz13_2
     try clear hfz13_3
     try clear hfz15_0
     try clear hfz15_1
     try clear hfz15_2
     try clear hfz15_3
     try clear hfz16_0
     try clear hfz16_1
     try clear hfz16_2
     try clear hfz16_3
     try clear hfz18_0
     try clear hfz18_1
     try clear hfz18_2
     try clear hfz18_3
     try clear hfz5_0
     try clear hfz5_1
     try clear hfz5_2
     try clear hfz5_3
     try clear hfz7_0
     try clear hfz7_1
     try clear hfz7_2
     try clear hfz7_3
     try clear hfz9_0
     try clear hfz9_1
     try clear hfz9_2
     try clear hfz9_3
     try clear p2
     obtain ⟨x45_2, rfl, HA, HK2, BK232, HB⟩ := hrel
     cases gk with
     | zero => exact absurd HA.out (by simp [txn_Right.l0])
     | succ k2 =>
      have H := HA.out
      clear HA
      simp only [txn_Right.l0] at H
      by_cases c19 : x45_2 < (l0_3.length : Int)
      ·rw [if_pos c19] at H
       have c19b0 : decide (x45_2 < (l0_3.length : Int)) = true := decide_eq_true c19
       clear c19
       by_cases c20 : 0 ≤ x45_2
       ·rw [if_pos c20] at H
        have c20b0 : decide (0 ≤ x45_2) = true := decide_eq_true c20
        clear c20
        by_cases c21 : x45_2 < (l0_3.length : Int)
        ·rw [if_pos c21] at H
         have c21b0 : decide (x45_2 < (l0_3.length : Int)) = true := decide_eq_true c21
         clear c21
         replace H := Option.bind_eq_some_iff.mp H
         obtain ⟨t235, A220, H⟩ := H
         replace H : (if t235 = true then (txn_Right.l0 k2 l0_3 (l0_3.length : Int) (wrap64 (x45_2 + 1))) else (some false)) = some r := H
         have A22 := Aside0.mk A220
         clear A220
         by_cases c23 : t235 = true
         ·subst c23
          have H1 : (txn_Right.l0 k2 l0_3 (l0_3.length : Int) (wrap64 (x45_2 + 1))) = some r := by rw [if_pos rfl] at H; exact H
          clear H
          have H := H1
          clear H1
          have H' := Aside0.mk H
          clear H
          have p233 : 0 ≤ (x45_2 : Int) := of_decide_eq_true (by first | (with_reducible assumption) | assumption)
          have q233 : x45_2 < (l0_3.length : Int) := of_decide_eq_true (by first | (with_reducible assumption) | assumption)
          obtain ⟨ad233, e233, hx233_0, hx233_1, hx233_2⟩ := qbx HR0_3.out x45_2 p233 q233
          cases e233
          replace hx233_0 := (HB.out.cell (World.block_lt_of_cell? w _ hx233_0)).trans hx233_0
          replace hx233_1 := (HB.out.cell (World.block_lt_of_cell? w _ hx233_1)).trans hx233_1
          replace hx233_2 := (HB.out.cell (World.block_lt_of_cell? w _ hx233_2)).trans hx233_2
          replace p233 := eq_true p233
          replace q233 := eq_true q233
          go_wp2_with (first | ((with_reducible refine qau (N := 4) rfl ?_); (try (refine qbf (by rfl) ?_; dsimp only)); refine qat ?hg (N := 4) ?hd (cs := #[.bool false, .int .i64 0, .int .i64 0]) (t := 51) ?hr ?_; (case hd => rfl); (case hg => rfl); (case hr => first | (go_simp; done) | (go_simp; rfl)); intro gb234 hg w24 hbox hb; have n0_ := Aside0.mk (qa1 (g := gb232) (o := .cells #[.int .i64 a0_0, .int .i64 a0_1, .int .i64 a0_2, .slice (some ad233) l0_3.length c0_3] 55 (0, 0)) (by (with_reducible repeat (first | refine qaf ?_ _ | refine qai ?_ | refine qag ?_ _)); exact BK232.out) hb); have n1_ := Aside0.mk (qam (by repeat (first | (with_reducible first | exact HB.out | apply qac | apply qaa | apply qad | refine qak ?_ GE232.out) | exact HB.out)) hb); have n2_ := Aside0.mk (hbox); have n3_ := Aside0.mk ((by rw [hg]; exact (qal (by repeat (first | (with_reducible first | exact HB.out | apply qac | apply qaa | apply qad | refine qak ?_ GE232.out) | exact HB.out))) : w.heap.size ≤ gb234)); have n4_ := Aside0.mk ((by rw [hg]; exact (qal (by repeat (first | (with_reducible first | exact HB.out | apply qac | apply qaa | apply qad | refine qak ?_ GE232.out) | exact HB.out))) : w.heap.size ≤ gb234)); have n5_ := Aside0.mk ((by rw [hg]; exact Nat.ne_of_lt (qa9 (g := gb232) (o := .cells #[.int .i64 a0_0, .int .i64 a0_1, .int .i64 a0_2, .slice (some ad233) l0_3.length c0_3] 55 (0, 0)) (by (with_reducible repeat (first | refine qaf ?_ _ | refine qai ?_ | refine qag ?_ _)); exact BK232.out)) : gb232 ≠ gb234)); have n6_ := Aside0.mk ((by rw [hg]; exact Nat.ne_of_gt (qa9 (g := gb232) (o := .cells #[.int .i64 a0_0, .int .i64 a0_1, .int .i64 a0_2, .slice (some ad233) l0_3.length c0_3] 55 (0, 0)) (by (with_reducible repeat (first | refine qaf ?_ _ | refine qai ?_ | refine qag ?_ _)); exact BK232.out)) : gb234 ≠ gb232)); clear BK232; clear HB; have BK232 := n0_; have HB := n1_; have BK234 := n2_; have GW234 := n3_; have GE234 := n4_; have NB232_234 := n5_; have NB234_232 := n6_; clear n0_ n1_ n2_ n3_ n4_ n5_ n6_; clear hb hbox hg; have hnb25 := NB234_232.out; have hnc25 := NB232_234.out; have hcz26_0 : w24.cell? ⟨gb234, 0, none⟩ = some (.bool false) := (qah BK234.out 0).trans rfl; have hcz26_1 : w24.cell? ⟨gb234, 1, none⟩ = some (.int .i64 0) := (qah BK234.out 1).trans rfl; have hcz26_2 : w24.cell? ⟨gb234, 2, none⟩ = some (.int .i64 0) := (qah BK234.out 2).trans rfl; have hfz26_0 := qae BK234.out 0; have hfz26_1 := qae BK234.out 1; have hfz26_2 := qae BK234.out 2) | ((with_reducible refine qbd (f := 55) rfl ?_); refine qce (some 50) rfl rfl Try.func55 (by kernel_rfl) rfl #[.agg #[.bool ((qaj l0_3 x45_2).f0), .int .i64 ((qaj l0_3 x45_2).f1), .int .i64 ((qaj l0_3 x45_2).f2)]] rfl (by (try simp only [List.map_toArray, List.map_cons, List.map_nil]); first | done | rfl | (simp only [List.length_drop, List.length_take]; rfl)) ?_; (with_reducible refine (op_Right.calls ((qaj l0_3 x45_2).f0) ((qaj l0_3 x45_2).f1) ((qaj l0_3 x45_2).f2) true _ A22.out).mono ?_); rintro e w27 ⟨rfl, hb⟩; refine ⟨_, rfl, ?_⟩; have n0_ := Aside0.mk (qa1 (g := gb232) (o := .cells #[.int .i64 a0_0, .int .i64 a0_1, .int .i64 a0_2, .slice (some ad233) l0_3.length c0_3] 55 (0, 0)) (by (with_reducible repeat (first | refine qaf ?_ _ | refine qai ?_ | refine qag ?_ _)); refine qa0 ?_ NB232_234.out _; (with_reducible repeat (first | refine qaf ?_ _ | refine qai ?_ | refine qag ?_ _)); refine qa0 ?_ NB232_234.out _; (with_reducible repeat (first | refine qaf ?_ _ | refine qai ?_ | refine qag ?_ _)); refine qa0 ?_ NB232_234.out _; (with_reducible repeat (first | refine qaf ?_ _ | refine qai ?_ | refine qag ?_ _)); exact BK232.out) hb); have n1_ := Aside0.mk (qa1 (g := gb234) (o := .cells #[.bool ((qaj l0_3 x45_2).f0), .int .i64 ((qaj l0_3 x45_2).f1), .int .i64 ((qaj l0_3 x45_2).f2)] 51 (0, 0)) (by (with_reducible repeat (first | refine qaf ?_ _ | refine qai ?_ | refine qag ?_ _)); refine qaq (cs := #[.bool ((qaj l0_3 x45_2).f0), .int .i64 ((qaj l0_3 x45_2).f1), .int .i64 0]) ?_ 2 _ rfl; (with_reducible repeat (first | refine qaf ?_ _ | refine qai ?_ | refine qag ?_ _)); refine qaq (cs := #[.bool ((qaj l0_3 x45_2).f0), .int .i64 0, .int .i64 0]) ?_ 1 _ rfl; (with_reducible repeat (first | refine qaf ?_ _ | refine qai ?_ | refine qag ?_ _)); refine qaq (cs := #[.bool false, .int .i64 0, .int .i64 0]) ?_ 0 _ rfl; (with_reducible repeat (first | refine qaf ?_ _ | refine qai ?_ | refine qag ?_ _)); exact BK234.out) hb); have n2_ := Aside0.mk (qam (by repeat (first | (with_reducible first | exact HB.out | apply qac | apply qaa | apply qad | refine qak ?_ GE232.out | refine qak ?_ GE234.out) | exact HB.out)) hb); clear BK232; clear BK234; clear HB; have BK232 := n0_; have BK234 := n1_; have HB := n2_; clear n0_ n1_ n2_; (try clear hb); (try clear hb2); (try clear hk); (try clear hi)))
          go_roundg k2
          case measure => have := HJ1.out; have := HK2.out; omega
          case rel => exact ⟨(wrap64 (x45_2 + 1)), (by first | rfl | (simp; done) | (simp [*]; done)), H', ⟨by have := HJ1.out; have := HK2.out; omega⟩, ⟨by (with_reducible repeat (first | refine qaf ?_ _ | refine qai ?_ | refine qag ?_ _)); exact BK232.out⟩, ⟨by repeat (first | (with_reducible first | exact HB.out | apply qac | apply qaa | apply qad | refine qak ?_ GE232.out | refine qak ?_ GE234.out) | exact HB.out)⟩⟩
         ·replace c23 := Bool.eq_false_iff.mpr c23
          subst c23
          have H1 : (some false) = some r := by rw [if_neg (show ¬ (false = true) by decide)] at H; exact H
          clear H
          have H := H1
          clear H1
          obtain rfl := Option.some.inj H
          have p233 : 0 ≤ (x45_2 : Int) := of_decide_eq_true (by first | (with_reducible assumption) | assumption)
          have q233 : x45_2 < (l0_3.length : Int) := of_decide_eq_true (by first | (with_reducible assumption) | assumption)
          obtain ⟨ad233, e233, hx233_0, hx233_1, hx233_2⟩ := qbx HR0_3.out x45_2 p233 q233
          cases e233
          replace hx233_0 := (HB.out.cell (World.block_lt_of_cell? w _ hx233_0)).trans hx233_0
          replace hx233_1 := (HB.out.cell (World.block_lt_of_cell? w _ hx233_1)).trans hx233_1
          replace hx233_2 := (HB.out.cell (World.block_lt_of_cell? w _ hx233_2)).trans hx233_2
          replace p233 := eq_true p233
          replace q233 := eq_true q233
          go_wp2_with (first | ((with_reducible refine qau (N := 4) rfl ?_); (try (refine qbf (by rfl) ?_; dsimp only)); refine qat ?hg (N := 4) ?hd (cs := #[.bool false, .int .i64 0, .int .i64 0]) (t := 51) ?hr ?_; (case hd => rfl); (case hg => rfl); (case hr => first | (go_simp; done) | (go_simp; rfl)); intro gb234 hg w28 hbox hb; have n0_ := Aside0.mk (qa1 (g := gb232) (o := .cells #[.int .i64 a0_0, .int .i64 a0_1, .int .i64 a0_2, .slice (some ad233) l0_3.length c0_3] 55 (0, 0)) (by (with_reducible repeat (first | refine qaf ?_ _ | refine qai ?_ | refine qag ?_ _)); exact BK232.out) hb); have n1_ := Aside0.mk (qam (by repeat (first | (with_reducible first | exact HB.out | apply qac | apply qaa | apply qad | refine qak ?_ GE232.out) | exact HB.out)) hb); have n2_ := Aside0.mk (hbox); have n3_ := Aside0.mk ((by rw [hg]; exact (qal (by repeat (first | (with_reducible first | exact HB.out | apply qac | apply qaa | apply qad | refine qak ?_ GE232.out) | exact HB.out))) : w.heap.size ≤ gb234)); have n4_ := Aside0.mk ((by rw [hg]; exact (qal (by repeat (first | (with_reducible first | exact HB.out | apply qac | apply qaa | apply qad | refine qak ?_ GE232.out) | exact HB.out))) : w.heap.size ≤ gb234)); have n5_ := Aside0.mk ((by rw [hg]; exact Nat.ne_of_lt (qa9 (g := gb232) (o := .cells #[.int .i64 a0_0, .int .i64 a0_1, .int .i64 a0_2, .slice (some ad233) l0_3.length c0_3] 55 (0, 0)) (by (with_reducible repeat (first | refine qaf ?_ _ | refine qai ?_ | refine qag ?_ _)); exact BK232.out)) : gb232 ≠ gb234)); have n6_ := Aside0.mk ((by rw [hg]; exact Nat.ne_of_gt (qa9 (g := gb232) (o := .cells #[.int .i64 a0_0, .int .i64 a0_1, .int .i64 a0_2, .slice (some ad233) l0_3.length c0_3] 55 (0, 0)) (by (with_reducible repeat (first | refine qaf ?_ _ | refine qai ?_ | refine qag ?_ _)); exact BK232.out)) : gb234 ≠ gb232)); clear BK232; clear HB; have BK232 := n0_; have HB := n1_; have BK234 := n2_; have GW234 := n3_; have GE234 := n4_; have NB232_234 := n5_; have NB234_232 := n6_; clear n0_ n1_ n2_ n3_ n4_ n5_ n6_; clear hb hbox hg; have hnb29 := NB234_232.out; have hnc29 := NB232_234.out; have hcz30_0 : w28.cell? ⟨gb234, 0, none⟩ = some (.bool false) := (qah BK234.out 0).trans rfl; have hcz30_1 : w28.cell? ⟨gb234, 1, none⟩ = some (.int .i64 0) := (qah BK234.out 1).trans rfl; have hcz30_2 : w28.cell? ⟨gb234, 2, none⟩ = some (.int .i64 0) := (qah BK234.out 2).trans rfl; have hfz30_0 := qae BK234.out 0; have hfz30_1 := qae BK234.out 1; have hfz30_2 := qae BK234.out 2) | ((with_reducible refine qbd (f := 55) rfl ?_); refine qce (some 50) rfl rfl Try.func55 (by kernel_rfl) rfl #[.agg #[.bool ((qaj l0_3 x45_2).f0), .int .i64 ((qaj l0_3 x45_2).f1), .int .i64 ((qaj l0_3 x45_2).f2)]] rfl (by (try simp only [List.map_toArray, List.map_cons, List.map_nil]); first | done | rfl | (simp only [List.length_drop, List.length_take]; rfl)) ?_; (with_reducible refine (op_Right.calls ((qaj l0_3 x45_2).f0) ((qaj l0_3 x45_2).f1) ((qaj l0_3 x45_2).f2) false _ A22.out).mono ?_); rintro e w31 ⟨rfl, hb⟩; refine ⟨_, rfl, ?_⟩; have n0_ := Aside0.mk (qa1 (g := gb232) (o := .cells #[.int .i64 a0_0, .int .i64 a0_1, .int .i64 a0_2, .slice (some ad233) l0_3.length c0_3] 55 (0, 0)) (by (with_reducible repeat (first | refine qaf ?_ _ | refine qai ?_ | refine qag ?_ _)); refine qa0 ?_ NB232_234.out _; (with_reducible repeat (first | refine qaf ?_ _ | refine qai ?_ | refine qag ?_ _)); refine qa0 ?_ NB232_234.out _; (with_reducible repeat (first | refine qaf ?_ _ | refine qai ?_ | refine qag ?_ _)); refine qa0 ?_ NB232_234.out _; (with_reducible repeat (first | refine qaf ?_ _ | refine qai ?_ | refine qag ?_ _)); exact BK232.out) hb); have n1_ := Aside0.mk (qa1 (g := gb234) (o := .cells #[.bool ((qaj l0_3 x45_2).f0), .int .i64 ((qaj l0_3 x45_2).f1), .int .i64 ((qaj l0_3 x45_2).f2)] 51 (0, 0)) (by (with_reducible repeat (first | refine qaf ?_ _ | refine qai ?_ | refine qag ?_ _)); refine qaq (cs := #[.bool ((qaj l0_3 x45_2).f0), .int .i64 ((qaj l0_3 x45_2).f1), .int .i64 0]) ?_ 2 _ rfl; (with_reducible repeat (first | refine qaf ?_ _ | refine qai ?_ | refine qag ?_ _)); refine qaq (cs := #[.bool ((qaj l0_3 x45_2).f0), .int .i64 0, .int .i64 0]) ?_ 1 _ rfl; (with_reducible repeat (first | refine qaf ?_ _ | refine qai ?_ | refine qag ?_ _)); refine qaq (cs := #[.bool false, .int .i64 0, .int .i64 0]) ?_ 0 _ rfl; (with_reducible repeat (first | refine qaf ?_ _ | refine qai ?_ | refine qag ?_ _)); exact BK234.out) hb); have n2_ := Aside0.mk (qam (by repeat (first | (with_reducible first | exact HB.out | apply qac | apply qaa | apply qad | refine qak ?_ GE232.out | refine qak ?_ GE234.out) | exact HB.out)) hb); clear BK232; clear BK234; clear HB; have BK232 := n0_; have BK234 := n1_; have HB := n2_; clear n0_ n1_ n2_; (try clear hb); (try clear hb2); (try clear hk); (try clear hi)))
          go_ret
          exact ⟨by first | rfl | (simp [qao, qan] <;> rfl) | (simp [*, qao, qan] <;> rfl), by repeat (first | (with_reducible first | exact HB.out | apply qac | apply qaa | apply qad | refine qak ?_ GE232.out | refine qak ?_ GE234.out) | exact HB.out)⟩
        ·rw [if_neg c21] at H
         exact absurd H (by simp)
       ·rw [if_neg c20] at H
        exact absurd H (by simp)
      ·rw [if_neg c19] at H
       have c19b0 : decide (x45_2 < (l0_3.length : Int)) = false := decide_eq_false c19
       clear c19
       obtain rfl := Option.some.inj H
       go_wp2
       go_ret
       exact ⟨by first | rfl | (simp [qao, qan] <;> rfl) | (simp [*, qao, qan] <;> rfl), by repeat (first | (with_reducible first | exact HB.out | apply qac | apply qaa | apply qad | refine qak ?_ GE232.out) | exact HB.out)⟩
def history_Ops.l0 : Nat → Int → List (S55) → Int → Int → Option (Int)
 | 0, _, _, _, _ => none
 | k + 1, x3, x6, x7, x8 => if x8 < x7 then (if 0 ≤ x8 then (if x8 < (x6.length : Int) then (history_Ops.l0 k (wrap64 (x3 + (((qab x6 x8).f3).length : Int))) x6 x7 (wrap64 (x8 + 1))) else (none)) else (none)) else (some x3)
def history_Ops.f (k : Nat) (l0 : List (S55)) : Option (Int) := history_Ops.l0 k 0 l0 (l0.length : Int) 0
theorem history_Ops.mono_l : ∀ k, (∀ y0 y1 y2 y3, LeO (history_Ops.l0 k y0 y1 y2 y3) (history_Ops.l0 (k + 1) y0 y1 y2 y3))
 | 0 => fun _ _ _ _ r h => by simp [history_Ops.l0] at h
 | k + 1 => by
  have ih0 := history_Ops.mono_l k
  ·intro y0 y1 y2 y3
   unfold history_Ops.l0
   repeat' first
   | (with_reducible exact ih0 _ _ _ _)
   | (with_reducible exact LeO.refl _)
   | (with_reducible exact LeO.none _)
   | (with_reducible refine LeO.ite ?_ ?_)
   | (with_reducible refine LeO.bind ?_ (fun _ => ?_))
   | exact ih0 _ _ _ _
   | exact LeO.none _
   | refine LeO.ite ?_ ?_
   | refine LeO.bind ?_ (fun _ => ?_)
theorem history_Ops.mono : ∀ a0 k, LeO (history_Ops.f k a0) (history_Ops.f (k + 1) a0) := by
 intro a0 k
 have ih0 := history_Ops.mono_l k
 unfold history_Ops.f
 repeat' first
   | (with_reducible exact ih0 _ _ _ _)
   | (with_reducible exact LeO.refl _)
   | (with_reducible exact LeO.none _)
   | (with_reducible refine LeO.ite ?_ ?_)
   | (with_reducible refine LeO.bind ?_ (fun _ => ?_))
   | exact ih0 _ _ _ _
   | exact LeO.none _
   | refine LeO.ite ?_ ?_
   | refine LeO.bind ?_ (fun _ => ?_)
set_option maxHeartbeats 8000000 in
set_option maxRecDepth 100000 in
theorem history_Ops.calls (k : Nat) (A0 : Option Addr) (c0 : Nat) (l0 : List (S55)) (r : Int) (w : World) (hr0 : Kd.C k55 w A0 l0.length l0) (hc0 : l0.length ≤ c0) (h : history_Ops.f k l0 = some r) :
  Calls Try.prog 57 #[.slice A0 l0.length c0] w fun e w' => e = .returned (.int .i64 r) ∧ Below w.heap.size w w' := by
 have hu55 := Try.underlying55
 have HR0 := Aside0.mk hr0
 have HC0 := Aside0.mk hc0
 clear hr0 hc0
 have HB := Aside0.mk (Below.refl w.heap.size w)
 have H : (history_Ops.l0 k 0 l0 (l0.length : Int) 0) = some r := h
 clear h
 have H' := Aside0.mk H
 clear H
 go_enter Try.func57, Try.ntmps57
 go_wp2
 go_loopg [3, 8] k (fun kq v3 v8 w' => ∃ (x3_1 : Int) (x8_1 : Int), v3 = .int .i64 x3_1 ∧ v8 = .int .i64 x8_1 ∧ Aside0 (history_Ops.l0 kq x3_1 l0 (l0.length : Int) x8_1 = some r) ∧ Aside0 (kq ≤ k) ∧ Aside0 (Below w.heap.size w w'))
 case atStart => exact ⟨(0), (0), (by first | rfl | (simp; done) | (simp [*]; done)), (by first | rfl | (simp; done) | (simp [*]; done)), H', ⟨Nat.le_refl _⟩, ⟨by repeat (first | (with_reducible first | exact HB.out | apply qac | apply qaa | apply qad) | exact HB.out)⟩⟩
 case round =>
  clear H'
  obtain ⟨x3_1, x8_1, rfl, rfl, HA, HK1, HB⟩ := hrel
  cases gk with
  | zero => exact absurd HA.out (by simp [history_Ops.l0])
  | succ k1 =>
   have H := HA.out
   clear HA
   simp only [history_Ops.l0] at H
   by_cases c2 : x8_1 < (l0.length : Int)
   ·rw [if_pos c2] at H
    have c2b0 : decide (x8_1 < (l0.length : Int)) = true := decide_eq_true c2
    clear c2
    by_cases c3 : 0 ≤ x8_1
    ·rw [if_pos c3] at H
     have c3b0 : decide (0 ≤ x8_1) = true := decide_eq_true c3
     clear c3
     by_cases c4 : x8_1 < (l0.length : Int)
     ·rw [if_pos c4] at H
      have c4b0 : decide (x8_1 < (l0.length : Int)) = true := decide_eq_true c4
      clear c4
      have H' := Aside0.mk H
      clear H
      have p236 : 0 ≤ (x8_1 : Int) := of_decide_eq_true (by first | (with_reducible assumption) | assumption)
      have q236 : x8_1 < (l0.length : Int) := of_decide_eq_true (by first | (with_reducible assumption) | assumption)
      obtain ⟨ad236, A236_3, c236_3, e236, hx236_0, hx236_1, hx236_2, hx236_3, hl236_3, hi236_3⟩ := qa8 HR0.out x8_1 p236 q236
      cases e236
      replace hx236_0 := (HB.out.cell (World.block_lt_of_cell? w _ hx236_0)).trans hx236_0
      replace hx236_1 := (HB.out.cell (World.block_lt_of_cell? w _ hx236_1)).trans hx236_1
      replace hx236_2 := (HB.out.cell (World.block_lt_of_cell? w _ hx236_2)).trans hx236_2
      replace hx236_3 := (HB.out.cell (World.block_lt_of_cell? w _ hx236_3)).trans hx236_3
      have HR236_3 := Aside0.mk hi236_3
      have HC236_3 := Aside0.mk hl236_3
      clear hi236_3 hl236_3
      replace p236 := eq_true p236
      replace q236 := eq_true q236
      go_wp2_with (first | ((with_reducible refine qau (N := 5) rfl ?_); refine qat ?hg (N := 5) ?hd (cs := #[.int .i64 0, .int .i64 0, .int .i64 0, .slice none 0 0]) (t := 55) ?hr ?_; (case hd => rfl); (case hg => rfl); (case hr => first | (go_simp; done) | (go_simp; rfl)); intro gb237 hg w5 hbox hb; have n0_ := Aside0.mk (qam (by repeat (first | (with_reducible first | exact HB.out | apply qac | apply qaa | apply qad) | exact HB.out)) hb); have n1_ := Aside0.mk (hbox); have n2_ := Aside0.mk ((by rw [hg]; exact (qal (by repeat (first | (with_reducible first | exact HB.out | apply qac | apply qaa | apply qad) | exact HB.out))) : w.heap.size ≤ gb237)); have n3_ := Aside0.mk ((by rw [hg]; exact (qal (by repeat (first | (with_reducible first | exact HB.out | apply qac | apply qaa | apply qad) | exact HB.out))) : w.heap.size ≤ gb237)); clear HB; have HB := n0_; have BK237 := n1_; have GW237 := n2_; have GE237 := n3_; clear n0_ n1_ n2_ n3_; clear hb hbox hg; have hcz6_0 : w5.cell? ⟨gb237, 0, none⟩ = some (.int .i64 0) := (qah BK237.out 0).trans rfl; have hcz6_1 : w5.cell? ⟨gb237, 1, none⟩ = some (.int .i64 0) := (qah BK237.out 1).trans rfl; have hcz6_2 : w5.cell? ⟨gb237, 2, none⟩ = some (.int .i64 0) := (qah BK237.out 2).trans rfl; have hcz6_3 : w5.cell? ⟨gb237, 3, none⟩ = some (.slice none 0 0) := (qah BK237.out 3).trans rfl; have hfz6_0 := qae BK237.out 0; have hfz6_1 := qae BK237.out 1; have hfz6_2 := qae BK237.out 2; have hfz6_3 := qae BK237.out 3))
      go_roundg k1
      case measure => have := HK1.out; omega
      case rel => exact ⟨(wrap64 (x3_1 + (((qab l0 x8_1).f3).length : Int))), (wrap64 (x8_1 + 1)), (by first | rfl | (simp; done) | (simp [*]; done)), (by first | rfl | (simp; done) | (simp [*]; done)), H', ⟨by have := HK1.out; omega⟩, ⟨by repeat (first | (with_reducible first | exact HB.out | apply qac | apply qaa | apply qad | refine qak ?_ GE237.out) | exact HB.out)⟩⟩
     ·rw [if_neg c4] at H
      exact absurd H (by simp)
    ·rw [if_neg c3] at H
     exact absurd H (by simp)
   ·rw [if_neg c2] at H
    have c2b0 : decide (x8_1 < (l0.length : Int)) = false := decide_eq_false c2
    clear c2
    obtain rfl := Option.some.inj H
    go_wp2
    go_ret
    exact ⟨by first | rfl | (simp [qao, qan] <;> rfl) | (simp [*, qao, qan] <;> rfl), by repeat (first | (with_reducible first | exact HB.out | apply qac | apply qaa | apply qad) | exact HB.out)⟩
def op_Write.f (a0 : Int) (a1 : Int) : Option (Bool × Int × Int) := some (true, a0, a1)
set_option maxHeartbeats 8000000 in
set_option maxRecDepth 100000 in
theorem op_Write.calls (a0 : Int) (a1 : Int) (r1 : Bool) (r2 : Int) (r3 : Int) (w : World) (h : op_Write.f a0 a1 = some (r1, r2, r3)) :
  Calls Try.prog 27 #[.int .i64 a0, .int .i64 a1] w fun e w' => e = .returned (.agg #[.bool r1, .int .i64 r2, .int .i64 r3]) ∧ Below w.heap.size w w' := by
 have hu51 := Try.underlying51
 have HB := Aside0.mk (Below.refl w.heap.size w)
 have H : (some (true, a0, a1)) = some (r1, r2, r3) := h
 clear h
 simp only [Option.some.injEq, Prod.mk.injEq] at H
 obtain ⟨rfl, rfl, rfl⟩ := H
 go_enter Try.func27, Try.ntmps27
 go_wp2_with (first | ((with_reducible refine qau (N := 4) rfl ?_); refine qat ?hg (N := 4) ?hd (cs := #[.bool false, .int .i64 0, .int .i64 0]) (t := 51) ?hr ?_; (case hd => rfl); (case hg => rfl); (case hr => first | (go_simp; done) | (go_simp; rfl)); intro gb238 hg w3 hbox hb; have n0_ := Aside0.mk (qam (by repeat (first | (with_reducible first | exact HB.out | apply qac | apply qaa | apply qad) | exact HB.out)) hb); have n1_ := Aside0.mk (hbox); have n2_ := Aside0.mk ((by rw [hg]; exact (qal (by repeat (first | (with_reducible first | exact HB.out | apply qac | apply qaa | apply qad) | exact HB.out))) : w.heap.size ≤ gb238)); have n3_ := Aside0.mk ((by rw [hg]; exact (qal (by repeat (first | (with_reducible first | exact HB.out | apply qac | apply qaa | apply qad) | exact HB.out))) : w.heap.size ≤ gb238)); clear HB; have HB := n0_; have BK238 := n1_; have GW238 := n2_; have GE238 := n3_; clear n0_ n1_ n2_ n3_; clear hb hbox hg; have hcz4_0 : w3.cell? ⟨gb238, 0, none⟩ = some (.bool false) := (qah BK238.out 0).trans rfl; have hcz4_1 : w3.cell? ⟨gb238, 1, none⟩ = some (.int .i64 0) := (qah BK238.out 1).trans rfl; have hcz4_2 : w3.cell? ⟨gb238, 2, none⟩ = some (.int .i64 0) := (qah BK238.out 2).trans rfl; have hfz4_0 := qae BK238.out 0; have hfz4_1 := qae BK238.out 1; have hfz4_2 := qae BK238.out 2))
 refine bodyPost_ret (results_cell_row rfl _ _ gb238 51 #[.bool true, .int .i64 a0, .int .i64 a1] (0, 0) _ rfl (by (with_reducible repeat (first | refine qaf ?_ _ | refine qai ?_ | refine qag ?_ _)); refine qaq (cs := #[.bool true, .int .i64 a0, .int .i64 0]) ?_ 2 _ rfl; (with_reducible repeat (first | refine qaf ?_ _ | refine qai ?_ | refine qag ?_ _)); refine qaq (cs := #[.bool true, .int .i64 0, .int .i64 0]) ?_ 1 _ rfl; (with_reducible repeat (first | refine qaf ?_ _ | refine qai ?_ | refine qag ?_ _)); refine qaq (cs := #[.bool false, .int .i64 0, .int .i64 0]) ?_ 0 _ rfl; (with_reducible repeat (first | refine qaf ?_ _ | refine qai ?_ | refine qag ?_ _)); exact BK238.out) Try.underlying51 rfl (by kernel_rfl)) rfl ?_
 exact ⟨by first | rfl | (simp [qao, qan] <;> rfl) | (simp [*, qao, qan] <;> rfl), by repeat (first | (with_reducible first | exact HB.out | apply qac | apply qaa | apply qad | refine qak ?_ GE238.out) | exact HB.out)⟩
end Go.Proofs.Ytngkneknopenmaa.K
end
section
namespace Go.Proofs.Ytngkneknopenmaa.K
open Go.Proofs.Ytngkneknopenmaa
open Go.RowKit Go.Proofs.YtngkneknopenmaaW.PrintWords Go.Proofs.YtngkneknopenmaaW.PrintLast Go.Proofs.YtngkneknopenmaaW.PrintMore
attribute [local go_sem] qb3 qb1 qca qb9 qbu qbt qb2 qb0   -- for this text's walks alone
set_option linter.unusedVariables false
set_option linter.unusedSimpArgs false
def burgagelaw06_Big.l0 : Nat → Int → List (S55) → Int → Int → Option (Int)
 | 0, _, _, _, _ => none
 | k + 1, x3, x9, x10, x11 => if x11 < x10 then (if 0 ≤ x11 then (if x11 < (x9.length : Int) then (if (wrap64 (x3 + (((qab x9 x11).f3).length : Int))) > 1200 then (some 1) else (burgagelaw06_Big.l0 k (wrap64 (x3 + (((qab x9 x11).f3).length : Int))) x9 x10 (wrap64 (x11 + 1)))) else (none)) else (none)) else (some 0)
def burgagelaw06_Big.f (k : Nat) (l0 : List (S55)) : Option (Int) := if (l0.length : Int) > 100 then (some 1) else (burgagelaw06_Big.l0 k 0 l0 (l0.length : Int) 0)
theorem burgagelaw06_Big.mono_l : ∀ k, (∀ y0 y1 y2 y3, LeO (burgagelaw06_Big.l0 k y0 y1 y2 y3) (burgagelaw06_Big.l0 (k + 1) y0 y1 y2 y3))
 | 0 => fun _ _ _ _ r h => by simp [burgagelaw06_Big.l0] at h
 | k + 1 => by
  have ih0 := burgagelaw06_Big.mono_l k
  ·intro y0 y1 y2 y3
   unfold burgagelaw06_Big.l0
   repeat' first
   | (with_reducible exact ih0 _ _ _ _)
   | (with_reducible exact LeO.refl _)
   | (with_reducible exact LeO.none _)
   | (with_reducible refine LeO.ite ?_ ?_)
   | (with_reducible refine LeO.bind ?_ (fun _ => ?_))
   | exact ih0 _ _ _ _
   | exact LeO.none _
   | refine LeO.ite ?_ ?_
   | refine LeO.bind ?_ (fun _ => ?_)
theorem burgagelaw06_Big.mono : ∀ a0 k, LeO (burgagelaw06_Big.f k a0) (burgagelaw06_Big.f (k + 1) a0) := by
 intro a0 k
 have ih0 := burgagelaw06_Big.mono_l k
 unfold burgagelaw06_Big.f
 repeat' first
   | (with_reducible exact ih0 _ _ _ _)
   | (with_reducible exact LeO.refl _)
   | (with_reducible exact LeO.none _)
   | (with_reducible refine LeO.ite ?_ ?_)
   | (with_reducible refine LeO.bind ?_ (fun _ => ?_))
   | exact ih0 _ _ _ _
   | exact LeO.none _
   | refine LeO.ite ?_ ?_
   | refine LeO.bind ?_ (fun _ => ?_)
def burgageref06_Count.l0 : Nat → List (S55) → Int → Int → Option (Int)
 | 0, _, _, _ => none
 | k + 1, x0, x3, x4 => if x4 < (x0.length : Int) then (if 0 ≤ x4 then (burgageref06_Count.l0 k x0 (wrap64 (x3 + (((qab x0 x4).f3).length : Int))) (wrap64 (x4 + 1))) else (none)) else (some x3)
def burgageref06_Count.f (k : Nat) (l0 : List (S55)) : Option (Int) := burgageref06_Count.l0 k l0 0 0
theorem burgageref06_Count.mono_l : ∀ k, (∀ y0 y1 y2, LeO (burgageref06_Count.l0 k y0 y1 y2) (burgageref06_Count.l0 (k + 1) y0 y1 y2))
 | 0 => fun _ _ _ r h => by simp [burgageref06_Count.l0] at h
 | k + 1 => by
  have ih0 := burgageref06_Count.mono_l k
  ·intro y0 y1 y2
   unfold burgageref06_Count.l0
   repeat' first
   | (with_reducible exact ih0 _ _ _)
   | (with_reducible exact LeO.refl _)
   | (with_reducible exact LeO.none _)
   | (with_reducible refine LeO.ite ?_ ?_)
   | (with_reducible refine LeO.bind ?_ (fun _ => ?_))
   | exact ih0 _ _ _
   | exact LeO.none _
   | refine LeO.ite ?_ ?_
   | refine LeO.bind ?_ (fun _ => ?_)
theorem burgageref06_Count.mono : ∀ a0 k, LeO (burgageref06_Count.f k a0) (burgageref06_Count.f (k + 1) a0) := by
 intro a0 k
 have ih0 := burgageref06_Count.mono_l k
 unfold burgageref06_Count.f
 repeat' first
   | (with_reducible exact ih0 _ _ _)
   | (with_reducible exact LeO.refl _)
   | (with_reducible exact LeO.none _)
   | (with_reducible refine LeO.ite ?_ ?_)
   | (with_reducible refine LeO.bind ?_ (fun _ => ?_))
   | exact ih0 _ _ _
   | exact LeO.none _
   | refine LeO.ite ?_ ?_
   | refine LeO.bind ?_ (fun _ => ?_)
set_option maxHeartbeats 8000000 in
set_option maxRecDepth 100000 in
theorem burgageref06_Count.calls (k : Nat) (A0 : Option Addr) (c0 : Nat) (l0 : List (S55)) (r : Int) (w : World) (hr0 : Kd.C k55 w A0 l0.length l0) (hc0 : l0.length ≤ c0) (h : burgageref06_Count.f k l0 = some r) :
  Calls Try.prog 33 #[.slice A0 l0.length c0] w fun e w' => e = .returned (.int .i64 r) ∧ Drawn0 w w' := by
 have HR0 := Aside0.mk hr0
 have HC0 := Aside0.mk hc0
 clear hr0 hc0
 have H : (burgageref06_Count.l0 k l0 0 0) = some r := h
 clear h
 have H' := Aside0.mk H
 clear H
 go_enter Try.func33, Try.ntmps33
 go_wp2
 go_loopg [3, 4] k (fun kq v3 v4 w' => ∃ (x3_1 : Int) (x4_1 : Int), v3 = .int .i64 x3_1 ∧ v4 = .int .i64 x4_1 ∧ Aside0 (burgageref06_Count.l0 kq l0 x3_1 x4_1 = some r) ∧ Aside0 (kq ≤ k) ∧ Drawn0 w w')
 case atStart => exact ⟨(0), (0), (by first | rfl | (simp; done) | (simp [*]; done)), (by first | rfl | (simp; done) | (simp [*]; done)), H', ⟨Nat.le_refl _⟩, by repeat (first | exact Drawn0.refl _ | apply Drawn0.step)⟩
 case round =>
  clear H'
  obtain ⟨x3_1, x4_1, rfl, rfl, HA, HK1, ⟨m1, rfl⟩⟩ := hrel
  cases gk with
  | zero => exact absurd HA.out (by simp [burgageref06_Count.l0])
  | succ k1 =>
   have H := HA.out
   clear HA
   simp only [burgageref06_Count.l0] at H
   by_cases c2 : x4_1 < (l0.length : Int)
   ·rw [if_pos c2] at H
    have c2b0 : decide (x4_1 < (l0.length : Int)) = true := decide_eq_true c2
    clear c2
    by_cases c3 : 0 ≤ x4_1
    ·rw [if_pos c3] at H
     have c3b0 : decide (0 ≤ x4_1) = true := decide_eq_true c3
     clear c3
     have H' := Aside0.mk H
     clear H
     have p103 : 0 ≤ (x4_1 : Int) := of_decide_eq_true (by first | (with_reducible assumption) | assumption)
     have q103 : x4_1 < (l0.length : Int) := of_decide_eq_true (by first | (with_reducible assumption) | assumption)
     obtain ⟨ad103, A103_3, c103_3, e103, hx103_0, hx103_1, hx103_2, hx103_3, hl103_3, hi103_3⟩ := qa8 HR0.out x4_1 p103 q103
     cases e103
     have HR103_3 := Aside0.mk hi103_3
     have HC103_3 := Aside0.mk hl103_3
     clear hi103_3 hl103_3
     replace p103 := eq_true p103
     replace q103 := eq_true q103
     go_wp2
     go_roundg k1
     case measure => have := HK1.out; omega
     case rel => exact ⟨(wrap64 (x3_1 + (((qab l0 x4_1).f3).length : Int))), (wrap64 (x4_1 + 1)), (by first | rfl | (simp; done) | (simp [*]; done)), (by first | rfl | (simp; done) | (simp [*]; done)), H', ⟨by have := HK1.out; omega⟩, by repeat (first | exact Drawn0.refl _ | apply Drawn0.step)⟩
    ·rw [if_neg c3] at H
     exact absurd H (by simp)
   ·rw [if_neg c2] at H
    have c2b0 : decide (x4_1 < (l0.length : Int)) = false := decide_eq_false c2
    clear c2
    obtain rfl := Option.some.inj H
    go_wp2
    go_ret
    exact ⟨by first | rfl | (simp; done) | (simp [*]; done), by repeat (first | exact Drawn0.refl _ | apply Drawn0.step)⟩
mutual
def burgageref06_Writer.l0 : Nat → List (S55) → Int → Int → Int → Option (Int)
 | 0, _, _, _, _ => none
 | k + 1, x0, x1, x2, x7 => if x7 < (x0.length : Int) then (burgageref06_Writer.l1 k x0 x1 x2 x7 0) else (some (-1))
def burgageref06_Writer.l1 : Nat → List (S55) → Int → Int → Int → Int → Option (Int)
 | 0, _, _, _, _, _ => none
 | k + 1, x0, x1, x2, x7, x8 => if 0 ≤ x7 then (if x7 < (x0.length : Int) then (if x8 < (((qab x0 x7).f3).length : Int) then (if 0 ≤ x8 then (if (qaj ((qab x0 x7).f3) x8).f0 = true then (if ((qaj ((qab x0 x7).f3) x8).f1) = x1 then (if ((qaj ((qab x0 x7).f3) x8).f2) = x2 then (some x7) else (burgageref06_Writer.l1 k x0 x1 x2 x7 (wrap64 (x8 + 1)))) else (burgageref06_Writer.l1 k x0 x1 x2 x7 (wrap64 (x8 + 1)))) else (burgageref06_Writer.l1 k x0 x1 x2 x7 (wrap64 (x8 + 1)))) else (none)) else (burgageref06_Writer.l0 k x0 x1 x2 (wrap64 (x7 + 1)))) else (none)) else (none)
end
def burgageref06_Writer.f (k : Nat) (l0 : List (S55)) (a1 : Int) (a2 : Int) : Option (Int) := burgageref06_Writer.l0 k l0 a1 a2 0
theorem burgageref06_Writer.mono_l : ∀ k, (∀ y0 y1 y2 y3, LeO (burgageref06_Writer.l0 k y0 y1 y2 y3) (burgageref06_Writer.l0 (k + 1) y0 y1 y2 y3)) ∧ (∀ y0 y1 y2 y3 y4, LeO (burgageref06_Writer.l1 k y0 y1 y2 y3 y4) (burgageref06_Writer.l1 (k + 1) y0 y1 y2 y3 y4))
 | 0 => ⟨fun _ _ _ _ r h => by simp [burgageref06_Writer.l0] at h, fun _ _ _ _ _ r h => by simp [burgageref06_Writer.l1] at h⟩
 | k + 1 => by
  obtain ⟨ih0, ih1⟩ := burgageref06_Writer.mono_l k
  refine ⟨?_, ?_⟩
  ·intro y0 y1 y2 y3
   unfold burgageref06_Writer.l0
   repeat' first
   | (with_reducible exact ih0 _ _ _ _)
   | (with_reducible exact ih1 _ _ _ _ _)
   | (with_reducible exact LeO.refl _)
   | (with_reducible exact LeO.none _)
   | (with_reducible refine LeO.ite ?_ ?_)
   | (with_reducible refine LeO.bind ?_ (fun _ => ?_))
   | exact ih0 _ _ _ _
   | exact ih1 _ _ _ _ _
   | exact LeO.none _
   | refine LeO.ite ?_ ?_
   | refine LeO.bind ?_ (fun _ => ?_)
  ·intro y0 y1 y2 y3 y4
   unfold burgageref06_Writer.l1
   repeat' first
   | (with_reducible exact ih0 _ _ _ _)
   | (with_reducible exact ih1 _ _ _ _ _)
   | (with_reducible exact LeO.refl _)
   | (with_reducible exact LeO.none _)
   | (with_reducible refine LeO.ite ?_ ?_)
   | (with_reducible refine LeO.bind ?_ (fun _ => ?_))
   | exact ih0 _ _ _ _
   | exact ih1 _ _ _ _ _
   | exact LeO.none _
   | refine LeO.ite ?_ ?_
   | refine LeO.bind ?_ (fun _ => ?_)
theorem burgageref06_Writer.mono : ∀ a0 a1 a2 k, LeO (burgageref06_Writer.f k a0 a1 a2) (burgageref06_Writer.f (k + 1) a0 a1 a2) := by
 intro a0 a1 a2 k
 obtain ⟨ih0, ih1⟩ := burgageref06_Writer.mono_l k
 unfold burgageref06_Writer.f
 repeat' first
   | (with_reducible exact ih0 _ _ _ _)
   | (with_reducible exact ih1 _ _ _ _ _)
   | (with_reducible exact LeO.refl _)
   | (with_reducible exact LeO.none _)
   | (with_reducible refine LeO.ite ?_ ?_)
   | (with_reducible refine LeO.bind ?_ (fun _ => ?_))
   | exact ih0 _ _ _ _
   | exact ih1 _ _ _ _ _
   | exact LeO.none _
   | refine LeO.ite ?_ ?_
   | refine LeO.bind ?_ (fun _ => ?_)
set_option maxHeartbeats 8000000 in
set_option maxRecDepth 100000 in
theorem burgageref06_Writer.calls (k : Nat) (A0 : Option Addr) (c0 : Nat) (l0 : List (S55)) (a1 : Int) (a2 : Int) (r : Int) (w : World) (hr0 : Kd.C k55 w A0 l0.length l0) (hc0 : l0.length ≤ c0) (h : burgageref06_Writer.f k l0 a1 a2 = some r) :
  Calls Try.prog 31 #[.slice A0 l0.length c0, .int .i64 a1, .int .i64 a2] w fun e w' => e = .returned (.int .i64 r) ∧ Below w.heap.size w w' := by
 have hu51 := Try.underlying51
 have HR0 := Aside0.mk hr0
 have HC0 := Aside0.mk hc0
 clear hr0 hc0
 have HB := Aside0.mk (Below.refl w.heap.size w)
 have H : (burgageref06_Writer.l0 k l0 a1 a2 0) = some r := h
 clear h
 have H' := Aside0.mk H
 clear H
 go_enter Try.func31, Try.ntmps31
 go_wp2
 go_loopg [7] k (fun kq v7 w' => ∃ (x7_1 : Int), v7 = .int .i64 x7_1 ∧ Aside0 (burgageref06_Writer.l0 kq l0 a1 a2 x7_1 = some r) ∧ Aside0 (kq ≤ k) ∧ Aside0 (Below w.heap.size w w'))
 case atStart => exact ⟨(0), (by first | rfl | (simp; done) | (simp [*]; done)), H', ⟨Nat.le_refl _⟩, ⟨by repeat (first | (with_reducible first | exact HB.out | apply qac | apply qaa | apply qad) | exact HB.out)⟩⟩
 case round =>
  clear H'
  try clear p2
  try clear c3
  obtain ⟨x7_1, rfl, HA, HK1, HB⟩ := hrel
  cases gk with
  | zero => exact absurd HA.out (by simp [burgageref06_Writer.l0])
  | succ k1 =>
   have H := HA.out
   clear HA
   simp only [burgageref06_Writer.l0] at H
   by_cases c4 : x7_1 < (l0.length : Int)
   ·rw [if_pos c4] at H
    have c4b0 : decide (x7_1 < (l0.length : Int)) = true := decide_eq_true c4
    clear c4
    have H' := Aside0.mk H
    clear H
    go_wp2
    go_loopg [8] k1 (fun kq v8 w' => ∃ (x8_2 : Int), v8 = .int .i64 x8_2 ∧ Aside0 (burgageref06_Writer.l1 kq l0 a1 a2 x7_1 x8_2 = some r) ∧ Aside0 (kq ≤ k1) ∧ Aside0 (Below w.heap.size w w'))
    case atStart => exact ⟨(0), (by first | rfl | (simp; done) | (simp [*]; done)), H', ⟨Nat.le_refl _⟩, ⟨by repeat (first | (with_reducible first | exact HB.out | apply qac | apply qaa | apply qad) | exact HB.out)⟩⟩
    case round =>
     clear H'
     try clear p2
     try clear c3
     try clear c4
     try clear c4b0
     try clear p2
     obtain ⟨x8_2, rfl, HA, HK2, HB⟩ := hrel
     cases gk with
     | zero => exact absurd HA.out (by simp [burgageref06_Writer.l1])
     | succ k2 =>
      have H := HA.out
      clear HA
      simp only [burgageref06_Writer.l1] at H
      by_cases c5 : 0 ≤ x7_1
      ·rw [if_pos c5] at H
       have c5b0 : decide (0 ≤ x7_1) = true := decide_eq_true c5
       clear c5
       by_cases c6 : x7_1 < (l0.length : Int)
       ·rw [if_pos c6] at H
        have c6b0 : decide (x7_1 < (l0.length : Int)) = true := decide_eq_true c6
        clear c6
        by_cases c7 : x8_2 < (((qab l0 x7_1).f3).length : Int)
        ·rw [if_pos c7] at H
         have c7b0 : decide (x8_2 < (((qab l0 x7_1).f3).length : Int)) = true := decide_eq_true c7
         clear c7
         by_cases c8 : 0 ≤ x8_2
         ·rw [if_pos c8] at H
          have c8b0 : decide (0 ≤ x8_2) = true := decide_eq_true c8
          clear c8
          obtain ⟨bq9, hbq9⟩ : ∃ b_ : Bool, b_ = ((qaj ((qab l0 x7_1).f3) x8_2).f0) := ⟨_, rfl⟩
          replace H : (if bq9 = true then (if ((qaj ((qab l0 x7_1).f3) x8_2).f1) = a1 then (if ((qaj ((qab l0 x7_1).f3) x8_2).f2) = a2 then (some x7_1) else (burgageref06_Writer.l1 k2 l0 a1 a2 x7_1 (wrap64 (x8_2 + 1)))) else (burgageref06_Writer.l1 k2 l0 a1 a2 x7_1 (wrap64 (x8_2 + 1)))) else (burgageref06_Writer.l1 k2 l0 a1 a2 x7_1 (wrap64 (x8_2 + 1)))) = some r := by rw [← hbq9] at H; exact H
          have Nbq9 := Aside0.mk hbq9
          clear hbq9
          by_cases c10 : bq9 = true
          ·subst c10
           have H1 : (if ((qaj ((qab l0 x7_1).f3) x8_2).f1) = a1 then (if ((qaj ((qab l0 x7_1).f3) x8_2).f2) = a2 then (some x7_1) else (burgageref06_Writer.l1 k2 l0 a1 a2 x7_1 (wrap64 (x8_2 + 1)))) else (burgageref06_Writer.l1 k2 l0 a1 a2 x7_1 (wrap64 (x8_2 + 1)))) = some r := by rw [if_pos rfl] at H; exact H
           clear H
           have H := H1
           clear H1
           by_cases c11 : ((qaj ((qab l0 x7_1).f3) x8_2).f1) = a1
           ·rw [if_pos c11] at H
            have c11b0 : (((qaj ((qab l0 x7_1).f3) x8_2).f1) == a1) = true := beq_iff_eq.mpr c11
            have c11b1 : (((qaj ((qab l0 x7_1).f3) x8_2).f1) != a1) = false := bne_eq_false_iff_eq.mpr c11
            clear c11
            by_cases c12 : ((qaj ((qab l0 x7_1).f3) x8_2).f2) = a2
            ·rw [if_pos c12] at H
             have c12b0 : (((qaj ((qab l0 x7_1).f3) x8_2).f2) == a2) = true := beq_iff_eq.mpr c12
             have c12b1 : (((qaj ((qab l0 x7_1).f3) x8_2).f2) != a2) = false := bne_eq_false_iff_eq.mpr c12
             clear c12
             obtain rfl := Option.some.inj H
             have p104 : 0 ≤ (x7_1 : Int) := of_decide_eq_true (by first | (with_reducible assumption) | assumption)
             have q104 : x7_1 < (l0.length : Int) := of_decide_eq_true (by first | (with_reducible assumption) | assumption)
             obtain ⟨ad104, A104_3, c104_3, e104, hx104_0, hx104_1, hx104_2, hx104_3, hl104_3, hi104_3⟩ := qa8 HR0.out x7_1 p104 q104
             cases e104
             replace hx104_0 := (HB.out.cell (World.block_lt_of_cell? w _ hx104_0)).trans hx104_0
             replace hx104_1 := (HB.out.cell (World.block_lt_of_cell? w _ hx104_1)).trans hx104_1
             replace hx104_2 := (HB.out.cell (World.block_lt_of_cell? w _ hx104_2)).trans hx104_2
             replace hx104_3 := (HB.out.cell (World.block_lt_of_cell? w _ hx104_3)).trans hx104_3
             have HR104_3 := Aside0.mk hi104_3
             have HC104_3 := Aside0.mk hl104_3
             clear hi104_3 hl104_3
             replace p104 := eq_true p104
             replace q104 := eq_true q104
             have p105 : 0 ≤ (x7_1 : Int) := of_decide_eq_true (by first | (with_reducible assumption) | assumption)
             have q105 : x7_1 < (l0.length : Int) := of_decide_eq_true (by first | (with_reducible assumption) | assumption)
             obtain ⟨ad105, A105_3, c105_3, e105, hx105_0, hx105_1, hx105_2, hx105_3, hl105_3, hi105_3⟩ := qa8 HR0.out x7_1 p105 q105
             obtain rfl : ad104 = ad105 := (by injection e105)
             replace hx105_0 := (HB.out.cell (World.block_lt_of_cell? w _ hx105_0)).trans hx105_0
             replace hx105_1 := (HB.out.cell (World.block_lt_of_cell? w _ hx105_1)).trans hx105_1
             replace hx105_2 := (HB.out.cell (World.block_lt_of_cell? w _ hx105_2)).trans hx105_2
             replace hx105_3 := (HB.out.cell (World.block_lt_of_cell? w _ hx105_3)).trans hx105_3
             have HR105_3 := Aside0.mk hi105_3
             have HC105_3 := Aside0.mk hl105_3
             clear hi105_3 hl105_3
             replace p105 := eq_true p105
             replace q105 := eq_true q105
             have ea_ := Option.some.inj (hx104_3.symm.trans hx105_3)
             injection ea_ with ea_ en_ ec_
             subst ea_
             subst ec_
             clear en_
             have p106 : 0 ≤ (x8_2 : Int) := of_decide_eq_true (by first | (with_reducible assumption) | assumption)
             have q106 : x8_2 < (((qab l0 x7_1).f3).length : Int) := of_decide_eq_true (by first | (with_reducible assumption) | assumption)
             obtain ⟨ad106, e106, hx106_0, hx106_1, hx106_2⟩ := qbx HR105_3.out x8_2 p106 q106
             (try rw [← Nbq9.out] at hx106_0)
             cases e106
             replace hx106_0 := (HB.out.cell (World.block_lt_of_cell? w _ hx106_0)).trans hx106_0
             replace hx106_1 := (HB.out.cell (World.block_lt_of_cell? w _ hx106_1)).trans hx106_1
             replace hx106_2 := (HB.out.cell (World.block_lt_of_cell? w _ hx106_2)).trans hx106_2
             replace p106 := eq_true p106
             replace q106 := eq_true q106
             go_wp2_with (first | ((with_reducible refine qau (N := 9) rfl ?_); refine qat ?hg (N := 9) ?hd (cs := #[.bool false, .int .i64 0, .int .i64 0]) (t := 51) ?hr ?_; (case hd => rfl); (case hg => rfl); (case hr => first | (go_simp; done) | (go_simp; rfl)); intro gb107 hg w13 hbox hb; have n0_ := Aside0.mk (qam (by repeat (first | (with_reducible first | exact HB.out | apply qac | apply qaa | apply qad) | exact HB.out)) hb); have n1_ := Aside0.mk (hbox); have n2_ := Aside0.mk ((by rw [hg]; exact (qal (by repeat (first | (with_reducible first | exact HB.out | apply qac | apply qaa | apply qad) | exact HB.out))) : w.heap.size ≤ gb107)); have n3_ := Aside0.mk ((by rw [hg]; exact (qal (by repeat (first | (with_reducible first | exact HB.out | apply qac | apply qaa | apply qad) | exact HB.out))) : w.heap.size ≤ gb107)); clear HB; have HB := n0_; have BK107 := n1_; have GW107 := n2_; have GE107 := n3_; clear n0_ n1_ n2_ n3_; clear hb hbox hg; have hcz14_0 : w13.cell? ⟨gb107, 0, none⟩ = some (.bool false) := (qah BK107.out 0).trans rfl; have hcz14_1 : w13.cell? ⟨gb107, 1, none⟩ = some (.int .i64 0) := (qah BK107.out 1).trans rfl; have hcz14_2 : w13.cell? ⟨gb107, 2, none⟩ = some (.int .i64 0) := (qah BK107.out 2).trans rfl; have hfz14_0 := qae BK107.out 0; have hfz14_1 := qae BK107.out 1; have hfz14_2 := qae BK107.out 2))
             go_ret
             exact ⟨by first | rfl | (simp [qao, qan] <;> rfl) | (simp [*, qao, qan] <;> rfl), by repeat (first | (with_reducible first | exact HB.out | apply qac | apply qaa | apply qad | refine qak ?_ GE107.out) | exact HB.out)⟩
            ·rw [if_neg c12] at H
             have c12b0 : (((qaj ((qab l0 x7_1).f3) x8_2).f2) == a2) = false := beq_eq_false_iff_ne.mpr c12
             have c12b1 : (((qaj ((qab l0 x7_1).f3) x8_2).f2) != a2) = true := bne_iff_ne.mpr c12
             have H' := Aside0.mk H
             clear H
             have p104 : 0 ≤ (x7_1 : Int) := of_decide_eq_true (by first | (with_reducible assumption) | assumption)
             have q104 : x7_1 < (l0.length : Int) := of_decide_eq_true (by first | (with_reducible assumption) | assumption)
             obtain ⟨ad104, A104_3, c104_3, e104, hx104_0, hx104_1, hx104_2, hx104_3, hl104_3, hi104_3⟩ := qa8 HR0.out x7_1 p104 q104
             cases e104
             replace hx104_0 := (HB.out.cell (World.block_lt_of_cell? w _ hx104_0)).trans hx104_0
             replace hx104_1 := (HB.out.cell (World.block_lt_of_cell? w _ hx104_1)).trans hx104_1
             replace hx104_2 := (HB.out.cell (World.block_lt_of_cell? w _ hx104_2)).trans hx104_2
             replace hx104_3 := (HB.out.cell (World.block_lt_of_cell? w _ hx104_3)).trans hx104_3
             have HR104_3 := Aside0.mk hi104_3
             have HC104_3 := Aside0.mk hl104_3
             clear hi104_3 hl104_3
             replace p104 := eq_true p104
             replace q104 := eq_true q104
             have p105 : 0 ≤ (x7_1 : Int) := of_decide_eq_true (by first | (with_reducible assumption) | assumption)
             have q105 : x7_1 < (l0.length : Int) := of_decide_eq_true (by first | (with_reducible assumption) | assumption)
             obtain ⟨ad105, A105_3, c105_3, e105, hx105_0, hx105_1, hx105_2, hx105_3, hl105_3, hi105_3⟩ := qa8 HR0.out x7_1 p105 q105
             obtain rfl : ad104 = ad105 := (by injection e105)
             replace hx105_0 := (HB.out.cell (World.block_lt_of_cell? w _ hx105_0)).trans hx105_0
             replace hx105_1 := (HB.out.cell (World.block_lt_of_cell? w _ hx105_1)).trans hx105_1
             replace hx105_2 := (HB.out.cell (World.block_lt_of_cell? w _ hx105_2)).trans hx105_2
             replace hx105_3 := (HB.out.cell (World.block_lt_of_cell? w _ hx105_3)).trans hx105_3
             have HR105_3 := Aside0.mk hi105_3
             have HC105_3 := Aside0.mk hl105_3
             clear hi105_3 hl105_3
             replace p105 := eq_true p105
             replace q105 := eq_true q105
             have ea_ := Option.some.inj (hx104_3.symm.trans hx105_3)
             injection ea_ with ea_ en_ ec_
             subst ea_
             subst ec_
             clear en_
             have p106 : 0 ≤ (x8_2 : Int) := of_decide_eq_true (by first | (with_reducible assumption) | assumption)
             have q106 : x8_2 < (((qab l0 x7_1).f3).length : Int) := of_decide_eq_true (by first | (with_reducible assumption) | assumption)
             obtain ⟨ad106, e106, hx106_0, hx106_1, hx106_2⟩ := qbx HR105_3.out x8_2 p106 q106
             (try rw [← Nbq9.out] at hx106_0)
             cases e106
             replace hx106_0 := (HB.out.cell (World.block_lt_of_cell? w _ hx106_0)).trans hx106_0
             replace hx106_1 := (HB.out.cell (World.block_lt_of_cell? w _ hx106_1)).trans hx106_1
             replace hx106_2 := (HB.out.cell (World.block_lt_of_cell? w _ hx106_2)).trans hx106_2
             replace p106 := eq_true p106
             replace q106 := eq_true q106
             go_wp2_with (first | ((with_reducible refine qau (N := 9) rfl ?_); refine qat ?hg (N := 9) ?hd (cs := #[.bool false, .int .i64 0, .int .i64 0]) (t := 51) ?hr ?_; (case hd => rfl); (case hg => rfl); (case hr => first | (go_simp; done) | (go_simp; rfl)); intro gb107 hg w15 hbox hb; have n0_ := Aside0.mk (qam (by repeat (first | (with_reducible first | exact HB.out | apply qac | apply qaa | apply qad) | exact HB.out)) hb); have n1_ := Aside0.mk (hbox); have n2_ := Aside0.mk ((by rw [hg]; exact (qal (by repeat (first | (with_reducible first | exact HB.out | apply qac | apply qaa | apply qad) | exact HB.out))) : w.heap.size ≤ gb107)); have n3_ := Aside0.mk ((by rw [hg]; exact (qal (by repeat (first | (with_reducible first | exact HB.out | apply qac | apply qaa | apply qad) | exact HB.out))) : w.heap.size ≤ gb107)); clear HB; have HB := n0_; have BK107 := n1_; have GW107 := n2_; have GE107 := n3_; clear n0_ n1_ n2_ n3_; clear hb hbox hg; have hcz16_0 : w15.cell? ⟨gb107, 0, none⟩ = some (.bool false) := (qah BK107.out 0).trans rfl; have hcz16_1 : w15.cell? ⟨gb107, 1, none⟩ = some (.int .i64 0) := (qah BK107.out 1).trans rfl; have hcz16_2 : w15.cell? ⟨gb107, 2, none⟩ = some (.int .i64 0) := (qah BK107.out 2).trans rfl; have hfz16_0 := qae BK107.out 0; have hfz16_1 := qae BK107.out 1; have hfz16_2 := qae BK107.out 2))
             go_roundg k2
             case measure => have := HK1.out; have := HK2.out; omega
             case rel => exact ⟨(wrap64 (x8_2 + 1)), (by first | rfl | (simp; done) | (simp [*]; done)), H', ⟨by have := HK1.out; have := HK2.out; omega⟩, ⟨by repeat (first | (with_reducible first | exact HB.out | apply qac | apply qaa | apply qad | refine qak ?_ GE107.out) | exact HB.out)⟩⟩
           ·rw [if_neg c11] at H
            have c11b0 : (((qaj ((qab l0 x7_1).f3) x8_2).f1) == a1) = false := beq_eq_false_iff_ne.mpr c11
            have c11b1 : (((qaj ((qab l0 x7_1).f3) x8_2).f1) != a1) = true := bne_iff_ne.mpr c11
            have H' := Aside0.mk H
            clear H
            have p104 : 0 ≤ (x7_1 : Int) := of_decide_eq_true (by first | (with_reducible assumption) | assumption)
            have q104 : x7_1 < (l0.length : Int) := of_decide_eq_true (by first | (with_reducible assumption) | assumption)
            obtain ⟨ad104, A104_3, c104_3, e104, hx104_0, hx104_1, hx104_2, hx104_3, hl104_3, hi104_3⟩ := qa8 HR0.out x7_1 p104 q104
            cases e104
            replace hx104_0 := (HB.out.cell (World.block_lt_of_cell? w _ hx104_0)).trans hx104_0
            replace hx104_1 := (HB.out.cell (World.block_lt_of_cell? w _ hx104_1)).trans hx104_1
            replace hx104_2 := (HB.out.cell (World.block_lt_of_cell? w _ hx104_2)).trans hx104_2
            replace hx104_3 := (HB.out.cell (World.block_lt_of_cell? w _ hx104_3)).trans hx104_3
            have HR104_3 := Aside0.mk hi104_3
            have HC104_3 := Aside0.mk hl104_3
            clear hi104_3 hl104_3
            replace p104 := eq_true p104
            replace q104 := eq_true q104
            have p105 : 0 ≤ (x7_1 : Int) := of_decide_eq_true (by first | (with_reducible assumption) | assumption)
            have q105 : x7_1 < (l0.length : Int) := of_decide_eq_true (by first | (with_reducible assumption) | assumption)
            obtain ⟨ad105, A105_3, c105_3, e105, hx105_0, hx105_1, hx105_2, hx105_3, hl105_3, hi105_3⟩ := qa8 HR0.out x7_1 p105 q105
            obtain rfl : ad104 = ad105 := (by injection e105)
            replace hx105_0 := (HB.out.cell (World.block_lt_of_cell? w _ hx105_0)).trans hx105_0
            replace hx105_1 := (HB.out.cell (World.block_lt_of_cell? w _ hx105_1)).trans hx105_1
            replace hx105_2 := (HB.out.cell (World.block_lt_of_cell? w _ hx105_2)).trans hx105_2
            replace hx105_3 := (HB.out.cell (World.block_lt_of_cell? w _ hx105_3)).trans hx105_3
            have HR105_3 := Aside0.mk hi105_3
            have HC105_3 := Aside0.mk hl105_3
            clear hi105_3 hl105_3
            replace p105 := eq_true p105
            replace q105 := eq_true q105
            have ea_ := Option.some.inj (hx104_3.symm.trans hx105_3)
            injection ea_ with ea_ en_ ec_
            subst ea_
            subst ec_
            clear en_
            have p106 : 0 ≤ (x8_2 : Int) := of_decide_eq_true (by first | (with_reducible assumption) | assumption)
            have q106 : x8_2 < (((qab l0 x7_1).f3).length : Int) := of_decide_eq_true (by first | (with_reducible assumption) | assumption)
            obtain ⟨ad106, e106, hx106_0, hx106_1, hx106_2⟩ := qbx HR105_3.out x8_2 p106 q106
            (try rw [← Nbq9.out] at hx106_0)
            cases e106
            replace hx106_0 := (HB.out.cell (World.block_lt_of_cell? w _ hx106_0)).trans hx106_0
            replace hx106_1 := (HB.out.cell (World.block_lt_of_cell? w _ hx106_1)).trans hx106_1
            replace hx106_2 := (HB.out.cell (World.block_lt_of_cell? w _ hx106_2)).trans hx106_2
            replace p106 := eq_true p106
            replace q106 := eq_true q106
            go_wp2_with (first | ((with_reducible refine qau (N := 9) rfl ?_); refine qat ?hg (N := 9) ?hd (cs := #[.bool false, .int .i64 0, .int .i64 0]) (t := 51) ?hr ?_; (case hd => rfl); (case hg => rfl); (case hr => first | (go_simp; done) | (go_simp; rfl)); intro gb107 hg w17 hbox hb; have n0_ := Aside0.mk (qam (by repeat (first | (with_reducible first | exact HB.out | apply qac | apply qaa | apply qad) | exact HB.out)) hb); have n1_ := Aside0.mk (hbox); have n2_ := Aside0.mk ((by rw [hg]; exact (qal (by repeat (first | (with_reducible first | exact HB.out | apply qac | apply qaa | apply qad) | exact HB.out))) : w.heap.size ≤ gb107)); have n3_ := Aside0.mk ((by rw [hg]; exact (qal (by repeat (first | (with_reducible first | exact HB.out | apply qac | apply qaa | apply qad) | exact HB.out))) : w.heap.size ≤ gb107)); clear HB; have HB := n0_; have BK107 := n1_; have GW107 := n2_; have GE107 := n3_; clear n0_ n1_ n2_ n3_; clear hb hbox hg; have hcz18_0 : w17.cell? ⟨gb107, 0, none⟩ = some (.bool false) := (qah BK107.out 0).trans rfl; have hcz18_1 : w17.cell? ⟨gb107, 1, none⟩ = some (.int .i64 0) := (qah BK107.out 1).trans rfl; have hcz18_2 : w17.cell? ⟨gb107, 2, none⟩ = some (.int .i64 0) := (qah BK107.out 2).trans rfl; have hfz18_0 := qae BK107.out 0; have hfz18_1 := qae BK107.out 1; have hfz18_2 := qae BK107.out 2))
            go_roundg k2
            case measure => have := HK1.out; have := HK2.out; omega
            case rel => exact ⟨(wrap64 (x8_2 + 1)), (by first | rfl | (simp; done) | (simp [*]; done)), H', ⟨by have := HK1.out; have := HK2.out; omega⟩, ⟨by repeat (first | (with_reducible first | exact HB.out | apply qac | apply qaa | apply qad | refine qak ?_ GE107.out) | exact HB.out)⟩⟩
          ·replace c10 := Bool.eq_false_iff.mpr c10
           subst c10
           have H1 : (burgageref06_Writer.l1 k2 l0 a1 a2 x7_1 (wrap64 (x8_2 + 1))) = some r := by rw [if_neg (show ¬ (false = true) by decide)] at H; exact H
           clear H
           have H := H1
           clear H1
           have H' := Aside0.mk H
           clear H
           have p104 : 0 ≤ (x7_1 : Int) := of_decide_eq_true (by first | (with_reducible assumption) | assumption)
           have q104 : x7_1 < (l0.length : Int) := of_decide_eq_true (by first | (with_reducible assumption) | assumption)
           obtain ⟨ad104, A104_3, c104_3, e104, hx104_0, hx104_1, hx104_2, hx104_3, hl104_3, hi104_3⟩ := qa8 HR0.out x7_1 p104 q104
           cases e104
           replace hx104_0 := (HB.out.cell (World.block_lt_of_cell? w _ hx104_0)).trans hx104_0
           replace hx104_1 := (HB.out.cell (World.block_lt_of_cell? w _ hx104_1)).trans hx104_1
           replace hx104_2 := (HB.out.cell (World.block_lt_of_cell? w _ hx104_2)).trans hx104_2
           replace hx104_3 := (HB.out.cell (World.block_lt_of_cell? w _ hx104_3)).trans hx104_3
           have HR104_3 := Aside0.mk hi104_3
           have HC104_3 := Aside0.mk hl104_3
           clear hi104_3 hl104_3
           replace p104 := eq_true p104
           replace q104 := eq_true q104
           have p105 : 0 ≤ (x7_1 : Int) := of_decide_eq_true (by first | (with_reducible assumption) | assumption)
           have q105 : x7_1 < (l0.length : Int) := of_decide_eq_true (by first | (with_reducible assumption) | assumption)
           obtain ⟨ad105, A105_3, c105_3, e105, hx105_0, hx105_1, hx105_2, hx105_3, hl105_3, hi105_3⟩ := qa8 HR0.out x7_1 p105 q105
           obtain rfl : ad104 = ad105 := (by injection e105)
           replace hx105_0 := (HB.out.cell (World.block_lt_of_cell? w _ hx105_0)).trans hx105_0
           replace hx105_1 := (HB.out.cell (World.block_lt_of_cell? w _ hx105_1)).trans hx105_1
           replace hx105_2 := (HB.out.cell (World.block_lt_of_cell? w _ hx105_2)).trans hx105_2
           replace hx105_3 := (HB.out.cell (World.block_lt_of_cell? w _ hx105_3)).trans hx105_3
           have HR105_3 := Aside0.mk hi105_3
           have HC105_3 := Aside0.mk hl105_3
           clear hi105_3 hl105_3
           replace p105 := eq_true p105
           replace q105 := eq_true q105
           have ea_ := Option.some.inj (hx104_3.symm.trans hx105_3)
           injection ea_ with ea_ en_ ec_
           subst ea_
           subst ec_
           clear en_
           have p106 : 0 ≤ (x8_2 : Int) := of_decide_eq_true (by first | (with_reducible assumption) | assumption)
           have q106 : x8_2 < (((qab l0 x7_1).f3).length : Int) := of_decide_eq_true (by first | (with_reducible assumption) | assumption)
           obtain ⟨ad106, e106, hx106_0, hx106_1, hx106_2⟩ := qbx HR105_3.out x8_2 p106 q106
           (try rw [← Nbq9.out] at hx106_0)
           cases e106
           replace hx106_0 := (HB.out.cell (World.block_lt_of_cell? w _ hx106_0)).trans hx106_0
           replace hx106_1 := (HB.out.cell (World.block_lt_of_cell? w _ hx106_1)).trans hx106_1
           replace hx106_2 := (HB.out.cell (World.block_lt_of_cell? w _ hx106_2)).trans hx106_2
           replace p106 := eq_true p106
           replace q106 := eq_true q106
           go_wp2_with (first | ((with_reducible refine qau (N := 9) rfl ?_); refine qat ?hg (N := 9) ?hd (cs := #[.bool false, .int .i64 0, .int .i64 0]) (t := 51) ?hr ?_; (case hd => rfl); (case hg => rfl); (case hr => first | (go_simp; done) | (go_simp; rfl)); intro gb107 hg w19 hbox hb; have n0_ := Aside0.mk (qam (by repeat (first | (with_reducible first | exact HB.out | apply qac | apply qaa | apply qad) | exact HB.out)) hb); have n1_ := Aside0.mk (hbox); have n2_ := Aside0.mk ((by rw [hg]; exact (qal (by repeat (first | (with_reducible first | exact HB.out | apply qac | apply qaa | apply qad) | exact HB.out))) : w.heap.size ≤ gb107)); have n3_ := Aside0.mk ((by rw [hg]; exact (qal (by repeat (first | (with_reducible first | exact HB.out | apply qac | apply qaa | apply qad) | exact HB.out))) : w.heap.size ≤ gb107)); clear HB; have HB := n0_; have BK107 := n1_; have GW107 := n2_; have GE107 := n3_; clear n0_ n1_ n2_ n3_; clear hb hbox hg; have hcz20_0 : w19.cell? ⟨gb107, 0, none⟩ = some (.bool false) := (qah BK107.out 0).trans rfl; have hcz20_1 : w19.cell? ⟨gb107, 1, none⟩ = some (.int .i64 0) := (qah BK107.out 1).trans rfl; have hcz20_2 : w19.cell? ⟨gb107, 2, none⟩ = some (.int .i64 0) := (qah BK107.out 2).trans rfl; have hfz20_0 := qae BK107.out 0; have hfz20_1 := qae BK107.out 1; have hfz20_2 := qae BK107.out 2))
           go_roundg k2
           case measure => have := HK1.out; have := HK2.out; omega
           case rel => exact ⟨(wrap64 (x8_2 + 1)), (by first | rfl | (simp; done) | (simp [*]; done)), H', ⟨by have := HK1.out; have := HK2.out; omega⟩, ⟨by repeat (first | (with_reducible first | exact HB.out | apply qac | apply qaa | apply qad | refine qak ?_ GE107.out) | exact HB.out)⟩⟩
         ·rw [if_neg c8] at H
          exact absurd H (by simp)
        ·rw [if_neg c7] at H
         have c7b0 : decide (x8_2 < (((qab l0 x7_1).f3).length : Int)) = false := decide_eq_false c7
         clear c7
         have H' := Aside0.mk H
         clear H
         have p104 : 0 ≤ (x7_1 : Int) := of_decide_eq_true (by first | (with_reducible assumption) | assumption)
         have q104 : x7_1 < (l0.length : Int) := of_decide_eq_true (by first | (with_reducible assumption) | assumption)
         obtain ⟨ad104, A104_3, c104_3, e104, hx104_0, hx104_1, hx104_2, hx104_3, hl104_3, hi104_3⟩ := qa8 HR0.out x7_1 p104 q104
         cases e104
         replace hx104_0 := (HB.out.cell (World.block_lt_of_cell? w _ hx104_0)).trans hx104_0
         replace hx104_1 := (HB.out.cell (World.block_lt_of_cell? w _ hx104_1)).trans hx104_1
         replace hx104_2 := (HB.out.cell (World.block_lt_of_cell? w _ hx104_2)).trans hx104_2
         replace hx104_3 := (HB.out.cell (World.block_lt_of_cell? w _ hx104_3)).trans hx104_3
         have HR104_3 := Aside0.mk hi104_3
         have HC104_3 := Aside0.mk hl104_3
         clear hi104_3 hl104_3
         replace p104 := eq_true p104
         replace q104 := eq_true q104
         go_wp2
         go_roundg k2
         case measure => have := HK1.out; have := HK2.out; omega
         case rel => exact ⟨(wrap64 (x7_1 + 1)), (by first | rfl | (simp; done) | (simp [*]; done)), H', ⟨by have := HK1.out; have := HK2.out; omega⟩, ⟨by repeat (first | (with_reducible first | exact HB.out | apply qac | apply qaa | apply qad) | exact HB.out)⟩⟩
       ·rw [if_neg c6] at H
        exact absurd H (by simp)
      ·rw [if_neg c5] at H
       exact absurd H (by simp)
   ·rw [if_neg c4] at H
    have c4b0 : decide (x7_1 < (l0.length : Int)) = false := decide_eq_false c4
    clear c4
    obtain rfl := Option.some.inj H
    go_wp2
    go_ret
    exact ⟨by first | rfl | (simp [qao, qan] <;> rfl) | (simp [*, qao, qan] <;> rfl), by repeat (first | (with_reducible first | exact HB.out | apply qac | apply qaa | apply qad) | exact HB.out)⟩
def burgageref06_mayOp.f (a0_0 : Bool) (a0_1 : Int) (a0_2 : Int) : Option (Bool) := if a0_1 < 0 then (some false) else (if a0_1 > 63 then (some false) else (if a0_2 < 0 then (some false) else (if a0_2 > 2147483647 then (some false) else (if a0_0 = true then (some (a0_2 != 0)) else (some true)))))
set_option maxHeartbeats 8000000 in
set_option maxRecDepth 100000 in
theorem burgageref06_mayOp.calls (a0_0 : Bool) (a0_1 : Int) (a0_2 : Int) (r : Bool) (w : World) (h : burgageref06_mayOp.f a0_0 a0_1 a0_2 = some r) :
  Calls Try.prog 83 #[.agg #[.bool a0_0, .int .i64 a0_1, .int .i64 a0_2]] w fun e w' => e = .returned (.bool r) ∧ Below w.heap.size w w' := by
 have hu51 := Try.underlying51
 have HB := Aside0.mk (Below.refl w.heap.size w)
 have H : (if a0_1 < 0 then (some false) else (if a0_1 > 63 then (some false) else (if a0_2 < 0 then (some false) else (if a0_2 > 2147483647 then (some false) else (if a0_0 = true then (some (a0_2 != 0)) else (some true)))))) = some r := h
 clear h
 by_cases c2 : a0_1 < 0
 ·rw [if_pos c2] at H
  have c2b0 : decide (a0_1 < 0) = true := decide_eq_true c2
  clear c2
  obtain rfl := Option.some.inj H
  go_enter Try.func83, Try.ntmps83
  go_wp2_with (first | ((with_reducible refine qau (N := 1) rfl ?_); refine qat ?hg (N := 1) ?hd (cs := #[.bool a0_0, .int .i64 a0_1, .int .i64 a0_2]) (t := 51) ?hr ?_; (case hd => rfl); (case hg => rfl); (case hr => first | (go_simp; done) | (go_simp; rfl)); intro gb108 hg w3 hbox hb; have n0_ := Aside0.mk (qam (by repeat (first | (with_reducible first | exact HB.out | apply qac | apply qaa | apply qad) | exact HB.out)) hb); have n1_ := Aside0.mk (hbox); have n2_ := Aside0.mk ((by rw [hg]; exact (qal (by repeat (first | (with_reducible first | exact HB.out | apply qac | apply qaa | apply qad) | exact HB.out))) : w.heap.size ≤ gb108)); have n3_ := Aside0.mk ((by rw [hg]; exact (qal (by repeat (first | (with_reducible first | exact HB.out | apply qac | apply qaa | apply qad) | exact HB.out))) : w.heap.size ≤ gb108)); clear HB; have HB := n0_; have BK108 := n1_; have GW108 := n2_; have GE108 := n3_; clear n0_ n1_ n2_ n3_; clear hb hbox hg; have hcz4_0 : w3.cell? ⟨gb108, 0, none⟩ = some (.bool a0_0) := (qah BK108.out 0).trans rfl; have hcz4_1 : w3.cell? ⟨gb108, 1, none⟩ = some (.int .i64 a0_1) := (qah BK108.out 1).trans rfl; have hcz4_2 : w3.cell? ⟨gb108, 2, none⟩ = some (.int .i64 a0_2) := (qah BK108.out 2).trans rfl; have hfz4_0 := qae BK108.out 0; have hfz4_1 := qae BK108.out 1; have hfz4_2 := qae BK108.out 2))
  go_ret
  exact ⟨by first | rfl | (simp [qao, qan] <;> rfl) | (simp [*, qao, qan] <;> rfl), by repeat (first | (with_reducible first | exact HB.out | apply qac | apply qaa | apply qad | refine qak ?_ GE108.out) | exact HB.out)⟩
 ·rw [if_neg c2] at H
  have c2b0 : decide (a0_1 < 0) = false := decide_eq_false c2
  clear c2
  by_cases c5 : a0_1 > 63
  ·rw [if_pos c5] at H
   have c5b0 : decide (63 < a0_1) = true := decide_eq_true c5
   clear c5
   obtain rfl := Option.some.inj H
   go_enter Try.func83, Try.ntmps83
   go_wp2_with (first | ((with_reducible refine qau (N := 1) rfl ?_); refine qat ?hg (N := 1) ?hd (cs := #[.bool a0_0, .int .i64 a0_1, .int .i64 a0_2]) (t := 51) ?hr ?_; (case hd => rfl); (case hg => rfl); (case hr => first | (go_simp; done) | (go_simp; rfl)); intro gb108 hg w6 hbox hb; have n0_ := Aside0.mk (qam (by repeat (first | (with_reducible first | exact HB.out | apply qac | apply qaa | apply qad) | exact HB.out)) hb); have n1_ := Aside0.mk (hbox); have n2_ := Aside0.mk ((by rw [hg]; exact (qal (by repeat (first | (with_reducible first | exact HB.out | apply qac | apply qaa | apply qad) | exact HB.out))) : w.heap.size ≤ gb108)); have n3_ := Aside0.mk ((by rw [hg]; exact (qal (by repeat (first | (with_reducible first | exact HB.out | apply qac | apply qaa | apply qad) | exact HB.out))) : w.heap.size ≤ gb108)); clear HB; have HB := n0_; have BK108 := n1_; have GW108 := n2_; have GE108 := n3_; clear n0_ n1_ n2_ n3_; clear hb hbox hg; have hcz7_0 : w6.cell? ⟨gb108, 0, none⟩ = some (.bool a0_0) := (qah BK108.out 0).trans rfl; have hcz7_1 : w6.cell? ⟨gb108, 1, none⟩ = some (.int .i64 a0_1) := (qah BK108.out 1).trans rfl; have hcz7_2 : w6.cell? ⟨gb108, 2, none⟩ = some (.int .i64 a0_2) := (qah BK108.out 2).trans rfl; have hfz7_0 := qae BK108.out 0; have hfz7_1 := qae BK108.out 1; have hfz7_2 := qae BK108.out 2))
   go_ret
   exact ⟨by first | rfl | (simp [qao, qan] <;> rfl) | (simp [*, qao, qan] <;> rfl), by repeat (first | (with_reducible first | exact HB.out | apply qac | apply qaa | apply qad | refine qak ?_ GE108.out) | exact HB.out)⟩
  ·rw [if_neg c5] at H
   have c5b0 : decide (63 < a0_1) = false := decide_eq_false c5
   clear c5
   by_cases c8 : a0_2 < 0
   ·rw [if_pos c8] at H
    have c8b0 : decide (a0_2 < 0) = true := decide_eq_true c8
    clear c8
    obtain rfl := Option.some.inj H
    go_enter Try.func83, Try.ntmps83
    go_wp2_with (first | ((with_reducible refine qau (N := 1) rfl ?_); refine qat ?hg (N := 1) ?hd (cs := #[.bool a0_0, .int .i64 a0_1, .int .i64 a0_2]) (t := 51) ?hr ?_; (case hd => rfl); (case hg => rfl); (case hr => first | (go_simp; done) | (go_simp; rfl)); intro gb108 hg w9 hbox hb; have n0_ := Aside0.mk (qam (by repeat (first | (with_reducible first | exact HB.out | apply qac | apply qaa | apply qad) | exact HB.out)) hb); have n1_ := Aside0.mk (hbox); have n2_ := Aside0.mk ((by rw [hg]; exact (qal (by repeat (first | (with_reducible first | exact HB.out | apply qac | apply qaa | apply qad) | exact HB.out))) : w.heap.size ≤ gb108)); have n3_ := Aside0.mk ((by rw [hg]; exact (qal (by repeat (first | (with_reducible first | exact HB.out | apply qac | apply qaa | apply qad) | exact HB.out))) : w.heap.size ≤ gb108)); clear HB; have HB := n0_; have BK108 := n1_; have GW108 := n2_; have GE108 := n3_; clear n0_ n1_ n2_ n3_; clear hb hbox hg; have hcz10_0 : w9.cell? ⟨gb108, 0, none⟩ = some (.bool a0_0) := (qah BK108.out 0).trans rfl; have hcz10_1 : w9.cell? ⟨gb108, 1, none⟩ = some (.int .i64 a0_1) := (qah BK108.out 1).trans rfl; have hcz10_2 : w9.cell? ⟨gb108, 2, none⟩ = some (.int .i64 a0_2) := (qah BK108.out 2).trans rfl; have hfz10_0 := qae BK108.out 0; have hfz10_1 := qae BK108.out 1; have hfz10_2 := qae BK108.out 2))
    go_ret
    exact ⟨by first | rfl | (simp [qao, qan] <;> rfl) | (simp [*, qao, qan] <;> rfl), by repeat (first | (with_reducible first | exact HB.out | apply qac | apply qaa | apply qad | refine qak ?_ GE108.out) | exact HB.out)⟩
   ·rw [if_neg c8] at H
    have c8b0 : decide (a0_2 < 0) = false := decide_eq_false c8
    clear c8
    by_cases c11 : a0_2 > 2147483647
    ·rw [if_pos c11] at H
     have c11b0 : decide (2147483647 < a0_2) = true := decide_eq_true c11
     clear c11
     obtain rfl := Option.some.inj H
     go_enter Try.func83, Try.ntmps83
     go_wp2_with (first | ((with_reducible refine qau (N := 1) rfl ?_); refine qat ?hg (N := 1) ?hd (cs := #[.bool a0_0, .int .i64 a0_1, .int .i64 a0_2]) (t := 51) ?hr ?_; (case hd => rfl); (case hg => rfl); (case hr => first | (go_simp; done) | (go_simp; rfl)); intro gb108 hg w12 hbox hb; have n0_ := Aside0.mk (qam (by repeat (first | (with_reducible first | exact HB.out | apply qac | apply qaa | apply qad) | exact HB.out)) hb); have n1_ := Aside0.mk (hbox); have n2_ := Aside0.mk ((by rw [hg]; exact (qal (by repeat (first | (with_reducible first | exact HB.out | apply qac | apply qaa | apply qad) | exact HB.out))) : w.heap.size ≤ gb108)); have n3_ := Aside0.mk ((by rw [hg]; exact (qal (by repeat (first | (with_reducible first | exact HB.out | apply qac | apply qaa | apply qad) | exact HB.out))) : w.heap.size ≤ gb108)); clear HB; have HB := n0_; have BK108 := n1_; have GW108 := n2_; have GE108 := n3_; clear n0_ n1_ n2_ n3_; clear hb hbox hg; have hcz13_0 : w12.cell? ⟨gb108, 0, none⟩ = some (.bool a0_0) := (qah BK108.out 0).trans rfl; have hcz13_1 : w12.cell? ⟨gb108, 1, none⟩ = some (.int .i64 a0_1) := (qah BK108.out 1).trans rfl; have hcz13_2 : w12.cell? ⟨gb108, 2, none⟩ = some (.int .i64 a0_2) := (qah BK108.out 2).trans rfl; have hfz13_0 := qae BK108.out 0; have hfz13_1 := qae BK108.out 1; have hfz13_2 := qae BK108.out 2))
     go_ret
     exact ⟨by first | rfl | (simp [qao, qan] <;> rfl) | (simp [*, qao, qan] <;> rfl), by repeat (first | (with_reducible first | exact HB.out | apply qac | apply qaa | apply qad | refine qak ?_ GE108.out) | exact HB.out)⟩
    ·rw [if_neg c11] at H
     have c11b0 : decide (2147483647 < a0_2) = false := decide_eq_false c11
     clear c11
     by_cases c14 : a0_0 = true
     ·subst c14
      have H1 : (some (a0_2 != 0)) = some r := by rw [if_pos rfl] at H; exact H
      clear H
      have H := H1
      clear H1
      obtain rfl := Option.some.inj H
      go_enter Try.func83, Try.ntmps83
      go_wp2_with (first | ((with_reducible refine qau (N := 1) rfl ?_); refine qat ?hg (N := 1) ?hd (cs := #[.bool true, .int .i64 a0_1, .int .i64 a0_2]) (t := 51) ?hr ?_; (case hd => rfl); (case hg => rfl); (case hr => first | (go_simp; done) | (go_simp; rfl)); intro gb108 hg w15 hbox hb; have n0_ := Aside0.mk (qam (by repeat (first | (with_reducible first | exact HB.out | apply qac | apply qaa | apply qad) | exact HB.out)) hb); have n1_ := Aside0.mk (hbox); have n2_ := Aside0.mk ((by rw [hg]; exact (qal (by repeat (first | (with_reducible first | exact HB.out | apply qac | apply qaa | apply qad) | exact HB.out))) : w.heap.size ≤ gb108)); have n3_ := Aside0.mk ((by rw [hg]; exact (qal (by repeat (first | (with_reducible first | exact HB.out | apply qac | apply qaa | apply qad) | exact HB.out))) : w.heap.size ≤ gb108)); clear HB; have HB := n0_; have BK108 := n1_; have GW108 := n2_; have GE108 := n3_; clear n0_ n1_ n2_ n3_; clear hb hbox hg; have hcz16_0 : w15.cell? ⟨gb108, 0, none⟩ = some (.bool true) := (qah BK108.out 0).trans rfl; have hcz16_1 : w15.cell? ⟨gb108, 1, none⟩ = some (.int .i64 a0_1) := (qah BK108.out 1).trans rfl; have hcz16_2 : w15.cell? ⟨gb108, 2, none⟩ = some (.int .i64 a0_2) := (qah BK108.out 2).trans rfl; have hfz16_0 := qae BK108.out 0; have hfz16_1 := qae BK108.out 1; have hfz16_2 := qae BK108.out 2))
      go_ret
      exact ⟨by first | rfl | (simp [qao, qan] <;> rfl) | (simp [*, qao, qan] <;> rfl), by repeat (first | (with_reducible first | exact HB.out | apply qac | apply qaa | apply qad | refine qak ?_ GE108.out) | exact HB.out)⟩
     ·replace c14 := Bool.eq_false_iff.mpr c14
      subst c14
      have H1 : (some true) = some r := by rw [if_neg (show ¬ (false = true) by decide)] at H; exact H
      clear H
      have H := H1
      clear H1
      obtain rfl := Option.some.inj H
      go_enter Try.func83, Try.ntmps83
      go_wp2_with (first | ((with_reducible refine qau (N := 1) rfl ?_); refine qat ?hg (N := 1) ?hd (cs := #[.bool false, .int .i64 a0_1, .int .i64 a0_2]) (t := 51) ?hr ?_; (case hd => rfl); (case hg => rfl); (case hr => first | (go_simp; done) | (go_simp; rfl)); intro gb108 hg w17 hbox hb; have n0_ := Aside0.mk (qam (by repeat (first | (with_reducible first | exact HB.out | apply qac | apply qaa | apply qad) | exact HB.out)) hb); have n1_ := Aside0.mk (hbox); have n2_ := Aside0.mk ((by rw [hg]; exact (qal (by repeat (first | (with_reducible first | exact HB.out | apply qac | apply qaa | apply qad) | exact HB.out))) : w.heap.size ≤ gb108)); have n3_ := Aside0.mk ((by rw [hg]; exact (qal (by repeat (first | (with_reducible first | exact HB.out | apply qac | apply qaa | apply qad) | exact HB.out))) : w.heap.size ≤ gb108)); clear HB; have HB := n0_; have BK108 := n1_; have GW108 := n2_; have GE108 := n3_; clear n0_ n1_ n2_ n3_; clear hb hbox hg; have hcz18_0 : w17.cell? ⟨gb108, 0, none⟩ = some (.bool false) := (qah BK108.out 0).trans rfl; have hcz18_1 : w17.cell? ⟨gb108, 1, none⟩ = some (.int .i64 a0_1) := (qah BK108.out 1).trans rfl; have hcz18_2 : w17.cell? ⟨gb108, 2, none⟩ = some (.int .i64 a0_2) := (qah BK108.out 2).trans rfl; have hfz18_0 := qae BK108.out 0; have hfz18_1 := qae BK108.out 1; have hfz18_2 := qae BK108.out 2))
      go_ret
      exact ⟨by first | rfl | (simp [qao, qan] <;> rfl) | (simp [*, qao, qan] <;> rfl), by repeat (first | (with_reducible first | exact HB.out | apply qac | apply qaa | apply qad | refine qak ?_ GE108.out) | exact HB.out)⟩
end Go.Proofs.Ytngkneknopenmaa.K
end
section
namespace Go.Proofs.Ytngkneknopenmaa.K
open Go.Proofs.Ytngkneknopenmaa
open Go.RowKit Go.Proofs.YtngkneknopenmaaW.PrintWords Go.Proofs.YtngkneknopenmaaW.PrintLast Go.Proofs.YtngkneknopenmaaW.PrintMore
attribute [local go_sem] qb3 qb1 qca qb9 qbu qbt qb2 qb0   -- for this text's walks alone
set_option linter.unusedVariables false
set_option linter.unusedSimpArgs false
mutual
def burgageref06_mayTxn.j0 : Nat → Bool → Int → Int → Int → List (S51) → Option (Bool)
 | 0, _, _, _, _, _ => none
 | k + 1, x40, x110000, x110001, x110002, x110003 => if x40 = true then (some false) else (burgageref06_mayTxn.l0 k 0 x110000 x110001 x110002 x110003)
def burgageref06_mayTxn.l0 : Nat → Int → Int → Int → Int → List (S51) → Option (Bool)
 | 0, _, _, _, _, _ => none
 | k + 1, x3, x110000, x110001, x110002, x110003 => if x3 < (x110003.length : Int) then (if 0 ≤ x3 then ((burgageref06_mayOp.f ((qaj x110003 x3).f0) ((qaj x110003 x3).f1) ((qaj x110003 x3).f2)).bind fun t111 => (if t111 = true then (burgageref06_mayTxn.l0 k (wrap64 (x3 + 1)) x110000 x110001 x110002 x110003) else (some false))) else (none)) else (some true)
end
def burgageref06_mayTxn.f (k : Nat) (a0_0 : Int) (a0_1 : Int) (a0_2 : Int) (l0_3 : List (S51)) : Option (Bool) := if a0_0 < 0 then (burgageref06_mayTxn.j0 k true a0_0 a0_1 a0_2 l0_3) else (if a0_0 > 63 then (burgageref06_mayTxn.j0 k true a0_0 a0_1 a0_2 l0_3) else (if a0_1 < 0 then (burgageref06_mayTxn.j0 k true a0_0 a0_1 a0_2 l0_3) else (if a0_1 ≥ a0_2 then (burgageref06_mayTxn.j0 k true a0_0 a0_1 a0_2 l0_3) else (if a0_2 > 2147483647 then (burgageref06_mayTxn.j0 k true a0_0 a0_1 a0_2 l0_3) else (if (l0_3.length : Int) < 1 then (burgageref06_mayTxn.j0 k true a0_0 a0_1 a0_2 l0_3) else (burgageref06_mayTxn.j0 k (decide ((l0_3.length : Int) > 64)) a0_0 a0_1 a0_2 l0_3))))))
theorem burgageref06_mayTxn.mono_l : ∀ k, (∀ y0 y1 y2 y3 y4, LeO (burgageref06_mayTxn.j0 k y0 y1 y2 y3 y4) (burgageref06_mayTxn.j0 (k + 1) y0 y1 y2 y3 y4)) ∧ (∀ y0 y1 y2 y3 y4, LeO (burgageref06_mayTxn.l0 k y0 y1 y2 y3 y4) (burgageref06_mayTxn.l0 (k + 1) y0 y1 y2 y3 y4))
 | 0 => ⟨fun _ _ _ _ _ r h => by simp [burgageref06_mayTxn.j0] at h, fun _ _ _ _ _ r h => by simp [burgageref06_mayTxn.l0] at h⟩
 | k + 1 => by
  obtain ⟨ih0, ih1⟩ := burgageref06_mayTxn.mono_l k
  refine ⟨?_, ?_⟩
  ·intro y0 y1 y2 y3 y4
   unfold burgageref06_mayTxn.j0
   repeat' first
   | (with_reducible exact ih0 _ _ _ _ _)
   | (with_reducible exact ih1 _ _ _ _ _)
   | (with_reducible exact LeO.refl _)
   | (with_reducible exact LeO.none _)
   | (with_reducible refine LeO.ite ?_ ?_)
   | (with_reducible refine LeO.bind ?_ (fun _ => ?_))
   | exact ih0 _ _ _ _ _
   | exact ih1 _ _ _ _ _
   | exact LeO.none _
   | refine LeO.ite ?_ ?_
   | refine LeO.bind ?_ (fun _ => ?_)
  ·intro y0 y1 y2 y3 y4
   unfold burgageref06_mayTxn.l0
   repeat' first
   | (with_reducible exact ih0 _ _ _ _ _)
   | (with_reducible exact ih1 _ _ _ _ _)
   | (with_reducible exact LeO.refl _)
   | (with_reducible exact LeO.none _)
   | (with_reducible refine LeO.ite ?_ ?_)
   | (with_reducible refine LeO.bind ?_ (fun _ => ?_))
   | exact ih0 _ _ _ _ _
   | exact ih1 _ _ _ _ _
   | exact LeO.none _
   | refine LeO.ite ?_ ?_
   | refine LeO.bind ?_ (fun _ => ?_)
theorem burgageref06_mayTxn.mono : ∀ a0 a1 a2 a3 k, LeO (burgageref06_mayTxn.f k a0 a1 a2 a3) (burgageref06_mayTxn.f (k + 1) a0 a1 a2 a3) := by
 intro a0 a1 a2 a3 k
 obtain ⟨ih0, ih1⟩ := burgageref06_mayTxn.mono_l k
 unfold burgageref06_mayTxn.f
 repeat' first
   | (with_reducible exact ih0 _ _ _ _ _)
   | (with_reducible exact ih1 _ _ _ _ _)
   | (with_reducible exact LeO.refl _)
   | (with_reducible exact LeO.none _)
   | (with_reducible refine LeO.ite ?_ ?_)
   | (with_reducible refine LeO.bind ?_ (fun _ => ?_))
   | exact ih0 _ _ _ _ _
   | exact ih1 _ _ _ _ _
   | exact LeO.none _
   | refine LeO.ite ?_ ?_
   | refine LeO.bind ?_ (fun _ => ?_)
set_option maxHeartbeats 8000000 in
set_option maxRecDepth 100000 in
theorem burgageref06_mayTxn.calls (k : Nat) (a0_0 : Int) (a0_1 : Int) (a0_2 : Int) (A0_3 : Option Addr) (c0_3 : Nat) (l0_3 : List (S51)) (r : Bool) (w : World) (hr0_3 : Kd.C k51 w A0_3 l0_3.length l0_3) (hc0_3 : l0_3.length ≤ c0_3) (h : burgageref06_mayTxn.f k a0_0 a0_1 a0_2 l0_3 = some r) :
  Calls Try.prog 64 #[.agg #[.int .i64 a0_0, .int .i64 a0_1, .int .i64 a0_2, .slice A0_3 l0_3.length c0_3]] w fun e w' => e = .returned (.bool r) ∧ Below w.heap.size w w' := by
 have hu55 := Try.underlying55
 have hu51 := Try.underlying51
 have HR0_3 := Aside0.mk hr0_3
 have HC0_3 := Aside0.mk hc0_3
 clear hr0_3 hc0_3
 have HB := Aside0.mk (Below.refl w.heap.size w)
 have H : (if a0_0 < 0 then (burgageref06_mayTxn.j0 k true a0_0 a0_1 a0_2 l0_3) else (if a0_0 > 63 then (burgageref06_mayTxn.j0 k true a0_0 a0_1 a0_2 l0_3) else (if a0_1 < 0 then (burgageref06_mayTxn.j0 k true a0_0 a0_1 a0_2 l0_3) else (if a0_1 ≥ a0_2 then (burgageref06_mayTxn.j0 k true a0_0 a0_1 a0_2 l0_3) else (if a0_2 > 2147483647 then (burgageref06_mayTxn.j0 k true a0_0 a0_1 a0_2 l0_3) else (if (l0_3.length : Int) < 1 then (burgageref06_mayTxn.j0 k true a0_0 a0_1 a0_2 l0_3) else (burgageref06_mayTxn.j0 k (decide ((l0_3.length : Int) > 64)) a0_0 a0_1 a0_2 l0_3))))))) = some r := h
 clear h
 have HC2 := Aside0.mk H
 clear H
 go_enter Try.func64, Try.ntmps64
 go_upto_region 1 with (first | ((with_reducible refine qau (N := 1) rfl ?_); (try (refine qbf (by rfl) ?_; dsimp only)); refine qat ?hg (N := 1) ?hd (cs := #[.int .i64 a0_0, .int .i64 a0_1, .int .i64 a0_2, .slice A0_3 l0_3.length c0_3]) (t := 55) ?hr ?_; (case hd => rfl); (case hg => rfl); (case hr => first | (go_simp; done) | (go_simp; rfl)); intro gb109 hg w3 hbox hb; have n0_ := Aside0.mk (qam (by repeat (first | (with_reducible first | exact HB.out | apply qac | apply qaa | apply qad) | exact HB.out)) hb); have n1_ := Aside0.mk (hbox); have n2_ := Aside0.mk ((by rw [hg]; exact (qal (by repeat (first | (with_reducible first | exact HB.out | apply qac | apply qaa | apply qad) | exact HB.out))) : w.heap.size ≤ gb109)); have n3_ := Aside0.mk ((by rw [hg]; exact (qal (by repeat (first | (with_reducible first | exact HB.out | apply qac | apply qaa | apply qad) | exact HB.out))) : w.heap.size ≤ gb109)); clear HB; have HB := n0_; have BK109 := n1_; have GW109 := n2_; have GE109 := n3_; clear n0_ n1_ n2_ n3_; clear hb hbox hg))
 (try simp only [Act.put, List.setIfInBounds_toArray, List.set_cons_zero, List.set_cons_succ])
 go_cut [40] (fun v40 wc => ∃ (kq : Nat) (x40_1 : Bool), v40 = .bool x40_1 ∧ Aside0 (burgageref06_mayTxn.j0 kq x40_1 a0_0 a0_1 a0_2 l0_3 = some r) ∧ Aside0 (kq ≤ k) ∧ Aside0 (wc.heap[gb109]? = some (.cells #[.int .i64 a0_0, .int .i64 a0_1, .int .i64 a0_2, (.slice A0_3 l0_3.length c0_3)] 55 (0, 0))) ∧ Aside0 (Below w.heap.size w wc))
 case first =>
  have H := HC2.out
  clear HC2
  by_cases c4 : a0_0 < 0
  ·rw [if_pos c4] at H
   have c4b0 : decide (a0_0 < 0) = true := decide_eq_true c4
   clear c4
   (first | rw [c4b0] | (simp only [qbb, qbc]; rw [c4b0]) | skip)
   have H' := Aside0.mk H
   clear H
   have hcz5_0 : w3.cell? ⟨gb109, 0, none⟩ = some (.int .i64 a0_0) := (qah BK109.out 0).trans rfl
   have hcz5_1 : w3.cell? ⟨gb109, 1, none⟩ = some (.int .i64 a0_1) := (qah BK109.out 1).trans rfl
   have hcz5_2 : w3.cell? ⟨gb109, 2, none⟩ = some (.int .i64 a0_2) := (qah BK109.out 2).trans rfl
   have hcz5_3 : w3.cell? ⟨gb109, 3, none⟩ = some (.slice A0_3 l0_3.length c0_3) := (qah BK109.out 3).trans rfl
   have hfz5_0 := qae BK109.out 0
   have hfz5_1 := qae BK109.out 1
   have hfz5_2 := qae BK109.out 2
   have hfz5_3 := qae BK109.out 3
   go_wp2
   go_meet
   case rel => exact ⟨_, (true), (by first | rfl | (simp; done) | (simp [*]; done)), H', ⟨by first | omega | exact Nat.le_refl _⟩, ⟨by (with_reducible repeat (first | refine qaf ?_ _ | refine qai ?_ | refine qag ?_ _)); exact BK109.out⟩, ⟨by repeat (first | (with_reducible first | exact HB.out | apply qac | apply qaa | apply qad | refine qak ?_ GE109.out) | exact HB.out)⟩⟩
  ·rw [if_neg c4] at H
   have c4b0 : decide (a0_0 < 0) = false := decide_eq_false c4
   clear c4
   (first | rw [c4b0] | (simp only [qbb, qbc]; rw [c4b0]) | skip)
   by_cases c6 : a0_0 > 63
   ·rw [if_pos c6] at H
    have c6b0 : decide (63 < a0_0) = true := decide_eq_true c6
    clear c6
    have H' := Aside0.mk H
    clear H
    have hcz7_0 : w3.cell? ⟨gb109, 0, none⟩ = some (.int .i64 a0_0) := (qah BK109.out 0).trans rfl
    have hcz7_1 : w3.cell? ⟨gb109, 1, none⟩ = some (.int .i64 a0_1) := (qah BK109.out 1).trans rfl
    have hcz7_2 : w3.cell? ⟨gb109, 2, none⟩ = some (.int .i64 a0_2) := (qah BK109.out 2).trans rfl
    have hcz7_3 : w3.cell? ⟨gb109, 3, none⟩ = some (.slice A0_3 l0_3.length c0_3) := (qah BK109.out 3).trans rfl
    have hfz7_0 := qae BK109.out 0
    have hfz7_1 := qae BK109.out 1
    have hfz7_2 := qae BK109.out 2
    have hfz7_3 := qae BK109.out 3
    go_wp2
    go_meet
    case rel => exact ⟨_, (true), (by first | rfl | (simp; done) | (simp [*]; done)), H', ⟨by first | omega | exact Nat.le_refl _⟩, ⟨by (with_reducible repeat (first | refine qaf ?_ _ | refine qai ?_ | refine qag ?_ _)); exact BK109.out⟩, ⟨by repeat (first | (with_reducible first | exact HB.out | apply qac | apply qaa | apply qad | refine qak ?_ GE109.out) | exact HB.out)⟩⟩
   ·rw [if_neg c6] at H
    have c6b0 : decide (63 < a0_0) = false := decide_eq_false c6
    clear c6
    by_cases c8 : a0_1 < 0
    ·rw [if_pos c8] at H
     have c8b0 : decide (a0_1 < 0) = true := decide_eq_true c8
     clear c8
     have H' := Aside0.mk H
     clear H
     have hcz9_0 : w3.cell? ⟨gb109, 0, none⟩ = some (.int .i64 a0_0) := (qah BK109.out 0).trans rfl
     have hcz9_1 : w3.cell? ⟨gb109, 1, none⟩ = some (.int .i64 a0_1) := (qah BK109.out 1).trans rfl
     have hcz9_2 : w3.cell? ⟨gb109, 2, none⟩ = some (.int .i64 a0_2) := (qah BK109.out 2).trans rfl
     have hcz9_3 : w3.cell? ⟨gb109, 3, none⟩ = some (.slice A0_3 l0_3.length c0_3) := (qah BK109.out 3).trans rfl
     have hfz9_0 := qae BK109.out 0
     have hfz9_1 := qae BK109.out 1
     have hfz9_2 := qae BK109.out 2
     have hfz9_3 := qae BK109.out 3
     go_wp2
     go_meet
     case rel => exact ⟨_, (true), (by first | rfl | (simp; done) | (simp [*]; done)), H', ⟨by first | omega | exact Nat.le_refl _⟩, ⟨by (with_reducible repeat (first | refine qaf ?_ _ | refine qai ?_ | refine qag ?_ _)); exact BK109.out⟩, ⟨by repeat (first | (with_reducible first | exact HB.out | apply qac | apply qaa | apply qad | refine qak ?_ GE109.out) | exact HB.out)⟩⟩
    ·rw [if_neg c8] at H
     have c8b0 : decide (a0_1 < 0) = false := decide_eq_false c8
     clear c8
     by_cases c10 : a0_1 ≥ a0_2
     ·rw [if_pos c10] at H
      have c10b0 : decide (a0_2 ≤ a0_1) = true := decide_eq_true c10
      clear c10
      have H' := Aside0.mk H
      clear H
      have hcz11_0 : w3.cell? ⟨gb109, 0, none⟩ = some (.int .i64 a0_0) := (qah BK109.out 0).trans rfl
      have hcz11_1 : w3.cell? ⟨gb109, 1, none⟩ = some (.int .i64 a0_1) := (qah BK109.out 1).trans rfl
      have hcz11_2 : w3.cell? ⟨gb109, 2, none⟩ = some (.int .i64 a0_2) := (qah BK109.out 2).trans rfl
      have hcz11_3 : w3.cell? ⟨gb109, 3, none⟩ = some (.slice A0_3 l0_3.length c0_3) := (qah BK109.out 3).trans rfl
      have hfz11_0 := qae BK109.out 0
      have hfz11_1 := qae BK109.out 1
      have hfz11_2 := qae BK109.out 2
      have hfz11_3 := qae BK109.out 3
      go_wp2
      go_meet
      case rel => exact ⟨_, (true), (by first | rfl | (simp; done) | (simp [*]; done)), H', ⟨by first | omega | exact Nat.le_refl _⟩, ⟨by (with_reducible repeat (first | refine qaf ?_ _ | refine qai ?_ | refine qag ?_ _)); exact BK109.out⟩, ⟨by repeat (first | (with_reducible first | exact HB.out | apply qac | apply qaa | apply qad | refine qak ?_ GE109.out) | exact HB.out)⟩⟩
     ·rw [if_neg c10] at H
      have c10b0 : decide (a0_2 ≤ a0_1) = false := decide_eq_false c10
      clear c10
      by_cases c12 : a0_2 > 2147483647
      ·rw [if_pos c12] at H
       have c12b0 : decide (2147483647 < a0_2) = true := decide_eq_true c12
       clear c12
       have H' := Aside0.mk H
       clear H
       have hcz13_0 : w3.cell? ⟨gb109, 0, none⟩ = some (.int .i64 a0_0) := (qah BK109.out 0).trans rfl
       have hcz13_1 : w3.cell? ⟨gb109, 1, none⟩ = some (.int .i64 a0_1) := (qah BK109.out 1).trans rfl
       have hcz13_2 : w3.cell? ⟨gb109, 2, none⟩ = some (.int .i64 a0_2) := (qah BK109.out 2).trans rfl
       have hcz13_3 : w3.cell? ⟨gb109, 3, none⟩ = some (.slice A0_3 l0_3.length c0_3) := (qah BK109.out 3).trans rfl
       have hfz13_0 := qae BK109.out 0
       have hfz13_1 := qae BK109.out 1
       have hfz13_2 := qae BK109.out 2
       have hfz13_3 := qae BK109.out 3
       go_wp2
       go_meet
       case rel => exact ⟨_, (true), (by first | rfl | (simp; done) | (simp [*]; done)), H', ⟨by first | omega | exact Nat.le_refl _⟩, ⟨by (with_reducible repeat (first | refine qaf ?_ _ | refine qai ?_ | refine qag ?_ _)); exact BK109.out⟩, ⟨by repeat (first | (with_reducible first | exact HB.out | apply qac | apply qaa | apply qad | refine qak ?_ GE109.out) | exact HB.out)⟩⟩
      ·rw [if_neg c12] at H
       have c12b0 : decide (2147483647 < a0_2) = false := decide_eq_false c12
       clear c12
       by_cases c14 : (l0_3.length : Int) < 1
       ·rw [if_pos c14] at H
        have c14b0 : decide ((l0_3.length : Int) < 1) = true := decide_eq_true c14
        have c14b1 : decide (l0_3.length < 1) = true := decide_eq_true (by omega)
        clear c14
        have H' := Aside0.mk H
        clear H
        have hcz15_0 : w3.cell? ⟨gb109, 0, none⟩ = some (.int .i64 a0_0) := (qah BK109.out 0).trans rfl
        have hcz15_1 : w3.cell? ⟨gb109, 1, none⟩ = some (.int .i64 a0_1) := (qah BK109.out 1).trans rfl
        have hcz15_2 : w3.cell? ⟨gb109, 2, none⟩ = some (.int .i64 a0_2) := (qah BK109.out 2).trans rfl
        have hcz15_3 : w3.cell? ⟨gb109, 3, none⟩ = some (.slice A0_3 l0_3.length c0_3) := (qah BK109.out 3).trans rfl
        have hfz15_0 := qae BK109.out 0
        have hfz15_1 := qae BK109.out 1
        have hfz15_2 := qae BK109.out 2
        have hfz15_3 := qae BK109.out 3
        go_wp2
        go_meet
        case rel => exact ⟨_, (true), (by first | rfl | (simp; done) | (simp [*]; done)), H', ⟨by first | omega | exact Nat.le_refl _⟩, ⟨by (with_reducible repeat (first | refine qaf ?_ _ | refine qai ?_ | refine qag ?_ _)); exact BK109.out⟩, ⟨by repeat (first | (with_reducible first | exact HB.out | apply qac | apply qaa | apply qad | refine qak ?_ GE109.out) | exact HB.out)⟩⟩
       ·rw [if_neg c14] at H
        have c14b0 : decide ((l0_3.length : Int) < 1) = false := decide_eq_false c14
        have c14b1 : decide (l0_3.length < 1) = false := decide_eq_false (by omega)
        clear c14
        have H' := Aside0.mk H
        clear H
        have hcz16_0 : w3.cell? ⟨gb109, 0, none⟩ = some (.int .i64 a0_0) := (qah BK109.out 0).trans rfl
        have hcz16_1 : w3.cell? ⟨gb109, 1, none⟩ = some (.int .i64 a0_1) := (qah BK109.out 1).trans rfl
        have hcz16_2 : w3.cell? ⟨gb109, 2, none⟩ = some (.int .i64 a0_2) := (qah BK109.out 2).trans rfl
        have hcz16_3 : w3.cell? ⟨gb109, 3, none⟩ = some (.slice A0_3 l0_3.length c0_3) := (qah BK109.out 3).trans rfl
        have hfz16_0 := qae BK109.out 0
        have hfz16_1 := qae BK109.out 1
        have hfz16_2 := qae BK109.out 2
        have hfz16_3 := qae BK109.out 3
        go_wp2
        go_meet
        case rel => exact ⟨_, (decide ((l0_3.length : Int) > 64)), (by first | rfl | (simp; done) | (simp [*]; done)), H', ⟨by first | omega | exact Nat.le_refl _⟩, ⟨by (with_reducible repeat (first | refine qaf ?_ _ | refine qai ?_ | refine qag ?_ _)); exact BK109.out⟩, ⟨by repeat (first | (with_reducible first | exact HB.out | apply qac | apply qaa | apply qad | refine qak ?_ GE109.out) | exact HB.out)⟩⟩
 case rest =>
  clear HC2
  try clear c1
  try clear p2
  try clear c4
  try clear c4b0
  try clear c6
  try clear c6b0
  try clear c8
  try clear c8b0
  try clear c10
  try clear c10b0
  try clear c12
  try clear c12b0
  try clear c14
  try clear c14b0
  try clear c14b1
  try clear hcz11_0
  try clear hcz11_1
  try clear hcz11_2
  try clear hcz11_3
  try clear hcz13_0
  try clear hcz13_1
  try clear hcz13_2
  try clear hcz13_3
  try clear hcz15_0
  try clear hcz15_1
  try clear hcz15_2
  try clear hcz15_3
  try clear hcz16_0
  try clear hcz16_1
  try clear hcz16_2
  try clear hcz16_3
  try clear hcz5_0
  try clear hcz5_1
  try clear hcz5_2
  try clear hcz5_3
  try clear hcz7_0
  try clear hcz7_1
  try clear hcz7_2
  try clear hcz7_3
  try clear hcz9_0
  try clear hcz9_1
  try clear hcz9_2
  try clear hcz9_3
  try clear hfz11_0
  try clear hfz11_1
  try clear hfz11_2
  try clear hfz11_3
  try clear hfz13_0
  try clear hfz13_1
  try clear hfz13_2
  try clear hfz13_3
  try clear hfz15_0
  try clear hfz15_1
  try clear hfz15_2
  try clear hfz15_3
  try clear hfz16_0
  try clear hfz16_1
  try clear hfz16_2
  try clear hfz16_3
  try clear hfz5_0
  try clear hfz5_1
  try clear hfz5_2
  try clear hfz5_3
  try clear hfz7_0
  try clear hfz7_1
  try clear hfz7_2
  try clear hfz7_3
  try clear hfz9_0
  try clear hfz9_1
  try clear hfz9_2
  try clear hfz9_3
  obtain ⟨kq, x40_1, rfl, HA, HJ1, BK109, HB⟩ := hcut
  cases kq with
  | zero => exact absurd HA.out (by simp [burgageref06_mayTxn.j0])
  | succ kj1 =>
   have H := HA.out
   clear HA
   simp only [burgageref06_mayTxn.j0] at H
   by_cases c17 : x40_1 = true
   ·subst c17
    have H1 : (some false) = some r := by rw [if_pos rfl] at H; exact H
    clear H
    have H := H1
    clear H1
    obtain rfl := Option.some.inj H
    go_wp2
    go_ret
    exact ⟨by first | rfl | (simp [qao, qan] <;> rfl) | (simp [*, qao, qan] <;> rfl), by repeat (first | (with_reducible first | exact HB.out | apply qac | apply qaa | apply qad | refine qak ?_ GE109.out) | exact HB.out)⟩
   ·replace c17 := Bool.eq_false_iff.mpr c17
    subst c17
    have H1 : (burgageref06_mayTxn.l0 kj1 0 a0_0 a0_1 a0_2 l0_3) = some r := by rw [if_neg (show ¬ (false = true) by decide)] at H; exact H
    clear H
    have H := H1
    clear H1
    have H' := Aside0.mk H
    clear H
    go_wp2
    go_loopg [3] kj1 (fun kq v3 w' => ∃ (x3_2 : Int), v3 = .int .i64 x3_2 ∧ Aside0 (burgageref06_mayTxn.l0 kq x3_2 a0_0 a0_1 a0_2 l0_3 = some r) ∧ Aside0 (kq ≤ kj1) ∧ Aside0 (w'.heap[gb109]? = some (.cells #[.int .i64 a0_0, .int .i64 a0_1, .int .i64 a0_2, (.slice A0_3 l0_3.length c0_3)] 55 (0, 0))) ∧ Aside0 (Below w.heap.size w w'))
    case atStart => exact ⟨(0), (by first | rfl | (simp; done) | (simp [*]; done)), H', ⟨Nat.le_refl _⟩, ⟨by (with_reducible repeat (first | refine qaf ?_ _ | refine qai ?_ | refine qag ?_ _)); exact BK109.out⟩, ⟨by repeat (first | (with_reducible first | exact HB.out | apply qac | apply qaa | apply qad | refine qak ?_ GE109.out) | exact HB.out)⟩⟩
    case round =>
     clear H'
     try clear c1
     try clear p2
     try clear c4
     try clear c4b0
     try clear c6
     try clear c6b0
     try clear c8
     try clear c8b0
     try clear c10
     try clear c10b0
     try clear c12
     try clear c12b0
     try clear c14
     try clear c14b0
     try clear c14b1
     try clear c17
     try clear hcz11_0
     try clear hcz11_1
     try clear hcz11_2
     try clear hcz11_3
     try clear hcz13_0
     try clear hcz13_1
     try clear hcz13_2
     try clear hcz13_3
     try clear hcz15_0
     try clear hcz15_1
     try clear hcz15_2
     try clear hcz15_3
     try clear hcz16_0
     try clear hcz16_1
     try clear hcz16_2
     try clear hcz16_3
     try clear hcz5_0
     try clear hcz5_1
     try clear hcz5_2
     try clear hcz5_3
     try clear hcz7_0
     try clear hcz7_1
     try clear hcz7_2
     try clear hcz7_3
     try clear hcz9_0
     try clear hcz9_1
     try clear hcz9_2
     try clear hcz9_3
     try clear hfz11_0
     try clear hfz11_1
     try clear hfz11_2
     try clear hfz11_3
     try clear hfz13_0
     try clear hfz13_1
     try clear hfz13_2
     try clear hfz13_3
     try clear hfz15_0
     try clear hfz15_1
     try clear hfz15_2
     try clear hfz15_3
     try clear hfz16_0
     try clear hfz16_1
     try clear hfz16_2
     try clear hfz16_3
     try clear hfz5_0
     try clear hfz5_1
     try clear hfz5_2
     try clear hfz5_3
     try clear hfz7_0
     try clear hfz7_1
     try clear hfz7_2
     try clear hfz7_3
     try clear hfz9_0
     try clear hfz9_1
     try clear hfz9_2
     try clear hfz9_3
     try clear p2
     obtain ⟨x3_2, rfl, HA, HK2, BK109, HB⟩ := hrel
     cases gk with
     | zero => exact absurd HA.out (by simp [burgageref06_mayTxn.l0])
     | succ k2 =>
      have H := HA.out
      clear HA
      simp only [burgageref06_mayTxn.l0] at H
      by_cases c18 : x3_2 < (l0_3.length : Int)
      ·rw [if_pos c18] at H
       have c18b0 : decide (x3_2 < (l0_3.length : Int)) = true := decide_eq_true c18
       clear c18
       by_cases c19 : 0 ≤ x3_2
       ·rw [if_pos c19] at H
        have c19b0 : decide (0 ≤ x3_2) = true := decide_eq_true c19
        clear c19
        replace H := Option.bind_eq_some_iff.mp H
        obtain ⟨t111, A200, H⟩ := H
        replace H : (if t111 = true then (burgageref06_mayTxn.l0 k2 (wrap64 (x3_2 + 1)) a0_0 a0_1 a0_2 l0_3) else (some false)) = some r := H
        have A20 := Aside0.mk A200
        clear A200
        by_cases c21 : t111 = true
        ·subst c21
         have H1 : (burgageref06_mayTxn.l0 k2 (wrap64 (x3_2 + 1)) a0_0 a0_1 a0_2 l0_3) = some r := by rw [if_pos rfl] at H; exact H
         clear H
         have H := H1
         clear H1
         have H' := Aside0.mk H
         clear H
         have hcz22_0 : wr.cell? ⟨gb109, 0, none⟩ = some (.int .i64 a0_0) := (qah BK109.out 0).trans rfl
         have hcz22_1 : wr.cell? ⟨gb109, 1, none⟩ = some (.int .i64 a0_1) := (qah BK109.out 1).trans rfl
         have hcz22_2 : wr.cell? ⟨gb109, 2, none⟩ = some (.int .i64 a0_2) := (qah BK109.out 2).trans rfl
         have hcz22_3 : wr.cell? ⟨gb109, 3, none⟩ = some (.slice A0_3 l0_3.length c0_3) := (qah BK109.out 3).trans rfl
         have hfz22_0 := qae BK109.out 0
         have hfz22_1 := qae BK109.out 1
         have hfz22_2 := qae BK109.out 2
         have hfz22_3 := qae BK109.out 3
         have p110 : 0 ≤ (x3_2 : Int) := of_decide_eq_true (by first | (with_reducible assumption) | assumption)
         have q110 : x3_2 < (l0_3.length : Int) := of_decide_eq_true (by first | (with_reducible assumption) | assumption)
         obtain ⟨ad110, e110, hx110_0, hx110_1, hx110_2⟩ := qbx HR0_3.out x3_2 p110 q110
         cases e110
         replace hx110_0 := (HB.out.cell (World.block_lt_of_cell? w _ hx110_0)).trans hx110_0
         replace hx110_1 := (HB.out.cell (World.block_lt_of_cell? w _ hx110_1)).trans hx110_1
         replace hx110_2 := (HB.out.cell (World.block_lt_of_cell? w _ hx110_2)).trans hx110_2
         replace p110 := eq_true p110
         replace q110 := eq_true q110
         go_wp2_with (first | ((with_reducible refine qbd (f := 83) rfl ?_); refine qce (some 53) rfl rfl Try.func83 (by kernel_rfl) rfl #[.agg #[.bool ((qaj l0_3 x3_2).f0), .int .i64 ((qaj l0_3 x3_2).f1), .int .i64 ((qaj l0_3 x3_2).f2)]] rfl (by (try simp only [List.map_toArray, List.map_cons, List.map_nil]); first | done | rfl | (simp only [List.length_drop, List.length_take]; rfl)) ?_; (with_reducible refine (burgageref06_mayOp.calls ((qaj l0_3 x3_2).f0) ((qaj l0_3 x3_2).f1) ((qaj l0_3 x3_2).f2) true _ A20.out).mono ?_); rintro e w23 ⟨rfl, hb⟩; refine ⟨_, rfl, ?_⟩; have n0_ := Aside0.mk (qa1 (g := gb109) (o := .cells #[.int .i64 a0_0, .int .i64 a0_1, .int .i64 a0_2, .slice (some ad110) l0_3.length c0_3] 55 (0, 0)) (by (with_reducible repeat (first | refine qaf ?_ _ | refine qai ?_ | refine qag ?_ _)); exact BK109.out) hb); have n1_ := Aside0.mk (qam (by repeat (first | (with_reducible first | exact HB.out | apply qac | apply qaa | apply qad | refine qak ?_ GE109.out) | exact HB.out)) hb); clear BK109; clear HB; have BK109 := n0_; have HB := n1_; clear n0_ n1_; (try clear hb); (try clear hb2); (try clear hk); (try clear hi)))
         go_roundg k2
         case measure => have := HJ1.out; have := HK2.out; omega
         case rel => exact ⟨(wrap64 (x3_2 + 1)), (by first | rfl | (simp; done) | (simp [*]; done)), H', ⟨by have := HJ1.out; have := HK2.out; omega⟩, ⟨by (with_reducible repeat (first | refine qaf ?_ _ | refine qai ?_ | refine qag ?_ _)); exact BK109.out⟩, ⟨by repeat (first | (with_reducible first | exact HB.out | apply qac | apply qaa | apply qad | refine qak ?_ GE109.out) | exact HB.out)⟩⟩
        ·replace c21 := Bool.eq_false_iff.mpr c21
         subst c21
         have H1 : (some false) = some r := by rw [if_neg (show ¬ (false = true) by decide)] at H; exact H
         clear H
         have H := H1
         clear H1
         obtain rfl := Option.some.inj H
         have hcz24_0 : wr.cell? ⟨gb109, 0, none⟩ = some (.int .i64 a0_0) := (qah BK109.out 0).trans rfl
         have hcz24_1 : wr.cell? ⟨gb109, 1, none⟩ = some (.int .i64 a0_1) := (qah BK109.out 1).trans rfl
         have hcz24_2 : wr.cell? ⟨gb109, 2, none⟩ = some (.int .i64 a0_2) := (qah BK109.out 2).trans rfl
         have hcz24_3 : wr.cell? ⟨gb109, 3, none⟩ = some (.slice A0_3 l0_3.length c0_3) := (qah BK109.out 3).trans rfl
         have hfz24_0 := qae BK109.out 0
         have hfz24_1 := qae BK109.out 1
         have hfz24_2 := qae BK109.out 2
         have hfz24_3 := qae BK109.out 3
         have p110 : 0 ≤ (x3_2 : Int) := of_decide_eq_true (by first | (with_reducible assumption) | assumption)
         have q110 : x3_2 < (l0_3.length : Int) := of_decide_eq_true (by first | (with_reducible assumption) | assumption)
         obtain ⟨ad110, e110, hx110_0, hx110_1, hx110_2⟩ := qbx HR0_3.out x3_2 p110 q110
         cases e110
         replace hx110_0 := (HB.out.cell (World.block_lt_of_cell? w _ hx110_0)).trans hx110_0
         replace hx110_1 := (HB.out.cell (World.block_lt_of_cell? w _ hx110_1)).trans hx110_1
         replace hx110_2 := (HB.out.cell (World.block_lt_of_cell? w _ hx110_2)).trans hx110_2
         replace p110 := eq_true p110
         replace q110 := eq_true q110
         go_wp2_with (first | ((with_reducible refine qbd (f := 83) rfl ?_); refine qce (some 53) rfl rfl Try.func83 (by kernel_rfl) rfl #[.agg #[.bool ((qaj l0_3 x3_2).f0), .int .i64 ((qaj l0_3 x3_2).f1), .int .i64 ((qaj l0_3 x3_2).f2)]] rfl (by (try simp only [List.map_toArray, List.map_cons, List.map_nil]); first | done | rfl | (simp only [List.length_drop, List.length_take]; rfl)) ?_; (with_reducible refine (burgageref06_mayOp.calls ((qaj l0_3 x3_2).f0) ((qaj l0_3 x3_2).f1) ((qaj l0_3 x3_2).f2) false _ A20.out).mono ?_); rintro e w25 ⟨rfl, hb⟩; refine ⟨_, rfl, ?_⟩; have n0_ := Aside0.mk (qa1 (g := gb109) (o := .cells #[.int .i64 a0_0, .int .i64 a0_1, .int .i64 a0_2, .slice (some ad110) l0_3.length c0_3] 55 (0, 0)) (by (with_reducible repeat (first | refine qaf ?_ _ | refine qai ?_ | refine qag ?_ _)); exact BK109.out) hb); have n1_ := Aside0.mk (qam (by repeat (first | (with_reducible first | exact HB.out | apply qac | apply qaa | apply qad | refine qak ?_ GE109.out) | exact HB.out)) hb); clear BK109; clear HB; have BK109 := n0_; have HB := n1_; clear n0_ n1_; (try clear hb); (try clear hb2); (try clear hk); (try clear hi)))
         go_ret
         exact ⟨by first | rfl | (simp [qao, qan] <;> rfl) | (simp [*, qao, qan] <;> rfl), by repeat (first | (with_reducible first | exact HB.out | apply qac | apply qaa | apply qad | refine qak ?_ GE109.out) | exact HB.out)⟩
       ·rw [if_neg c19] at H
        exact absurd H (by simp)
      ·rw [if_neg c18] at H
       have c18b0 : decide (x3_2 < (l0_3.length : Int)) = false := decide_eq_false c18
       clear c18
       obtain rfl := Option.some.inj H
       have hcz26_0 : wr.cell? ⟨gb109, 0, none⟩ = some (.int .i64 a0_0) := (qah BK109.out 0).trans rfl
       have hcz26_1 : wr.cell? ⟨gb109, 1, none⟩ = some (.int .i64 a0_1) := (qah BK109.out 1).trans rfl
       have hcz26_2 : wr.cell? ⟨gb109, 2, none⟩ = some (.int .i64 a0_2) := (qah BK109.out 2).trans rfl
       have hcz26_3 : wr.cell? ⟨gb109, 3, none⟩ = some (.slice A0_3 l0_3.length c0_3) := (qah BK109.out 3).trans rfl
       have hfz26_0 := qae BK109.out 0
       have hfz26_1 := qae BK109.out 1
       have hfz26_2 := qae BK109.out 2
       have hfz26_3 := qae BK109.out 3
       go_wp2
       go_ret
       exact ⟨by first | rfl | (simp [qao, qan] <;> rfl) | (simp [*, qao, qan] <;> rfl), by repeat (first | (with_reducible first | exact HB.out | apply qac | apply qaa | apply qad | refine qak ?_ GE109.out) | exact HB.out)⟩
mutual
def burgageref06_times.l0 : Nat → List (S55) → Int → Int → Int → Option (Int)
 | 0, _, _, _, _ => none
 | k + 1, x0, x1, x5, x6 => if x6 < (x0.length : Int) then (burgageref06_times.l1 k x0 x1 x5 x6 0) else (some x5)
def burgageref06_times.l1 : Nat → List (S55) → Int → Int → Int → Int → Option (Int)
 | 0, _, _, _, _, _ => none
 | k + 1, x0, x1, x5, x6, x7 => if 0 ≤ x6 then (if x6 < (x0.length : Int) then (if x7 < (((qab x0 x6).f3).length : Int) then (if 0 ≤ x7 then (if (qaj ((qab x0 x6).f3) x7).f0 = true then (if ((qaj ((qab x0 x6).f3) x7).f2) = x1 then (burgageref06_times.l1 k x0 x1 (wrap64 (x5 + 1)) x6 (wrap64 (x7 + 1))) else (burgageref06_times.l1 k x0 x1 x5 x6 (wrap64 (x7 + 1)))) else (burgageref06_times.l1 k x0 x1 x5 x6 (wrap64 (x7 + 1)))) else (none)) else (burgageref06_times.l0 k x0 x1 x5 (wrap64 (x6 + 1)))) else (none)) else (none)
end
def burgageref06_times.f (k : Nat) (l0 : List (S55)) (a1 : Int) : Option (Int) := burgageref06_times.l0 k l0 a1 0 0
theorem burgageref06_times.mono_l : ∀ k, (∀ y0 y1 y2 y3, LeO (burgageref06_times.l0 k y0 y1 y2 y3) (burgageref06_times.l0 (k + 1) y0 y1 y2 y3)) ∧ (∀ y0 y1 y2 y3 y4, LeO (burgageref06_times.l1 k y0 y1 y2 y3 y4) (burgageref06_times.l1 (k + 1) y0 y1 y2 y3 y4))
 | 0 => ⟨fun _ _ _ _ r h => by simp [burgageref06_times.l0] at h, fun _ _ _ _ _ r h => by simp [burgageref06_times.l1] at h⟩
 | k + 1 => by
  obtain ⟨ih0, ih1⟩ := burgageref06_times.mono_l k
  refine ⟨?_, ?_⟩
  ·intro y0 y1 y2 y3
   unfold burgageref06_times.l0
   repeat' first
   | (with_reducible exact ih0 _ _ _ _)
   | (with_reducible exact ih1 _ _ _ _ _)
   | (with_reducible exact LeO.refl _)
   | (with_reducible exact LeO.none _)
   | (with_reducible refine LeO.ite ?_ ?_)
   | (with_reducible refine LeO.bind ?_ (fun _ => ?_))
   | exact ih0 _ _ _ _
   | exact ih1 _ _ _ _ _
   | exact LeO.none _
   | refine LeO.ite ?_ ?_
   | refine LeO.bind ?_ (fun _ => ?_)
  ·intro y0 y1 y2 y3 y4
   unfold burgageref06_times.l1
   repeat' first
   | (with_reducible exact ih0 _ _ _ _)
   | (with_reducible exact ih1 _ _ _ _ _)
   | (with_reducible exact LeO.refl _)
   | (with_reducible exact LeO.none _)
   | (with_reducible refine LeO.ite ?_ ?_)
   | (with_reducible refine LeO.bind ?_ (fun _ => ?_))
   | exact ih0 _ _ _ _
   | exact ih1 _ _ _ _ _
   | exact LeO.none _
   | refine LeO.ite ?_ ?_
   | refine LeO.bind ?_ (fun _ => ?_)
theorem burgageref06_times.mono : ∀ a0 a1 k, LeO (burgageref06_times.f k a0 a1) (burgageref06_times.f (k + 1) a0 a1) := by
 intro a0 a1 k
 obtain ⟨ih0, ih1⟩ := burgageref06_times.mono_l k
 unfold burgageref06_times.f
 repeat' first
   | (with_reducible exact ih0 _ _ _ _)
   | (with_reducible exact ih1 _ _ _ _ _)
   | (with_reducible exact LeO.refl _)
   | (with_reducible exact LeO.none _)
   | (with_reducible refine LeO.ite ?_ ?_)
   | (with_reducible refine LeO.bind ?_ (fun _ => ?_))
   | exact ih0 _ _ _ _
   | exact ih1 _ _ _ _ _
   | exact LeO.none _
   | refine LeO.ite ?_ ?_
   | refine LeO.bind ?_ (fun _ => ?_)
set_option maxHeartbeats 8000000 in
set_option maxRecDepth 100000 in
theorem burgageref06_times.calls (k : Nat) (A0 : Option Addr) (c0 : Nat) (l0 : List (S55)) (a1 : Int) (r : Int) (w : World) (hr0 : Kd.C k55 w A0 l0.length l0) (hc0 : l0.length ≤ c0) (h : burgageref06_times.f k l0 a1 = some r) :
  Calls Try.prog 65 #[.slice A0 l0.length c0, .int .i64 a1] w fun e w' => e = .returned (.int .i64 r) ∧ Drawn0 w w' := by
 have HR0 := Aside0.mk hr0
 have HC0 := Aside0.mk hc0
 clear hr0 hc0
 have H : (burgageref06_times.l0 k l0 a1 0 0) = some r := h
 clear h
 have H' := Aside0.mk H
 clear H
 go_enter Try.func65, Try.ntmps65
 go_wp2
 go_loopg [5, 6] k (fun kq v5 v6 w' => ∃ (x5_1 : Int) (x6_1 : Int), v5 = .int .i64 x5_1 ∧ v6 = .int .i64 x6_1 ∧ Aside0 (burgageref06_times.l0 kq l0 a1 x5_1 x6_1 = some r) ∧ Aside0 (kq ≤ k) ∧ Drawn0 w w')
 case atStart => exact ⟨(0), (0), (by first | rfl | (simp; done) | (simp [*]; done)), (by first | rfl | (simp; done) | (simp [*]; done)), H', ⟨Nat.le_refl _⟩, by repeat (first | exact Drawn0.refl _ | apply Drawn0.step)⟩
 case round =>
  clear H'
  try clear p2
  obtain ⟨x5_1, x6_1, rfl, rfl, HA, HK1, ⟨m1, rfl⟩⟩ := hrel
  cases gk with
  | zero => exact absurd HA.out (by simp [burgageref06_times.l0])
  | succ k1 =>
   have H := HA.out
   clear HA
   simp only [burgageref06_times.l0] at H
   by_cases c3 : x6_1 < (l0.length : Int)
   ·rw [if_pos c3] at H
    have c3b0 : decide (x6_1 < (l0.length : Int)) = true := decide_eq_true c3
    clear c3
    have H' := Aside0.mk H
    clear H
    go_wp2
    go_loopg [5, 7] k1 (fun kq v5 v7 w' => ∃ (x5_2 : Int) (x7_2 : Int), v5 = .int .i64 x5_2 ∧ v7 = .int .i64 x7_2 ∧ Aside0 (burgageref06_times.l1 kq l0 a1 x5_2 x6_1 x7_2 = some r) ∧ Aside0 (kq ≤ k1) ∧ Drawn0 w w')
    case atStart => exact ⟨(x5_1), (0), (by first | rfl | (simp; done) | (simp [*]; done)), (by first | rfl | (simp; done) | (simp [*]; done)), H', ⟨Nat.le_refl _⟩, by repeat (first | exact Drawn0.refl _ | apply Drawn0.step)⟩
    case round =>
     clear H'
     try clear p2
     try clear c3
     try clear c3b0
     try clear p2
     obtain ⟨x5_2, x7_2, rfl, rfl, HA, HK2, ⟨m2, rfl⟩⟩ := hrel
     cases gk with
     | zero => exact absurd HA.out (by simp [burgageref06_times.l1])
     | succ k2 =>
      have H := HA.out
      clear HA
      simp only [burgageref06_times.l1] at H
      by_cases c4 : 0 ≤ x6_1
      ·rw [if_pos c4] at H
       have c4b0 : decide (0 ≤ x6_1) = true := decide_eq_true c4
       clear c4
       by_cases c5 : x6_1 < (l0.length : Int)
       ·rw [if_pos c5] at H
        have c5b0 : decide (x6_1 < (l0.length : Int)) = true := decide_eq_true c5
        clear c5
        by_cases c6 : x7_2 < (((qab l0 x6_1).f3).length : Int)
        ·rw [if_pos c6] at H
         have c6b0 : decide (x7_2 < (((qab l0 x6_1).f3).length : Int)) = true := decide_eq_true c6
         clear c6
         by_cases c7 : 0 ≤ x7_2
         ·rw [if_pos c7] at H
          have c7b0 : decide (0 ≤ x7_2) = true := decide_eq_true c7
          clear c7
          obtain ⟨bq8, hbq8⟩ : ∃ b_ : Bool, b_ = ((qaj ((qab l0 x6_1).f3) x7_2).f0) := ⟨_, rfl⟩
          replace H : (if bq8 = true then (if ((qaj ((qab l0 x6_1).f3) x7_2).f2) = a1 then (burgageref06_times.l1 k2 l0 a1 (wrap64 (x5_2 + 1)) x6_1 (wrap64 (x7_2 + 1))) else (burgageref06_times.l1 k2 l0 a1 x5_2 x6_1 (wrap64 (x7_2 + 1)))) else (burgageref06_times.l1 k2 l0 a1 x5_2 x6_1 (wrap64 (x7_2 + 1)))) = some r := by rw [← hbq8] at H; exact H
          have Nbq8 := Aside0.mk hbq8
          clear hbq8
          by_cases c9 : bq8 = true
          ·subst c9
           have H1 : (if ((qaj ((qab l0 x6_1).f3) x7_2).f2) = a1 then (burgageref06_times.l1 k2 l0 a1 (wrap64 (x5_2 + 1)) x6_1 (wrap64 (x7_2 + 1))) else (burgageref06_times.l1 k2 l0 a1 x5_2 x6_1 (wrap64 (x7_2 + 1)))) = some r := by rw [if_pos rfl] at H; exact H
           clear H
           have H := H1
           clear H1
           by_cases c10 : ((qaj ((qab l0 x6_1).f3) x7_2).f2) = a1
           ·rw [if_pos c10] at H
            have c10b0 : (((qaj ((qab l0 x6_1).f3) x7_2).f2) == a1) = true := beq_iff_eq.mpr c10
            have c10b1 : (((qaj ((qab l0 x6_1).f3) x7_2).f2) != a1) = false := bne_eq_false_iff_eq.mpr c10
            clear c10
            have H' := Aside0.mk H
            clear H
            have p112 : 0 ≤ (x6_1 : Int) := of_decide_eq_true (by first | (with_reducible assumption) | assumption)
            have q112 : x6_1 < (l0.length : Int) := of_decide_eq_true (by first | (with_reducible assumption) | assumption)
            obtain ⟨ad112, A112_3, c112_3, e112, hx112_0, hx112_1, hx112_2, hx112_3, hl112_3, hi112_3⟩ := qa8 HR0.out x6_1 p112 q112
            cases e112
            have HR112_3 := Aside0.mk hi112_3
            have HC112_3 := Aside0.mk hl112_3
            clear hi112_3 hl112_3
            replace p112 := eq_true p112
            replace q112 := eq_true q112
            have p113 : 0 ≤ (x6_1 : Int) := of_decide_eq_true (by first | (with_reducible assumption) | assumption)
            have q113 : x6_1 < (l0.length : Int) := of_decide_eq_true (by first | (with_reducible assumption) | assumption)
            obtain ⟨ad113, A113_3, c113_3, e113, hx113_0, hx113_1, hx113_2, hx113_3, hl113_3, hi113_3⟩ := qa8 HR0.out x6_1 p113 q113
            obtain rfl : ad112 = ad113 := (by injection e113)
            have HR113_3 := Aside0.mk hi113_3
            have HC113_3 := Aside0.mk hl113_3
            clear hi113_3 hl113_3
            replace p113 := eq_true p113
            replace q113 := eq_true q113
            have ea_ := Option.some.inj (hx112_3.symm.trans hx113_3)
            injection ea_ with ea_ en_ ec_
            subst ea_
            subst ec_
            clear en_
            have p114 : 0 ≤ (x7_2 : Int) := of_decide_eq_true (by first | (with_reducible assumption) | assumption)
            have q114 : x7_2 < (((qab l0 x6_1).f3).length : Int) := of_decide_eq_true (by first | (with_reducible assumption) | assumption)
            obtain ⟨ad114, e114, hx114_0, hx114_1, hx114_2⟩ := qbx HR113_3.out x7_2 p114 q114
            (try rw [← Nbq8.out] at hx114_0)
            cases e114
            replace p114 := eq_true p114
            replace q114 := eq_true q114
            have p115 : 0 ≤ (x6_1 : Int) := of_decide_eq_true (by first | (with_reducible assumption) | assumption)
            have q115 : x6_1 < (l0.length : Int) := of_decide_eq_true (by first | (with_reducible assumption) | assumption)
            obtain ⟨ad115, A115_3, c115_3, e115, hx115_0, hx115_1, hx115_2, hx115_3, hl115_3, hi115_3⟩ := qa8 HR0.out x6_1 p115 q115
            obtain rfl : ad112 = ad115 := (by injection e115)
            have HR115_3 := Aside0.mk hi115_3
            have HC115_3 := Aside0.mk hl115_3
            clear hi115_3 hl115_3
            replace p115 := eq_true p115
            replace q115 := eq_true q115
            have ea_ := Option.some.inj (hx112_3.symm.trans hx115_3)
            injection ea_ with ea_ en_ ec_
            subst ea_
            subst ec_
            clear en_
            have p116 : 0 ≤ (x7_2 : Int) := of_decide_eq_true (by first | (with_reducible assumption) | assumption)
            have q116 : x7_2 < (((qab l0 x6_1).f3).length : Int) := of_decide_eq_true (by first | (with_reducible assumption) | assumption)
            obtain ⟨ad116, e116, hx116_0, hx116_1, hx116_2⟩ := qbx HR115_3.out x7_2 p116 q116
            (try rw [← Nbq8.out] at hx116_0)
            cases e116
            replace p116 := eq_true p116
            replace q116 := eq_true q116
            go_wp2
            go_roundg k2
            case measure => have := HK1.out; have := HK2.out; omega
            case rel => exact ⟨(wrap64 (x5_2 + 1)), (wrap64 (x7_2 + 1)), (by first | rfl | (simp; done) | (simp [*]; done)), (by first | rfl | (simp; done) | (simp [*]; done)), H', ⟨by have := HK1.out; have := HK2.out; omega⟩, by repeat (first | exact Drawn0.refl _ | apply Drawn0.step)⟩
           ·rw [if_neg c10] at H
            have c10b0 : (((qaj ((qab l0 x6_1).f3) x7_2).f2) == a1) = false := beq_eq_false_iff_ne.mpr c10
            have c10b1 : (((qaj ((qab l0 x6_1).f3) x7_2).f2) != a1) = true := bne_iff_ne.mpr c10
            have H' := Aside0.mk H
            clear H
            have p112 : 0 ≤ (x6_1 : Int) := of_decide_eq_true (by first | (with_reducible assumption) | assumption)
            have q112 : x6_1 < (l0.length : Int) := of_decide_eq_true (by first | (with_reducible assumption) | assumption)
            obtain ⟨ad112, A112_3, c112_3, e112, hx112_0, hx112_1, hx112_2, hx112_3, hl112_3, hi112_3⟩ := qa8 HR0.out x6_1 p112 q112
            cases e112
            have HR112_3 := Aside0.mk hi112_3
            have HC112_3 := Aside0.mk hl112_3
            clear hi112_3 hl112_3
            replace p112 := eq_true p112
            replace q112 := eq_true q112
            have p113 : 0 ≤ (x6_1 : Int) := of_decide_eq_true (by first | (with_reducible assumption) | assumption)
            have q113 : x6_1 < (l0.length : Int) := of_decide_eq_true (by first | (with_reducible assumption) | assumption)
            obtain ⟨ad113, A113_3, c113_3, e113, hx113_0, hx113_1, hx113_2, hx113_3, hl113_3, hi113_3⟩ := qa8 HR0.out x6_1 p113 q113
            obtain rfl : ad112 = ad113 := (by injection e113)
            have HR113_3 := Aside0.mk hi113_3
            have HC113_3 := Aside0.mk hl113_3
            clear hi113_3 hl113_3
            replace p113 := eq_true p113
            replace q113 := eq_true q113
            have ea_ := Option.some.inj (hx112_3.symm.trans hx113_3)
            injection ea_ with ea_ en_ ec_
            subst ea_
            subst ec_
            clear en_
            have p114 : 0 ≤ (x7_2 : Int) := of_decide_eq_true (by first | (with_reducible assumption) | assumption)
            have q114 : x7_2 < (((qab l0 x6_1).f3).length : Int) := of_decide_eq_true (by first | (with_reducible assumption) | assumption)
            obtain ⟨ad114, e114, hx114_0, hx114_1, hx114_2⟩ := qbx HR113_3.out x7_2 p114 q114
            (try rw [← Nbq8.out] at hx114_0)
            cases e114
            replace p114 := eq_true p114
            replace q114 := eq_true q114
            have p115 : 0 ≤ (x6_1 : Int) := of_decide_eq_true (by first | (with_reducible assumption) | assumption)
            have q115 : x6_1 < (l0.length : Int) := of_decide_eq_true (by first | (with_reducible assumption) | assumption)
            obtain ⟨ad115, A115_3, c115_3, e115, hx115_0, hx115_1, hx115_2, hx115_3, hl115_3, hi115_3⟩ := qa8 HR0.out x6_1 p115 q115
            obtain rfl : ad112 = ad115 := (by injection e115)
            have HR115_3 := Aside0.mk hi115_3
            have HC115_3 := Aside0.mk hl115_3
            clear hi115_3 hl115_3
            replace p115 := eq_true p115
            replace q115 := eq_true q115
            have ea_ := Option.some.inj (hx112_3.symm.trans hx115_3)
            injection ea_ with ea_ en_ ec_
            subst ea_
            subst ec_
            clear en_
            have p116 : 0 ≤ (x7_2 : Int) := of_decide_eq_true (by first | (with_reducible assumption) | assumption)
            have q116 : x7_2 < (((qab l0 x6_1).f3).length : Int) := of_decide_eq_true (by first | (with_reducible assumption) | assumption)
            obtain ⟨ad116, e116, hx116_0, hx116_1, hx116_2⟩ := qbx HR115_3.out x7_2 p116 q116
            (try rw [← Nbq8.out] at hx116_0)
            cases e116
            replace p116 := eq_true p116
            replace q116 := eq_true q116
            go_wp2
            go_roundg k2
            case measure => have := HK1.out; have := HK2.out; omega
            case rel => exact ⟨(x5_2), (wrap64 (x7_2 + 1)), (by first | rfl | (simp; done) | (simp [*]; done)), (by first | rfl | (simp; done) | (simp [*]; done)), H', ⟨by have := HK1.out; have := HK2.out; omega⟩, by repeat (first | exact Drawn0.refl _ | apply Drawn0.step)⟩
          ·replace c9 := Bool.eq_false_iff.mpr c9
           subst c9
           have H1 : (burgageref06_times.l1 k2 l0 a1 x5_2 x6_1 (wrap64 (x7_2 + 1))) = some r := by rw [if_neg (show ¬ (false = true) by decide)] at H; exact H
           clear H
           have H := H1
           clear H1
           have H' := Aside0.mk H
           clear H
           have p112 : 0 ≤ (x6_1 : Int) := of_decide_eq_true (by first | (with_reducible assumption) | assumption)
           have q112 : x6_1 < (l0.length : Int) := of_decide_eq_true (by first | (with_reducible assumption) | assumption)
           obtain ⟨ad112, A112_3, c112_3, e112, hx112_0, hx112_1, hx112_2, hx112_3, hl112_3, hi112_3⟩ := qa8 HR0.out x6_1 p112 q112
           cases e112
           have HR112_3 := Aside0.mk hi112_3
           have HC112_3 := Aside0.mk hl112_3
           clear hi112_3 hl112_3
           replace p112 := eq_true p112
           replace q112 := eq_true q112
           have p113 : 0 ≤ (x6_1 : Int) := of_decide_eq_true (by first | (with_reducible assumption) | assumption)
           have q113 : x6_1 < (l0.length : Int) := of_decide_eq_true (by first | (with_reducible assumption) | assumption)
           obtain ⟨ad113, A113_3, c113_3, e113, hx113_0, hx113_1, hx113_2, hx113_3, hl113_3, hi113_3⟩ := qa8 HR0.out x6_1 p113 q113
           obtain rfl : ad112 = ad113 := (by injection e113)
           have HR113_3 := Aside0.mk hi113_3
           have HC113_3 := Aside0.mk hl113_3
           clear hi113_3 hl113_3
           replace p113 := eq_true p113
           replace q113 := eq_true q113
           have ea_ := Option.some.inj (hx112_3.symm.trans hx113_3)
           injection ea_ with ea_ en_ ec_
           subst ea_
           subst ec_
           clear en_
           have p114 : 0 ≤ (x7_2 : Int) := of_decide_eq_true (by first | (with_reducible assumption) | assumption)
           have q114 : x7_2 < (((qab l0 x6_1).f3).length : Int) := of_decide_eq_true (by first | (with_reducible assumption) | assumption)
           obtain ⟨ad114, e114, hx114_0, hx114_1, hx114_2⟩ := qbx HR113_3.out x7_2 p114 q114
           (try rw [← Nbq8.out] at hx114_0)
           cases e114
           replace p114 := eq_true p114
           replace q114 := eq_true q114
           go_wp2
           go_roundg k2
           case measure => have := HK1.out; have := HK2.out; omega
           case rel => exact ⟨(x5_2), (wrap64 (x7_2 + 1)), (by first | rfl | (simp; done) | (simp [*]; done)), (by first | rfl | (simp; done) | (simp [*]; done)), H', ⟨by have := HK1.out; have := HK2.out; omega⟩, by repeat (first | exact Drawn0.refl _ | apply Drawn0.step)⟩
         ·rw [if_neg c7] at H
          exact absurd H (by simp)
        ·rw [if_neg c6] at H
         have c6b0 : decide (x7_2 < (((qab l0 x6_1).f3).length : Int)) = false := decide_eq_false c6
         clear c6
         have H' := Aside0.mk H
         clear H
         have p112 : 0 ≤ (x6_1 : Int) := of_decide_eq_true (by first | (with_reducible assumption) | assumption)
         have q112 : x6_1 < (l0.length : Int) := of_decide_eq_true (by first | (with_reducible assumption) | assumption)
         obtain ⟨ad112, A112_3, c112_3, e112, hx112_0, hx112_1, hx112_2, hx112_3, hl112_3, hi112_3⟩ := qa8 HR0.out x6_1 p112 q112
         cases e112
         have HR112_3 := Aside0.mk hi112_3
         have HC112_3 := Aside0.mk hl112_3
         clear hi112_3 hl112_3
         replace p112 := eq_true p112
         replace q112 := eq_true q112
         go_wp2
         go_roundg k2
         case measure => have := HK1.out; have := HK2.out; omega
         case rel => exact ⟨(x5_2), (wrap64 (x6_1 + 1)), (by first | rfl | (simp; done) | (simp [*]; done)), (by first | rfl | (simp; done) | (simp [*]; done)), H', ⟨by have := HK1.out; have := HK2.out; omega⟩, by repeat (first | exact Drawn0.refl _ | apply Drawn0.step)⟩
       ·rw [if_neg c5] at H
        exact absurd H (by simp)
      ·rw [if_neg c4] at H
       exact absurd H (by simp)
   ·rw [if_neg c3] at H
    have c3b0 : decide (x6_1 < (l0.length : Int)) = false := decide_eq_false c3
    clear c3
    obtain rfl := Option.some.inj H
    go_wp2
    go_ret
    exact ⟨by first | rfl | (simp; done) | (simp [*]; done), by repeat (first | exact Drawn0.refl _ | apply Drawn0.step)⟩
end Go.Proofs.Ytngkneknopenmaa.K
end
