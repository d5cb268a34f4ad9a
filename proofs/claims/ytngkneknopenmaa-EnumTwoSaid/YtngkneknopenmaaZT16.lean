/- qr3 of this claim, joined by a program of this session: the zS that its theorem uses. -/
import Derived.Test.YtngkneknopenmaaZT12
import Derived.Test.YtngkneknopenmaaZT15
import Derived.RangeFuncNested
import Derived.RangeFuncBound
import Derived.RangeFuncCalls
import Derived.RangeFuncLeaves
import Derived.Shelf.Abstract
import Derived.Shelf.RegionOpen
import Derived.WalkKit
import Derived.OwnWalkIn
import Derived.TacticsInMore
import Derived.LoopNIn
import Derived.LoopIn
import Derived.Deep.QuietTactic
import Derived.BigQuiet
import Derived.Deep.RegionWith
import Derived.RegionTactic
import Derived.ChangeAlike
set_option linter.unusedVariables false
set_option linter.unusedSimpArgs false
section
namespace Go.Proofs.Ytngkneknopenmaa.qf6
open Go Go.Lib Go.RowKit Go.Shelf Go.Proofs.Ytngkneknopenmaa Go.Proofs.Ytngkneknopenmaa.zM Go.Proofs.Ytngkneknopenmaa.qa9 Go.Proofs.Ytngkneknopenmaa.qb8
theorem EB.rd {w : World} {bX : Nat} {p : Par} {yv V : Value} {rows : List ER} (h : EB w bX p yv V rows) {A : Option Addr} {cap : Nat} (hV : V = .slice A rows.length cap) : RdT w A (rows.map ER.t) := by
 intro h0
 rw [List.length_map] at h0
 obtain ⟨g, cap', hg, _⟩ := h.form h0
 obtain ⟨rfl, rfl⟩ : A = some ⟨g, 0, none⟩ ∧ cap = cap' := by rw [hV] at hg; injection hg with e1 _ e3; exact ⟨e1, e3⟩
 refine ⟨⟨g, 0, none⟩, rfl, fun i t ht => ?_⟩
 rw [List.getElem?_map] at ht
 obtain ⟨r, hr, rfl⟩ := Option.map_eq_some_iff.1 ht
 obtain ⟨A3, c3, h3, hc3, hm3⟩ := h.qM8 (List.mem_of_getElem? hr)
 have t0 := h.qo7 hV hr (j := 0) (by omega)
 have t1 := h.qo7 hV hr (j := 1) (by omega)
 have t2 := h.qo7 hV hr (j := 2) (by omega)
 have t3 := h.qo7 hV hr (j := 3) (by omega)
 simp only [ER.cells, List.getElem?_cons_succ, List.getElem?_cons_zero, Nat.add_zero] at t0 t1 t2 t3
 rw [h3] at t3
 have ea : ∀ j, (⟨g, 0, none⟩ : Addr).add j = ⟨g, j, none⟩ := fun j => by unfold Addr.add; split <;> simp_all
 refine ⟨A3, c3, by rw [ea]; exact t0, by rw [ea]; exact t1, by rw [ea]; exact t2, by rw [ea]; exact t3, hc3, fun h0 => ?_⟩
 obtain ⟨g3, c3', hg3, _⟩ := h.jR7 (List.mem_of_getElem? hr) h0
 obtain rfl : A3 = some ⟨g3, 0, none⟩ := by rw [h3] at hg3; injection hg3
 refine ⟨⟨g3, 0, none⟩, rfl, fun k o ho => ?_⟩
 have ea3 : ∀ j, (⟨g3, 0, none⟩ : Addr).add j = ⟨g3, j, none⟩ := fun j => by unfold Addr.add; split <;> simp_all
 obtain ⟨a, b, c⟩ := h.jz5 (List.mem_of_getElem? hr) h3 ho
 exact ⟨by rw [ea3]; exact a, by rw [ea3]; exact b, by rw [ea3]; exact c⟩
set_option maxHeartbeats 1000000 in
set_option maxRecDepth 100000 in
theorem jR9 {L : List (List T4)} {J : List (List T4) → (Nat → Prop) → World → Prop} {Jx : List (List T4) → World → Prop} {w : World} {bX : Nat} {p : Par} {yv V : Value} {rows : List ER} (hY : qp4 yv L J Jx) (hA : Abides J) (hX : qp3 Jx)
  (h : EB w bX p yv V rows) (n : Nat) (hn : n = rows.length) (hp : p.n = (n : Int)) (hc : zT (rows.map ER.t) = 0) (pre : List (List T4)) (C : Nat → Prop) (hJ : J pre C w) (hS : Sep C (Ow bX V rows) w) (hL : (pre ++ [zU (rows.map ER.t)]) <+: L) :
  Calls Try.prog 112 #[.pointer (some ⟨bX, 0, none⟩), .int .i64 (n : Int), .int .i64 0] w (qF1 J Jx pre [zU (rows.map ER.t)] C (Ow bX V rows) w (fun C' E' w' => E' = Ow bX V rows ∧ EB w' bX p yv V rows)) := by
 obtain ⟨A, cap, hV, hcap, hcm⟩ := h.slice
 have hrd := h.rd hV
 obtain ⟨m1, m2, m3⟩ := qi9 hc
 have c4 := h.field 4
 have c6 := h.field 6
 have c7 := h.field 7
 simp only [Par.cells, List.getElem?_toArray, List.getElem?_cons_succ, List.getElem?_cons_zero] at c4 c6 c7
 rw [hp] at c4
 obtain ⟨l, hyv, hR⟩ := hY
 rw [hV] at c6
 rw [← hn] at c6
 rw [hyv] at c7
 obtain ⟨H, hH⟩ : ∃ H, rows.map ER.t = H := ⟨_, rfl⟩
 have hHl : H.length = n := by rw [← hH, List.length_map]; exact hn.symm
 rw [hH] at hc hrd m1 m2 m3 hL ⊢
 have CC : ∀ W, W.heap = w.heap → Below w.heap.size w W → CallsIn Fence.wide 2 Try.prog 13 #[.slice A n cap] W (fun e w1 => ∃ v ja2, e = .returned v ∧ H2 w1 w.heap.size v ja2 (zU H) ∧ Below w.heap.size w w1) := by
  intro W hh hb
  refine callsIn_wide.2 ?_
  have := zt9 A cap H (by rw [hHl, hn]; exact hcap) (by omega) (by omega) W (hrd.below hb)
  rw [hHl] at this
  refine this.mono ?_
  rintro e w1 ⟨hb1, ⟨h1, _⟩ | ⟨_, v, ja2, l, hp, hs, rfl, hH2⟩⟩
  ·exact absurd hc h1
  ·rw [jC6 m3 hp hs] at hH2
   rw [hh] at hH2 hb1
   exact ⟨v, ja2, rfl, hH2, hb.trans hb1⟩
 have YY : ∀ v ja2 w1, H2 w1 w.heap.size v ja2 (zU H) → Below w.heap.size w w1 → YieldAt Fence.wide 2 Try.prog l #[v] w1 fun e w' =>
   ∃ b, e = .returned (.bool b) ∧ qF1 J Jx pre [zU H] C (Ow bX V rows) w (fun C' E' w' => E' = Ow bX V rows ∧ EB w' bX p yv V rows) e w' := by
  intro v ja2 w1 hH2 hb1
  have hJ1 : J pre C w1 := hA pre C w w1 hJ hb1.os hb1.tape hb1.output hb1.size (fun b hb => hb1.block b (hS.lt b hb))
  obtain ⟨fn, tmps, assign, body, hy, hRd⟩ := hR 2 pre (zU H) C w.heap.size v ja2 w1 hL hJ1 hH2 hS.lt hb1.size
  refine ⟨fn, tmps, assign, body, hy, hRd.mono ?_⟩
  rintro e w' (⟨rfl, C', hJ', hF, hcl, hlt⟩ | ⟨rfl, hx⟩)
  ·have keep : ∀ b, b < w.heap.size → ¬ C b → w'.heap[b]? = w.heap[b]? := fun b hb hc => (hF.keep b hb hc).trans (hb1.block b hb)
   refine ⟨true, rfl, .inl ⟨rfl, C', Ow bX V rows, hJ', ⟨hlt, fun b hb hc => hS.ap b hb (hcl b (h.lt b hb).2 hc)⟩, ⟨hF.os.trans hb1.os, hF.tape.trans hb1.tape, hF.output.trans hb1.output, Nat.le_trans hb1.size hF.size, fun b hb hc _ => keep b hb hc, hcl, fun b _ he => he⟩, rfl, h.same (fun b hb => keep b (h.lt b hb).2 (hS.ap b hb))⟩⟩
  ·exact ⟨false, rfl, .inr ⟨rfl, [zU H], List.prefix_refl _, hx⟩⟩
 have HN := Lib.hid hn
 have HX := Lib.hid hX
 have HYV := Lib.hid hyv
 have HV := Lib.hid hV
 have HHH := Lib.hid hH
 have HE := Lib.hid h
 have HCC := Lib.hid CC
 have HYY := Lib.hid YY
 clear hn hyv hV hH hR hA hX hrd hc hHl CC YY hJ hS hL hp hcap hcm m1 m2 m3 h
 refine (callsIn_wide (n := 3)).1 ?_
 refine callsIn_of_wp Try.func112 rfl trivial ?_ rfl
 simp only [Try.ntmps112, List.size_toArray, List.length_cons, List.length_nil, Nat.reduceAdd, Nat.reduceSub, Array.replicate_succ, Array.replicate_zero, List.push_toArray, List.append_toArray, List.nil_append, List.cons_append]
 gi_wp2
 have hm : Try.prog.follows .mixedOrders = true := by kernel_rfl
 gi_region_with_o (first
  | (refine ⟨trivial, ?_⟩; refine (HCC.out w.drew rfl ((Below.refl _ _).drew)).mono ?_; rintro e w1 ⟨v, ja2, rfl, hH2, hb1⟩; have k7 := cell_below hb1 c7; have HB1 := Lib.hid hb1; obtain ⟨fn, tmps, assign, body, hy, hRd⟩ := HYY.out v ja2 w1 hH2 hb1; clear hH2)
  | (refine hRd.mono ?_; rintro e W' ⟨b, rfl, hW⟩; have HW := Lib.hid hW; clear hW))
 all_goals gi_wp2
 all_goals (go_ret; exact HW.out)
end Go.Proofs.Ytngkneknopenmaa.qf6
end
section
namespace Go.Proofs.Ytngkneknopenmaa.qf6
open Go Go.Lib Go.RowKit Go.Proofs.Ytngkneknopenmaa Go.Proofs.Ytngkneknopenmaa.zM Go.Proofs.Ytngkneknopenmaa.qa9 Go.Proofs.Ytngkneknopenmaa.qb8
def qI0 (hd : List (Int × Int × Int)) (cs : List Nat) (ks rest : List (Bool × Nat)) (acc : List Nat) : List (List T4) := (qv2 ks rest acc).map fun vs => jw5 hd cs (mkF ks vs)
theorem qF1.imp {J : List (List T4) → (Nat → Prop) → World → Prop} {Jx : List (List T4) → World → Prop} {pre outs : List (List T4)} {C E : Nat → Prop} {w : World} {G G' : (Nat → Prop) → (Nat → Prop) → World → Prop} {e : Ending} {w' : World} (h : qF1 J Jx pre outs C E w G e w') (hg : ∀ C' E' w', G C' E' w' → G' C' E' w') : qF1 J Jx pre outs C E w G' e w' := by
 rcases h with ⟨he, C', E', hj, hs, hf, g⟩ | h
 ·exact .inl ⟨he, C', E', hj, hs, hf, hg _ _ _ g⟩
 ·exact .inr h
theorem qF1.bool {J : List (List T4) → (Nat → Prop) → World → Prop} {Jx : List (List T4) → World → Prop} {pre outs : List (List T4)} {C E : Nat → Prop} {w : World} {G : (Nat → Prop) → (Nat → Prop) → World → Prop} {e : Ending} {w' : World} (h : qF1 J Jx pre outs C E w G e w') : ∃ b, e = .returned (.bool b) := by
 rcases h with ⟨rfl, _⟩ | ⟨rfl, _⟩
 ·exact ⟨true, rfl⟩
 ·exact ⟨false, rfl⟩
theorem qk4 (i : Nat) : ((i + 1 : Nat) : Int) = (i : Int) + 1 := rfl
theorem qO6 : ((0 : Nat) : Int) = 0 := rfl
def qe0 (key : Int) (ops : List O3) : List Int := (ops.filter fun o => o.w && decide (o.k = key)).map O3.v
theorem qB1 (key : Int) (a b : List O3) : qe0 key (a ++ b) = qe0 key a ++ qe0 key b := by simp [qe0]
theorem qK3 (key : Nat) : ∀ (ops : List O3) (ks : List (Bool × Nat)) (n : Nat), ops.map jy9 = ks.map jz3 → (∀ (q : Nat) (o : O3), ops[q]? = some o → o.w = true → o.v = ((n + q : Nat) : Int)) → qe0 (key : Int) ops = (qv9 key ks n).map fun v : Nat => (v : Int)
 | [], [], n, _, _ => rfl
 | [], k :: ks, n, h, _ => by simp at h
 | o :: ops, [], n, h, _ => by simp at h
 | o :: ops, k :: ks, n, h, hv => by
  rw [List.map_cons, List.map_cons, List.cons.injEq] at h
  obtain ⟨h1, h2⟩ := h
  have ih := qK3 key ops ks (n + 1) h2 (fun q x hx hw => by have := hv (q + 1) x (by simpa using hx) hw; rw [this]; congr 1; omega)
  have hw : o.w = k.1 := congrArg Prod.fst h1
  have hk : o.k = (k.2 : Int) := congrArg Prod.snd h1
  have e : qe0 (key : Int) (o :: ops) = qe0 (key : Int) [o] ++ qe0 (key : Int) ops := qB1 _ [o] ops
  rw [e, ih, qv9]
  by_cases c : k.1 = true ∧ k.2 = key
  ·rw [if_pos c, List.map_cons]
   have hw1 : o.w = true := by rw [hw]; exact c.1
   have h0 := hv 0 o rfl hw1
   rw [Nat.add_zero] at h0
   simp [qe0, hw1, hk, c.2, h0]
  ·rw [if_neg c]
   have : qe0 (key : Int) [o] = [] := by
    unfold qe0
    rw [List.filter_cons_of_neg]
    ·rfl
    ·rw [hw, hk]
     simp only [Bool.and_eq_true, decide_eq_true_eq]
     rintro ⟨a, b⟩
     exact c ⟨a, by omega⟩
   rw [this, List.nil_append]
theorem jk8 (g j : Nat) : (⟨g, 0, none⟩ : Addr).add j = ⟨g, j, none⟩ := by unfold Addr.add; split <;> simp_all
section
variable {L : List (List T4)} {J : List (List T4) → (Nat → Prop) → World → Prop} {Jx : List (List T4) → World → Prop} {bX : Nat} {p : Par} {yv V : Value} {hd : List (Int × Int × Int)} {cs : List Nat} {ks : List (Bool × Nat)}
structure InV (L : List (List T4)) (J : List (List T4) → (Nat → Prop) → World → Prop) (bX : Nat) (p : Par) (yv V : Value) (hd : List (Int × Int × Int)) (cs : List Nat) (ks : List (Bool × Nat)) (i k : Nat) (acc : List Nat) (pre : List (List T4)) (C : Nat → Prop) (rows : List ER) (w : World) : Prop where
 eb : EB w bX p yv V rows
 sep : Sep C (Ow bX V rows) w
 j : J pre C w
 car : qH8 hd cs ks acc rows
 n : p.n = (cs.length : Int)
 at_ : acc.length = off cs i + k
 le : i ≤ cs.length
 end_ : i = cs.length → k = 0
 in_ : ∀ m, cs[i]? = some m → k ≤ m
 ok : ∀ h ∈ qI0 hd cs ks (ks.drop acc.length) acc, zT h = 0
 qB5 : (pre ++ (qI0 hd cs ks (ks.drop acc.length) acc).map zU) <+: L
def qt7 (J : List (List T4) → (Nat → Prop) → World → Prop) (Jx : List (List T4) → World → Prop) (bX : Nat) (p : Par) (yv V : Value) (hd : List (Int × Int × Int)) (cs : List Nat) (ks : List (Bool × Nat)) (acc : List Nat) (pre : List (List T4)) (C : Nat → Prop) (rows : List ER) (w : World) : Ending → World → Prop :=
 qF1 J Jx pre ((qI0 hd cs ks (ks.drop acc.length) acc).map zU) C (Ow bX V rows) w (fun C' E' w' => ∃ rows', E' = Ow bX V rows' ∧ EB w' bX p yv V rows' ∧ qH8 hd cs ks acc rows' ∧ rows'.map ER.v = rows.map ER.v)
theorem InV.rows {i k : Nat} {acc : List Nat} {pre : List (List T4)} {C : Nat → Prop} {rows : List ER} {w : World} (h : InV L J bX p yv V hd cs ks i k acc pre C rows w) : rows.length = cs.length := by
 have := congrArg List.length h.car.len
 unfold lens at this
 rw [List.length_map] at this
 exact this
theorem za9 (hY : qp4 yv L J Jx) (hA : Abides J) (hX : qp3 Jx) {i k : Nat} {acc : List Nat} {pre : List (List T4)} {C : Nat → Prop} {rows : List ER} {w : World} (h : InV L J bX p yv V hd cs ks i k acc pre C rows w) (hi : i = cs.length) :
  Calls Try.prog 112 #[.pointer (some ⟨bX, 0, none⟩), .int .i64 (i : Int), .int .i64 (k : Int)] w (qt7 J Jx bX p yv V hd cs ks acc pre C rows w) := by
 obtain rfl : k = 0 := h.end_ hi
 have ht := h.car.total
 have hal : acc.length = ks.length := by rw [h.at_, hi, zj5 rfl, ht.1]; rfl
 have hr : qI0 hd cs ks (ks.drop acc.length) acc = [rows.map ER.t] := by
  rw [List.drop_of_length_le (by omega), h.car.leaf hal]
  rfl
 have hok := h.ok
 have hpre := h.qB5
 rw [hr] at hok hpre
 unfold qt7
 rw [hr]
 refine (jR9 hY hA hX h.eb i (by rw [hi, h.rows]) (by rw [h.n, hi]) (hok _ (by simp)) pre C h.j h.sep hpre).mono ?_
 intro e w' hw
 exact hw.imp (fun C' E' w' g => ⟨rows, g.1, g.2, h.car, rfl⟩)
theorem InV.cells {i k : Nat} {acc : List Nat} {pre : List (List T4)} {C : Nat → Prop} {rows : List ER} {w : World} (h : InV L J bX p yv V hd cs ks i k acc pre C rows w) (hi : i < cs.length) :
  ∃ (g cap : Nat) (r : ER) (A3 : Option Addr) (c3 m : Nat), V = .slice (some ⟨g, 0, none⟩) cs.length cap ∧ cs.length ≤ cap ∧ rows[i]? = some r ∧ r.v = .slice A3 m c3 ∧ r.ops.length = m ∧ cs[i]? = some m ∧ m ≤ c3 ∧
   w.cell? ⟨bX, 4, none⟩ = some (.int .i64 (cs.length : Int)) ∧ w.cell? ⟨bX, 6, none⟩ = some (.slice (some ⟨g, 0, none⟩) cs.length cap) ∧ w.cell? ⟨g, i * 4 + 3, none⟩ = some (.slice A3 m c3) := by
 have hl := h.rows
 obtain ⟨g, cap, hV, hcap⟩ := h.eb.form (by omega)
 obtain ⟨r, hr⟩ : ∃ r, rows[i]? = some r := ⟨_, List.getElem?_eq_getElem (by omega)⟩
 obtain ⟨A3, c3, h3, hc3, _⟩ := h.eb.qM8 (List.mem_of_getElem? hr)
 have c4 := h.eb.field 4
 have c6 := h.eb.field 6
 have t3 := h.eb.qo7 hV hr (j := 3) (by omega)
 simp only [Par.cells, ER.cells, List.getElem?_toArray, List.getElem?_cons_succ, List.getElem?_cons_zero] at c4 c6 t3
 rw [h.n] at c4
 rw [h3] at t3
 rw [hV] at c6
 rw [hl] at c6 hV hcap
 refine ⟨g, cap, r, A3, c3, r.ops.length, hV, hcap, hr, h3, rfl, ?_, hc3, c4, c6, t3⟩
 rw [← h.car.len]
 unfold lens
 rw [List.getElem?_map, hr]
 rfl
theorem InV.next {i k : Nat} {acc : List Nat} {pre : List (List T4)} {C : Nat → Prop} {rows : List ER} {w : World} (h : InV L J bX p yv V hd cs ks i k acc pre C rows w) {m : Nat} (hm : cs[i]? = some m) (hk : k = m) : InV L J bX p yv V hd cs ks (i + 1) 0 acc pre C rows w :=
 { h with at_ := by rw [h.at_, hk, qZ7 hm, Nat.add_zero], le := (List.getElem?_eq_some_iff.1 hm).1, end_ := fun _ => rfl, in_ := fun _ _ => Nat.zero_le _ }
theorem InV.write {i k : Nat} {acc : List Nat} {pre : List (List T4)} {C : Nat → Prop} {rows : List ER} {w : World} (h : InV L J bX p yv V hd cs ks i k acc pre C rows w) {m : Nat} (hm : cs[i]? = some m) (hk : k < m) {r : ER} {o : O3} (hr : rows[i]? = some r) (ho : r.ops[k]? = some o) (hw : o.w = true) :
  InV L J bX p yv V hd cs ks i (k + 1) (acc ++ [acc.length + 1]) pre C rows w ∧ qI0 hd cs ks (ks.drop acc.length) acc = qI0 hd cs ks (ks.drop (acc ++ [acc.length + 1]).length) (acc ++ [acc.length + 1]) := by
 have hat := qB0 rows i k r hr (List.getElem?_eq_some_iff.1 ho).1
 rw [h.car.len, ← h.at_, ho] at hat
 have hks : ∃ key, ks[acc.length]? = some (true, key) := by
  have e := congrArg (fun l => l[acc.length]?) h.car.kin
  simp only [List.getElem?_map] at e
  rw [hat] at e
  cases hq : ks[acc.length]? with
  | none => rw [hq] at e; cases e
  | some x =>
   rw [hq] at e
   simp [jy9, jz3] at e
   obtain ⟨a, b⟩ := x
   have e1 : o.w = a := e.1
   rw [hw] at e1
   exact ⟨b, by rw [← e1]⟩
 obtain ⟨key, hks⟩ := hks
 have hdrop : ks.drop acc.length = (true, key) :: ks.drop (acc.length + 1) := by
  obtain ⟨h1, h2⟩ := List.getElem?_eq_some_iff.1 hks
  rw [List.drop_eq_getElem_cons h1, h2]
 have hraw : qI0 hd cs ks (ks.drop acc.length) acc = qI0 hd cs ks (ks.drop (acc ++ [acc.length + 1]).length) (acc ++ [acc.length + 1]) := by
  unfold qI0
  rw [hdrop, List.length_append, List.length_singleton]
  rfl
 refine ⟨{ h with car := h.car.pass hr ho h.at_ hw, at_ := by rw [List.length_append, List.length_singleton, h.at_]; omega, end_ := fun e => ?_, in_ := fun m' hm' => ?_, ok := by rw [← hraw]; exact h.ok, qB5 := by rw [← hraw]; exact h.qB5 }, hraw⟩
 ·have := (List.getElem?_eq_some_iff.1 hm).1; omega
 ·rw [hm] at hm'; cases hm'; omega
theorem jS0 (M : Nat) (ih : ∀ (i k : Nat) (acc : List Nat) (pre : List (List T4)) (C : Nat → Prop) (rows : List ER) (w : World), cs.length - i + (cs.sum - acc.length) < M → InV L J bX p yv V hd cs ks i k acc pre C rows w →
   Calls Try.prog 112 #[.pointer (some ⟨bX, 0, none⟩), .int .i64 (i : Int), .int .i64 (k : Int)] w (qt7 J Jx bX p yv V hd cs ks acc pre C rows w))
  {i k : Nat} {acc : List Nat} {pre : List (List T4)} {C : Nat → Prop} {rows : List ER} {w : World} (hM : cs.length - i + (cs.sum - acc.length) < M + 1) (h : InV L J bX p yv V hd cs ks i k acc pre C rows w) {m : Nat} (hm : cs[i]? = some m) (hk : k = m) (hs : cs.length ≤ 1000) (hs2 : cs.sum ≤ 1000000) :
  Calls Try.prog 112 #[.pointer (some ⟨bX, 0, none⟩), .int .i64 (i : Int), .int .i64 (k : Int)] w (qt7 J Jx bX p yv V hd cs ks acc pre C rows w) := by
 have hi := (List.getElem?_eq_some_iff.1 hm).1
 obtain ⟨g, cap, r, A3, c3, m', hV, hcap, hr, h3, hro, hm', hmc, c4, c6, t3⟩ := h.cells hi
 obtain rfl : m = m' := Option.some.inj (hm.symm.trans hm')
 have hih := (ih (i + 1) 0 acc pre C rows w (by omega) (h.next hm hk)).mono (R' := fun e w' => ∃ b, e = .returned (.bool b) ∧ qt7 J Jx bX p yv V hd cs ks acc pre C rows w (.returned (.bool b)) w') (fun e w' hq => by obtain ⟨b, rfl⟩ := hq.bool; exact ⟨b, rfl, hq⟩)
 rw [qk4, qO6] at hih
 obtain ⟨n, hn⟩ : ∃ n, cs.length = n := ⟨_, rfl⟩
 rw [hn] at hi hcap c4 c6 hs
 have hiz : (i : Int) < (n : Int) := by omega
 have hne : ((i : Int) == (n : Int)) = false := by simp; omega
 have hks : k ≤ 1000000 := by
  have := qx8 hm
  omega
 obtain ⟨Q, hQ⟩ : ∃ Q, qt7 J Jx bX p yv V hd cs ks acc pre C rows w = Q := ⟨_, rfl⟩
 rw [hQ] at hih ⊢
 have IH := Lib.hid hih
 clear hih h hV hr h3 hro hm hm' hn hQ hM ih hs2
 subst hk
 go_enter Try.func112, Try.ntmps112
 go_wp2_with (go_at_call 112; (with_reducible refine (IH.out).mono ?_); rintro e w' ⟨b, rfl, hq⟩; have HQ := Lib.hid hq; clear hq)
 exact HQ.out
theorem jG9 (M : Nat) (ih : ∀ (i k : Nat) (acc : List Nat) (pre : List (List T4)) (C : Nat → Prop) (rows : List ER) (w : World), cs.length - i + (cs.sum - acc.length) < M → InV L J bX p yv V hd cs ks i k acc pre C rows w →
   Calls Try.prog 112 #[.pointer (some ⟨bX, 0, none⟩), .int .i64 (i : Int), .int .i64 (k : Int)] w (qt7 J Jx bX p yv V hd cs ks acc pre C rows w))
  {i k : Nat} {acc : List Nat} {pre : List (List T4)} {C : Nat → Prop} {rows : List ER} {w : World} (hM : cs.length - i + (cs.sum - acc.length) < M + 1) (h : InV L J bX p yv V hd cs ks i k acc pre C rows w) {m : Nat} (hm : cs[i]? = some m) (hk : k < m) {r : ER} {o : O3} (hr : rows[i]? = some r) (ho : r.ops[k]? = some o) (hw : o.w = true) (hs : cs.length ≤ 1000) (hs2 : cs.sum ≤ 1000000) :
  Calls Try.prog 112 #[.pointer (some ⟨bX, 0, none⟩), .int .i64 (i : Int), .int .i64 (k : Int)] w (qt7 J Jx bX p yv V hd cs ks acc pre C rows w) := by
 have hi := (List.getElem?_eq_some_iff.1 hm).1
 obtain ⟨g, cap, r', A3, c3, m', hV, hcap, hr', h3, hro, hm', hmc, c4, c6, t3⟩ := h.cells hi
 obtain rfl : m = m' := Option.some.inj (hm.symm.trans hm')
 obtain rfl : r = r' := Option.some.inj (hr.symm.trans hr')
 obtain ⟨g3, c3', h3', _⟩ := h.eb.jR7 (List.mem_of_getElem? hr) (by omega)
 obtain ⟨rfl, rfl⟩ : A3 = some ⟨g3, 0, none⟩ ∧ c3 = c3' := by rw [h3] at h3'; injection h3' with e1 _ e3; exact ⟨e1, e3⟩
 obtain ⟨o0, _, _⟩ := h.eb.jz5 (List.mem_of_getElem? hr) h3' ho
 rw [hw] at o0
 obtain ⟨hn1, hraw⟩ := h.write hm hk hr ho hw
 have hlt : acc.length < cs.sum := by
  have h1 := h.at_
  have h2 := qx8 hm
  omega
 have hih := (ih i (k + 1) (acc ++ [acc.length + 1]) pre C rows w (by rw [List.length_append, List.length_singleton]; omega) hn1).mono (R' := fun e w' => ∃ b, e = .returned (.bool b) ∧ qt7 J Jx bX p yv V hd cs ks acc pre C rows w (.returned (.bool b)) w') (fun e w' hq => by
  obtain ⟨b, rfl⟩ := hq.bool
  refine ⟨b, rfl, ?_⟩
  unfold qt7 at hq ⊢
  rw [hraw]
  exact hq.imp (fun C' E' w' ⟨rows', e1, e2, e3, e4⟩ => ⟨rows', e1, e2, e3.back, e4⟩))
 rw [qk4] at hih
 obtain ⟨n, hn⟩ : ∃ n, cs.length = n := ⟨_, rfl⟩
 rw [hn] at hi hcap c4 c6 hs
 have hiz : (i : Int) < (n : Int) := by omega
 have hne : ((i : Int) == (n : Int)) = false := by simp; omega
 have hne2 : ((k : Int) == (m : Int)) = false := by simp; omega
 have hkz : (k : Int) < (m : Int) := by omega
 have hks : m ≤ 1000000 := by
  have := qx8 hm
  omega
 obtain ⟨Q, hQ⟩ : ∃ Q, qt7 J Jx bX p yv V hd cs ks acc pre C rows w = Q := ⟨_, rfl⟩
 rw [hQ] at hih ⊢
 have IH := Lib.hid hih
 clear hih h hV hr hr' h3 h3' hro hm hm' hn hQ hM ih hs2 hw ho hn1 hraw hlt
 go_enter Try.func112, Try.ntmps112
 go_wp2_with (go_at_call 112; (with_reducible refine (IH.out).mono ?_); rintro e w' ⟨b, rfl, hq⟩; have HQ := Lib.hid hq; clear hq)
 exact HQ.out
end
end Go.Proofs.Ytngkneknopenmaa.qf6
end
section
namespace Go.Proofs.Ytngkneknopenmaa.qf6
open Go Go.Lib Go.RowKit Go.Proofs.Ytngkneknopenmaa Go.Proofs.Ytngkneknopenmaa.zM Go.Proofs.Ytngkneknopenmaa.qa9 Go.Proofs.Ytngkneknopenmaa.qb8
theorem ja3 {bX : Nat} {V : Value} {rows rows' : List ER} (e : rows'.map ER.v = rows.map ER.v) : Ow bX V rows' = Ow bX V rows := by
 have key : ∀ (l : List ER) (b : Nat), (∃ r ∈ l, r.v.ownBlock = some b) ↔ ∃ v ∈ l.map ER.v, v.ownBlock = some b := fun l b => ⟨fun ⟨r, hr, hb⟩ => ⟨r.v, List.mem_map.2 ⟨r, hr, rfl⟩, hb⟩, fun ⟨v, hv, hb⟩ => by obtain ⟨r, hr, rfl⟩ := List.mem_map.1 hv; exact ⟨r, hr, hb⟩⟩
 funext b
 unfold Ow
 rw [propext (key rows' b), propext (key rows b), e]
theorem Qb2 {α β : Type} {f : α → β} {l l' : List α} (e : l'.map f = l.map f) {i : Nat} {x : α} (h : l[i]? = some x) : ∃ y, l'[i]? = some y ∧ f y = f x := by
 have := congrArg (fun l => l[i]?) e
 simp only [List.getElem?_map] at this
 rw [h] at this
 cases hy : l'[i]? with
 | none => rw [hy] at this; cases this
 | some y => rw [hy] at this; exact ⟨y, rfl, Option.some.inj this⟩
theorem qO7 (rows : List ER) {i : Nat} {r : ER} (hr : rows[i]? = some r) (r' : ER) (e : r'.v = r.v) : (rows.set i r').map ER.v = rows.map ER.v := qp5 ER.v rows i r r' hr e
theorem Abides.store {J : List (List T4) → (Nat → Prop) → World → Prop} (hA : Abides J) {pre : List (List T4)} {C : Nat → Prop} {w : World} (h : J pre C w) (a : Addr) (u : Value) (hc : ¬ C a.block) : J pre C (w.setCell a u) :=
 hA pre C w _ h rfl rfl rfl (by simp) (fun b hb => qa4 w a u (fun e => hc (e ▸ hb)))
theorem Abides.below {J : List (List T4) → (Nat → Prop) → World → Prop} (hA : Abides J) {pre : List (List T4)} {C : Nat → Prop} {w w' : World} (h : J pre C w) (hb : Below w.heap.size w w') (hl : ∀ b, C b → b < w.heap.size) : J pre C w' :=
 hA pre C w _ h hb.os hb.tape hb.output hb.size (fun b hc => hb.block b (hl b hc))
theorem Fr.store {C E C' E' : Nat → Prop} {w w' : World} (h : Fr C E w C' E' w') (a : Addr) (u : Value) (ha : E' a.block) : Fr C E w C' E' (w'.setCell a u) :=
 h.trans ⟨rfl, rfl, rfl, by simp, fun b _ _ he => qa4 w' a u (fun e => he (e ▸ ha)), fun _ _ h => h, fun _ _ h => h⟩
theorem Fr.below {C E : Nat → Prop} {w w' : World} (hb : Below w.heap.size w w') : Fr C E w C E w' := ⟨hb.os, hb.tape, hb.output, hb.size, fun b h _ _ => hb.block b h, fun _ _ h => h, fun _ _ h => h⟩
theorem Sep.later {C E : Nat → Prop} {w w' : World} (h : Sep C E w) (hs : w.heap.size ≤ w'.heap.size) : Sep C E w' := ⟨fun b hb => Nat.lt_of_lt_of_le (h.lt b hb) hs, h.ap⟩
section
variable {L : List (List T4)} {J : List (List T4) → (Nat → Prop) → World → Prop} {Jx : List (List T4) → World → Prop} {bX : Nat} {p : Par} {yv V : Value} {hd : List (Int × Int × Int)} {cs : List Nat} {ks : List (Bool × Nat)}
def chunk (hd : List (Int × Int × Int)) (cs : List Nat) (ks : List (Bool × Nat)) (acc : List Nat) (v : Nat) : List (List T4) := (qI0 hd cs ks (ks.drop (acc.length + 1)) (acc ++ [v])).map zU
theorem qf2 {α β : Type} (f : α → List β) {l : List α} {c : Nat} {x : α} (h : l[c]? = some x) : (l.take (c + 1)).flatMap f = (l.take c).flatMap f ++ f x := by
 rw [List.take_add_one, h, List.flatMap_append]
 simp
theorem qj6 {α β : Type} (f : α → List β) (l : List α) (c : Nat) : (l.take c).flatMap f <+: l.flatMap f := by
 refine ⟨(l.drop c).flatMap f, ?_⟩
 rw [← List.flatMap_append, List.take_append_drop]
structure RC (J : List (List T4) → (Nat → Prop) → World → Prop) (bX : Nat) (p : Par) (yv V : Value) (hd : List (Int × Int × Int)) (cs : List Nat) (ks : List (Bool × Nat)) (acc : List Nat) (rows : List ER) (C : Nat → Prop) (W0 : World) (pre' : List (List T4)) (C' : Nat → Prop) (rows' : List ER) (W : World) : Prop where
 eb : EB W bX p yv V rows'
 sep : Sep C' (Ow bX V rows') W
 j : J pre' C' W
 fr : Fr C (Ow bX V rows) W0 C' (Ow bX V rows') W
 car : qH8 hd cs ks acc rows'
 vs : rows'.map ER.v = rows.map ER.v
theorem InV.kind {i k : Nat} {acc : List Nat} {pre : List (List T4)} {C : Nat → Prop} {rows : List ER} {w : World} (h : InV L J bX p yv V hd cs ks i k acc pre C rows w) {r : ER} {o : O3} (hr : rows[i]? = some r) (ho : r.ops[k]? = some o) : ∃ key : Nat, ks[acc.length]? = some (o.w, key) ∧ o.k = (key : Int) ∧ acc.length < cs.sum := by
 have hat := qB0 rows i k r hr (List.getElem?_eq_some_iff.1 ho).1
 rw [h.car.len, ← h.at_, ho] at hat
 have e := congrArg (fun l => l[acc.length]?) h.car.kin
 simp only [List.getElem?_map] at e
 rw [hat] at e
 have ht := h.car.total
 have hl := (List.getElem?_eq_some_iff.1 hat).1
 cases hq : ks[acc.length]? with
 | none => rw [hq] at e; cases e
 | some x =>
  rw [hq] at e
  obtain ⟨a, b⟩ := x
  have e := Option.some.inj e
  exact ⟨b, by rw [show o.w = a from congrArg Prod.fst e], congrArg Prod.snd e, by omega⟩
theorem jp3 {acc : List Nat} {key : Nat} (hk : ks[acc.length]? = some (false, key)) : (qI0 hd cs ks (ks.drop acc.length) acc).map zU = (choices ks key).flatMap (chunk hd cs ks acc) ∧ qI0 hd cs ks (ks.drop acc.length) acc = (choices ks key).flatMap fun v => qI0 hd cs ks (ks.drop (acc.length + 1)) (acc ++ [v]) := by
 have hdrop : ks.drop acc.length = (false, key) :: ks.drop (acc.length + 1) := by
  obtain ⟨h1, h2⟩ := List.getElem?_eq_some_iff.1 hk
  rw [List.drop_eq_getElem_cons h1, h2]
 have e : qI0 hd cs ks (ks.drop acc.length) acc = (choices ks key).flatMap fun v => qI0 hd cs ks (ks.drop (acc.length + 1)) (acc ++ [v]) := by
  unfold qI0
  rw [hdrop, qv2, List.map_flatMap]
 refine ⟨?_, e⟩
 rw [e, List.map_flatMap]
 rfl
theorem InV.collected {i k : Nat} {acc : List Nat} {pre : List (List T4)} {C : Nat → Prop} {rows : List ER} {w : World} (h : InV L J bX p yv V hd cs ks i k acc pre C rows w) (key : Nat) : (0 :: qe0 (key : Int) (opsOf rows)) = (choices ks key).map fun v : Nat => (v : Int) := by
 rw [qK3 key (opsOf rows) ks 1 h.car.kin (fun q o hq hw => by rw [h.car.wri q o hq hw]; omega)]
 rfl
theorem RC.stored {i k : Nat} {acc : List Nat} {pre : List (List T4)} {C : Nat → Prop} {rows : List ER} {w W0 W : World} (h : InV L J bX p yv V hd cs ks i k acc pre C rows w) (hA : Abides J) {m : Nat} (hm : cs[i]? = some m) (hk : k < m) {r : ER} (hr : rows[i]? = some r) {key : Nat} (hkey : ks[acc.length]? = some (false, key))
  {g3 c3 : Nat} (h3 : r.v = .slice (some ⟨g3, 0, none⟩) m c3) {c v : Nat} (hv : (choices ks key)[c]? = some v) {C' : Nat → Prop} {rows' : List ER} (hc : RC J bX p yv V hd cs ks acc rows C W0 (pre ++ ((choices ks key).take c).flatMap (chunk hd cs ks acc)) C' rows' W) :
  (∃ o' : O3, W.cell? ⟨g3, k * 3 + 2, none⟩ = some (.int .i64 o'.v)) ∧ W.frozen? ⟨g3, k * 3 + 2, none⟩ = false ∧
  ∃ zC, InV L J bX p yv V hd cs ks i (k + 1) (acc ++ [v]) (pre ++ ((choices ks key).take c).flatMap (chunk hd cs ks acc)) C' zC (W.setCell ⟨g3, k * 3 + 2, none⟩ (.int .i64 (v : Int))) ∧ zC.map ER.v = rows.map ER.v ∧
   Fr C (Ow bX V rows) W0 C' (Ow bX V zC) (W.setCell ⟨g3, k * 3 + 2, none⟩ (.int .i64 (v : Int))) := by
 obtain ⟨r', hr', hv'⟩ := Qb2 hc.vs hr
 have hlen' : r'.ops.length = m := by
  have e1 : (lens rows')[i]? = some r'.ops.length := by unfold lens; rw [List.getElem?_map, hr']; rfl
  rw [hc.car.len, hm] at e1
  exact (Option.some.inj e1).symm
 have h3' : r'.v = .slice (some ⟨g3, 0, none⟩) r'.ops.length c3 := by rw [hv', h3, hlen']
 obtain ⟨o', ho'⟩ : ∃ o', r'.ops[k]? = some o' := ⟨_, List.getElem?_eq_getElem (by omega)⟩
 obtain ⟨_, _, x2⟩ := hc.eb.jz5 (List.mem_of_getElem? hr') h3' ho'
 have hat' := qB0 rows' i k r' hr' (by omega)
 rw [hc.car.len, ← h.at_, ho'] at hat'
 have hw' : o'.w = false := by
  have e := congrArg (fun l => l[acc.length]?) hc.car.kin
  simp only [List.getElem?_map] at e
  rw [hat', hkey] at e
  exact congrArg Prod.fst (Option.some.inj e)
 have hraw := jp3 (hd := hd) (cs := cs) (ks := ks) hkey
 have hE : Ow bX V rows' g3 := .inr (.inr ⟨r', List.mem_of_getElem? hr', by rw [h3']; rfl⟩)
 obtain ⟨zC, hrows2⟩ : ∃ zC, rows'.set i { r' with ops := r'.ops.set k { o' with v := (v : Int) } } = zC := ⟨_, rfl⟩
 have hvs : zC.map ER.v = rows'.map ER.v := by rw [← hrows2]; exact qO7 rows' hr' _ rfl
 have hO : Ow bX V zC = Ow bX V rows' := ja3 hvs
 have hset : (flat r'.ops).set (k * 3 + 2) (.int .i64 (v : Int)) = flat (r'.ops.set k { o' with v := (v : Int) }) := by
  have := jy0 r'.ops [] k o' (v : Int) ho'
  simpa using this
 refine ⟨⟨o', x2⟩, hc.eb.zU5 (List.mem_of_getElem? hr') h3' _, zC, ?_, hvs.trans hc.vs, ?_⟩
 ·refine ⟨?_, ?_, ?_, ?_, h.n, ?_, h.le, ?_, ?_, ?_, ?_⟩
  ·rw [← hrows2]; exact hc.eb.jM6 hr' h3' hset (by simp)
  ·rw [hO]; exact hc.sep.later (by simp)
  ·exact hA.store hc.j _ _ (hc.sep.ap _ hE)
  ·exact hc.car.step hr' ho' h.at_ hw' v _ rfl |> fun z => by rw [← hrows2]; exact z
  ·rw [List.length_append, List.length_singleton, h.at_]; omega
  ·intro e; have := (List.getElem?_eq_some_iff.1 hm).1; omega
  ·intro m' hm'; rw [hm] at hm'; cases hm'; omega
  ·intro x hx
   rw [List.length_append, List.length_singleton] at hx
   exact h.ok x (by rw [hraw.2]; exact List.mem_flatMap.2 ⟨v, List.mem_of_getElem? hv, hx⟩)
  ·have hp := h.qB5
   rw [hraw.1] at hp
   rw [List.length_append, List.length_singleton]
   refine List.IsPrefix.trans ?_ hp
   rw [List.append_assoc]
   refine (List.prefix_append_right_inj pre).2 ?_
   have := qj6 (chunk hd cs ks acc) (choices ks key) (c + 1)
   rw [qf2 _ hv] at this
   exact this
 ·rw [hO]; exact hc.fr.store _ _ hE
theorem RC.done {acc : List Nat} {pre : List (List T4)} {C : Nat → Prop} {rows : List ER} {w W0 W : World} (hwW : Fr C (Ow bX V rows) w C (Ow bX V rows) W0) {key : Nat} (hkey : ks[acc.length]? = some (false, key)) {c : Nat} (hc0 : (choices ks key).length ≤ c) {C' : Nat → Prop} {rows' : List ER}
  (hc : RC J bX p yv V hd cs ks acc rows C W0 (pre ++ ((choices ks key).take c).flatMap (chunk hd cs ks acc)) C' rows' W) : qt7 J Jx bX p yv V hd cs ks acc pre C rows w (.returned (.bool true)) W := by
 refine .inl ⟨rfl, C', Ow bX V rows', ?_, hc.sep, hwW.trans hc.fr, rows', rfl, hc.eb, hc.car, hc.vs⟩
 rw [(jp3 hkey).1]
 have := hc.j
 rw [List.take_of_length_le hc0] at this
 exact this
theorem RC.after {acc : List Nat} {pre : List (List T4)} {C : Nat → Prop} {rows : List ER} {W0 : World} {key : Nat} {c v : Nat} (hv : (choices ks key)[c]? = some v) {C' : Nat → Prop} {zC : List ER} {W1 W : World} (hvs : zC.map ER.v = rows.map ER.v) (hf : Fr C (Ow bX V rows) W0 C' (Ow bX V zC) W1)
  (h : qt7 J Jx bX p yv V hd cs ks (acc ++ [v]) (pre ++ ((choices ks key).take c).flatMap (chunk hd cs ks acc)) C' zC W1 (.returned (.bool true)) W) :
  ∃ C'' rows', RC J bX p yv V hd cs ks acc rows C W0 (pre ++ ((choices ks key).take (c + 1)).flatMap (chunk hd cs ks acc)) C'' rows' W := by
 rcases h with ⟨_, C2, E2, hj, hs, hf2, rows', rfl, heb, hcar, hv2⟩ | ⟨h, _⟩
 ·refine ⟨C2, rows', heb, hs, ?_, hf.trans hf2, hcar.back, hv2.trans hvs⟩
  rw [qf2 _ hv, ← List.append_assoc]
  rw [List.length_append, List.length_singleton] at hj
  exact hj
 ·cases h
theorem RC.stop {acc : List Nat} {pre : List (List T4)} {C : Nat → Prop} {rows : List ER} {w : World} {key : Nat} (hkey : ks[acc.length]? = some (false, key)) {c v : Nat} (hv : (choices ks key)[c]? = some v) {C' : Nat → Prop} {zC : List ER} {W1 W : World}
  (h : qt7 J Jx bX p yv V hd cs ks (acc ++ [v]) (pre ++ ((choices ks key).take c).flatMap (chunk hd cs ks acc)) C' zC W1 (.returned (.bool false)) W) :
  qt7 J Jx bX p yv V hd cs ks acc pre C rows w (.returned (.bool false)) W := by
 rcases h with ⟨h, _⟩ | ⟨_, q, hq, hx⟩
 ·cases h
 ·refine .inr ⟨rfl, ((choices ks key).take c).flatMap (chunk hd cs ks acc) ++ q, ?_, by rw [← List.append_assoc]; exact hx⟩
  rw [(jp3 hkey).1]
  have := qj6 (chunk hd cs ks acc) (choices ks key) (c + 1)
  rw [qf2 _ hv] at this
  refine List.IsPrefix.trans ?_ this
  refine (List.prefix_append_right_inj _).2 ?_
  rw [List.length_append, List.length_singleton] at hq
  exact hq
end
end Go.Proofs.Ytngkneknopenmaa.qf6
end
section
namespace Go.Proofs.Ytngkneknopenmaa.qf6
open Go Go.Lib Go.RowKit Go.Proofs.Ytngkneknopenmaa Go.Proofs.Ytngkneknopenmaa.zM Go.Proofs.Ytngkneknopenmaa.qa9 Go.Proofs.Ytngkneknopenmaa.qb8
theorem jj9 : (Try.prog.info? 3).map (fun i => (i.zero, i.size, i.bytes)) = some (some (.int .i64 0), 1, 8) := by kernel_rfl
def ints (xs : List Int) : List Value := xs.map (.int .i64)
def RelA (rows : List ER) (key : Int) (w : World) (n : Nat) (v x : Value) (wr : World) : Prop :=
 ∃ (j : Nat) (xs : List Int), j ≤ n ∧ x = .int .i64 ((j : Nat) : Int) ∧ xs = 0 :: qe0 key (opsOf (rows.take j)) ∧ wr.ownsRow w.heap.size 3 1 v xs.length (ints xs) ∧ Below w.heap.size w wr
def zW5 (J : List (List T4) → (Nat → Prop) → World → Prop) (bX : Nat) (p : Par) (yv V : Value) (hd : List (Int × Int × Int)) (cs : List Nat) (ks : List (Bool × Nat)) (acc : List Nat) (pre : List (List T4)) (key : Nat) (rows : List ER) (C : Nat → Prop) (W0 : World) (N : Nat) (x : Value) (wr : World) : Prop :=
 ∃ (c : Nat) (C' : Nat → Prop) (rows' : List ER), c ≤ N ∧ x = .int .i64 ((c : Nat) : Int) ∧ RC J bX p yv V hd cs ks acc rows C W0 (pre ++ ((choices ks key).take c).flatMap (chunk hd cs ks acc)) C' rows' wr
def RelB (rows : List ER) (key : Int) (w : World) (j : Nat) (ops : List O3) (v x : Value) (wr : World) : Prop :=
 ∃ (m : Nat) (xs : List Int), m ≤ ops.length ∧ x = .int .i64 ((m : Nat) : Int) ∧ xs = 0 :: (qe0 key (opsOf (rows.take j)) ++ qe0 key (ops.take m)) ∧ wr.ownsRow w.heap.size 3 1 v xs.length (ints xs) ∧ Below w.heap.size w wr
theorem below_drewN {B : Nat} {w w' : World} (h : Below B w w') (n : Nat) : Below B w (w'.drewN n) := ⟨h.os, h.tape, h.output, h.size, h.block⟩
theorem own_drewN {w : World} {base : Nat} {e : TypeId} {size : Nat} {v : Value} {n : Nat} {xs : List Value} (h : w.ownsRow base e size v n xs) (k : Nat) : (w.drewN k).ownsRow base e size v n xs := qf1 h (fun _ _ => rfl)
theorem jp4 {key : Int} {o : O3} (h : o.w = false ∨ o.k ≠ key) : qe0 key [o] = [] := by
 unfold qe0
 rw [List.filter_cons_of_neg]
 ·rfl
 ·rcases h with h | h <;> simp [h]
theorem jS1 {key : Int} {o : O3} (h : o.w = true) (hk : o.k = key) : qe0 key [o] = [o.v] := by simp [qe0, h, hk]
theorem jH0 {key : Int} {l : List O3} {m : Nat} {o : O3} (h : l[m]? = some o) : qe0 key (l.take (m + 1)) = qe0 key (l.take m) ++ qe0 key [o] := by
 rw [List.take_add_one, h, qB1]
 rfl
theorem qT1 (key : Int) (l : List O3) : (qe0 key l).length ≤ l.length := by
 unfold qe0
 rw [List.length_map]
 exact List.length_filter_le _ _
theorem jp5 {rows : List ER} {j : Nat} {r : ER} (h : rows[j]? = some r) : opsOf (rows.take (j + 1)) = opsOf (rows.take j) ++ r.ops := by
 unfold opsOf
 rw [List.take_add_one, h]
 simp
theorem qQ2 (rows : List ER) (j : Nat) : (opsOf (rows.take j)).length ≤ (opsOf rows).length := by
 have e : opsOf rows = opsOf (rows.take j) ++ opsOf (rows.drop j) := by unfold opsOf; rw [← List.flatMap_append, List.take_append_drop]
 rw [e, List.length_append]
 omega
theorem Qn0 (rows : List ER) {j : Nat} {r : ER} (h : rows[j]? = some r) : (opsOf (rows.take j)).length + r.ops.length ≤ (opsOf rows).length := by
 have := qQ2 rows (j + 1)
 rw [jp5 h, List.length_append] at this
 exact this
theorem jS2 (H : Nat) (W : World) (hH : W.heap.size = H) (a : Int) : ∀ (j : Nat) (u : Value), [Value.int .i64 a][j]? = some u → (W.alloc (.cells #[.int .i64 a] 3)).cell? ((⟨H, 0, none⟩ : Addr).add j) = some u := by
 intro j u hj
 subst hH
 have h := zM.alloc_at W (.cells #[.int .i64 a] 3)
 rw [jk8, Lib.cell_of_heap h]
 simpa using hj
section
variable {L : List (List T4)} {J : List (List T4) → (Nat → Prop) → World → Prop} {Jx : List (List T4) → World → Prop} {bX : Nat} {p : Par} {yv V : Value} {hd : List (Int × Int × Int)} {cs : List Nat} {ks : List (Bool × Nat)}
set_option maxHeartbeats 2000000 in
set_option maxRecDepth 100000 in
theorem jS3 (hA : Abides J) (M : Nat) (ih : ∀ (i k : Nat) (acc : List Nat) (pre : List (List T4)) (C : Nat → Prop) (rows : List ER) (w : World), cs.length - i + (cs.sum - acc.length) < M → InV L J bX p yv V hd cs ks i k acc pre C rows w →
   Calls Try.prog 112 #[.pointer (some ⟨bX, 0, none⟩), .int .i64 (i : Int), .int .i64 (k : Int)] w (qt7 J Jx bX p yv V hd cs ks acc pre C rows w))
  {i k : Nat} {acc : List Nat} {pre : List (List T4)} {C : Nat → Prop} {rows : List ER} {w : World} (hM : cs.length - i + (cs.sum - acc.length) < M + 1) (h : InV L J bX p yv V hd cs ks i k acc pre C rows w) {m : Nat} (hm : cs[i]? = some m) (hk : k < m) {r : ER} {o : O3} (hr : rows[i]? = some r) (ho : r.ops[k]? = some o) (hw : o.w = false) (hs : cs.length ≤ 1000) (hs2 : cs.sum ≤ 1000000) :
  Calls Try.prog 112 #[.pointer (some ⟨bX, 0, none⟩), .int .i64 (i : Int), .int .i64 (k : Int)] w (qt7 J Jx bX p yv V hd cs ks acc pre C rows w) := by
 have hi := (List.getElem?_eq_some_iff.1 hm).1
 obtain ⟨g, cap, r', A3, c3, m', hV, hcap, hr', h3, hro, hm', hmc, c4, c6, t3⟩ := h.cells hi
 obtain rfl : m = m' := Option.some.inj (hm.symm.trans hm')
 obtain rfl : r = r' := Option.some.inj (hr.symm.trans hr')
 obtain ⟨g3, c3', h3', _⟩ := h.eb.jR7 (List.mem_of_getElem? hr) (by omega)
 obtain ⟨rfl, rfl⟩ : A3 = some ⟨g3, 0, none⟩ ∧ c3 = c3' := by rw [h3] at h3'; injection h3' with e1 _ e3; exact ⟨e1, e3⟩
 obtain ⟨o0, o1, _⟩ := h.eb.jz5 (List.mem_of_getElem? hr) h3' ho
 rw [hw] at o0
 obtain ⟨zb0, hkk, hkN, hal⟩ := h.kind hr ho
 rw [hw] at hkk
 obtain ⟨key, hkey⟩ : ∃ key, o.k = key := ⟨_, rfl⟩
 have zU6 : key = (zb0 : Int) := by rw [← hkey]; exact hkN
 rw [hkey] at o1
 obtain ⟨n, hn⟩ : ∃ n, cs.length = n := ⟨_, rfl⟩
 rw [hn] at hi hcap c4 c6 hs hV
 have hiz : (i : Int) < (n : Int) := by omega
 have hne : ((i : Int) == (n : Int)) = false := by simp; omega
 have hne2 : ((k : Int) == (m : Int)) = false := by simp; omega
 have hkz : (k : Int) < (m : Int) := by omega
 have hks : m ≤ 1000000 := by
  have := qx8 hm
  omega
 have hln := h.rows
 rw [hn] at hln
 have hcm : cap ≤ 9223372036854775807 := by
  obtain ⟨_, cap', e, _, hcm⟩ := h.eb.slice
  have : cap = cap' := by rw [e] at hV; injection hV with _ _ e3; exact e3.symm
  unfold maxLen at hcm
  omega
 have hc3 : c3 ≤ 9223372036854775807 := by
  obtain ⟨_, cap', e, _, hcm⟩ := h.eb.qM8 (List.mem_of_getElem? hr)
  have : c3 = cap' := by rw [e] at h3; injection h3 with _ _ e3; exact e3.symm
  unfold maxLen at hcm
  omega
 have k6 := cell_below ((Below.refl w.heap.size w).alloc (Nat.le_refl _) (.cells #[.int .i64 0] 3)) c6
 have HKK := Lib.hid hkk
 have HKN := Lib.hid zU6
 have HA := Lib.hid hA
 have HI := Lib.hid h
 have HIH := Lib.hid ih
 have HM := Lib.hid hM
 have HMI := Lib.hid hm
 have HV := Lib.hid hV
 have HR := Lib.hid hr
 have H3 := Lib.hid h3
 have HRO := Lib.hid hro
 have HO := Lib.hid ho
 have HW := Lib.hid hw
 have HK := Lib.hid hkey
 have HN := Lib.hid hn
 have HLN := Lib.hid hln
 have HS2 := Lib.hid hs2
 obtain ⟨i0, hii, hz0, hz1, hz2⟩ := info_parts jj9
 clear hkk hkN zU6 hA
 clear h ih hM hm hm' hV hr hr' h3 h3' hro ho hw hkey hn hln hs2
 go_enter Try.func112, Try.ntmps112
 go_wp2_with fail
 go_loopw [8, 82] (fun v x wr => RelA rows key w n v x wr) (fun _ x _ => n - (intOf x).toNat)
 case atStart =>
  refine ⟨0, [0], Nat.zero_le _, rfl, rfl, ?_, (Below.refl _ _).alloc (Nat.le_refl _) _⟩
  exact ⟨rfl, .inr ⟨w.heap.size, 1, #[.int .i64 0], rfl, Nat.le_refl _, World.alloc_heap_new w _, Nat.le_refl _, by unfold maxLen; omega, rfl, rfl⟩⟩
 case round =>
  obtain ⟨j, xs, hj, rfl, hxs, hown, hb⟩ := hrel
  have HB := Lib.hid hb
  have HOW := Lib.hid hown
  have HXS := Lib.hid hxs
  clear hb hown hxs
  by_cases hlt : j < n
  ·have hltz : (j : Int) < (n : Int) := by omega
   obtain ⟨rj, hrj⟩ : ∃ r, rows[j]? = some r := ⟨_, List.getElem?_eq_getElem (by rw [HLN.out]; omega)⟩
   have hEr := HI.out.eb.below HB.out
   obtain ⟨A4, c4', h4, hc4, hm4⟩ := hEr.qM8 (List.mem_of_getElem? hrj)
   have hV' := HV.out
   have u0 := hEr.qo7 (by rw [HLN.out]; exact hV') hrj (j := 0) (by omega)
   have u1 := hEr.qo7 (by rw [HLN.out]; exact hV') hrj (j := 1) (by omega)
   have u2 := hEr.qo7 (by rw [HLN.out]; exact hV') hrj (j := 2) (by omega)
   have u3 := hEr.qo7 (by rw [HLN.out]; exact hV') hrj (j := 3) (by omega)
   simp only [ER.cells, List.getElem?_cons_succ, List.getElem?_cons_zero, Nat.add_zero] at u0 u1 u2 u3
   rw [h4] at u3
   obtain ⟨q, hq⟩ : ∃ q, rj.ops.length = q := ⟨_, rfl⟩
   rw [hq] at u3 hc4
   unfold maxLen at hm4
   have HQ := Lib.hid hq
   have H4 := Lib.hid h4
   have HRJ := Lib.hid hrj
   clear hq h4 hrj hEr hV'
   go_wp2_with fail
   go_loopw [8, 89] (fun v x wr => RelB rows key w j rj.ops v x wr) (fun _ x _ => q - (intOf x).toNat)
   case atStart =>
    exact ⟨0, xs, Nat.zero_le _, rfl, by rw [HXS.out]; simp [qe0], HOW.out.alloc _, HB.out.alloc HB.out.size _⟩
   case round =>
    obtain ⟨m2, ys, hm2, rfl, hys, hown2, hb2⟩ := hrel
    rw [HQ.out] at hm2
    have HB2 := Lib.hid hb2
    have zL5 := Lib.hid hown2
    have HYS := Lib.hid hys
    clear hb2 hown2 hys
    by_cases hlt2 : m2 < q
    ·have zU7 : (m2 : Int) < (q : Int) := by omega
     obtain ⟨x, hx⟩ : ∃ x, rj.ops[m2]? = some x := ⟨_, List.getElem?_eq_getElem (by rw [HQ.out]; omega)⟩
     have hEr := HI.out.eb.below HB2.out
     obtain ⟨g4, c4'', h4', _⟩ := hEr.jR7 (List.mem_of_getElem? HRJ.out) (by rw [HQ.out]; omega)
     obtain rfl : A4 = some ⟨g4, 0, none⟩ := by have := H4.out; rw [h4'] at this; injection this with e1; exact e1.symm
     obtain ⟨x0, x1, x2⟩ := hEr.jz5 (List.mem_of_getElem? HRJ.out) h4' hx
     have ok := cell_below HB2.out o1
     have ok2 := cell_below ((Below.refl _ wr).alloc (Nat.le_refl _) (.cells #[.bool x.w, .int .i64 x.k, .int .i64 x.v] 51)) ok
     have HX := Lib.hid hx
     clear hx h4' hEr ok
     have hle := Qn0 rows HRJ.out
     have htot : (opsOf rows).length ≤ 1000000 := by have := HI.out.car.total; have := HS2.out; omega
     have hyl : ys.length ≤ 1000000 := by
      rw [HYS.out]
      have h1 := qT1 key (opsOf (rows.take j))
      have h2 := qT1 key (rj.ops.take m2)
      rw [List.length_take] at h2
      have := HQ.out
      simp only [List.length_cons, List.length_append]
      omega
     have hys1 := jH0 (key := key) HX.out
     have Qb3 := Lib.hid hys1
     clear hle htot hys1
     by_cases hxw : x.w = true
     ·rw [hxw] at x0 ok2
      have HXW := Lib.hid hxw
      clear hxw
      by_cases hxk : x.k = key
      ·rw [hxk] at x1 ok2
       have HXK := Lib.hid hxk
       clear hxk
       go_wp2_with fail
       go_quiet (fail)
       obtain ⟨W2, hW2⟩ : ∃ W2, (wr.alloc (.cells #[.bool true, .int .i64 key, .int .i64 x.v] 51)).drewN nq = W2 := ⟨_, rfl⟩
       have hb3 : Below w.heap.size w W2 := by rw [← hW2]; exact below_drewN (HB2.out.alloc HB2.out.size _) nq
       have how3 : W2.ownsRow w.heap.size 3 1 u8 ys.length (ints ys) := by rw [← hW2]; exact own_drewN (zL5.out.alloc _) nq
       have hx2 : W2.cell? ⟨wr.heap.size, 2, none⟩ = some (.int .i64 x.v) := by
        rw [← hW2]
        have h := zM.alloc_at wr (.cells #[.bool true, .int .i64 key, .int .i64 x.v] 51)
        show (wr.alloc _).cell? _ = _
        rw [Lib.cell_of_heap h]
        rfl
       rw [hW2]
       have HB3 := Lib.hid hb3
       have zG0 := Lib.hid how3
       clear hW2 hb3 how3
       go_wp2_with (at_builtin; refine wpList_append_own _ rfl _ _ 29 rfl w.heap.size 3 i0 (.int .i64 0) 1 8 Try.underlying29 hii hz0 hz1 hz2 rfl (by decide) _ _ _ rfl (zG0.out.alloc _) ⟨W2.heap.size, 0, none⟩ 1 1 [.int .i64 x.v] rfl rfl (jS2 _ _ rfl _) (by simp [Value.oneCell']) (by unfold maxLen; omega) (by omega) (by have := HB3.out.size; simp; omega) ?_; intro v' w4 hown' hgrow _; have HOW4 := Lib.hid hown'; have HG4 := Lib.hid (show (W2.alloc (.cells #[.int .i64 x.v] 3)).grownBy w4 u8.ownBlock from hgrow); clear hown' hgrow)
       go_roundw
       case rel => exact ⟨m2 + 1, ys ++ [x.v], by rw [HQ.out]; omega, by go_num, by rw [HYS.out, Qb3.out, jS1 HXW.out HXK.out]; simp, (by have := HOW4.out; simpa [ints] using this), (HB3.out.alloc HB3.out.size _).grown HG4.out (by have := HB3.out.size; simp; omega) (fun g hg => (zG0.out.lt g hg).1)⟩
       case measure => (simp only [intOf]; omega)
      ·have HXK := Lib.hid hxk
       have hxkb : (x.k == key) = false := by simpa using hxk
       clear hxk
       go_wp2_with fail
       go_quiet (fail)
       go_wp2_with fail
       go_roundw
       case rel => exact ⟨m2 + 1, ys, by rw [HQ.out]; omega, by go_num, by rw [HYS.out, Qb3.out, jp4 (.inr HXK.out), List.append_nil], own_drewN (zL5.out.alloc _) nq, below_drewN (HB2.out.alloc HB2.out.size _) nq⟩
       case measure => (simp only [intOf]; omega)
     ·have hxw : x.w = false := by simpa using hxw
      rw [hxw] at x0 ok2
      have HXW := Lib.hid hxw
      clear hxw
      go_wp2_with fail
      go_quiet (fail)
      go_wp2_with fail
      go_roundw
      case rel => exact ⟨m2 + 1, ys, by rw [HQ.out]; omega, by go_num, by rw [HYS.out, Qb3.out, jp4 (.inl HXW.out), List.append_nil], own_drewN (zL5.out.alloc _) nq, below_drewN (HB2.out.alloc HB2.out.size _) nq⟩
      case measure => (simp only [intOf]; omega)
    ·obtain rfl : m2 = q := by omega
     go_wp2_with fail
     go_roundw
     case rel => exact ⟨j + 1, ys, by omega, by go_num, by rw [HYS.out, jp5 HRJ.out, qB1, ← HQ.out, List.take_length], zL5.out, HB2.out⟩
     case measure => (simp only [intOf]; omega)
  ·obtain rfl : j = n := by omega
   have hx0 : 0 < xs.length := by rw [HXS.out]; simp
   obtain ⟨gA, cA, rfl, hle⟩ : ∃ gA cA, u8 = .slice (some ⟨gA, 0, none⟩) xs.length cA ∧ xs.length ≤ cA := by
    rcases HOW.out.2 with ⟨_, e⟩ | ⟨gA, cA, _, e, _, _, hle, _⟩
    ·omega
    ·exact ⟨gA, cA, e, hle⟩
   obtain ⟨N, hN⟩ : ∃ N, xs.length = N := ⟨_, rfl⟩
   have HNN := Lib.hid hN
   rw [hN] at hle hx0 ⊢
   clear hN
   go_wp2_with fail
   have hEr := HI.out.eb.below HB.out
   have hSr := HI.out.sep.later HB.out.size
   have hJr := HA.out.below HI.out.j HB.out HI.out.sep.lt
   have hFr : Fr C (Ow bX V rows) w C (Ow bX V rows) wr := Fr.below HB.out
   have Qb4 : xs = (choices ks zb0).map fun v : Nat => (v : Int) := by
    rw [HXS.out, List.take_of_length_le (by have := HLN.out; omega), HKN.out]
    exact HI.out.collected zb0
   have hgA := HOW.out.lt gA rfl
   have hNC : N = (choices ks zb0).length := by rw [← HNN.out, Qb4, List.length_map]
   have HER := Lib.hid hEr
   have HSR := Lib.hid hSr
   have HJR := Lib.hid hJr
   have HFR := Lib.hid hFr
   have HXC := Lib.hid Qb4
   have HGA := Lib.hid hgA
   have HNC := Lib.hid hNC
   clear hEr hSr hJr hFr Qb4 hgA hNC
   obtain ⟨W0, hW0⟩ : ∃ W0, wr = W0 := ⟨_, rfl⟩
   rw [hW0] at HOW HB HER HSR HJR HFR HGA ⊢
   clear hW0
   have hNle : N ≤ 1000001 := by
    have h1 := qT1 key (opsOf (rows.take j))
    have h2 := qQ2 rows j
    have h3 := HI.out.car.total
    have h4 := HS2.out
    rw [← HNN.out, HXS.out, List.length_cons]
    omega
   go_loopw [113] (fun x wr3 => zW5 J bX p yv V hd cs ks acc pre zb0 rows C W0 N x wr3) (fun x _ => N - (intOf x).toNat)
   case atStart => exact ⟨0, C, rows, Nat.zero_le _, rfl, HER.out, HSR.out, by rw [List.take_zero, List.flatMap_nil, List.append_nil]; exact HJR.out, Fr.refl _ _ _, HI.out.car, rfl⟩
   case round =>
    rename_i hx0' _
    obtain ⟨c, C', rows', hc, rfl, hRC⟩ := hrel
    have HRC := Lib.hid hRC
    clear hRC
    by_cases hlt : c < N
    ·have hltz : (c : Int) < (N : Int) := by omega
     obtain ⟨v, hv⟩ : ∃ v, (choices ks zb0)[c]? = some v := ⟨_, List.getElem?_eq_getElem (by rw [← HNC.out]; exact hlt)⟩
     have h3m := H3.out
     obtain ⟨⟨o', hcell⟩, hfz, zC, hI2, hvs2, hf2⟩ := RC.stored HI.out HA.out HMI.out hk HR.out HKK.out h3m hv HRC.out
     have zz4 : wr.heap[gA]? = W0.heap[gA]? := HRC.out.fr.keep gA HGA.out.2 (fun hc => by have := HI.out.sep.lt gA hc; have := HGA.out.1; omega) (fun ho => by have := (HI.out.eb.lt gA ho).2; have := HGA.out.1; omega)
     have hcA : wr.cell? ⟨gA, c, none⟩ = some (.int .i64 (v : Int)) := by
      have zU8 := qf1 (w' := wr) HOW.out (fun g hg => by cases hg; exact zz4)
      have hNN := HNN.out
      rw [hNN] at zU8
      rw [zU8.cellAt c (by omega), HXC.out]
      simp [ints, hv]
     have hlt3 := qx8 HMI.out
     have hacc := HI.out.at_
     have hih := (HIH.out i (k + 1) (acc ++ [v]) _ C' zC _ (by rw [List.length_append, List.length_singleton]; have := HM.out; omega) hI2).mono (R' := fun e w' => ∃ b, e = .returned (.bool b) ∧ qt7 J Jx bX p yv V hd cs ks (acc ++ [v]) (pre ++ ((choices ks zb0).take c).flatMap (chunk hd cs ks acc)) C' zC (wr.setCell ⟨g3, k * 3 + 2, none⟩ (.int .i64 (v : Int))) (.returned (.bool b)) w') (fun e w' hq => by obtain ⟨b, rfl⟩ := hq.bool; exact ⟨b, rfl, hq⟩)
     rw [qk4] at hih
     have IH := Lib.hid hih
     have HV2 := Lib.hid hv
     have HVS := Lib.hid hvs2
     have HF2 := Lib.hid hf2
     clear hih hI2 hv hvs2 hf2 h3m zz4 hlt3 hacc
     go_wp2_with (go_at_call 112; (with_reducible refine (IH.out).mono ?_); rintro e w5 ⟨b, rfl, hp⟩; have HP := Lib.hid hp; clear hp; cases b)
     ·go_ret
      exact RC.stop HKK.out HV2.out HP.out
     ·obtain ⟨C2, qy2, hRC2⟩ := RC.after HV2.out HVS.out HF2.out HP.out
      exact ⟨⟨c + 1, C2, qy2, by omega, by go_num, hRC2⟩, by simp only [intOf]; omega⟩
    ·obtain rfl : c = N := by omega
     go_wp2_with fail
     go_ret
     exact RC.done HFR.out HKK.out (by rw [HNC.out]; exact Nat.le_refl _) HRC.out
theorem ja4 (hY : qp4 yv L J Jx) (hA : Abides J) (hX : qp3 Jx) (hs : cs.length ≤ 1000) (hs2 : cs.sum ≤ 1000000) : ∀ (M i k : Nat) (acc : List Nat) (pre : List (List T4)) (C : Nat → Prop) (rows : List ER) (w : World), cs.length - i + (cs.sum - acc.length) < M → InV L J bX p yv V hd cs ks i k acc pre C rows w →
  Calls Try.prog 112 #[.pointer (some ⟨bX, 0, none⟩), .int .i64 (i : Int), .int .i64 (k : Int)] w (qt7 J Jx bX p yv V hd cs ks acc pre C rows w)
 | 0, _, _, _, _, _, _, _, hM, _ => absurd hM (Nat.not_lt_zero _)
 | M + 1, i, k, acc, pre, C, rows, w, hM, h => by
  have ih := ja4 hY hA hX hs hs2 M
  by_cases hi : i = cs.length
  ·exact za9 hY hA hX h hi
  ·have hil : i < cs.length := by have := h.le; omega
   obtain ⟨m, hm⟩ : ∃ m, cs[i]? = some m := ⟨_, List.getElem?_eq_getElem hil⟩
   have hkm := h.in_ m hm
   by_cases hk : k = m
   ·exact jS0 M ih hM h hm hk hs hs2
   ·have hk : k < m := by omega
    obtain ⟨r, hr⟩ : ∃ r, rows[i]? = some r := ⟨_, List.getElem?_eq_getElem (by rw [h.rows]; exact hil)⟩
    have hlen : r.ops.length = m := by
     have e1 : (lens rows)[i]? = some r.ops.length := by unfold lens; rw [List.getElem?_map, hr]; rfl
     rw [h.car.len, hm] at e1
     exact (Option.some.inj e1).symm
    obtain ⟨o, ho⟩ : ∃ o, r.ops[k]? = some o := ⟨_, List.getElem?_eq_getElem (by omega)⟩
    cases hw : o.w with
    | true => exact jG9 M ih hM h hm hk hr ho hw hs hs2
    | false => exact jS3 hA M ih hM h hm hk hr ho hw hs hs2
end
end Go.Proofs.Ytngkneknopenmaa.qf6
end
section
namespace Go.Proofs.Ytngkneknopenmaa.qf6
open Go Go.Lib Go.RowKit Go.Proofs.Ytngkneknopenmaa Go.Proofs.Ytngkneknopenmaa.zM Go.Proofs.Ytngkneknopenmaa.qa9 Go.Proofs.Ytngkneknopenmaa.qb8
def jf8 (hd : List (Int × Int × Int)) (cs : List Nat) (K : Nat) (ks : List (Bool × Nat)) (kn : Nat) : List (List T4) := (qF6 K (cs.sum - ks.length) ks kn).flatMap fun z => qI0 hd cs z z []
def GG (bX : Nat) (p : Par) (yv : Value) (car : Value → List ER → Prop) : (Nat → Prop) → (Nat → Prop) → World → Prop := fun _ E' w' => ∃ V' rows', E' = Ow bX V' rows' ∧ EB w' bX p yv V' rows' ∧ car V' rows'
structure RG (J : List (List T4) → (Nat → Prop) → World → Prop) (bX : Nat) (p : Par) (yv : Value) (car : Value → List ER → Prop) (C E0 : Nat → Prop) (W0 : World) (pre' : List (List T4)) (C' : Nat → Prop) (V' : Value) (rows' : List ER) (W : World) : Prop where
 eb : EB W bX p yv V' rows'
 sep : Sep C' (Ow bX V' rows') W
 j : J pre' C' W
 fr : Fr C E0 W0 C' (Ow bX V' rows') W
 car : car V' rows'
theorem RG.after {α : Type} {f : α → List (List T4)} {chs : List α} {c : Nat} {x : α} (hx : chs[c]? = some x) {J : List (List T4) → (Nat → Prop) → World → Prop} {Jx : List (List T4) → World → Prop} {bX : Nat} {p : Par} {yv : Value} {car zo3 : Value → List ER → Prop} {C E0 C' E2 : Nat → Prop} {W0 W1 W : World} {pre : List (List T4)} (hf : Fr C E0 W0 C' E2 W1) (hcar : ∀ V' rows', zo3 V' rows' → car V' rows')
  (h : qF1 J Jx (pre ++ (chs.take c).flatMap f) (f x) C' E2 W1 (GG bX p yv zo3) (.returned (.bool true)) W) : ∃ C'' V' rows', RG J bX p yv car C E0 W0 (pre ++ (chs.take (c + 1)).flatMap f) C'' V' rows' W := by
 rcases h with ⟨_, C2, E3, hj, hs, hf2, V', rows', rfl, heb, hc⟩ | ⟨h, _⟩
 ·refine ⟨C2, V', rows', heb, hs, ?_, hf.trans hf2, hcar _ _ hc⟩
  rw [qf2 _ hx, ← List.append_assoc]
  exact hj
 ·cases h
theorem RG.stop {α : Type} {f : α → List (List T4)} {chs : List α} {c : Nat} {x : α} (hx : chs[c]? = some x) {J : List (List T4) → (Nat → Prop) → World → Prop} {Jx : List (List T4) → World → Prop} {C E C' E2 : Nat → Prop} {w W1 W : World} {pre : List (List T4)} {G G2 : (Nat → Prop) → (Nat → Prop) → World → Prop}
  (h : qF1 J Jx (pre ++ (chs.take c).flatMap f) (f x) C' E2 W1 G2 (.returned (.bool false)) W) : qF1 J Jx pre (chs.flatMap f) C E w G (.returned (.bool false)) W := by
 rcases h with ⟨h, _⟩ | ⟨_, q, hq, hx'⟩
 ·cases h
 ·refine .inr ⟨rfl, (chs.take c).flatMap f ++ q, ?_, by rw [← List.append_assoc]; exact hx'⟩
  have := qj6 f chs (c + 1)
  rw [qf2 _ hx] at this
  exact List.IsPrefix.trans ((List.prefix_append_right_inj _).2 hq) this
theorem RG.done {α : Type} {f : α → List (List T4)} {chs : List α} {c : Nat} (hc : chs.length ≤ c) {J : List (List T4) → (Nat → Prop) → World → Prop} {Jx : List (List T4) → World → Prop} {bX : Nat} {p : Par} {yv : Value} {car : Value → List ER → Prop} {C E E0 C' : Nat → Prop} {w W0 W : World} {V' : Value} {rows' : List ER} {pre : List (List T4)} (hw : Fr C E w C E0 W0)
  (h : RG J bX p yv car C E0 W0 (pre ++ (chs.take c).flatMap f) C' V' rows' W) : qF1 J Jx pre (chs.flatMap f) C E w (GG bX p yv car) (.returned (.bool true)) W := by
 refine .inl ⟨rfl, C', Ow bX V' rows', ?_, h.sep, hw.trans h.fr, V', rows', rfl, h.eb, h.car⟩
 have := h.j
 rw [List.take_of_length_le hc] at this
 exact this
theorem RG.qB5 {α : Type} {f : α → List (List T4)} {chs : List α} {c : Nat} {x : α} (hx : chs[c]? = some x) {pre L : List (List T4)} (h : (pre ++ chs.flatMap f) <+: L) : (pre ++ (chs.take c).flatMap f ++ f x) <+: L := by
 refine List.IsPrefix.trans ?_ h
 rw [List.append_assoc]
 refine (List.prefix_append_right_inj pre).2 ?_
 have := qj6 f chs (c + 1)
 rw [qf2 _ hx] at this
 exact this
section
variable {L : List (List T4)} {J : List (List T4) → (Nat → Prop) → World → Prop} {Jx : List (List T4) → World → Prop} {bX : Nat} {p : Par} {yv V : Value} {hd : List (Int × Int × Int)} {cs : List Nat}
structure InK (L : List (List T4)) (J : List (List T4) → (Nat → Prop) → World → Prop) (bX : Nat) (p : Par) (yv V : Value) (hd : List (Int × Int × Int)) (cs : List Nat) (i k : Nat) (ks : List (Bool × Nat)) (kn : Nat) (pre : List (List T4)) (C : Nat → Prop) (rows : List ER) (w : World) : Prop where
 eb : EB w bX p yv V rows
 sep : Sep C (Ow bX V rows) w
 j : J pre C w
 car : qT0 hd cs ks rows
 n : p.n = (cs.length : Int)
 at_ : ks.length = off cs i + k
 le : i ≤ cs.length
 end_ : i = cs.length → k = 0
 in_ : ∀ m, cs[i]? = some m → k ≤ m
 kn_ : kn ≤ ks.length
 ok : ∀ h ∈ jf8 hd cs p.K.toNat ks kn, zT h = 0
 qB5 : (pre ++ (jf8 hd cs p.K.toNat ks kn).map zU) <+: L
def qw5 (J : List (List T4) → (Nat → Prop) → World → Prop) (Jx : List (List T4) → World → Prop) (bX : Nat) (p : Par) (yv V : Value) (hd : List (Int × Int × Int)) (cs : List Nat) (ks : List (Bool × Nat)) (kn : Nat) (pre : List (List T4)) (C : Nat → Prop) (rows : List ER) (w : World) : Ending → World → Prop :=
 qF1 J Jx pre ((jf8 hd cs p.K.toNat ks kn).map zU) C (Ow bX V rows) w (GG bX p yv fun V' rows' => V' = V ∧ qT0 hd cs ks rows')
theorem InK.rows {i k : Nat} {ks : List (Bool × Nat)} {kn : Nat} {pre : List (List T4)} {C : Nat → Prop} {rows : List ER} {w : World} (h : InK L J bX p yv V hd cs i k ks kn pre C rows w) : rows.length = cs.length := by
 have := congrArg List.length h.car.len
 unfold lens at this
 rw [List.length_map] at this
 exact this
set_option maxHeartbeats 1000000 in
set_option maxRecDepth 100000 in
theorem zo4 (hY : qp4 yv L J Jx) (hA : Abides J) (hX : qp3 Jx) (hs : cs.length ≤ 1000) (hs2 : cs.sum ≤ 1000000) {i k : Nat} {ks : List (Bool × Nat)} {kn : Nat} {pre : List (List T4)} {C : Nat → Prop} {rows : List ER} {w : World} (h : InK L J bX p yv V hd cs i k ks kn pre C rows w) (hi : i = cs.length) :
  Calls Try.prog 110 #[.pointer (some ⟨bX, 0, none⟩), .int .i64 (i : Int), .int .i64 (k : Int), .int .i64 (kn : Int)] w (qw5 J Jx bX p yv V hd cs ks kn pre C rows w) := by
 obtain rfl : k = 0 := h.end_ hi
 have hkl : ks.length = cs.sum := by rw [h.at_, hi, zj5 rfl]; rfl
 have hraw : jf8 hd cs p.K.toNat ks kn = qI0 hd cs ks ks [] := by
  unfold jf8
  rw [hkl, Nat.sub_self]
  simp [qF6]
 have hok := h.ok
 have hpre := h.qB5
 rw [hraw] at hok hpre
 have hin : InV L J bX p yv V hd cs ks 0 0 [] pre C rows w := ⟨h.eb, h.sep, h.j, h.car.leaf hkl, h.n, by rw [qM7]; rfl, Nat.zero_le _, fun _ => rfl, fun _ _ => Nat.zero_le _, hok, hpre⟩
 have hih := (ja4 hY hA hX hs hs2 _ 0 0 [] pre C rows w (Nat.lt_succ_self _) hin).mono (R' := fun e w' => ∃ b, e = .returned (.bool b) ∧ qw5 J Jx bX p yv V hd cs ks kn pre C rows w (.returned (.bool b)) w') (fun e w' hq => by
  obtain ⟨b, rfl⟩ := hq.bool
  refine ⟨b, rfl, ?_⟩
  unfold qw5
  rw [hraw]
  exact hq.imp (fun C' E' w' ⟨rows', e1, e2, e3, _⟩ => ⟨V, rows', e1, e2, rfl, e3.toK⟩))
 rw [qO6] at hih
 have c4 := h.eb.field 4
 simp only [Par.cells, List.getElem?_toArray, List.getElem?_cons_succ, List.getElem?_cons_zero] at c4
 rw [h.n] at c4
 obtain ⟨n, hn⟩ : ∃ n, cs.length = n := ⟨_, rfl⟩
 rw [hn] at hi c4
 obtain ⟨Q, hQ⟩ : ∃ Q, qw5 J Jx bX p yv V hd cs ks kn pre C rows w = Q := ⟨_, rfl⟩
 rw [hQ] at hih ⊢
 have IH := Lib.hid hih
 clear hih hQ hn hin hraw hok hpre hkl h hs hs2
 subst hi
 go_enter Try.func110, Try.ntmps110
 go_wp2_with (go_at_call 112; (with_reducible refine (IH.out).mono ?_); rintro e w' ⟨b, rfl, hq⟩; have HQ := Lib.hid hq; clear hq)
 exact HQ.out
theorem InK.cells {i k : Nat} {ks : List (Bool × Nat)} {kn : Nat} {pre : List (List T4)} {C : Nat → Prop} {rows : List ER} {w : World} (h : InK L J bX p yv V hd cs i k ks kn pre C rows w) (hi : i < cs.length) :
  ∃ (g cap : Nat) (r : ER) (A3 : Option Addr) (c3 m : Nat), V = .slice (some ⟨g, 0, none⟩) cs.length cap ∧ cs.length ≤ cap ∧ rows[i]? = some r ∧ r.v = .slice A3 m c3 ∧ r.ops.length = m ∧ cs[i]? = some m ∧ m ≤ c3 ∧
   w.cell? ⟨bX, 4, none⟩ = some (.int .i64 (cs.length : Int)) ∧ w.cell? ⟨bX, 6, none⟩ = some (.slice (some ⟨g, 0, none⟩) cs.length cap) ∧ w.cell? ⟨g, i * 4 + 3, none⟩ = some (.slice A3 m c3) := by
 have hl := h.rows
 obtain ⟨g, cap, hV, hcap⟩ := h.eb.form (by omega)
 obtain ⟨r, hr⟩ : ∃ r, rows[i]? = some r := ⟨_, List.getElem?_eq_getElem (by omega)⟩
 obtain ⟨A3, c3, h3, hc3, _⟩ := h.eb.qM8 (List.mem_of_getElem? hr)
 have c4 := h.eb.field 4
 have c6 := h.eb.field 6
 have t3 := h.eb.qo7 hV hr (j := 3) (by omega)
 simp only [Par.cells, ER.cells, List.getElem?_toArray, List.getElem?_cons_succ, List.getElem?_cons_zero] at c4 c6 t3
 rw [h.n] at c4
 rw [h3] at t3
 rw [hV] at c6
 rw [hl] at c6 hV hcap
 refine ⟨g, cap, r, A3, c3, r.ops.length, hV, hcap, hr, h3, rfl, ?_, hc3, c4, c6, t3⟩
 rw [← h.car.len]
 unfold lens
 rw [List.getElem?_map, hr]
 rfl
theorem InK.next {i k : Nat} {ks : List (Bool × Nat)} {kn : Nat} {pre : List (List T4)} {C : Nat → Prop} {rows : List ER} {w : World} (h : InK L J bX p yv V hd cs i k ks kn pre C rows w) {m : Nat} (hm : cs[i]? = some m) (hk : k = m) : InK L J bX p yv V hd cs (i + 1) 0 ks kn pre C rows w :=
 { h with at_ := by rw [h.at_, hk, qZ7 hm, Nat.add_zero], le := (List.getElem?_eq_some_iff.1 hm).1, end_ := fun _ => rfl, in_ := fun _ _ => Nat.zero_le _ }
set_option maxHeartbeats 1000000 in
set_option maxRecDepth 100000 in
theorem zb1 (M : Nat) (ih : ∀ (i k : Nat) (ks : List (Bool × Nat)) (kn : Nat) (pre : List (List T4)) (C : Nat → Prop) (rows : List ER) (w : World), cs.length - i + (cs.sum - ks.length) < M → InK L J bX p yv V hd cs i k ks kn pre C rows w →
   Calls Try.prog 110 #[.pointer (some ⟨bX, 0, none⟩), .int .i64 (i : Int), .int .i64 (k : Int), .int .i64 (kn : Int)] w (qw5 J Jx bX p yv V hd cs ks kn pre C rows w))
  {i k : Nat} {ks : List (Bool × Nat)} {kn : Nat} {pre : List (List T4)} {C : Nat → Prop} {rows : List ER} {w : World} (hM : cs.length - i + (cs.sum - ks.length) < M + 1) (h : InK L J bX p yv V hd cs i k ks kn pre C rows w) {m : Nat} (hm : cs[i]? = some m) (hk : k = m) (hs : cs.length ≤ 1000) (hs2 : cs.sum ≤ 1000000) :
  Calls Try.prog 110 #[.pointer (some ⟨bX, 0, none⟩), .int .i64 (i : Int), .int .i64 (k : Int), .int .i64 (kn : Int)] w (qw5 J Jx bX p yv V hd cs ks kn pre C rows w) := by
 have hi := (List.getElem?_eq_some_iff.1 hm).1
 obtain ⟨g, cap, r, A3, c3, m', hV, hcap, hr, h3, hro, hm', hmc, c4, c6, t3⟩ := h.cells hi
 obtain rfl : m = m' := Option.some.inj (hm.symm.trans hm')
 have hih := (ih (i + 1) 0 ks kn pre C rows w (by omega) (h.next hm hk)).mono (R' := fun e w' => ∃ b, e = .returned (.bool b) ∧ qw5 J Jx bX p yv V hd cs ks kn pre C rows w (.returned (.bool b)) w') (fun e w' hq => by obtain ⟨b, rfl⟩ := hq.bool; exact ⟨b, rfl, hq⟩)
 rw [qk4, qO6] at hih
 obtain ⟨n, hn⟩ : ∃ n, cs.length = n := ⟨_, rfl⟩
 rw [hn] at hi hcap c4 c6 hs
 have hiz : (i : Int) < (n : Int) := by omega
 have hne : ((i : Int) == (n : Int)) = false := by simp; omega
 have hks : k ≤ 1000000 := by
  have := qx8 hm
  omega
 obtain ⟨Q, hQ⟩ : ∃ Q, qw5 J Jx bX p yv V hd cs ks kn pre C rows w = Q := ⟨_, rfl⟩
 rw [hQ] at hih ⊢
 have IH := Lib.hid hih
 clear hih h hV hr h3 hro hm hm' hn hQ hM ih hs2
 subst hk
 go_enter Try.func110, Try.ntmps110
 go_wp2_with (go_at_call 110; (with_reducible refine (IH.out).mono ?_); rintro e w' ⟨b, rfl, hq⟩; have HQ := Lib.hid hq; clear hq)
 exact HQ.out
def ja5 (N : Nat) : List (Bool × Nat) := (List.range N).map (fun key => (false, key)) ++ (List.range N).map (fun key => (true, key))
theorem zL6 {N a b : Nat} (ha : a < 2) (hb : b < N) : (ja5 N)[a * N + b]? = some (decide (a = 1), b) := by
 unfold ja5
 by_cases h : a = 0
 ·subst h
  rw [Nat.zero_mul, Nat.zero_add, List.getElem?_append_left (by simpa using hb)]
  simp [hb]
 ·obtain rfl : a = 1 := by omega
  rw [List.getElem?_append_right (by simp)]
  simp [hb]
def qI1 (hd : List (Int × Int × Int)) (cs : List Nat) (K : Nat) (ks : List (Bool × Nat)) (kn : Nat) (x : Bool × Nat) : List (List T4) := (jf8 hd cs K (ks ++ [x]) (max kn (x.2 + 1))).map zU
theorem jz6 {K : Nat} {ks : List (Bool × Nat)} {kn : Nat} (h : ks.length < cs.sum) : jf8 hd cs K ks kn = (ja5 (min (kn + 1) K)).flatMap fun x => jf8 hd cs K (ks ++ [x]) (max kn (x.2 + 1)) := by
 unfold jf8
 have e : cs.sum - ks.length = (cs.sum - (ks.length + 1)) + 1 := by omega
 rw [e, qF6]
 unfold ja5
 rw [List.flatMap_append, List.flatMap_map, List.flatMap_map]
 simp only [List.flatMap_cons, List.flatMap_nil, List.append_nil, List.flatMap_append, List.flatMap_assoc, List.length_append, List.length_singleton]
theorem qT2 {K : Nat} {ks : List (Bool × Nat)} {kn : Nat} (h : ks.length < cs.sum) : (jf8 hd cs K ks kn).map zU = (ja5 (min (kn + 1) K)).flatMap (qI1 hd cs K ks kn) := by
 rw [jz6 h, List.map_flatMap]
 rfl
def zL7 (hd : List (Int × Int × Int)) (cs : List Nat) (V : Value) (ks : List (Bool × Nat)) : Value → List ER → Prop := fun V' rows' => V' = V ∧ qT0 hd cs ks rows'
theorem RG.zL8 {i k : Nat} {ks : List (Bool × Nat)} {kn : Nat} {pre : List (List T4)} {C : Nat → Prop} {rows : List ER} {w W0 W W1 : World} (h : InK L J bX p yv V hd cs i k ks kn pre C rows w) (hA : Abides J) {m : Nat} (hm : cs[i]? = some m) (hk : k < m) {c : Nat} {x : Bool × Nat} {K : Nat} (hK : p.K.toNat = K) (hx : (ja5 (min (kn + 1) K))[c]? = some x)
  {C' : Nat → Prop} {rows' : List ER} (hc : RG J bX p yv (zL7 hd cs V ks) C (Ow bX V rows) W0 (pre ++ ((ja5 (min (kn + 1) K)).take c).flatMap (qI1 hd cs p.K.toNat ks kn)) C' V rows' W) {r' : ER} (hr' : rows'[i]? = some r') {g3 c3 : Nat} (h3 : r'.v = .slice (some ⟨g3, 0, none⟩) r'.ops.length c3) (hb : Below W.heap.size W W1) :
  ∃ zC, InK L J bX p yv V hd cs i (k + 1) (ks ++ [x]) (max kn (x.2 + 1)) (pre ++ ((ja5 (min (kn + 1) K)).take c).flatMap (qI1 hd cs p.K.toNat ks kn)) C' zC (((W1.setCell ⟨g3, k * 3, none⟩ (.bool x.1)).setCell ⟨g3, k * 3 + 1, none⟩ (.int .i64 (x.2 : Int))).setCell ⟨g3, k * 3 + 2, none⟩ (.int .i64 ((ks.length : Int) + 1))) ∧
   Fr C (Ow bX V rows) W0 C' (Ow bX V zC) (((W1.setCell ⟨g3, k * 3, none⟩ (.bool x.1)).setCell ⟨g3, k * 3 + 1, none⟩ (.int .i64 (x.2 : Int))).setCell ⟨g3, k * 3 + 2, none⟩ (.int .i64 ((ks.length : Int) + 1))) := by
 have hcar := hc.car.2
 have hlen' : r'.ops.length = m := by
  have e1 : (lens rows')[i]? = some r'.ops.length := by unfold lens; rw [List.getElem?_map, hr']; rfl
  rw [hcar.len, hm] at e1
  exact (Option.some.inj e1).symm
 have hE : Ow bX V rows' g3 := .inr (.inr ⟨r', List.mem_of_getElem? hr', by rw [h3]; rfl⟩)
 have hlt : ks.length < cs.sum := by
  have h1 := h.at_
  have h2 := qx8 hm
  omega
 have hxN : x.2 ≤ kn := by
  have hmem := List.mem_of_getElem? hx
  unfold ja5 at hmem
  simp only [List.mem_append, List.mem_map, List.mem_range] at hmem
  rcases hmem with ⟨q, hq, rfl⟩ | ⟨q, hq, rfl⟩ <;> (show q ≤ kn; omega)
 obtain ⟨zC, hrows2⟩ : ∃ zC, rows'.set i { r' with ops := r'.ops.set k (mkO x (ks.length + 1)) } = zC := ⟨_, rfl⟩
 have hO : Ow bX V zC = Ow bX V rows' := ja3 (by rw [← hrows2]; exact qO7 rows' hr' _ rfl)
 have heb := EB.Qb1 (hc.eb.below hb) (o := mkO x (ks.length + 1)) hr' h3 (by omega : k < r'.ops.length)
 rw [hrows2] at heb
 have hJ1 := hA.below hc.j hb hc.sep.lt
 have hF1 := hc.fr.trans (Fr.below (C := C') (E := Ow bX V rows') hb)
 refine ⟨zC, ⟨heb, ?_, ?_, ?_, h.n, ?_, h.le, ?_, ?_, ?_, ?_, ?_⟩, ?_⟩
 ·rw [hO]; exact (hc.sep.later hb.size).later (by simp)
 ·exact hA.store (hA.store (hA.store hJ1 _ _ (hc.sep.ap _ hE)) _ _ (hc.sep.ap _ hE)) _ _ (hc.sep.ap _ hE)
 ·rw [← hrows2]; exact hcar.step hr' (by omega) h.at_ x _ rfl
 ·rw [List.length_append, List.length_singleton, h.at_]; omega
 ·intro e; have := (List.getElem?_eq_some_iff.1 hm).1; omega
 ·intro m' hm'; rw [hm] at hm'; cases hm'; omega
 ·have := h.kn_
  rw [List.length_append, List.length_singleton]
  omega
 ·intro y hy
  refine h.ok y ?_
  rw [jz6 hlt, hK]
  exact List.mem_flatMap.2 ⟨x, List.mem_of_getElem? hx, by rw [← hK]; exact hy⟩
 ·have hp := h.qB5
  rw [qT2 hlt, hK] at hp
  have := RG.qB5 hx hp
  rw [← hK] at this
  rw [← hK]
  exact this
 ·rw [hO]; exact ((hF1.store _ _ hE).store _ _ hE).store _ _ hE
end
end Go.Proofs.Ytngkneknopenmaa.qf6
end
section
namespace Go.Proofs.Ytngkneknopenmaa.qf6
open Go Go.Lib Go.RowKit Go.Proofs.Ytngkneknopenmaa Go.Proofs.Ytngkneknopenmaa.zM Go.Proofs.Ytngkneknopenmaa.qa9 Go.Proofs.Ytngkneknopenmaa.qb8
section
variable {L : List (List T4)} {J : List (List T4) → (Nat → Prop) → World → Prop} {Jx : List (List T4) → World → Prop} {bX : Nat} {p : Par} {yv V : Value} {hd : List (Int × Int × Int)} {cs : List Nat}
theorem jS4 (a b : Nat) : ((max a (b + 1) : Nat) : Int) = max (a : Int) ((b : Int) + 1) := by omega
def zr5 (J : List (List T4) → (Nat → Prop) → World → Prop) (bX : Nat) (p : Par) (yv V : Value) (hd : List (Int × Int × Int)) (cs : List Nat) (ks : List (Bool × Nat)) (kn N : Nat) (pre : List (List T4)) (rows : List ER) (C : Nat → Prop) (W0 : World) (x : Value) (wr : World) : Prop :=
 ∃ (a : Nat) (C' : Nat → Prop) (V' : Value) (rows' : List ER), a ≤ 2 ∧ x = .int .i64 ((a : Nat) : Int) ∧ RG J bX p yv (zL7 hd cs V ks) C (Ow bX V rows) W0 (pre ++ ((ja5 N).take (a * N)).flatMap (qI1 hd cs p.K.toNat ks kn)) C' V' rows' wr
def zr6 (J : List (List T4) → (Nat → Prop) → World → Prop) (bX : Nat) (p : Par) (yv V : Value) (hd : List (Int × Int × Int)) (cs : List Nat) (ks : List (Bool × Nat)) (kn N : Nat) (pre : List (List T4)) (rows : List ER) (C : Nat → Prop) (W0 : World) (a : Nat) (x : Value) (wr : World) : Prop :=
 ∃ (b : Nat) (C' : Nat → Prop) (V' : Value) (rows' : List ER), b ≤ N ∧ x = .int .i64 ((b : Nat) : Int) ∧ RG J bX p yv (zL7 hd cs V ks) C (Ow bX V rows) W0 (pre ++ ((ja5 N).take (a * N + b)).flatMap (qI1 hd cs p.K.toNat ks kn)) C' V' rows' wr
set_option maxHeartbeats 2000000 in
set_option maxRecDepth 100000 in
theorem jH1 (hA : Abides J) (M : Nat) (ih : ∀ (i k : Nat) (ks : List (Bool × Nat)) (kn : Nat) (pre : List (List T4)) (C : Nat → Prop) (rows : List ER) (w : World), cs.length - i + (cs.sum - ks.length) < M → InK L J bX p yv V hd cs i k ks kn pre C rows w →
   Calls Try.prog 110 #[.pointer (some ⟨bX, 0, none⟩), .int .i64 (i : Int), .int .i64 (k : Int), .int .i64 (kn : Int)] w (qw5 J Jx bX p yv V hd cs ks kn pre C rows w))
  {i k : Nat} {ks : List (Bool × Nat)} {kn : Nat} {pre : List (List T4)} {C : Nat → Prop} {rows : List ER} {w : World} (hM : cs.length - i + (cs.sum - ks.length) < M + 1) (h : InK L J bX p yv V hd cs i k ks kn pre C rows w) {m : Nat} (hm : cs[i]? = some m) (hk : k < m) (hs : cs.length ≤ 1000) (hs2 : cs.sum ≤ 1000000) (hK : p.K = (p.K.toNat : Int)) :
  Calls Try.prog 110 #[.pointer (some ⟨bX, 0, none⟩), .int .i64 (i : Int), .int .i64 (k : Int), .int .i64 (kn : Int)] w (qw5 J Jx bX p yv V hd cs ks kn pre C rows w) := by
 have hi := (List.getElem?_eq_some_iff.1 hm).1
 obtain ⟨g, cap, r, A3, c3, m', hV, hcap, hr, h3, hro, hm', hmc, c4, c6, t3⟩ := h.cells hi
 obtain rfl : m = m' := Option.some.inj (hm.symm.trans hm')
 have c3' := h.eb.field 3
 simp only [Par.cells, List.getElem?_toArray, List.getElem?_cons_succ, List.getElem?_cons_zero] at c3'
 obtain ⟨K, hKK⟩ : ∃ K, p.K.toNat = K := ⟨_, rfl⟩
 rw [hKK] at hK
 rw [hK] at c3'
 obtain ⟨n, hn⟩ : ∃ n, cs.length = n := ⟨_, rfl⟩
 rw [hn] at hi hcap c4 c6 hs hV
 have hiz : (i : Int) < (n : Int) := by omega
 have hne : ((i : Int) == (n : Int)) = false := by simp; omega
 have hne2 : ((k : Int) == (m : Int)) = false := by simp; omega
 have hkz : (k : Int) < (m : Int) := by omega
 have hks : m ≤ 1000000 := by
  have := qx8 hm
  omega
 have hkn : kn ≤ 1000000 := by
  have h1 := h.kn_
  have h2 := h.at_
  have h3 := qx8 hm
  omega
 have hln := h.rows
 rw [hn] at hln
 obtain ⟨N, hN⟩ : ∃ N, min (kn + 1) K = N := ⟨_, rfl⟩
 have HNN := Lib.hid hN
 have hNz : min ((kn : Int) + 1) (K : Int) = (N : Int) := by rw [← hN]; omega
 have HNZ := Lib.hid hNz
 have hNle : N ≤ 1000001 := by omega
 clear hN hNz
 have HI := Lib.hid h
 have HIH := Lib.hid ih
 have HM := Lib.hid hM
 have HMI := Lib.hid hm
 have HV := Lib.hid hV
 have HN := Lib.hid hn
 have HLN := Lib.hid hln
 have HS2 := Lib.hid hs2
 have HA := Lib.hid hA
 have HK := Lib.hid hK
 have HKK := Lib.hid hKK
 clear h ih hM hm hm' hV hr h3 hro hn hln hs2 hA hK hKK
 go_enter Try.func110, Try.ntmps110
 go_wp2_with fail
 obtain ⟨W0, hW0⟩ : ∃ W0, w.alloc (.cells #[.bool false, .bool true] 4) = W0 := ⟨_, rfl⟩
 have hb0 : Below w.heap.size w W0 := by rw [← hW0]; exact (Below.refl _ _).alloc (Nat.le_refl _) _
 have hs0 : W0.heap.size = w.heap.size + 1 := by rw [← hW0]; simp
 have hbl : W0.heap[w.heap.size]? = some (.cells #[.bool false, .bool true] 4 (0, 0)) := by rw [← hW0]; exact World.alloc_heap_new w _
 rw [hW0]
 have HB0 := Lib.hid hb0
 have HS0 := Lib.hid hs0
 have HBL := Lib.hid hbl
 clear hW0 hb0 hs0 hbl
 go_loopw [38] (fun x wr => zr5 J bX p yv V hd cs ks kn N pre rows C W0 x wr) (fun x _ => 2 - (intOf x).toNat)
 case atStart => exact ⟨0, C, V, rows, by omega, rfl, HI.out.eb.below HB0.out, HI.out.sep.later HB0.out.size, by simpa using HA.out.below HI.out.j HB0.out HI.out.sep.lt, Fr.refl _ _ _, rfl, HI.out.car⟩
 case round =>
  obtain ⟨a, C1, V1, qK4, ha, rfl, hRG⟩ := hrel
  have hblk : wr.heap[w.heap.size]? = some (.cells #[.bool false, .bool true] 4 (0, 0)) := (hRG.fr.keep _ (by rw [HS0.out]; omega) (fun hc => by have := HI.out.sep.lt _ hc; omega) (fun ho => by have := (HI.out.eb.lt _ ho).2; omega)).trans HBL.out
  have k3 := hRG.eb.field 3
  simp only [Par.cells, List.getElem?_toArray, List.getElem?_cons_succ, List.getElem?_cons_zero] at k3
  rw [HK.out] at k3
  have HRG := Lib.hid hRG
  clear hRG
  by_cases hlt : a < 2
  ·have hltz : (a : Int) < 2 := by omega
   obtain ⟨wv, hwv⟩ : ∃ wv, decide (a = 1) = wv := ⟨_, rfl⟩
   have hcb : wr.cell? ⟨w.heap.size, a, none⟩ = some (.bool wv) := by
    rw [Lib.cell_of_heap hblk, ← hwv]
    rcases (show a = 0 ∨ a = 1 by omega) with rfl | rfl <;> rfl
   have HWV := Lib.hid hwv
   clear hwv hblk
   go_wp2_with fail
   rw [HNZ.out]
   go_loopw [50] (fun x wr => zr6 J bX p yv V hd cs ks kn N pre rows C W0 a x wr) (fun x _ => N - (intOf x).toNat)
   case atStart => exact ⟨0, C1, V1, qK4, Nat.zero_le _, rfl, HRG.out⟩
   case round =>
    clear k3 hcb
    obtain ⟨b, C2, V2, zC, hb, rfl, jp6⟩ := hrel
    obtain rfl : V2 = V := jp6.car.1
    have hcar := jp6.car.2
    have k6 := jp6.eb.field 6
    have hl2 : zC.length = n := by
     have := congrArg List.length hcar.len
     unfold lens at this
     rw [List.length_map, HN.out] at this
     exact this
    obtain ⟨r2, hr2⟩ : ∃ r, zC[i]? = some r := ⟨_, List.getElem?_eq_getElem (by omega)⟩
    have zL9 : r2.ops.length = m := by
     have e1 : (lens zC)[i]? = some r2.ops.length := by unfold lens; rw [List.getElem?_map, hr2]; rfl
     rw [hcar.len, HMI.out] at e1
     exact (Option.some.inj e1).symm
    obtain ⟨g3, c3, h3, hc3⟩ := jp6.eb.jR7 (List.mem_of_getElem? hr2) (by omega)
    have hcm3 : c3 ≤ 9223372036854775807 := by
     obtain ⟨_, c', e, _, hcm⟩ := jp6.eb.qM8 (List.mem_of_getElem? hr2)
     have : c3 = c' := by rw [e] at h3; injection h3 with _ _ e3; exact e3.symm
     unfold maxLen at hcm
     omega
    have hV' : V2 = .slice (some ⟨g, 0, none⟩) zC.length cap := by rw [hl2]; exact HV.out
    have k7 := jp6.eb.qo7 hV' hr2 (j := 3) (by omega)
    simp only [Par.cells, ER.cells, List.getElem?_toArray, List.getElem?_cons_succ, List.getElem?_cons_zero] at k6 k7
    obtain ⟨o, ho⟩ : ∃ o, r2.ops[k]? = some o := ⟨_, List.getElem?_eq_getElem (by omega)⟩
    obtain ⟨x0, x1, x2⟩ := jp6.eb.jz5 (List.mem_of_getElem? hr2) h3 ho
    have f0 := jp6.eb.zU5 (List.mem_of_getElem? hr2) h3
    rw [HV.out] at k6
    rw [h3, zL9] at k7
    rw [zL9] at hc3
    have PC : Calls Try.prog 113 #[.pointer (some ⟨bX, 0, none⟩), .int .i64 i, .int .i64 k] wr.drew fun e w' => e = .returned (.int .i64 ((ks.length + 1 : Nat) : Int)) ∧ Below wr.heap.size wr w' := by
     have hle := jG8 cs cs.length
     have := jR8 (w := wr.drew) (jp6.eb.same (fun _ _ => rfl)) i k (by omega) (by rw [hcar.len]; exact HS2.out) (by omega) (by omega)
     rw [hcar.len, ← HI.out.at_] at this
     exact this.mono fun e w' ⟨he, hb⟩ => ⟨he, ((Below.refl _ _).drew).trans hb⟩
    have HPC := Lib.hid PC
    have HRG2 := Lib.hid jp6
    have HCAR := Lib.hid hcar
    have HR2 := Lib.hid hr2
    have HR2L := Lib.hid zL9
    have H3 := Lib.hid h3
    have HO := Lib.hid ho
    have HV2 := Lib.hid hV'
    have F0 := Lib.hid f0
    clear PC jp6 hcar hr2 zL9 h3 ho hV' hl2 f0
    by_cases hlt2 : b < N
    ·have zU7 : (b : Int) < (N : Int) := by omega
     go_wp2_with fail
     go_region_with (go_at_call 113; (with_reducible refine (HPC.out).mono ?_); rintro e w1 ⟨rfl, hb1⟩; have y6 := cell_below hb1 k6; have y7 := cell_below hb1 k7; have y0 := cell_below hb1 x0; have y1 := cell_below hb1 x1; have y2 := cell_below hb1 x2; have z0 : w1.frozen? ⟨g3, k * 3, none⟩ = false := (hb1.frozen (p := ⟨g3, k * 3, none⟩) (World.block_lt_of_cell? wr _ x0)).trans (F0.out _); have z1 : w1.frozen? ⟨g3, k * 3 + 1, none⟩ = false := (hb1.frozen (p := ⟨g3, k * 3 + 1, none⟩) (World.block_lt_of_cell? wr _ x1)).trans (F0.out _); have z2 : w1.frozen? ⟨g3, k * 3 + 2, none⟩ = false := (hb1.frozen (p := ⟨g3, k * 3 + 2, none⟩) (World.block_lt_of_cell? wr _ x2)).trans (F0.out _); have HB1 := Lib.hid hb1; clear hb1)
     all_goals
      have hx : (ja5 (min (kn + 1) K))[a * N + b]? = some (wv, b) := by rw [HNN.out, ← HWV.out]; exact zL6 hlt hlt2
      have hrg2 := HRG2.out
      rw [← HNN.out] at hrg2
      obtain ⟨qy2, hI3, hf3⟩ := RG.zL8 HI.out HA.out HMI.out hk HKK.out hx (by rw [HNN.out] at hrg2 ⊢; exact hrg2) HR2.out H3.out HB1.out
      dsimp only at hI3 hf3
      have hlt3 := qx8 HMI.out
      have hacc := HI.out.at_
      have hih := (HIH.out i (k + 1) (ks ++ [(wv, b)]) (max kn (b + 1)) _ C2 qy2 _ (by rw [List.length_append, List.length_singleton]; have := HM.out; omega) hI3).mono (R' := fun e w' => ∃ bb, e = .returned (.bool bb) ∧ qw5 J Jx bX p yv V2 hd cs (ks ++ [(wv, b)]) (max kn (b + 1)) (pre ++ ((ja5 (min (kn + 1) K)).take (a * N + b)).flatMap (qI1 hd cs p.K.toNat ks kn)) C2 qy2 _ (.returned (.bool bb)) w') (fun e w' hq => by obtain ⟨bb, rfl⟩ := hq.bool; exact ⟨bb, rfl, hq⟩)
      rw [qk4, jS4] at hih
      have IH := Lib.hid hih
      have HX := Lib.hid hx
      have HF3 := Lib.hid hf3
      clear hih hI3 hx hf3 hrg2 hlt3 hacc
      go_wp2_with (go_at_call 110; (with_reducible refine (IH.out).mono ?_); rintro e w5 ⟨bb, rfl, hp⟩; have HP := Lib.hid hp; clear hp; cases bb)
      ·go_ret
       unfold qw5
       rw [qT2 (by have h1 := HI.out.at_; have h2 := qx8 HMI.out; omega), HKK.out]
       have hp := HP.out
       unfold qw5 at hp
       rw [HKK.out] at hp
       exact RG.stop (f := qI1 hd cs K ks kn) HX.out hp
      ·have hp := HP.out
       unfold qw5 at hp
       obtain ⟨C3, V3, ja6, hR3⟩ := RG.after (f := qI1 hd cs p.K.toNat ks kn) (car := zL7 hd cs V2 ks) HX.out HF3.out (fun V' rows' hc => ⟨hc.1, hc.2.back⟩) hp
       rw [HNN.out, Nat.add_assoc] at hR3
       exact ⟨⟨b + 1, C3, V3, ja6, by omega, by go_num, hR3⟩, by simp only [intOf]; omega⟩
    ·obtain rfl : b = N := by omega
     go_wp2_with fail
     go_roundw
     case rel => exact ⟨a + 1, C2, V2, zC, by omega, by go_num, by rw [show (a + 1) * b = a * b + b by rw [Nat.succ_mul]]; exact HRG2.out⟩
     case measure => (simp only [intOf]; omega)
  ·obtain rfl : a = 2 := by omega
   go_wp2_with fail
   go_ret
   unfold qw5
   rw [qT2 (by have h1 := HI.out.at_; have h2 := qx8 HMI.out; omega), HKK.out, HNN.out]
   have hrg := HRG.out
   rw [HKK.out] at hrg
   refine RG.done (f := qI1 hd cs K ks kn) (c := 2 * N) ?_ (Fr.below HB0.out) hrg
   unfold ja5
   simp
   omega
theorem jh5 (hY : qp4 yv L J Jx) (hA : Abides J) (hX : qp3 Jx) (hs : cs.length ≤ 1000) (hs2 : cs.sum ≤ 1000000) (hK : cs.length = 0 ∨ p.K = (p.K.toNat : Int)) : ∀ (M i k : Nat) (ks : List (Bool × Nat)) (kn : Nat) (pre : List (List T4)) (C : Nat → Prop) (rows : List ER) (w : World), cs.length - i + (cs.sum - ks.length) < M → InK L J bX p yv V hd cs i k ks kn pre C rows w →
  Calls Try.prog 110 #[.pointer (some ⟨bX, 0, none⟩), .int .i64 (i : Int), .int .i64 (k : Int), .int .i64 (kn : Int)] w (qw5 J Jx bX p yv V hd cs ks kn pre C rows w)
 | 0, _, _, _, _, _, _, _, _, hM, _ => absurd hM (Nat.not_lt_zero _)
 | M + 1, i, k, ks, kn, pre, C, rows, w, hM, h => by
  have ih := jh5 hY hA hX hs hs2 hK M
  by_cases hi : i = cs.length
  ·exact zo4 hY hA hX hs hs2 h hi
  ·have hil : i < cs.length := by have := h.le; omega
   obtain ⟨m, hm⟩ : ∃ m, cs[i]? = some m := ⟨_, List.getElem?_eq_getElem hil⟩
   have hkm := h.in_ m hm
   by_cases hk : k = m
   ·exact zb1 M ih hM h hm hk hs hs2
   ·exact jH1 hA M ih hM h hm (by omega) hs hs2 (by rcases hK with h0 | h0; omega; exact h0)
end
end Go.Proofs.Ytngkneknopenmaa.qf6
end
section
namespace Go.Proofs.Ytngkneknopenmaa.qf6
open Go Go.Lib Go.RowKit Go.Proofs.Ytngkneknopenmaa Go.Proofs.Ytngkneknopenmaa.zM Go.Proofs.Ytngkneknopenmaa.qa9 Go.Proofs.Ytngkneknopenmaa.qb8
def qT3 (hd : List (Int × Int × Int)) (n K left : Nat) (cs : List Nat) : List (List T4) := (qv3 (n - cs.length) left cs).flatMap fun z => jf8 hd z K [] 0
theorem jS5 : ∀ k : Nat, (madeCells (Value.agg #[.bool false, .int .i64 0, .int .i64 0]).cells (k * 3)).toList = flat (List.replicate k ja0)
 | 0 => by simp [madeCells, flat]
 | k + 1 => by
  have ih := jS5 k
  have e : (madeCells (Value.agg #[.bool false, .int .i64 0, .int .i64 0]).cells ((k + 1) * 3)).toList = (madeCells (Value.agg #[.bool false, .int .i64 0, .int .i64 0]).cells (k * 3)).toList ++ [.bool false, .int .i64 0, .int .i64 0] := by
   unfold madeCells
   have hr : List.range ((k + 1) * 3) = List.range (k * 3) ++ [k * 3, k * 3 + 1, k * 3 + 2] := by
    rw [show (k + 1) * 3 = k * 3 + 1 + 1 + 1 by omega, List.range_succ, List.range_succ, List.range_succ]
    simp
   simp only [Array.toList_map, Array.toList_range]
   rw [hr, List.map_append]
   congr 1
   have hz : (Value.agg #[.bool false, .int .i64 0, .int .i64 0]).cells = #[.bool false, .int .i64 0, .int .i64 0] := rfl
   rw [hz]
   simp only [List.map_cons, List.map_nil, List.size_toArray, List.length_cons, List.length_nil]
   rw [show k * 3 % (0 + 1 + 1 + 1) = 0 by omega, show (k * 3 + 1) % (0 + 1 + 1 + 1) = 1 by omega, show (k * 3 + 2) % (0 + 1 + 1 + 1) = 2 by omega]
   rfl
  rw [e, ih, List.replicate_succ']
  unfold flat
  rw [List.flatMap_append]
  rfl
theorem jf9 {w : World} {base base' : Nat} {e : TypeId} {size : Nat} {v : Value} {n : Nat} {xs : List Value} (h : w.ownsRow base e size v n xs) (hb : base' ≤ base) : w.ownsRow base' e size v n xs :=
 ⟨h.1, h.2.elim Or.inl (fun ⟨g, cap, cur, hv, hg, r⟩ => Or.inr ⟨g, cap, cur, hv, Nat.le_trans hb hg, r⟩)⟩
section
variable {L : List (List T4)} {J : List (List T4) → (Nat → Prop) → World → Prop} {Jx : List (List T4) → World → Prop} {bX : Nat} {p : Par} {yv V : Value} {hd : List (Int × Int × Int)}
structure InC (L : List (List T4)) (J : List (List T4) → (Nat → Prop) → World → Prop) (bX : Nat) (p : Par) (yv V : Value) (hd : List (Int × Int × Int)) (n left : Nat) (cs : List Nat) (pre : List (List T4)) (C : Nat → Prop) (rows : List ER) (w : World) : Prop where
 eb : EB w bX p yv V rows
 sep : Sep C (Ow bX V rows) w
 j : J pre C w
 car : qZ9 hd cs rows
 pn : p.n = (n : Int)
 rl : rows.length = n
 le : cs.length ≤ n
 tot : cs.sum + left ≤ 1000000
 ok : ∀ h ∈ qT3 hd n p.K.toNat left cs, zT h = 0
 qB5 : (pre ++ (qT3 hd n p.K.toNat left cs).map zU) <+: L
def zz5 (hd : List (Int × Int × Int)) (cs : List Nat) (V : Value) (n : Nat) : Value → List ER → Prop := fun V' rows' => V' = V ∧ rows'.length = n ∧ qZ9 hd cs rows'
def qy3 (J : List (List T4) → (Nat → Prop) → World → Prop) (Jx : List (List T4) → World → Prop) (bX : Nat) (p : Par) (yv V : Value) (hd : List (Int × Int × Int)) (n left : Nat) (cs : List Nat) (pre : List (List T4)) (C : Nat → Prop) (rows : List ER) (w : World) : Ending → World → Prop :=
 qF1 J Jx pre ((qT3 hd n p.K.toNat left cs).map zU) C (Ow bX V rows) w (GG bX p yv (zz5 hd cs V n))
theorem qT0.toC {cs ks} {rows : List ER} (h : qT0 hd cs ks rows) : qZ9 hd cs rows := ⟨h.hds, by rw [h.len, List.take_length]⟩
set_option maxHeartbeats 1000000 in
set_option maxRecDepth 100000 in
theorem zb2 (hY : qp4 yv L J Jx) (hA : Abides J) (hX : qp3 Jx) {n left : Nat} (hs : n ≤ 1000) (hK : n = 0 ∨ p.K = (p.K.toNat : Int)) {cs : List Nat} {pre : List (List T4)} {C : Nat → Prop} {rows : List ER} {w : World} (h : InC L J bX p yv V hd n left cs pre C rows w) (hi : cs.length = n) :
  Calls Try.prog 107 #[.pointer (some ⟨bX, 0, none⟩), .int .i64 (cs.length : Int), .int .i64 (left : Int)] w (qy3 J Jx bX p yv V hd n left cs pre C rows w) := by
 have c4 := h.eb.field 4
 simp only [Par.cells, List.getElem?_toArray, List.getElem?_cons_succ, List.getElem?_cons_zero] at c4
 rw [h.pn] at c4
 have htot := h.tot
 have hln : left ≤ 1000000 := by omega
 by_cases h0 : 0 < left
 ·have hraw : qT3 hd n p.K.toNat left cs = [] := by
   unfold qT3
   rw [hi, Nat.sub_self, qv3, if_pos h0]
   rfl
  have hpost : qy3 J Jx bX p yv V hd n left cs pre C rows w (.returned (.bool true)) w := by
   unfold qy3
   rw [hraw]
   exact .inl ⟨rfl, C, _, by simpa using h.j, h.sep, Fr.refl _ _ _, V, rows, rfl, h.eb, rfl, h.rl, h.car⟩
  have HP := Lib.hid hpost
  obtain ⟨Q, hQ⟩ : ∃ Q, qy3 J Jx bX p yv V hd n left cs pre C rows w = Q := ⟨_, rfl⟩
  rw [hQ] at HP ⊢
  have h0z : (0 : Int) < (left : Int) := by omega
  have h0d : decide ((0 : Int) < (left : Int)) = true := decide_eq_true h0z
  have h0n : decide (0 < left) = true := decide_eq_true h0
  clear hpost hraw hQ h hK htot
  subst hi
  obtain ⟨i, hi⟩ : ∃ i, cs.length = i := ⟨_, rfl⟩
  rw [hi] at c4 hs ⊢
  clear hi
  go_enter Try.func107, Try.ntmps107
  go_wp2_with fail
  exact HP.out
 ·obtain rfl : left = 0 := by omega
  have hraw : qT3 hd n p.K.toNat 0 cs = jf8 hd cs p.K.toNat [] 0 := by
   unfold qT3
   rw [hi, Nat.sub_self, qv3, if_neg h0]
   simp
  have hok := h.ok
  have hpre := h.qB5
  rw [hraw] at hok hpre
  have hin : InK L J bX p yv V hd cs 0 0 [] 0 pre C rows w := ⟨h.eb, h.sep, h.j, h.car.leaf (by rw [h.rl, hi]), by rw [h.pn, hi], by rw [qM7]; rfl, Nat.zero_le _, fun _ => rfl, fun _ _ => Nat.zero_le _, Nat.le_refl _, hok, hpre⟩
  have hih := (jh5 hY hA hX (by omega) (by omega) (by rw [hi]; exact hK) _ 0 0 [] 0 pre C rows w (Nat.lt_succ_self _) hin).mono (R' := fun e w' => ∃ b, e = .returned (.bool b) ∧ qy3 J Jx bX p yv V hd n 0 cs pre C rows w (.returned (.bool b)) w') (fun e w' hq => by
   obtain ⟨b, rfl⟩ := hq.bool
   refine ⟨b, rfl, ?_⟩
   unfold qy3
   rw [hraw]
   unfold qw5 at hq
   exact hq.imp (fun C' E' w' ⟨V', rows', e1, e2, e3, e4⟩ => ⟨V', rows', e1, e2, e3, by
    have := congrArg List.length e4.len
    unfold lens at this
    rw [List.length_map] at this
    rw [this, hi], e4.toC⟩))
  rw [qO6] at hih ⊢
  obtain ⟨Q, hQ⟩ : ∃ Q, qy3 J Jx bX p yv V hd n 0 cs pre C rows w = Q := ⟨_, rfl⟩
  rw [hQ] at hih ⊢
  have IH := Lib.hid hih
  clear hih hin hraw hok hpre hQ h hK htot
  subst hi
  obtain ⟨i, hi⟩ : ∃ i, cs.length = i := ⟨_, rfl⟩
  rw [hi] at c4 hs ⊢
  clear hi
  go_enter Try.func107, Try.ntmps107
  go_wp2_with (go_at_call 110; (with_reducible refine (IH.out).mono ?_); rintro e w' ⟨b, rfl, hq⟩; have HQ := Lib.hid hq; clear hq)
  exact HQ.out
def jw6 (m : Nat) (left : Nat) : List Nat := List.range (left - m)
def qM9 (hd : List (Int × Int × Int)) (n K left : Nat) (cs : List Nat) (k : Nat) : List (List T4) := (qT3 hd n K (left - (k + 1)) (cs ++ [k + 1])).map zU
theorem jp7 {n K left : Nat} {cs : List Nat} (h : cs.length < n) : qT3 hd n K left cs = (jw6 (n - cs.length - 1) left).flatMap fun k => qT3 hd n K (left - (k + 1)) (cs ++ [k + 1]) := by
 unfold qT3 jw6
 rw [show n - cs.length = (n - cs.length - 1) + 1 by omega, qv3, List.flatMap_assoc]
 simp only [List.length_append, List.length_singleton, Nat.add_sub_cancel, Nat.sub_sub]
theorem qN0 {n K left : Nat} {cs : List Nat} (h : cs.length < n) : (qT3 hd n K left cs).map zU = (jw6 (n - cs.length - 1) left).flatMap (qM9 hd n K left cs) := by
 rw [jp7 h, List.map_flatMap]
 rfl
theorem jk9 {m left c : Nat} (h : c < left - m) : (jw6 m left)[c]? = some c := by unfold jw6; simp [h]
def Qn1 (J : List (List T4) → (Nat → Prop) → World → Prop) (bX : Nat) (p : Par) (yv V : Value) (hd : List (Int × Int × Int)) (n left : Nat) (cs : List Nat) (pre : List (List T4)) (rows : List ER) (C : Nat → Prop) (w : World) (x : Value) (wr : World) : Prop :=
 ∃ (c : Nat) (C' : Nat → Prop) (V' : Value) (rows' : List ER), c ≤ left - (n - cs.length - 1) ∧ x = .int .i64 ((c : Nat) + 1 : Int) ∧ RG J bX p yv (zz5 hd cs V n) C (Ow bX V rows) w (pre ++ ((jw6 (n - cs.length - 1) left).take c).flatMap (qM9 hd n p.K.toNat left cs)) C' V' rows' wr
theorem RG.zM0 {n left : Nat} {cs : List Nat} {pre : List (List T4)} {C : Nat → Prop} {rows : List ER} {w W W1 : World} (h : InC L J bX p yv V hd n left cs pre C rows w) (hA : Abides J) (hi : cs.length < n) {c : Nat} (hc0 : c < left - (n - cs.length - 1))
  {C' : Nat → Prop} {V' : Value} {rows' : List ER} (hc : RG J bX p yv (zz5 hd cs V n) C (Ow bX V rows) w (pre ++ ((jw6 (n - cs.length - 1) left).take c).flatMap (qM9 hd n p.K.toNat left cs)) C' V' rows' W) {g cap : Nat} (hV : V = .slice (some ⟨g, 0, none⟩) n cap) {v2 : Value} (hb : Below W.heap.size W W1)
  (hown : W1.ownsRow W.heap.size 51 3 v2 (c + 1) (flat (List.replicate (c + 1) ja0))) :
  ∃ zC, InC L J bX p yv V hd n (left - (c + 1)) (cs ++ [c + 1]) (pre ++ ((jw6 (n - cs.length - 1) left).take c).flatMap (qM9 hd n p.K.toNat left cs)) C' zC (W1.setCell ⟨g, cs.length * 4 + 3, none⟩ v2) ∧ Fr C (Ow bX V rows) w C' (Ow bX V zC) (W1.setCell ⟨g, cs.length * 4 + 3, none⟩ v2) := by
 obtain ⟨rfl, hrl, hcar⟩ := hc.car
 obtain ⟨r', hr'⟩ : ∃ r, rows'[cs.length]? = some r := ⟨_, List.getElem?_eq_getElem (by omega)⟩
 have zo5 := hc.eb.below hb
 have hnot : ∀ b, v2.ownBlock = some b → ¬ Ow bX V' rows' b := fun b hb2 ho => by
  have h1 := (hown.lt b hb2).1
  have h2 := (hc.eb.lt b ho).2
  omega
 have hown2 : W1.ownsRow (bX + 1) 51 3 v2 (List.replicate (c + 1) ja0).length (flat (List.replicate (c + 1) ja0)) := by
  rw [List.length_replicate]
  exact jf9 hown (by have := (hc.eb.lt bX (.inl rfl)).2; omega)
 obtain ⟨zC, hrows2⟩ : ∃ zC, rows'.set cs.length { r' with v := v2, ops := List.replicate (c + 1) ja0 } = zC := ⟨_, rfl⟩
 have qT4 := zo5.Qa9 (by rw [hrl]; exact hV) hr' hown2 hnot
 rw [hrows2] at qT4
 have hgO : Ow bX V' rows' g := .inr (.inl (by rw [hV]; rfl))
 have hO : ∀ b, Ow bX V' zC b → Ow bX V' rows' b ∨ W.heap.size ≤ b := by
  rintro b (hb2 | hb2 | ⟨x, hx, hb2⟩)
  ·exact .inl (.inl hb2)
  ·exact .inl (.inr (.inl hb2))
  ·rw [← hrows2] at hx
   rcases mem_set hx with rfl | ⟨j, _, hj⟩
   ·exact .inr (hown.lt b hb2).1
   ·exact .inl (.inr (.inr ⟨x, List.mem_of_getElem? hj, hb2⟩))
 have hJ1 := hA.below hc.j hb hc.sep.lt
 have htot := h.tot
 refine ⟨zC, ⟨qT4, ⟨fun b hb2 => by have := hc.sep.lt b hb2; have := hb.size; simp; omega, fun b ho hc2 => ?_⟩, hA.store hJ1 _ _ (hc.sep.ap _ hgO), ?_, h.pn, by rw [← hrows2, List.length_set]; exact hrl, by rw [List.length_append, List.length_singleton]; omega, ?_, ?_, ?_⟩, ?_⟩
 ·rcases hO b ho with ho | ho
  ·exact hc.sep.ap b ho hc2
  ·have := hc.sep.lt b hc2; omega
 ·rw [← hrows2]; exact hcar.step hr' (c + 1) v2
 ·rw [List.sum_append_nat]; simp; omega
 ·intro y hy
  refine h.ok y ?_
  rw [jp7 hi]
  exact List.mem_flatMap.2 ⟨c, List.mem_of_getElem? (jk9 hc0), hy⟩
 ·have hp := h.qB5
  rw [qN0 hi] at hp
  exact RG.qB5 (jk9 hc0) hp
 ·refine hc.fr.trans ⟨hb.os, hb.tape, hb.output, by have := hb.size; simpa using this, fun b hb2 _ ho => ?_, fun _ _ h => h, fun b hb2 ho => ?_⟩
  ·rw [qa4 _ _ _ (fun e => ho (by rw [e]; exact hgO))]; exact hb.block b hb2
  ·rcases hO b ho with ho | ho
   ·exact ho
   ·omega
theorem zM1 : (Try.prog.info? 51).map (fun i => (i.zero, i.size, i.bytes)) = some (some (.agg #[.bool false, .int .i64 0, .int .i64 0]), 3, 24) := by kernel_rfl
set_option maxHeartbeats 1000000 in
set_option maxRecDepth 100000 in
theorem jw7 (hA : Abides J) {n : Nat} (hs : n ≤ 1000) (M : Nat) (ih : ∀ (left : Nat) (cs : List Nat) (pre : List (List T4)) (C : Nat → Prop) (rows : List ER) (w : World), n - cs.length < M → InC L J bX p yv V hd n left cs pre C rows w →
   Calls Try.prog 107 #[.pointer (some ⟨bX, 0, none⟩), .int .i64 (cs.length : Int), .int .i64 (left : Int)] w (qy3 J Jx bX p yv V hd n left cs pre C rows w))
  {left : Nat} {cs : List Nat} {pre : List (List T4)} {C : Nat → Prop} {rows : List ER} {w : World} (hM : n - cs.length < M + 1) (h : InC L J bX p yv V hd n left cs pre C rows w) (hi : cs.length < n) :
  Calls Try.prog 107 #[.pointer (some ⟨bX, 0, none⟩), .int .i64 (cs.length : Int), .int .i64 (left : Int)] w (qy3 J Jx bX p yv V hd n left cs pre C rows w) := by
 have c4 := h.eb.field 4
 simp only [Par.cells, List.getElem?_toArray, List.getElem?_cons_succ, List.getElem?_cons_zero] at c4
 rw [h.pn] at c4
 have htot := h.tot
 have hln : left ≤ 1000000 := by omega
 obtain ⟨g, cap, hV, hcap⟩ := h.eb.form (by rw [h.rl]; omega)
 rw [h.rl] at hV hcap
 have hcm : cap ≤ 9223372036854775807 := by
  obtain ⟨_, cap', e, _, hcm⟩ := h.eb.slice
  have : cap = cap' := by rw [e] at hV; injection hV with _ _ e3; exact e3.symm
  unfold maxLen at hcm
  omega
 obtain ⟨i0, hii, hz0, hz1, hz2⟩ := info_parts zM1
 obtain ⟨i, hil⟩ : ∃ i, cs.length = i := ⟨_, rfl⟩
 have HIL := Lib.hid hil
 have hin : i < n := by omega
 have hiz : (i : Int) < (n : Int) := by omega
 have hne : ((i : Int) == (n : Int)) = false := by simp; omega
 have HI := Lib.hid h
 have HIH := Lib.hid ih
 have HM := Lib.hid hM
 have HV := Lib.hid hV
 have HA := Lib.hid hA
 have HZ2 := Lib.hid hz2
 rw [hil]
 clear h ih hM hV hA hi hil htot
 go_enter Try.func107, Try.ntmps107
 go_wp2_with fail
 go_loopw [7] (fun x wr => Qn1 J bX p yv V hd n left cs pre rows C w x wr) (fun x _ => left + 1 - (intOf x).toNat)
 case atStart => exact ⟨0, C, V, rows, Nat.zero_le _, rfl, HI.out.eb, HI.out.sep, by simpa using HI.out.j, Fr.refl _ _ _, rfl, HI.out.rl, HI.out.car⟩
 case round =>
  obtain ⟨c, C1, V1, qK4, hc, rfl, hRG⟩ := hrel
  obtain rfl : V1 = V := hRG.car.1
  have k4 := hRG.eb.field 4
  have k6 := hRG.eb.field 6
  simp only [Par.cells, List.getElem?_toArray, List.getElem?_cons_succ, List.getElem?_cons_zero] at k4 k6
  rw [HI.out.pn] at k4
  rw [HV.out] at k6
  have hrl := hRG.car.2.1
  obtain ⟨r1, hr1⟩ : ∃ r, qK4[i]? = some r := ⟨_, List.getElem?_eq_getElem (by omega)⟩
  have k7 := hRG.eb.qo7 (by rw [hrl]; exact HV.out) hr1 (j := 3) (by omega)
  have f7 := hRG.eb.zz2 (by rw [hrl]; exact HV.out) (i * 4 + 3)
  simp only [ER.cells, List.getElem?_cons_succ, List.getElem?_cons_zero] at k7
  have HRG := Lib.hid hRG
  have HR1 := Lib.hid hr1
  rw [HIL.out] at hc
  clear hRG hr1 hrl
  by_cases hlt : c < left - (n - i - 1)
  ·have hcz : (c : Int) + 1 ≤ (left : Int) - ((n : Int) - (i : Int) - 1) := by omega
   have hcn : c + 1 ≤ 1000000 := by omega
   obtain ⟨W1, hrun, hown, hgr⟩ := run_makeSlice_full (P := Try.prog) (w := wr.drew) wr.heap.size 53 51 i0 (.agg #[.bool false, .int .i64 0, .int .i64 0]) 3 Try.underlying53 hii hz0 hz1 .i64 .i64 (c + 1) (by omega) (by rw [hz2]; omega) (by unfold maxLen; omega) (Nat.le_refl _)
   rw [qk4] at hrun
   have hb1 : Below wr.heap.size wr W1 := ⟨hgr.os, hgr.tape, hgr.output, hgr.size, fun b hb => hgr.block b hb (by simp)⟩
   rw [jS5] at hown
   change W1.ownsRow wr.heap.size 51 3 (.slice (some ⟨wr.heap.size, 0, none⟩) (c + 1) (c + 1)) (c + 1) (flat (List.replicate (c + 1) ja0)) at hown
   have y6 := cell_below hb1 k6
   have y7 := cell_below hb1 k7
   have z7 : W1.frozen? ⟨g, i * 4 + 3, none⟩ = false := (hb1.frozen (p := ⟨g, i * 4 + 3, none⟩) (World.block_lt_of_cell? wr _ k7)).trans f7
   have HB1 := Lib.hid hb1
   have HOWN := Lib.hid hown
   clear hb1 hown hgr
   go_wp2_with fail
   go_region
   have hci : c < left - (n - cs.length - 1) := by rw [HIL.out]; exact hlt
   obtain ⟨zC, hI2, hf2⟩ := RG.zM0 HI.out HA.out (by rw [HIL.out]; exact hin) hci HRG.out HV.out HB1.out HOWN.out
   rw [HIL.out] at hI2 hf2
   have hih := (HIH.out (left - (c + 1)) (cs ++ [c + 1]) _ C1 zC _ (by rw [List.length_append, List.length_singleton]; have := HM.out; have := HIL.out; omega) hI2).mono (R' := fun e w' => ∃ bb, e = .returned (.bool bb) ∧ qy3 J Jx bX p yv V1 hd n (left - (c + 1)) (cs ++ [c + 1]) (pre ++ ((jw6 (n - cs.length - 1) left).take c).flatMap (qM9 hd n p.K.toNat left cs)) C1 zC _ (.returned (.bool bb)) w') (fun e w' hq => by obtain ⟨bb, rfl⟩ := hq.bool; exact ⟨bb, rfl, by rw [HIL.out]; exact hq⟩)
   rw [List.length_append, List.length_singleton, HIL.out, qk4, show ((left - (c + 1) : Nat) : Int) = (left : Int) - ((c : Int) + 1) by omega] at hih
   have IH := Lib.hid hih
   have HF2 := Lib.hid hf2
   have HCI := Lib.hid hci
   clear hih hI2 hf2 hci
   go_wp2_with (go_at_call 107; (with_reducible refine (IH.out).mono ?_); rintro e w5 ⟨bb, rfl, hp⟩; have HP := Lib.hid hp; clear hp; cases bb)
   ·go_ret
    unfold qy3
    rw [qN0 (by rw [HIL.out]; exact hin)]
    have hp := HP.out
    unfold qy3 at hp
    have e := HIL.out
    subst e
    exact RG.stop (f := qM9 hd n p.K.toNat left cs) (jk9 HCI.out) hp
   ·have hp := HP.out
    unfold qy3 at hp
    have hf2 := HF2.out
    rw [← HIL.out] at hp hf2
    obtain ⟨C3, V3, ja6, hR3⟩ := RG.after (f := qM9 hd n p.K.toNat left cs) (car := zz5 hd cs V1 n) (zo3 := zz5 hd (cs ++ [c + 1]) V1 n) (jk9 HCI.out) hf2 (fun V' rows' hc => ⟨hc.1, hc.2.1, hc.2.2.back⟩) hp
    have := HCI.out
    go_wp2_with fail
    go_roundw
    case rel => exact ⟨c + 1, C3, V3, ja6, by omega, by go_num, hR3⟩
    case measure => (simp only [intOf]; omega)
  ·go_wp2_with fail
   go_ret
   unfold qy3
   rw [qN0 (by rw [HIL.out]; exact hin)]
   refine RG.done (f := qM9 hd n p.K.toNat left cs) (c := c) ?_ (Fr.refl _ _ _) HRG.out
   unfold jw6
   have := HIL.out
   simp
   omega
theorem ja7 (hY : qp4 yv L J Jx) (hA : Abides J) (hX : qp3 Jx) {n : Nat} (hs : n ≤ 1000) (hK : n = 0 ∨ p.K = (p.K.toNat : Int)) : ∀ (M left : Nat) (cs : List Nat) (pre : List (List T4)) (C : Nat → Prop) (rows : List ER) (w : World), n - cs.length < M → InC L J bX p yv V hd n left cs pre C rows w →
  Calls Try.prog 107 #[.pointer (some ⟨bX, 0, none⟩), .int .i64 (cs.length : Int), .int .i64 (left : Int)] w (qy3 J Jx bX p yv V hd n left cs pre C rows w)
 | 0, _, _, _, _, _, _, hM, _ => absurd hM (Nat.not_lt_zero _)
 | M + 1, left, cs, pre, C, rows, w, hM, h => by
  have ih := ja7 hY hA hX hs hK M
  by_cases hi : cs.length = n
  ·exact zb2 hY hA hX hs hK h hi
  ·exact jw7 hA hs M ih hM h (by have := h.le; omega)
end
end Go.Proofs.Ytngkneknopenmaa.qf6
end
section
namespace Go.Proofs.Ytngkneknopenmaa.qf6
open Go Go.Lib Go.RowKit Go.Proofs.Ytngkneknopenmaa Go.Proofs.Ytngkneknopenmaa.zM Go.Proofs.Ytngkneknopenmaa.qa9 Go.Proofs.Ytngkneknopenmaa.qb8 Go.Proofs.Ytngkneknopenmaa.qi7
def ja8 (n K m S : Nat) (z : List (Nat × Nat)) (ss : List Nat) : List (List T4) := (qV6 S z (n - ss.length) ss).flatMap fun q => qT3 (qt6 z q) n K m []
def qy4 (z : List (Nat × Nat)) (ss : List Nat) : Int → Option Value := fun x => if 0 ≤ x then (qL2 z ss x.toNat).map (fun e : Nat => .int .i64 (e : Int)) else none
theorem zb3 (z : List (Nat × Nat)) (ss : List Nat) (s x : Nat) (h : ss.length < z.length) : qL2 z (ss ++ [s]) x = if s = x then some (cm z ss.length) else qL2 z ss x := by
 unfold qL2
 have hz : z = z.take ss.length ++ z.drop ss.length := (List.take_append_drop _ _).symm
 have hd : z.drop ss.length = z[ss.length] :: z.drop (ss.length + 1) := List.drop_eq_getElem_cons h
 have e1 : (ss ++ [s]).zip z = ss.zip z ++ [(s, z[ss.length])] := by
  conv => lhs; rw [hz, hd]
  rw [List.zip_append (by rw [List.length_take]; omega)]
  have : ss.zip (z.take ss.length) = ss.zip z := by
   conv => rhs; rw [hz]
   conv => rhs; rw [show ss = ss ++ [] by simp]
   rw [List.zip_append (by rw [List.length_take]; simp; omega)]
   simp
  rw [this]
  simp only [List.zip_cons_cons, List.zip_nil_left]
 rw [e1, List.foldl_append]
 simp only [List.foldl_cons, List.foldl_nil]
 have : cm z ss.length = z[ss.length].2 := by unfold cm; rw [List.getD_eq_getElem?_getD, List.getElem?_eq_getElem h]; rfl
 rw [this]
theorem zo6 (z : List (Nat × Nat)) (ss : List Nat) (s : Nat) (h : ss.length < z.length) : upd (qy4 z ss) (s : Int) (.int .i64 (cm z ss.length : Int)) = qy4 z (ss ++ [s]) := by
 funext y
 unfold upd qy4
 by_cases h0 : 0 ≤ y
 ·rw [if_pos h0, if_pos h0, zb3 z ss s y.toNat h]
  by_cases hy : y = (s : Int)
  ·rw [if_pos hy, if_pos (by omega)]
   rfl
  ·rw [if_neg hy, if_neg (by omega)]
 ·rw [if_neg h0, if_neg h0, if_neg (by omega)]
theorem zo7 (z : List (Nat × Nat)) : qy4 z [] = fun _ => none := by
 funext y
 unfold qy4 qL2
 simp
theorem qC4 (ss : List Nat) (s : Nat) : qe1 (ss ++ [s]) = max (qe1 ss) (s + 1) := by unfold qe1; rw [List.foldl_append]; rfl
theorem jS6 {ss : List Nat} {j s : Nat} (h : ss[j]? = some s) : qe1 (ss.take (j + 1)) = max (qe1 (ss.take j)) (s + 1) := by
 rw [List.take_add_one, h]
 exact qC4 _ _
section
variable {L : List (List T4)} {J : List (List T4) → (Nat → Prop) → World → Prop} {Jx : List (List T4) → World → Prop} {bX : Nat} {p : Par} {yv V : Value}
structure InS (L : List (List T4)) (J : List (List T4) → (Nat → Prop) → World → Prop) (bX : Nat) (p : Par) (yv V : Value) (n m : Nat) (z : List (Nat × Nat)) (ss : List Nat) (pre : List (List T4)) (C : Nat → Prop) (rows : List ER) (w : World) : Prop where
 eb : EB w bX p yv V rows
 sep : Sep C (Ow bX V rows) w
 j : J pre C w
 car : ja1 z ss rows
 pn : p.n = (n : Int)
 pm : p.m = (m : Int)
 rl : rows.length = n
 zl : z.length = n
 zb : ∀ x ∈ z, x.1 ≤ 1000000 ∧ x.2 ≤ 1000000
 le : ss.length ≤ n
 kb : qe1 ss ≤ ss.length
 kt : ∀ s ∈ ss, s ≤ 1000
 ok : ∀ h ∈ ja8 n p.K.toNat m p.S.toNat z ss, zT h = 0
 qB5 : (pre ++ (ja8 n p.K.toNat m p.S.toNat z ss).map zU) <+: L
def zb4 (z : List (Nat × Nat)) (ss : List Nat) (V : Value) (n : Nat) : Value → List ER → Prop := fun V' rows' => V' = V ∧ rows'.length = n ∧ ja1 z ss rows'
def qw6 (J : List (List T4) → (Nat → Prop) → World → Prop) (Jx : List (List T4) → World → Prop) (bX : Nat) (p : Par) (yv V : Value) (n m : Nat) (z : List (Nat × Nat)) (ss : List Nat) (pre : List (List T4)) (C : Nat → Prop) (rows : List ER) (w : World) : Ending → World → Prop :=
 qF1 J Jx pre ((ja8 n p.K.toNat m p.S.toNat z ss).map zU) C (Ow bX V rows) w (GG bX p yv (zb4 z ss V n))
theorem qZ9.toS {z : List (Nat × Nat)} {ss cs : List Nat} {rows : List ER} (hl : ss.length = z.length) (h : qZ9 (qt6 z ss) cs rows) : ja1 z ss rows := by
 have hh := h.hds
 have e1 : rows.map pairT = (rows.map head).map (fun x => x.2) := by rw [List.map_map]; rfl
 have e2 : rows.map ER.s = (rows.map head).map (fun x => x.1) := by rw [List.map_map]; rfl
 have e3 : ((qt6 z ss).map fun x => x.2) = z.map jR5 := by
  unfold qt6
  rw [List.map_zipWith]
  apply List.ext_getElem?
  intro q
  rw [List.getElem?_zipWith, List.getElem?_map]
  cases hz : z[q]? with
  | none => cases hs : ss[q]? <;> simp
  | some x =>
   have : q < ss.length := by rw [hl]; exact (List.getElem?_eq_some_iff.1 hz).1
   rw [List.getElem?_eq_getElem this]
   rfl
 have e4 : ((qt6 z ss).map fun x => x.1) = ss.map fun s : Nat => (s : Int) := by
  unfold qt6
  rw [List.map_zipWith]
  apply List.ext_getElem?
  intro q
  rw [List.getElem?_zipWith, List.getElem?_map]
  cases hs : ss[q]? with
  | none => simp
  | some x =>
   have : q < z.length := by rw [← hl]; exact (List.getElem?_eq_some_iff.1 hs).1
   rw [List.getElem?_eq_getElem this]
   rfl
 refine ⟨by rw [e1, hh, e3], ?_⟩
 rw [e2, hh, e4, ← List.map_take, List.take_length]
set_option maxHeartbeats 1000000 in
set_option maxRecDepth 100000 in
theorem zz6 (hY : qp4 yv L J Jx) (hA : Abides J) (hX : qp3 Jx) {n m : Nat} (hs : n ≤ 1000) (hm : m ≤ 1000000) (hK : n = 0 ∨ p.K = (p.K.toNat : Int)) {z : List (Nat × Nat)} {ss : List Nat} {pre : List (List T4)} {C : Nat → Prop} {rows : List ER} {w : World} (h : InS L J bX p yv V n m z ss pre C rows w) (hi : ss.length = n) :
  Calls Try.prog 100 #[.pointer (some ⟨bX, 0, none⟩), .int .i64 (ss.length : Int)] w (qw6 J Jx bX p yv V n m z ss pre C rows w) := by
 have c4 := h.eb.field 4
 have c5 := h.eb.field 5
 simp only [Par.cells, List.getElem?_toArray, List.getElem?_cons_succ, List.getElem?_cons_zero] at c4 c5
 rw [h.pn] at c4
 rw [h.pm] at c5
 have hraw : ja8 n p.K.toNat m p.S.toNat z ss = qT3 (qt6 z ss) n p.K.toNat m [] := by
  unfold ja8
  rw [hi, Nat.sub_self, qV6]
  simp
 have hok := h.ok
 have hpre := h.qB5
 rw [hraw] at hok hpre
 have hin : InC L J bX p yv V (qt6 z ss) n m [] pre C rows w := ⟨h.eb, h.sep, h.j, h.car.leaf (by rw [h.rl, hi]), h.pn, h.rl, Nat.zero_le _, by simpa using hm, hok, hpre⟩
 have hih := (ja7 hY hA hX hs hK _ m [] pre C rows w (Nat.lt_succ_self _) hin).mono (R' := fun e w' => ∃ b, e = .returned (.bool b) ∧ qw6 J Jx bX p yv V n m z ss pre C rows w (.returned (.bool b)) w') (fun e w' hq => by
  obtain ⟨b, rfl⟩ := hq.bool
  refine ⟨b, rfl, ?_⟩
  unfold qw6
  rw [hraw]
  unfold qy3 at hq
  exact hq.imp (fun C' E' w' ⟨V', rows', e1, e2, e3, e4, e5⟩ => ⟨V', rows', e1, e2, e3, e4, e5.toS (by rw [hi, h.zl])⟩))
 rw [show (([] : List Nat).length : Int) = 0 from rfl] at hih
 obtain ⟨Q, hQ⟩ : ∃ Q, qw6 J Jx bX p yv V n m z ss pre C rows w = Q := ⟨_, rfl⟩
 rw [hQ] at hih ⊢
 have IH := Lib.hid hih
 clear hih hin hraw hok hpre hQ h hK
 subst hi
 obtain ⟨i, hi⟩ : ∃ i, ss.length = i := ⟨_, rfl⟩
 rw [hi] at c4 hs ⊢
 clear hi
 go_enter Try.func100, Try.ntmps100
 go_wp2_with (go_at_call 107; (with_reducible refine (IH.out).mono ?_); rintro e w' ⟨b, rfl, hq⟩; have HQ := Lib.hid hq; clear hq)
 exact HQ.out
def qp8 (n K m S : Nat) (z : List (Nat × Nat)) (ss : List Nat) (s : Nat) : List (List T4) := if qz5 z ss s = true then (ja8 n K m S z (ss ++ [s])).map zU else []
theorem qK5 {α β : Type} (q : α → Bool) (f : α → List β) : ∀ l : List α, (l.filter q).flatMap f = l.flatMap fun x => if q x = true then f x else []
 | [] => rfl
 | a :: l => by
  rw [List.filter_cons]
  split <;> simp_all [qK5 q f l]
theorem jS7 {n K m S : Nat} {z : List (Nat × Nat)} {ss : List Nat} (h : ss.length < n) : ja8 n K m S z ss = (List.range (min (qe1 ss + 1) S)).flatMap fun s => if qz5 z ss s = true then ja8 n K m S z (ss ++ [s]) else [] := by
 unfold ja8
 rw [show n - ss.length = (n - ss.length - 1) + 1 by omega, qV6, List.flatMap_assoc, qK5]
 simp only [List.length_append, List.length_singleton, Nat.sub_sub]
theorem qO8 {n K m S : Nat} {z : List (Nat × Nat)} {ss : List Nat} (h : ss.length < n) : (ja8 n K m S z ss).map zU = (List.range (min (qe1 ss + 1) S)).flatMap (qp8 n K m S z ss) := by
 rw [jS7 h, List.map_flatMap]
 congr 1
 funext s
 unfold qp8
 split <;> simp
theorem RG.zj6 {n m : Nat} {z : List (Nat × Nat)} {ss : List Nat} {pre : List (List T4)} {C E0 : Nat → Prop} {rows : List ER} {w W0 W : World} (h : InS L J bX p yv V n m z ss pre C rows w) (hA : Abides J) (hi : ss.length < n) {s : Nat} (hs0 : s < min (qe1 ss + 1) p.S.toNat) (hfree : qz5 z ss s = true) (hn : n ≤ 1000)
  {C' : Nat → Prop} {V' : Value} {rows' : List ER} (hc : RG J bX p yv (zb4 z ss V n) C E0 W0 (pre ++ ((List.range (min (qe1 ss + 1) p.S.toNat)).take s).flatMap (qp8 n p.K.toNat m p.S.toNat z ss)) C' V' rows' W) {g cap : Nat} (hV : V = .slice (some ⟨g, 0, none⟩) n cap) :
  ∃ zC, InS L J bX p yv V n m z (ss ++ [s]) (pre ++ ((List.range (min (qe1 ss + 1) p.S.toNat)).take s).flatMap (qp8 n p.K.toNat m p.S.toNat z ss)) C' zC (W.setCell ⟨g, ss.length * 4, none⟩ (.int .i64 (s : Int))) ∧ Fr C E0 W0 C' (Ow bX V zC) (W.setCell ⟨g, ss.length * 4, none⟩ (.int .i64 (s : Int))) := by
 obtain ⟨rfl, hrl, hcar⟩ := hc.car
 obtain ⟨r', hr'⟩ : ∃ r, rows'[ss.length]? = some r := ⟨_, List.getElem?_eq_getElem (by omega)⟩
 obtain ⟨zC, hrows2⟩ : ∃ zC, rows'.set ss.length { r' with s := (s : Int) } = zC := ⟨_, rfl⟩
 have qT4 := hc.eb.jR6 (j := 0) (r' := { r' with s := (s : Int) }) (u := .int .i64 (s : Int)) (by rw [hrl]; exact hV) hr' (by omega) rfl rfl rfl
 rw [hrows2, Nat.add_zero] at qT4
 have hO : Ow bX V' zC = Ow bX V' rows' := ja3 (by rw [← hrows2]; exact qO7 rows' hr' _ rfl)
 have hgO : Ow bX V' rows' g := .inr (.inl (by rw [hV]; rfl))
 have hx : (List.range (min (qe1 ss + 1) p.S.toNat))[s]? = some s := by simp [hs0]
 have hkb := h.kb
 refine ⟨zC, ⟨qT4, ?_, hA.store hc.j _ _ (hc.sep.ap _ hgO), ?_, h.pn, h.pm, by rw [← hrows2, List.length_set]; exact hrl, h.zl, h.zb, by rw [List.length_append, List.length_singleton]; omega, ?_, ?_, ?_, ?_⟩, ?_⟩
 ·rw [hO]; exact hc.sep.later (by simp)
 ·rw [← hrows2]; exact hcar.step hr' s
 ·rw [qC4, List.length_append, List.length_singleton]; omega
 ·intro x hx
  rcases List.mem_append.1 hx with hx | hx
  ·exact h.kt x hx
  ·simp at hx; omega
 ·intro y hy
  refine h.ok y ?_
  rw [jS7 hi]
  exact List.mem_flatMap.2 ⟨s, List.mem_of_getElem? hx, by rw [if_pos hfree]; exact hy⟩
 ·have hp := h.qB5
  rw [qO8 hi] at hp
  have := RG.qB5 hx hp
  unfold qp8 at this
  rw [if_pos hfree] at this
  exact this
 ·rw [hO]; exact hc.fr.store _ _ hgO
end
end Go.Proofs.Ytngkneknopenmaa.qf6
end
section
namespace Go.Proofs.Ytngkneknopenmaa.qf6
open Go Go.Lib Go.RowKit Go.Proofs.Ytngkneknopenmaa Go.Proofs.Ytngkneknopenmaa.zM Go.Proofs.Ytngkneknopenmaa.qa9 Go.Proofs.Ytngkneknopenmaa.qb8 Go.Proofs.Ytngkneknopenmaa.qi7
section
variable {L : List (List T4)} {J : List (List T4) → (Nat → Prop) → World → Prop} {Jx : List (List T4) → World → Prop} {bX : Nat} {p : Par} {yv V : Value}
def RelM (z : List (Nat × Nat)) (ss : List Nat) (w : World) (i : Nat) (kn x : Value) (wr : World) : Prop :=
 ∃ (j sz : Nat), j ≤ i ∧ x = .int .i64 ((j : Nat) : Int) ∧ kn = .int .i64 ((qe1 (ss.take j) : Nat) : Int) ∧ sz ≤ j ∧ IM Try.prog 3 wr w.heap.size (qy4 z (ss.take j)) sz ∧ Below w.heap.size w wr
def Qn2 (J : List (List T4) → (Nat → Prop) → World → Prop) (bX : Nat) (p : Par) (yv V : Value) (n m : Nat) (z : List (Nat × Nat)) (ss : List Nat) (pre : List (List T4)) (rows : List ER) (C : Nat → Prop) (W0 : World) (N : Nat) (x : Value) (wr : World) : Prop :=
 ∃ (c : Nat) (C' : Nat → Prop) (V' : Value) (rows' : List ER), c ≤ N ∧ x = .int .i64 ((c : Nat) : Int) ∧ RG J bX p yv (zb4 z ss V n) C (Ow bX V rows) W0 (pre ++ ((List.range N).take c).flatMap (qp8 n p.K.toNat m p.S.toNat z ss)) C' V' rows' wr
theorem RG.skip {α : Type} {f : α → List (List T4)} {chs : List α} {c : Nat} {x : α} (hx : chs[c]? = some x) (h0 : f x = []) (pre : List (List T4)) : pre ++ (chs.take (c + 1)).flatMap f = pre ++ (chs.take c).flatMap f := by rw [qf2 _ hx, h0, List.append_nil]
theorem qC6 {n K m S : Nat} {z : List (Nat × Nat)} {ss : List Nat} {s : Nat} (h : qz5 z ss s = true) : (ja8 n K m S z (ss ++ [s])).map zU = qp8 n K m S z ss s := by unfold qp8; rw [if_pos h]
set_option maxHeartbeats 2000000 in
set_option maxRecDepth 100000 in
theorem jS8 (hA : Abides J) {n m : Nat} (hs : n ≤ 1000) (M : Nat) (ih : ∀ (ss : List Nat) (pre : List (List T4)) (C : Nat → Prop) (rows : List ER) (w : World) (z : List (Nat × Nat)), n - ss.length < M → InS L J bX p yv V n m z ss pre C rows w →
   Calls Try.prog 100 #[.pointer (some ⟨bX, 0, none⟩), .int .i64 (ss.length : Int)] w (qw6 J Jx bX p yv V n m z ss pre C rows w))
  {z : List (Nat × Nat)} {ss : List Nat} {pre : List (List T4)} {C : Nat → Prop} {rows : List ER} {w : World} (hM : n - ss.length < M + 1) (h : InS L J bX p yv V n m z ss pre C rows w) (hi : ss.length < n) (hSS : p.S = (p.S.toNat : Int)) :
  Calls Try.prog 100 #[.pointer (some ⟨bX, 0, none⟩), .int .i64 (ss.length : Int)] w (qw6 J Jx bX p yv V n m z ss pre C rows w) := by
 have c4 := h.eb.field 4
 have c6 := h.eb.field 6
 simp only [Par.cells, List.getElem?_toArray, List.getElem?_cons_succ, List.getElem?_cons_zero] at c4 c6
 rw [h.pn] at c4
 obtain ⟨g, cap, hV, hcap⟩ := h.eb.form (by rw [h.rl]; omega)
 rw [h.rl] at hV hcap
 rw [hV] at c6
 have hcm : cap ≤ 9223372036854775807 := by
  obtain ⟨_, cap', e, _, hcm⟩ := h.eb.slice
  have : cap = cap' := by rw [e] at hV; injection hV with _ _ e3; exact e3.symm
  unfold maxLen at hcm
  omega
 have k6 := cell_below ((Below.refl w.heap.size w).alloc (Nat.le_refl _) (.map #[] 0)) c6
 obtain ⟨i, hil⟩ : ∃ i, ss.length = i := ⟨_, rfl⟩
 have HIL := Lib.hid hil
 obtain ⟨S, hSN⟩ : ∃ S, p.S.toNat = S := ⟨_, rfl⟩
 have HSN := Lib.hid hSN
 rw [hSN] at hSS
 have HSS := Lib.hid hSS
 have hin : i < n := by omega
 have hiz : (i : Int) < (n : Int) := by omega
 have hic : (i : Int) ≤ (cap : Int) := by omega
 have hne : ((i : Int) == (n : Int)) = false := by simp; omega
 have HI := Lib.hid h
 have HIH := Lib.hid ih
 have HM := Lib.hid hM
 have HV := Lib.hid hV
 have HA := Lib.hid hA
 have hmm := @run_makeMap Try.prog
 have HMM := Lib.hid hmm
 rw [hil]
 clear h ih hM hV hA hi hil hSS hSN hmm
 have hmm := HMM.out
 go_enter Try.func100, Try.ntmps100
 go_wp2_with fail
 clear hmm
 go_loopw [5, 32] (fun kn x wr => RelM z ss w i kn x wr) (fun _ x _ => i - (intOf x).toNat)
 case atStart => exact ⟨0, 0, Nat.zero_le _, rfl, rfl, Nat.le_refl _, by rw [List.take_zero, zo7]; exact IM.made w _ _, (Below.refl _ _).alloc (Nat.le_refl _) _⟩
 case round =>
  obtain ⟨j, sz, hj, rfl, rfl, hsz, him, hb⟩ := hrel
  have HIM := Lib.hid him
  have HB := Lib.hid hb
  have hkb : qe1 (ss.take j) ≤ 100000 := by
   have : ∀ l : List Nat, (∀ s ∈ l, s ≤ 1000) → qe1 l ≤ 1001 := by
    intro l
    unfold qe1
    have gen : ∀ (l : List Nat) (a : Nat), a ≤ 1001 → (∀ s ∈ l, s ≤ 1000) → l.foldl (fun k s => max k (s + 1)) a ≤ 1001 := by
     intro l
     induction l with
     | nil => intro a ha _; exact ha
     | cons x l ih => intro a ha hl; exact ih _ (by show max a (x + 1) ≤ 1001; have := hl x (by simp); omega) (fun s hs => hl s (by simp [hs]))
    exact gen l 0 (by omega)
   have := this (ss.take j) (fun s hs => HI.out.kt s (List.mem_of_mem_take hs))
   omega
  clear him hb
  by_cases hlt : j < i
  ·have hltz : (j : Int) < (i : Int) := by omega
   have hEr := HI.out.eb.below HB.out
   obtain ⟨r, hr⟩ : ∃ r, rows[j]? = some r := ⟨_, List.getElem?_eq_getElem (by rw [HI.out.rl]; omega)⟩
   obtain ⟨s, hsj⟩ : ∃ s, ss[j]? = some s := ⟨_, List.getElem?_eq_getElem (by rw [HIL.out]; exact hlt)⟩
   obtain ⟨A3, c3, h3, hc3, _⟩ := hEr.qM8 (List.mem_of_getElem? hr)
   have u0 := hEr.qo7 (by rw [HI.out.rl]; exact HV.out) hr (j := 0) (by omega)
   have u1 := hEr.qo7 (by rw [HI.out.rl]; exact HV.out) hr (j := 1) (by omega)
   have u2 := hEr.qo7 (by rw [HI.out.rl]; exact HV.out) hr (j := 2) (by omega)
   have u3 := hEr.qo7 (by rw [HI.out.rl]; exact HV.out) hr (j := 3) (by omega)
   simp only [ER.cells, List.getElem?_cons_succ, List.getElem?_cons_zero, Nat.add_zero] at u0 u1 u2 u3
   rw [h3] at u3
   have hrs : r.s = (s : Int) := by
    have e := congrArg (fun l => l[j]?) HI.out.car.ses
    simp only [List.getElem?_map] at e
    rw [List.getElem?_take, if_pos (by rw [HIL.out]; exact hlt), List.getElem?_map, hr, hsj] at e
    exact Option.some.inj e
   have hrc : r.c = (cm z j : Int) ∧ cm z j ≤ 1000000 := by
    have e := congrArg (fun l => l[j]?) HI.out.car.tms
    simp only [List.getElem?_map] at e
    rw [hr] at e
    cases hz : z[j]? with
    | none => rw [hz] at e; cases e
    | some x =>
     rw [hz] at e
     have e2 := congrArg Prod.snd (Option.some.inj e)
     have e3 : cm z j = x.2 := by unfold cm; rw [List.getD_eq_getElem?_getD, hz]; rfl
     exact ⟨by rw [e3]; exact e2, by rw [e3]; exact (HI.out.zb x (List.mem_of_getElem? hz)).2⟩
   obtain ⟨hrc, hcb⟩ := hrc
   have hsb := HI.out.kt s (List.mem_of_getElem? hsj)
   rw [hrs] at u0
   rw [hrc] at u2
   have hkt := jS6 hsj
   have hup := zo6 z (ss.take j) s (by rw [List.length_take, HIL.out, HI.out.zl]; omega)
   rw [List.length_take, HIL.out, Nat.min_eq_left (by omega), ← (show ss.take (j + 1) = ss.take j ++ [s] by rw [List.take_add_one, hsj]; rfl)] at hup
   have HKT := Lib.hid hkt
   have HUP := Lib.hid hup
   obtain ⟨cv, hcv⟩ : ∃ cv, cm z j = cv := ⟨_, rfl⟩
   have HCV := Lib.hid hcv
   obtain ⟨kn, hkn⟩ : ∃ kn, qe1 (ss.take j) = kn := ⟨_, rfl⟩
   have HKN := Lib.hid hkn
   rw [hkn] at hkb ⊢
   rw [hcv] at u2 hcb
   have hws : (Lit.int .i64 (s : Int)).wf = true := WalkArith.wf_i64 (by omega)
   have HWS := Lib.hid hws
   clear hEr h3 hrs hrc hkt hup hr hsj hcv hkn hws
   go_wp2_with (at_mapUpdate; refine qg7 (HIM.out.alloc _) rfl _ _ _ 34 3 rfl Try.underlying34 Try.underlying3 (by unfold maxLen; omega) rfl (s : Int) (.int .i64 (cv : Int)) rfl rfl HWS.out ?_; intro w5 qu7 hg5; have zM2 := Lib.hid qu7; have HG5 := Lib.hid hg5; clear qu7 hg5)
   go_roundw
   case rel => exact ⟨j + 1, (if (qy4 z (ss.take j) (s : Int)).isSome then sz else sz + 1), by omega, by go_num, by rw [HKT.out, HKN.out, jS4], by split <;> omega, by rw [← HUP.out, HCV.out]; exact zM2.out, (HB.out.alloc HB.out.size _).grown HG5.out (by have := HB.out.size; simp; omega) (fun g hg => by cases hg; exact Nat.le_refl _)⟩
   case measure => (simp only [intOf]; omega)
  ·obtain rfl : j = i := by omega
   have Qb5 : IM Try.prog 3 wr w.heap.size (qy4 z ss) sz := by have := HIM.out; rw [List.take_of_length_le (by rw [HIL.out]; exact Nat.le_refl _)] at this; exact this
   have hEr := HI.out.eb.below HB.out
   have hSr := HI.out.sep.later HB.out.size
   have hJr := HA.out.below HI.out.j HB.out HI.out.sep.lt
   have k0 := hEr.field 0
   simp only [Par.cells, List.getElem?_toArray, List.getElem?_cons_zero] at k0
   rw [HSS.out] at k0
   obtain ⟨N, hN⟩ : ∃ N, min (qe1 ss + 1) S = N := ⟨_, rfl⟩
   obtain ⟨kn, hkn⟩ : ∃ kn, qe1 ss = kn := ⟨_, rfl⟩
   have hkne : qe1 (ss.take j) = kn := by rw [List.take_of_length_le (by rw [HIL.out]; exact Nat.le_refl _), hkn]
   have hNz : min ((kn : Int) + 1) (S : Int) = (N : Int) := by rw [← hN, hkn]; omega
   rw [hkne] at hkb ⊢
   have HNZ := Lib.hid hNz
   have HNN := Lib.hid hN
   have HNP := Lib.hid (show min (qe1 ss + 1) p.S.toNat = N by rw [HSN.out]; exact hN)
   have HKN := Lib.hid hkn
   have HIM0 := Lib.hid Qb5
   have HER := Lib.hid hEr
   have HSR := Lib.hid hSr
   have HJR := Lib.hid hJr
   have hNle : N ≤ 100001 := by omega
   have hmp := Qb5.lt
   have HMP := Lib.hid hmp
   clear hNz hN hkn hkne Qb5 hEr hSr hJr hmp
   go_wp2_with fail
   rw [HNZ.out]
   obtain ⟨W0, hW0⟩ : ∃ W0, wr = W0 := ⟨_, rfl⟩
   rw [hW0] at HB HIM0 HER HSR HJR HMP ⊢
   clear hW0 k0
   go_loopw [55] (fun x wr => Qn2 J bX p yv V n m z ss pre rows C W0 N x wr) (fun x _ => N - (intOf x).toNat)
   case atStart => exact ⟨0, C, V, rows, Nat.zero_le _, rfl, HER.out, HSR.out, by simpa using HJR.out, Fr.refl _ _ _, rfl, HI.out.rl, HI.out.car⟩
   case round =>
    obtain ⟨c, C1, V1, qK4, hc, rfl, hRG⟩ := hrel
    obtain rfl : V1 = V := hRG.car.1
    have hrl := hRG.car.2.1
    have zz7 : wr.heap[w.heap.size]? = W0.heap[w.heap.size]? := hRG.fr.keep _ HMP.out (fun hc => by have := HI.out.sep.lt _ hc; omega) (fun ho => by have := (HI.out.eb.lt _ ho).2; omega)
    have qR2 := HIM0.out.move zz7
    have q6 := hRG.eb.field 6
    simp only [Par.cells, List.getElem?_toArray, List.getElem?_cons_succ, List.getElem?_cons_zero] at q6
    rw [HV.out] at q6
    obtain ⟨r1, hr1⟩ : ∃ r, qK4[j]? = some r := ⟨_, List.getElem?_eq_getElem (by omega)⟩
    have t0 := hRG.eb.qo7 (by rw [hrl]; exact HV.out) hr1 (j := 0) (by omega)
    have t1 := hRG.eb.qo7 (by rw [hrl]; exact HV.out) hr1 (j := 1) (by omega)
    have f0 := hRG.eb.zz2 (by rw [hrl]; exact HV.out) (j * 4)
    simp only [ER.cells, List.getElem?_cons_succ, List.getElem?_cons_zero, Nat.add_zero] at t0 t1
    have hrb : r1.b = (bg z j : Int) ∧ bg z j ≤ 1000000 := by
     have e := congrArg (fun l => l[j]?) hRG.car.2.2.tms
     simp only [List.getElem?_map] at e
     rw [hr1] at e
     cases hz : z[j]? with
     | none => rw [hz] at e; cases e
     | some x =>
      rw [hz] at e
      have e2 := congrArg Prod.fst (Option.some.inj e)
      have e3 : bg z j = x.1 := by unfold bg; rw [List.getD_eq_getElem?_getD, hz]; rfl
      exact ⟨by rw [e3]; exact e2, by rw [e3]; exact (HI.out.zb x (List.mem_of_getElem? hz)).1⟩
    obtain ⟨hrb, hbb⟩ := hrb
    rw [hrb] at t1
    obtain ⟨bv, hbv⟩ : ∃ bv, bg z j = bv := ⟨_, rfl⟩
    rw [hbv] at t1 hbb
    have HBV := Lib.hid hbv
    have Qb6 := Lib.hid qR2
    have HRG := Lib.hid hRG
    clear hRG hrl zz7 qR2 hr1 hrb hbv
    by_cases hlt2 : c < N
    ·have zU7 : (c : Int) < (N : Int) := by omega
     have hwc : (Lit.int .i64 (c : Int)).wf = true := WalkArith.wf_i64 (by omega)
     have HWC := Lib.hid hwc
     have hx : (List.range N)[c]? = some c := by simp [hlt2]
     have HX := Lib.hid hx
     have hgd : (z.getD ss.length (0, 0)).1 = bv := by rw [HIL.out, ← HBV.out]; rfl
     have HGD := Lib.hid hgd
     clear hwc hx hgd
     cases hl : qL2 z ss c with
     | none =>
      have hfr : qz5 z ss c = true := by unfold qz5; rw [hl]
      have hlk : (if true = true then Value.tuple #[(qy4 z ss (c : Int)).getD (.int .i64 0), .bool (qy4 z ss (c : Int)).isSome] else (qy4 z ss (c : Int)).getD (.int .i64 0)) = .tuple #[.int .i64 0, .bool false] := by
       unfold qy4
       rw [if_pos (Int.natCast_nonneg c), Int.toNat_natCast, hl]
       rfl
      have HLK := Lib.hid hlk
      have jH2 := Lib.hid hfr
      clear hl hlk hfr
      obtain ⟨zC, hI2, hf2⟩ := RG.zj6 HI.out HA.out (by rw [HIL.out]; exact hin) (s := c) (by rw [HNP.out]; exact hlt2) jH2.out hs (by rw [HNP.out]; exact HRG.out) HV.out
      have hih := (HIH.out (ss ++ [c]) _ C1 zC _ z (by rw [List.length_append, List.length_singleton]; have := HM.out; have := HIL.out; omega) hI2).mono (R' := fun e w' => ∃ bb, e = .returned (.bool bb) ∧ qw6 J Jx bX p yv V1 n m z (ss ++ [c]) (pre ++ ((List.range (min (qe1 ss + 1) p.S.toNat)).take c).flatMap (qp8 n p.K.toNat m p.S.toNat z ss)) C1 zC _ (.returned (.bool bb)) w') (fun e w' hq => by obtain ⟨bb, rfl⟩ := hq.bool; exact ⟨bb, rfl, hq⟩)
      rw [List.length_append, List.length_singleton, HIL.out, qk4] at hih
      rw [HIL.out] at hf2
      have IH := Lib.hid hih
      have HF2 := Lib.hid hf2
      clear hih hI2 hf2
      go_wp2_with (first
       | (at_lookup; refine zH Qb6.out rfl _ _ 34 3 true rfl Try.underlying34 Try.underlying3 (.int .i64 0) (fun _ => by kernel_rfl) rfl (c : Int) rfl HWC.out _ HLK.out ?_)
       | (go_at_call 100; (with_reducible refine (IH.out).mono ?_); rintro e w5 ⟨bb, rfl, hp⟩; have HP := Lib.hid hp; clear hp; cases bb))
      ·go_ret
       unfold qw6
       rw [qO8 (by rw [HIL.out]; exact hin), HSN.out, HNN.out]
       have hp := HP.out
       unfold qw6 at hp
       rw [HSN.out, HNN.out] at hp
       rw [qC6 jH2.out] at hp
       exact RG.stop (f := qp8 n p.K.toNat m S z ss) HX.out hp
      ·have hp := HP.out
       unfold qw6 at hp
       rw [HSN.out, HNN.out] at hp
       rw [qC6 jH2.out] at hp
       obtain ⟨C3, V3, ja6, hR3⟩ := RG.after (f := qp8 n p.K.toNat m S z ss) (car := zb4 z ss V1 n) (zo3 := zb4 z (ss ++ [c]) V1 n) HX.out HF2.out (fun V' rows' hc => ⟨hc.1, hc.2.1, hc.2.2.back⟩) hp
       go_wp2_with fail
       go_roundw
       case rel => exact ⟨c + 1, C3, V3, ja6, by omega, by go_num, by rw [HSN.out]; exact hR3⟩
       case measure => (simp only [intOf]; omega)
     | some e =>
      have hlk : (if true = true then Value.tuple #[(qy4 z ss (c : Int)).getD (.int .i64 0), .bool (qy4 z ss (c : Int)).isSome] else (qy4 z ss (c : Int)).getD (.int .i64 0)) = .tuple #[.int .i64 (e : Int), .bool true] := by
       unfold qy4
       rw [if_pos (Int.natCast_nonneg c), Int.toNat_natCast, hl]
       rfl
      have HLK := Lib.hid hlk
      clear hlk
      by_cases he : e ≤ bv
      ·have hfr : qz5 z ss c = true := by unfold qz5; rw [hl]; simp only [HGD.out]; exact decide_eq_true he
       have jH2 := Lib.hid hfr
       have hez : ¬ (bv : Int) < (e : Int) := by omega
       clear hl hfr he
       obtain ⟨zC, hI2, hf2⟩ := RG.zj6 HI.out HA.out (by rw [HIL.out]; exact hin) (s := c) (by rw [HNP.out]; exact hlt2) jH2.out hs (by rw [HNP.out]; exact HRG.out) HV.out
       have hih := (HIH.out (ss ++ [c]) _ C1 zC _ z (by rw [List.length_append, List.length_singleton]; have := HM.out; have := HIL.out; omega) hI2).mono (R' := fun e w' => ∃ bb, e = .returned (.bool bb) ∧ qw6 J Jx bX p yv V1 n m z (ss ++ [c]) (pre ++ ((List.range (min (qe1 ss + 1) p.S.toNat)).take c).flatMap (qp8 n p.K.toNat m p.S.toNat z ss)) C1 zC _ (.returned (.bool bb)) w') (fun e w' hq => by obtain ⟨bb, rfl⟩ := hq.bool; exact ⟨bb, rfl, hq⟩)
       rw [List.length_append, List.length_singleton, HIL.out, qk4] at hih
       rw [HIL.out] at hf2
       have IH := Lib.hid hih
       have HF2 := Lib.hid hf2
       clear hih hI2 hf2
       go_wp2_with (first
        | (at_lookup; refine zH Qb6.out rfl _ _ 34 3 true rfl Try.underlying34 Try.underlying3 (.int .i64 0) (fun _ => by kernel_rfl) rfl (c : Int) rfl HWC.out _ HLK.out ?_)
        | (go_at_call 100; (with_reducible refine (IH.out).mono ?_); rintro e w5 ⟨bb, rfl, hp⟩; have HP := Lib.hid hp; clear hp; cases bb))
       ·go_ret
        unfold qw6
        rw [qO8 (by rw [HIL.out]; exact hin), HSN.out, HNN.out]
        have hp := HP.out
        unfold qw6 at hp
        rw [HSN.out, HNN.out] at hp
        rw [qC6 jH2.out] at hp
        exact RG.stop (f := qp8 n p.K.toNat m S z ss) HX.out hp
       ·have hp := HP.out
        unfold qw6 at hp
        rw [HSN.out, HNN.out] at hp
        rw [qC6 jH2.out] at hp
        obtain ⟨C3, V3, ja6, hR3⟩ := RG.after (f := qp8 n p.K.toNat m S z ss) (car := zb4 z ss V1 n) (zo3 := zb4 z (ss ++ [c]) V1 n) HX.out HF2.out (fun V' rows' hc => ⟨hc.1, hc.2.1, hc.2.2.back⟩) hp
        go_wp2_with fail
        go_roundw
        case rel => exact ⟨c + 1, C3, V3, ja6, by omega, by go_num, by rw [HSN.out]; exact hR3⟩
        case measure => (simp only [intOf]; omega)
      ·have hfr : qz5 z ss c = false := by unfold qz5; rw [hl]; simp only [HGD.out]; exact decide_eq_false he
       have jH2 := Lib.hid hfr
       have hez : (bv : Int) < (e : Int) := by omega
       clear hl hfr he
       go_wp2_with (at_lookup; refine zH Qb6.out rfl _ _ 34 3 true rfl Try.underlying34 Try.underlying3 (.int .i64 0) (fun _ => by kernel_rfl) rfl (c : Int) rfl HWC.out _ HLK.out ?_)
       go_roundw
       case rel =>
        refine ⟨c + 1, C1, V1, qK4, by omega, by go_num, ?_⟩
        rw [RG.skip HX.out (by unfold qp8; rw [jH2.out]; rfl)]
        exact HRG.out
       case measure => (simp only [intOf]; omega)
    ·obtain rfl : c = N := by omega
     go_wp2_with fail
     go_ret
     unfold qw6
     rw [qO8 (by rw [HIL.out]; exact hin), HSN.out, HNN.out]
     have hrg := HRG.out
     rw [HSN.out] at hrg
     refine RG.done (f := qp8 n p.K.toNat m S z ss) (c := c) (by simp) (Fr.below HB.out) hrg
theorem jp8 (hY : qp4 yv L J Jx) (hA : Abides J) (hX : qp3 Jx) {n m : Nat} (hs : n ≤ 1000) (hm : m ≤ 1000000) (hK : n = 0 ∨ p.K = (p.K.toNat : Int)) (hS : n = 0 ∨ p.S = (p.S.toNat : Int)) : ∀ (M : Nat) (ss : List Nat) (pre : List (List T4)) (C : Nat → Prop) (rows : List ER) (w : World) (z : List (Nat × Nat)), n - ss.length < M → InS L J bX p yv V n m z ss pre C rows w →
  Calls Try.prog 100 #[.pointer (some ⟨bX, 0, none⟩), .int .i64 (ss.length : Int)] w (qw6 J Jx bX p yv V n m z ss pre C rows w)
 | 0, _, _, _, _, _, _, hM, _ => absurd hM (Nat.not_lt_zero _)
 | M + 1, ss, pre, C, rows, w, z, hM, h => by
  have ih := jp8 hY hA hX hs hm hK hS M
  by_cases hi : ss.length = n
  ·exact zz6 hY hA hX hs hm hK h hi
  ·have hl : ss.length < n := by have := h.le; omega
   exact jS8 hA hs M ih hM h hl (by rcases hS with h0 | h0; omega; exact h0)
end
end Go.Proofs.Ytngkneknopenmaa.qf6
end
section
namespace Go.Proofs.Ytngkneknopenmaa.qf6
open Go Go.Lib Go.RowKit Go.Proofs.Ytngkneknopenmaa Go.Proofs.Ytngkneknopenmaa.zM Go.Proofs.Ytngkneknopenmaa.qa9 Go.Proofs.Ytngkneknopenmaa.qb8
def qL0 (n K m S f t : Nat) (op : List Nat) (d : List (Nat × Nat)) : List (List T4) := (qr9 n S f t op d).flatMap fun z => ja8 n K m S z []
def qB2 (op : List Nat) : List Value := op.map fun x : Nat => .int .i64 (x : Int)
section
variable {L : List (List T4)} {J : List (List T4) → (Nat → Prop) → World → Prop} {Jx : List (List T4) → World → Prop} {bX : Nat} {p : Par} {yv : Value}
structure InT (L : List (List T4)) (J : List (List T4) → (Nat → Prop) → World → Prop) (bX : Nat) (p : Par) (yv V : Value) (n m t : Nat) (op : List Nat) (d : List (Nat × Nat)) (v : Value) (pre : List (List T4)) (C : Nat → Prop) (rows : List ER) (w : World) : Prop where
 eb : EB w bX p yv V rows
 sep : Sep C (Ow bX V rows) w
 j : J pre C w
 car : qE4 op d rows
 inv : Inv n t op d
 pn : p.n = (n : Int)
 pm : p.m = (m : Int)
 own : w.ownsRow (bX + 1) 3 1 v op.length (qB2 op)
 ap : ∀ g, v.ownBlock = some g → ¬ C g ∧ ¬ Ow bX V rows g
 tb : t ≤ 2 * n
 db : ∀ x ∈ d, x.1 ≤ t ∧ x.2 ≤ t
 ok : ∀ h ∈ qL0 n p.K.toNat m p.S.toNat (2 * n - t) t op d, zT h = 0
 qB5 : (pre ++ (qL0 n p.K.toNat m p.S.toNat (2 * n - t) t op d).map zU) <+: L
def jw8 (op : List Nat) (d : List (Nat × Nat)) : Value → List ER → Prop := fun _ rows' => qE4 op d rows'
def qC7 (J : List (List T4) → (Nat → Prop) → World → Prop) (Jx : List (List T4) → World → Prop) (bX : Nat) (p : Par) (yv V : Value) (n m t : Nat) (op : List Nat) (d : List (Nat × Nat)) (pre : List (List T4)) (C : Nat → Prop) (rows : List ER) (w : World) : Ending → World → Prop :=
 qF1 J Jx pre ((qL0 n p.K.toNat m p.S.toNat (2 * n - t) t op d).map zU) C (Ow bX V rows) w (GG bX p yv (jw8 op d))
theorem ja1.toT {z : List (Nat × Nat)} {ss : List Nat} {rows : List ER} (h : ja1 z ss rows) : qE4 [] z rows := by
 have hl : rows.length = z.length := by have := congrArg List.length h.tms; simpa using this
 have key : ∀ (i : Nat) (r : ER), rows[i]? = some r → ∃ x, z[i]? = some x ∧ r.b = (x.1 : Int) ∧ r.c = (x.2 : Int) := by
  intro i r hr
  have e := congrArg (fun l => l[i]?) h.tms
  simp only [List.getElem?_map] at e
  rw [hr] at e
  cases hz : z[i]? with
  | none => rw [hz] at e; cases e
  | some x => rw [hz] at e; have e := Option.some.inj e; exact ⟨x, rfl, congrArg Prod.fst e, congrArg Prod.snd e⟩
 refine ⟨hl, fun i r hr => ?_, fun i r hr _ => ?_⟩
 ·obtain ⟨x, hx, hb, _⟩ := key i r hr
  rw [hb]; unfold bg; rw [List.getD_eq_getElem?_getD, hx]; rfl
 ·obtain ⟨x, hx, _, hc⟩ := key i r hr
  rw [hc]; unfold cm; rw [List.getD_eq_getElem?_getD, hx]; rfl
set_option maxHeartbeats 1000000 in
set_option maxRecDepth 100000 in
theorem zb5 (hY : qp4 yv L J Jx) (hA : Abides J) (hX : qp3 Jx) {V : Value} {n m t : Nat} (hs : n ≤ 1000) (hm : m ≤ 1000000) (hK : n = 0 ∨ p.K = (p.K.toNat : Int)) (hS : n = 0 ∨ p.S = (p.S.toNat : Int)) {op : List Nat} {d : List (Nat × Nat)} {v : Value} {pre : List (List T4)} {C : Nat → Prop} {rows : List ER} {w : World} (h : InT L J bX p yv V n m t op d v pre C rows w) (ht : t = 2 * n) :
  Calls Try.prog 84 #[.pointer (some ⟨bX, 0, none⟩), .int .i64 (t : Int), v] w (qC7 J Jx bX p yv V n m t op d pre C rows w) := by
 have c4 := h.eb.field 4
 simp only [Par.cells, List.getElem?_toArray, List.getElem?_cons_succ, List.getElem?_cons_zero] at c4
 rw [h.pn] at c4
 have h1 := h.inv.le
 have h2 := h.inv.ev
 have hd : d.length = n := by omega
 have ho : op = [] := List.length_eq_zero_iff.1 (by omega)
 subst ho
 have hraw : qL0 n p.K.toNat m p.S.toNat (2 * n - t) t [] d = ja8 n p.K.toNat m p.S.toNat d [] := by
  unfold qL0
  rw [ht, Nat.sub_self, qr9]
  simp
 have hok := h.ok
 have hpre := h.qB5
 rw [hraw] at hok hpre
 have hin : InS L J bX p yv V n m d [] pre C rows w := ⟨h.eb, h.sep, h.j, h.car.leaf, h.pn, h.pm, by rw [h.car.len, hd], hd, fun x hx => by have := h.db x hx; omega, Nat.zero_le _, Nat.le_refl _, fun s hs => by simp at hs, hok, hpre⟩
 have hih := (jp8 hY hA hX hs hm hK hS _ [] pre C rows w d (Nat.lt_succ_self _) hin).mono (R' := fun e w' => ∃ b, e = .returned (.bool b) ∧ qC7 J Jx bX p yv V n m t [] d pre C rows w (.returned (.bool b)) w') (fun e w' hq => by
  obtain ⟨b, rfl⟩ := hq.bool
  refine ⟨b, rfl, ?_⟩
  unfold qC7
  rw [hraw]
  unfold qw6 at hq
  exact hq.imp (fun C' E' w' ⟨V', rows', e1, e2, e3, e4, e5⟩ => ⟨V', rows', e1, e2, e5.toT⟩))
 rw [show (([] : List Nat).length : Int) = 0 from rfl] at hih
 have hown := h.own
 obtain ⟨A, cap, hv⟩ : ∃ A cap, v = .slice A 0 cap := by
  rcases hown.2 with ⟨e, _⟩ | ⟨g, cap, _, e, _⟩
  ·exact ⟨none, 0, e⟩
  ·exact ⟨_, cap, e⟩
 subst hv
 obtain ⟨Q, hQ⟩ : ∃ Q, qC7 J Jx bX p yv V n m t [] d pre C rows w = Q := ⟨_, rfl⟩
 rw [hQ] at hih ⊢
 have IH := Lib.hid hih
 clear hih hin hraw hok hpre hQ h hK hS hown h1 h2
 subst ht
 rw [show ((2 * n : Nat) : Int) = 2 * (n : Int) by omega]
 go_enter Try.func84, Try.ntmps84
 go_wp2_with (go_at_call 100; (with_reducible refine (IH.out).mono ?_); rintro e w' ⟨b, rfl, hq⟩; have HQ := Lib.hid hq; clear hq)
 exact HQ.out
end
end Go.Proofs.Ytngkneknopenmaa.qf6
end
section
namespace Go.Proofs.Ytngkneknopenmaa.qf6
open Go Go.Lib Go.RowKit Go.Proofs.Ytngkneknopenmaa Go.Proofs.Ytngkneknopenmaa.zM Go.Proofs.Ytngkneknopenmaa.qa9 Go.Proofs.Ytngkneknopenmaa.qb8
section
variable {L : List (List T4)} {J : List (List T4) → (Nat → Prop) → World → Prop} {Jx : List (List T4) → World → Prop} {bX : Nat} {p : Par} {yv : Value}
def qp9 (n K m S t : Nat) (op : List Nat) (d : List (Nat × Nat)) : List (List T4) := if d.length < n ∧ op.length < S then (qL0 n K m S (2 * n - (t + 1)) (t + 1) (op ++ [d.length]) (d ++ [(t, 0)])).map zU else []
def qI2 (n K m S t : Nat) (op : List Nat) (d : List (Nat × Nat)) (i : Nat) : List (List T4) := (qL0 n K m S (2 * n - (t + 1)) (t + 1) (op.erase i) (d.set i (bg d i, t))).map zU
theorem qT5 {n K m S t : Nat} {op : List Nat} {d : List (Nat × Nat)} (h : t < 2 * n) : qL0 n K m S (2 * n - t) t op d = (if d.length < n ∧ op.length < S then qL0 n K m S (2 * n - (t + 1)) (t + 1) (op ++ [d.length]) (d ++ [(t, 0)]) else []) ++ op.flatMap fun i => qL0 n K m S (2 * n - (t + 1)) (t + 1) (op.erase i) (d.set i (bg d i, t)) := by
 unfold qL0
 rw [show 2 * n - t = (2 * n - (t + 1)) + 1 by omega, qr9, List.flatMap_append, List.flatMap_assoc]
 congr 1
 split <;> simp
theorem qw7 {n K m S t : Nat} {op : List Nat} {d : List (Nat × Nat)} (h : t < 2 * n) : (qL0 n K m S (2 * n - t) t op d).map zU = qp9 n K m S t op d ++ op.flatMap (qI2 n K m S t op d) := by
 rw [qT5 h, List.map_append, List.map_flatMap]
 unfold qp9
 congr 1
 split <;> simp
theorem zM3 {V V2 : Value} {rows : List ER} {r : ER} {H : Nat} (hat : ∀ g, V2.ownBlock = some g → V.ownBlock = some g ∨ H ≤ g) (hv : r.v = .slice none 0 0) : ∀ b, Ow bX V2 (rows ++ [r]) b → Ow bX V rows b ∨ H ≤ b := by
 rintro b (hb | hb | ⟨x, hx, hb⟩)
 ·exact .inl (.inl hb)
 ·rcases hat b hb with h | h
  ·exact .inl (.inr (.inl h))
  ·exact .inr h
 ·rcases List.mem_append.1 hx with hx | hx
  ·exact .inl (.inr (.inr ⟨x, hx, hb⟩))
  ·simp at hx
   subst hx
   rw [hv] at hb
   cases hb
theorem InT.begin {V : Value} {n m t : Nat} {op : List Nat} {d : List (Nat × Nat)} {v : Value} {pre : List (List T4)} {C : Nat → Prop} {rows : List ER} {w w1 w2 W3 : World} (h : InT L J bX p yv V n m t op d v pre C rows w) (hA : Abides J) (ht : t < 2 * n) (hd : d.length < n) (ho : op.length < p.S.toNat) (hb1 : Below w.heap.size w w1) {V2 : Value} {r : ER} (hr : r = ⟨0, (t : Int), 0, .slice none 0 0, []⟩)
  (hg : w1.grownBy w2 V.ownBlock) (hown : w2.ownsRow (bX + 1) 55 4 V2 (rows.length + 1) (qc9 rows ++ r.cells)) (hat : ∀ g, V2.ownBlock = some g → V.ownBlock = some g ∨ w1.heap.size ≤ g) (hb3 : Below (w2.setCell ⟨bX, 6, none⟩ V2).heap.size (w2.setCell ⟨bX, 6, none⟩ V2) W3) {v' : Value} (hv : W3.ownsRow (w2.setCell ⟨bX, 6, none⟩ V2).heap.size 3 1 v' (op.length + 1) (qB2 op ++ [.int .i64 (d.length : Int)])) :
  InT L J bX p yv V2 n m (t + 1) (op ++ [d.length]) (d ++ [(t, 0)]) v' pre C (rows ++ [r]) W3 ∧ Fr C (Ow bX V rows) w C (Ow bX V2 (rows ++ [r])) W3 ∧ (∀ g, v.ownBlock = some g → ¬ Ow bX V2 (rows ++ [r]) g) := by
 have hrv : r.v = .slice none 0 0 := by rw [hr]
 have zo5 := h.eb.below hb1
 have qT4 := zo5.push (r := r) hg hown hat hrv (by rw [hr])
 have heb3 := qT4.below hb3
 have hsz2 : w1.heap.size ≤ (w2.setCell ⟨bX, 6, none⟩ V2).heap.size := by have := hg.size; simpa using this
 have hOw := zM3 (bX := bX) (H := w1.heap.size) hat hrv (rows := rows)
 have hF : Fr C (Ow bX V rows) w C (Ow bX V2 (rows ++ [r])) W3 := by
  refine (Fr.below hb1).trans (Fr.trans (C' := C) (E' := Ow bX V2 (rows ++ [r])) (w' := w2.setCell ⟨bX, 6, none⟩ V2) ?_ (Fr.below hb3))
  refine ⟨hg.os, hg.tape, hg.output, hsz2, fun b hb _ he => ?_, fun _ _ h => h, fun b hb he => ?_⟩
  ·rw [qa4 _ _ _ (fun e => he (.inl e))]
   exact hg.block b hb (fun e => he (.inr (.inl e.symm)))
  ·rcases hOw b he with h | h
   ·exact h
   ·omega
 have hJ1 := hA.below h.j hb1 h.sep.lt
 have hCl : ∀ b, C b → b < w1.heap.size := fun b hb => Nat.lt_of_lt_of_le (h.sep.lt b hb) hb1.size
 have hJ2 : J pre C (w2.setCell ⟨bX, 6, none⟩ V2) := hA pre C w1 _ hJ1 hg.os hg.tape hg.output hsz2 (fun b hb => by
  rw [qa4 _ _ _ (fun e => h.sep.ap b (.inl e) hb)]
  exact hg.block b (hCl b hb) (fun e => h.sep.ap b (.inr (.inl e.symm)) hb))
 have hJ3 := hA.below hJ2 hb3 (fun b hb => Nat.lt_of_lt_of_le (hCl b hb) hsz2)
 have hsep : Sep C (Ow bX V2 (rows ++ [r])) W3 := ⟨fun b hb => Nat.lt_of_lt_of_le (hCl b hb) (Nat.le_trans hsz2 hb3.size), fun b ho hc => by
  rcases hOw b ho with h' | h'
  ·exact h.sep.ap b h' hc
  ·have := hCl b hc; omega⟩
 have hbig : ∀ g, v'.ownBlock = some g → (w2.setCell ⟨bX, 6, none⟩ V2).heap.size ≤ g := fun g hg' => (hv.lt g hg').1
 have hOlt : ∀ b, Ow bX V2 (rows ++ [r]) b → b < (w2.setCell ⟨bX, 6, none⟩ V2).heap.size := fun b hb => (qT4.lt b hb).2
 refine ⟨⟨heb3, hsep, hJ3, ?_, h.inv.begin hd, h.pn, h.pm, ?_, fun g hg' => ⟨fun hc => ?_, fun ho => ?_⟩, by omega, ?_, ?_, ?_⟩, hF, fun g hg' ho => ?_⟩
 ·exact h.car.begin t r (by rw [hr])
 ·have : (op ++ [d.length]).length = op.length + 1 := by simp
  rw [this]
  have e : qB2 (op ++ [d.length]) = qB2 op ++ [.int .i64 (d.length : Int)] := by simp [qB2]
  rw [e]
  exact jf9 hv (by have := (qT4.lt bX (.inl rfl)).2; omega)
 ·have := hbig g hg'; have := hCl g hc; omega
 ·have := hbig g hg'; have := hOlt g ho; omega
 ·intro x hx
  rcases List.mem_append.1 hx with hx | hx
  ·have := h.db x hx; omega
  ·simp at hx; subst hx; simp
 ·intro y hy
  refine h.ok y ?_
  rw [qT5 ht, List.mem_append, if_pos ⟨hd, ho⟩]
  exact .inl hy
 ·have hp := h.qB5
  rw [qw7 ht] at hp
  unfold qp9 at hp
  rw [if_pos ⟨hd, ho⟩, ← List.append_assoc] at hp
  exact List.IsPrefix.trans (List.prefix_append _ _) hp
 ·rcases hOw g ho with h' | h'
  ·exact (h.ap g hg').2 h'
  ·have h1 := (h.own.lt g hg').2
   have := hb1.size
   omega
theorem RG.close {V0 : Value} {n m t : Nat} {op : List Nat} {d : List (Nat × Nat)} {v : Value} {pre B : List (List T4)} {C : Nat → Prop} {rows : List ER} {w W W2 : World} (h : InT L J bX p yv V0 n m t op d v pre C rows w) (hA : Abides J) (ht : t < 2 * n) (hB : B = qp9 n p.K.toNat m p.S.toNat t op d) {E0 : Nat → Prop} {W0 : World} {k i : Nat} (hk : op[k]? = some i)
  {C' : Nat → Prop} {V' : Value} {rows' : List ER} (hc : RG J bX p yv (jw8 op d) C E0 W0 (pre ++ B ++ (op.take k).flatMap (qI2 n p.K.toNat m p.S.toNat t op d)) C' V' rows' W) {g cap : Nat} (hV : V' = .slice (some ⟨g, 0, none⟩) rows'.length cap) (hb : Below (W.setCell ⟨g, i * 4 + 2, none⟩ (.int .i64 (t : Int))).heap.size (W.setCell ⟨g, i * 4 + 2, none⟩ (.int .i64 (t : Int))) W2)
  {v' : Value} (hv : W2.ownsRow (W.setCell ⟨g, i * 4 + 2, none⟩ (.int .i64 (t : Int))).heap.size 3 1 v' (op.erase i).length (qB2 (op.erase i))) :
  ∃ zC, InT L J bX p yv V' n m (t + 1) (op.erase i) (d.set i (bg d i, t)) v' (pre ++ B ++ (op.take k).flatMap (qI2 n p.K.toNat m p.S.toNat t op d)) C' zC W2 ∧ Fr C E0 W0 C' (Ow bX V' zC) W2 ∧ Ow bX V' zC = Ow bX V' rows' := by
 have hio : i ∈ op := List.mem_of_getElem? hk
 have hcar : qE4 op d rows' := hc.car
 have hil : i < rows'.length := by rw [hcar.len]; exact h.inv.lt i hio
 obtain ⟨r', hr'⟩ : ∃ r, rows'[i]? = some r := ⟨_, List.getElem?_eq_getElem hil⟩
 obtain ⟨zC, hrows2⟩ : ∃ zC, rows'.set i { r' with c := (t : Int) } = zC := ⟨_, rfl⟩
 have zo5 := hc.eb.jR6 (j := 2) (r' := { r' with c := (t : Int) }) (u := .int .i64 (t : Int)) hV hr' (by omega) rfl rfl rfl
 rw [hrows2] at zo5
 have hO : Ow bX V' zC = Ow bX V' rows' := ja3 (by rw [← hrows2]; exact qO7 rows' hr' _ rfl)
 have hgO : Ow bX V' rows' g := .inr (.inl (by rw [hV]; rfl))
 have hsz : (W.setCell ⟨g, i * 4 + 2, none⟩ (.int .i64 (t : Int))).heap.size = W.heap.size := by simp
 have hJ1 := hA.store hc.j ⟨g, i * 4 + 2, none⟩ (.int .i64 (t : Int)) (hc.sep.ap _ hgO)
 have hJ2 := hA.below hJ1 hb (fun b hb => by rw [hsz]; exact hc.sep.lt b hb)
 have hF := (hc.fr.store ⟨g, i * 4 + 2, none⟩ (.int .i64 (t : Int)) hgO).trans (Fr.below (C := C') (E := Ow bX V' rows') hb)
 have hbig : ∀ x, v'.ownBlock = some x → W.heap.size ≤ x := fun x hx => by have := (hv.lt x hx).1; rw [hsz] at this; exact this
 have hx : (pre ++ B ++ op.flatMap (qI2 n p.K.toNat m p.S.toNat t op d)) <+: L := by
  have hp := h.qB5
  rw [qw7 ht, ← hB, ← List.append_assoc] at hp
  exact hp
 refine ⟨zC, ⟨zo5.below hb, ?_, hJ2, ?_, h.inv.close hio, h.pn, h.pm, ?_, fun x hx => ⟨fun hcx => ?_, fun ho => ?_⟩, by omega, ?_, ?_, ?_⟩, by rw [hO]; exact hF, hO⟩
 ·rw [hO]; exact (hc.sep.later (w' := W.setCell ⟨g, i * 4 + 2, none⟩ (.int .i64 (t : Int))) (by simp)).later hb.size
 ·rw [← hrows2]; exact hcar.close h.inv.nd hr' t
 ·exact jf9 hv (by rw [hsz]; have := (hc.eb.lt bX (.inl rfl)).2; omega)
 ·have := hbig x hx; have := hc.sep.lt x hcx; omega
 ·rw [hO] at ho; have := hbig x hx; have := (hc.eb.lt x ho).2; omega
 ·intro x hx
  obtain ⟨j, hj⟩ := List.mem_iff_getElem?.1 hx
  rw [List.getElem?_set] at hj
  split at hj
  ·rename_i e
   split at hj
   ·have := Option.some.inj hj
    subst this
    have hid := h.inv.lt i hio
    have hbg : bg d i ≤ t := by
     unfold bg
     rw [List.getD_eq_getElem?_getD, List.getElem?_eq_getElem hid]
     exact (h.db _ (List.getElem_mem hid)).1
    exact ⟨by simp only; omega, by simp only; omega⟩
   ·cases hj
  ·have := h.db x (List.mem_of_getElem? hj); omega
 ·intro y hy
  refine h.ok y ?_
  rw [qT5 ht, List.mem_append]
  exact .inr (List.mem_flatMap.2 ⟨i, hio, hy⟩)
 ·exact RG.qB5 (f := qI2 n p.K.toNat m p.S.toNat t op d) hk hx
end
end Go.Proofs.Ytngkneknopenmaa.qf6
end
