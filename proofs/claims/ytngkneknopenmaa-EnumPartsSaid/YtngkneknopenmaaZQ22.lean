/- qq5 of this claim, joined by a program of this session: the zO that its theorem uses. -/
import Derived.Test.YtngkneknopenmaaZQ20
import Derived.Test.YtngkneknopenmaaZQ21
set_option linter.unusedVariables false
set_option linter.unusedSimpArgs false
section
namespace Go.Proofs.Ytngkneknopenmaa.Enum
open Go Go.Lib Go.RowKit Go.Shelf Go.Proofs.Ytngkneknopenmaa Go.Proofs.Ytngkneknopenmaa.Hist Go.Proofs.Ytngkneknopenmaa.qb8 Go.Proofs.Ytngkneknopenmaa.qd6
theorem jC4 {a m : Int} (h0 : 0 ≤ a) (hm : 0 < m) : ∃ b, a.tmod m = b ∧ 0 ≤ b ∧ b < m := ⟨_, rfl, Int.tmod_nonneg _ h0, Int.tmod_lt_of_pos _ hm⟩
theorem zs5 {a : Int} (h : (Lit.int .u8 a).wf = true) : 0 ≤ a ∧ a ≤ 255 := by simpa [Lit.wf, IntKind.min, IntKind.max, IntKind.signed, IntKind.bits] using h
theorem jk9 {x : Int} (h0 : -1000 ≤ x) (h1 : x ≤ 1000) : IntKind.i64.wrap x = x := by simp [IntKind.wrap, IntKind.signed, IntKind.bits]; omega
def TB (q : Nat) (S T O K : Int) (W : World) : Prop := W.cell? ⟨q, 0, none⟩ = some (.int .i64 S) ∧ W.cell? ⟨q, 1, none⟩ = some (.int .i64 T) ∧ W.cell? ⟨q, 2, none⟩ = some (.int .i64 O) ∧ W.cell? ⟨q, 3, none⟩ = some (.int .i64 K)
theorem TB.of {q : Nat} {S T O K : Int} {W : World} (h : W.heap[q]? = some (.cells #[.int .i64 S, .int .i64 T, .int .i64 O, .int .i64 K] 41 (0, 0))) : TB q S T O K W := by
 have x0 := Lib.cell_of_heap h 0
 have x1 := Lib.cell_of_heap h 1
 have x2 := Lib.cell_of_heap h 2
 have x3 := Lib.cell_of_heap h 3
 simp only [List.getElem?_toArray, List.getElem?_cons_zero, List.getElem?_cons_succ] at x0 x1 x2 x3
 exact ⟨x0, x1, x2, x3⟩
theorem zs6 {S T O K n k : Int} (hn : n ≤ 64) (hk : k ≤ 64) {y : List T4} (hy : y ∈ qw0 S T O K n k) : qd6.Can y ∧ (y.length : Int) = n ∧ (jI y : Int) = k ∧ jb9 y S T O K = 1 := by
 obtain ⟨hne, c, h1, h2, h3, h4⟩ := (zs2 hn hk).1 hy
 have hsb := (js3 c.zH6 S.toNat).1 fun x hx => by obtain ⟨t, ht, rfl⟩ := qm9.1 hx; exact h3 t ht
 have hkb := (js3 c.keys K.toNat).1 fun x hx => by
  rw [qC0] at hx
  obtain ⟨o, ho, rfl⟩ := List.mem_map.1 hx
  exact h4 o ho
 have hnone : ¬ (n < 0 ∨ k < n ∨ n > max T 0 ∨ k > max O 0 ∨ (0 < n ∧ K < 1)) := by
  unfold qE5 at hne
  simp only [Bool.or_eq_false_iff, Bool.and_eq_false_iff, decide_eq_false_iff_not] at hne
  omega
 refine ⟨c, by omega, by omega, ?_⟩
 unfold jb9
 rw [if_neg (by omega)]
theorem zO5 {y : List T4} (c : qd6.Can y) : zD0 y = false := by
 have := qi0 c.ok
 unfold zD0
 simp
 omega
theorem LS.bounds {base : Nat} {xo : Value} {its : List IT} {C : Nat → Prop} {W : World} (s : LS base xo its C W) : LS base xo its (fun b => base ≤ b ∧ b < W.heap.size) W :=
 ⟨s.row, s.h2, fun x hx => ⟨(s.lo x hx).1, fun b hb => ⟨((s.lo x hx).2 b hb).1, by have := H2.ji1 (s.h2 x hx) b hb; have := (s.lo x hx).1; omega, (H2.ji1 (s.h2 x hx) b hb).2⟩⟩, s.sep, fun b hb => s.row.lt b hb⟩
theorem LS.base0 {base : Nat} {v : Value} {its : List IT} {C : Nat → Prop} {W : World} (s : LS base v its C W) : LS 0 v its C W :=
 ⟨⟨s.row.1, by rcases s.row.2 with h | ⟨g, cp, cur, h1, _, h2, h3⟩; exact .inl h; exact .inr ⟨g, cp, cur, h1, Nat.zero_le _, h2, h3⟩⟩, s.h2, fun x hx => ⟨Nat.zero_le _, (s.lo x hx).2⟩, s.sep, s.own⟩
structure LD (xo : Value) (its : List IT) (i : Nat) (W : World) : Prop where
 row : W.ownsRow 0 22 1 xo its.length (its.map IT.v)
 h2 : ∀ x ∈ its.drop i, H2 W x.lo x.v x.rows x.h
theorem LD.of {xo : Value} {its : List IT} {C : Nat → Prop} {W : World} (s : LS 0 xo its C W) : LD xo its 0 W := ⟨s.row, fun x hx => s.h2 x hx⟩
theorem LD.below {xo : Value} {its : List IT} {i : Nat} {W W' : World} (s : LD xo its i W) (hb : Below W.heap.size W W') : LD xo its i W' :=
 ⟨qu9 s.row fun k hk => hb.block k (s.row.lt k hk).2, fun x hx => (s.h2 x hx).below hb⟩
theorem LD.reads {A : Option Addr} {n c : Nat} {its : List IT} {i : Nat} {W : World} (s : LD (.slice A n c) its i W) {x : IT} (hx : its[i]? = some x) : ∃ ad, A = some ad ∧ W.cell? (ad.add i) = some x.v := by
 have hi := (List.getElem?_eq_some_iff.1 hx).1
 rcases s.row.2 with ⟨_, h0⟩ | ⟨g, cp, cur, e, _, h2, _⟩
 ·omega
 ·injection e with e1 e2 e3
  subst e1
  exact ⟨_, rfl, s.row.cells (g := g) rfl i x.v (by rw [List.getElem?_map, hx]; rfl)⟩
theorem LS.Qd7 {A : Option Addr} {base n c : Nat} {its : List IT} {C : Nat → Prop} {i : Nat} {W : World} (s : LS base (.slice A n c) its C W) {x : IT} (hx : its[i]? = some x) : ∃ ad, A = some ad ∧ W.cell? (ad.add i) = some x.v := by
 have hi := (List.getElem?_eq_some_iff.1 hx).1
 rcases s.row.2 with ⟨_, h0⟩ | ⟨g, cp, cur, e, _, h2, _⟩
 ·omega
 ·injection e with e1 e2 e3
  subst e1
  exact ⟨_, rfl, s.row.cells (g := g) rfl i x.v (by rw [List.getElem?_map, hx]; rfl)⟩
theorem LD.next {xo : Value} {its : List IT} {i : Nat} {W W' : World} {x : IT} (s : LD xo its i W) (hsep : its.Pairwise fun x y => ∀ b, x.has b → b < y.lo) (hx : its[i]? = some x) (hk : ∀ b, b < W.heap.size → ¬ x.has b → W'.heap[b]? = W.heap[b]?) : LD xo its (i + 1) W' := by
 have hi := (List.getElem?_eq_some_iff.1 hx).1
 have hx2 := s.h2 x (List.mem_iff_getElem?.2 ⟨0, by rw [List.getElem?_drop, Nat.add_zero]; exact hx⟩)
 have hne : ∀ k, xo.ownBlock = some k → ¬ x.has k := by
  rintro k hk (hb | ⟨r, hr, rfl⟩)
  ·rcases hx2.1.2 with ⟨e1, _⟩ | ⟨g, cp, cur, e1, _, hc, _⟩
   ·rw [e1] at hb; simp [Value.ownBlock] at hb
   ·rw [e1] at hb
    simp [Value.ownBlock] at hb
    subst hb
    exact own_ne s.row hc (by decide) hk
  ·obtain ⟨cs, hc⟩ := hx2.2.ne_of r hr
   exact own_ne s.row hc (by decide) hk
 refine ⟨qu9 s.row fun k hk' => hk k (s.row.lt k hk').2 (hne k hk'), fun y hy => ?_⟩
 obtain ⟨q, hq⟩ := List.mem_iff_getElem?.1 hy
 rw [List.getElem?_drop] at hq
 have hyq := s.h2 y (List.mem_iff_getElem?.2 ⟨q + 1, by rw [List.getElem?_drop, ← hq]; congr 1; omega⟩)
 have hlt : ∀ b, x.has b → b < y.lo := by
  have h1 := (List.getElem?_eq_some_iff.1 hx).2
  have h2 := (List.getElem?_eq_some_iff.1 hq)
  rw [← h1, ← h2.2]
  exact List.pairwise_iff_getElem.1 hsep i (i + 1 + q) hi h2.1 (by omega)
 have hhas := H2.ji1 hyq
 refine jm4 hyq (fun k hv => ?_) (fun r hr => ?_)
 ·have := hhas k (.inl hv)
  exact hk k this.2 (fun h => by have := hlt k h; omega)
 ·have := hhas r.g (.inr ⟨r, hr, rfl⟩)
  exact hk r.g this.2 (fun h => by have := hlt r.g h; omega)
structure HD (w0 w1 : World) (x : IT) (j : Nat) (W : World) : Prop where
 h2 : ∃ rows hh, H2 W x.lo x.v rows hh ∧ hh.length = x.h.length ∧ hh.drop j = x.h.drop j ∧ rows.map (·.g) = x.rows.map (·.g)
 keep : ∀ b, b < w1.heap.size → ¬ x.has b → W.heap[b]? = w1.heap[b]?
 size : w1.heap.size ≤ W.heap.size
 below : Below w0.heap.size w0 W
theorem HD.start {w0 w1 : World} {x : IT} (h : H2 w1 x.lo x.v x.rows x.h) (hb : Below w0.heap.size w0 w1) : HD w0 w1 x 0 w1 := ⟨⟨_, _, h, rfl, rfl, rfl⟩, fun _ _ _ => rfl, Nat.le_refl _, hb⟩
theorem jK5 {α : Type} {a b : List α} {j : Nat} (h : a.drop j = b.drop j) : a.drop (j + 1) = b.drop (j + 1) := by
 have := congrArg (List.drop 1) h
 rwa [List.drop_drop, List.drop_drop] at this
theorem HD.step {w0 w1 : World} {x : IT} {j : Nat} {W : World} (s : HD w0 w1 x j W) (hlo : w0.heap.size ≤ x.lo) (hhi : ∀ b, x.has b → b < w1.heap.size) {t : T4} (ht : x.h[j]? = some t) (hop : 1 ≤ t.ops.length) (f g : Int → Int) :
  ∃ q cp r, ∃ o : O3, x.v = .slice (some ⟨q, 0, none⟩) x.h.length cp ∧ W.cell? ⟨q, j * 4, none⟩ = some (.int .i64 t.s) ∧ W.frozen? ⟨q, j * 4, none⟩ = false ∧
   ∃ rc, (W.setCell ⟨q, j * 4, none⟩ (.int .i64 (f t.s))).cell? ⟨q, j * 4 + 3, none⟩ = some (.slice (some ⟨r, 0, none⟩) t.ops.length rc) ∧
   (W.setCell ⟨q, j * 4, none⟩ (.int .i64 (f t.s))).cell? ⟨r, 1, none⟩ = some (.int .i64 o.k) ∧ (W.setCell ⟨q, j * 4, none⟩ (.int .i64 (f t.s))).frozen? ⟨r, 1, none⟩ = false ∧
   HD w0 w1 x (j + 1) ((W.setCell ⟨q, j * 4, none⟩ (.int .i64 (f t.s))).setCell ⟨r, 1, none⟩ (.int .i64 (g o.k))) := by
 obtain ⟨⟨rows, hh, h2, hl, hd, hg⟩, hk, hs, hb⟩ := s
 have htj : hh[j]? = some t := by
  have : (hh.drop j)[0]? = (x.h.drop j)[0]? := by rw [hd]
  rw [List.getElem?_drop, List.getElem?_drop, Nat.add_zero] at this
  rw [this, ht]
 have hjl := (List.getElem?_eq_some_iff.1 htj).1
 obtain ⟨q, cp, r, hv, hr, hq, hc, hf, h2'⟩ := H2.setS h2 htj (f t.s)
 obtain ⟨o, os, hos⟩ : ∃ o os, t.ops = o :: os := by
  cases e : t.ops with
  | nil => rw [e] at hop; simp at hop
  | cons o os => exact ⟨o, os, rfl⟩
 have htj' : (hh.set j { t with s := f t.s })[j]? = some { t with s := f t.s } := by rw [List.getElem?_set_self hjl]
 obtain ⟨q', cp', r', hv', hr', hlr, hc3, hck, hfk, h2''⟩ := H2.setK h2' htj' hos (g o.k)
 rw [hv] at hv'
 injection hv' with e1 e2 e3
 injection e1 with e1
 injection e1 with e1
 subst e1
 rw [List.getElem?_set_self (by have := h2.2.1; omega)] at hr'
 cases hr'
 replace hlr : x.lo ≤ r.g := hlr
 have hg1 := zV W q (j * 4) (.int .i64 (f t.s))
 have hg2 := zV (W.setCell ⟨q, j * 4, none⟩ (.int .i64 (f t.s))) r.g 1 (.int .i64 (g o.k))
 have hxq : x.has q := .inl (by rw [hv]; rfl)
 have hxr : x.has r.g := .inr (by
  have : r.g ∈ rows.map (·.g) := List.mem_map.2 ⟨r, List.mem_of_getElem? hr, rfl⟩
  rw [hg] at this
  obtain ⟨y, hy, e⟩ := List.mem_map.1 this
  exact ⟨y, hy, e⟩)
 refine ⟨q, cp, r.g, o, by rw [hv, hl], hc, hf, r.cp, hc3, hck, hfk, ⟨_, _, h2'', by simp [hl], ?_, ?_⟩, fun b hb1 hb2 => ?_, ?_, ?_⟩
 ·rw [List.drop_set_of_lt (by omega), List.drop_set_of_lt (by omega)]
  exact jK5 hd
 ·rw [jC3 rows j r _ hr, hg]
 ·rw [hg2.block b (by have := hg1.size; omega) (fun e => hb2 (by injection e with e; rw [e]; exact hxr)), hg1.block b (by omega) (fun e => hb2 (by injection e with e; rw [e]; exact hxq)), hk b hb1 hb2]
 ·have := hg1.size; have := hg2.size; omega
 ·exact (hb.grown hg1 hb.size (fun k e => by cases e; omega)).grown hg2 (by have := hb.size; have := hg1.size; omega) (fun k e => by cases e; omega)
end Go.Proofs.Ytngkneknopenmaa.Enum
end
section
namespace Go.Proofs.Ytngkneknopenmaa.Enum
open Go.jA (pu ta sa sz ss qa7 jn7)
open Go Go.Lib Go.RowKit Go.Shelf Go.Proofs.Ytngkneknopenmaa Go.Proofs.Ytngkneknopenmaa.Hist Go.Proofs.Ytngkneknopenmaa.qb8 Go.Proofs.Ytngkneknopenmaa.qd6
def Both (w5 : World) (LL : List (List T4)) (v10 v11 : Value) (its itm : List IT) (W : World) : Prop :=
 ∃ C1 C2 : Nat → Prop, LS 0 v10 its C1 W ∧ LS 0 v11 itm C2 W ∧ (∀ b, C1 b → ¬ C2 b) ∧ (∀ b, C2 b → b < W.heap.size) ∧ (∀ x ∈ its, w5.heap.size ≤ x.lo) ∧ its.map IT.h = LL ∧ itm.map IT.h = LL ∧ Below w5.heap.size w5 W
theorem zO6 {w5 V1 V2 V3 : World} {LL : List (List T4)} {v10 v11 : Value} {its itm : List IT} {C1 C2 : Nat → Prop} (h1 : Below w5.heap.size w5 V1) (s1 : LS (V1.heap.size + 3) v10 its C1 V2) (h2 : Below V1.heap.size V1 V2) (s2 : LS (V2.heap.size + 3) v11 itm C2 V3) (h3 : Below V2.heap.size V2 V3) (e1 : its.map IT.h = LL) (e2 : itm.map IT.h = LL) :
  Both w5 LL v10 v11 its itm V3 := by
 have b3 : Below w5.heap.size w5 V3 := (h1.trans (h2.mono h1.size)).trans (h3.mono (Nat.le_trans h1.size h2.size))
 have s1' := s1.bounds.base0.same (W' := V3) fun b hb => h3.block b hb.2
 have s2' := s2.bounds.base0
 have k1 := h1.size
 have k2 := h2.size
 exact ⟨_, _, s1', s2', fun b hb hc => by omega, fun b hb => hb.2, fun x hx => by have := (s1.lo x hx).1; omega, e1, e2, b3⟩
set_option linter.unusedSimpArgs false
set_option maxHeartbeats 16000000 in
set_option maxRecDepth 100000 in
theorem enumParts_walk (b0 b1 b2 b3 tn on : Int) (w : World) (wa : (Lit.int .u8 b0).wf = true) (wb : (Lit.int .u8 b1).wf = true) (wc : (Lit.int .u8 b2).wf = true) (wd : (Lit.int .u8 b3).wf = true) (we : (Lit.int .u8 tn).wf = true) (wf : (Lit.int .u8 on).wf = true) :
  Calls Try.prog 10 #[.agg #[.int .u8 b0, .int .u8 b1, .int .u8 b2, .int .u8 b3], .int .u8 tn, .int .u8 on] w fun e w' => e = .returned (.bool true) ∧ Below w.heap.size w w' := by
 have hbe := (Below.refl w.heap.size w).alloc (Nat.le_refl _) (.cells #[.int .u8 b0, .int .u8 b1, .int .u8 b2, .int .u8 b3] 70)
 have hbx := alloc_at w (.cells #[.int .u8 b0, .int .u8 b1, .int .u8 b2, .int .u8 b3] 70)
 obtain ⟨W, hW⟩ : ∃ W, w.alloc (.cells #[.int .u8 b0, .int .u8 b1, .int .u8 b2, .int .u8 b3] 70) = W := ⟨_, rfl⟩
 rw [hW] at hbe hbx
 have HB := Lib.hid hbe
 have HBX := Lib.hid hbx
 have HSP := Lib.hid (js6 W)
 obtain ⟨a0, a0'⟩ := zs5 wa
 obtain ⟨a1, a1'⟩ := zs5 wb
 obtain ⟨a2, a2'⟩ := zs5 wc
 obtain ⟨a3, a3'⟩ := zs5 wd
 obtain ⟨a4, a4'⟩ := zs5 we
 obtain ⟨a5, a5'⟩ := zs5 wf
 obtain ⟨S, hS, hS0, hS1⟩ := jC4 (m := 4) a0 (by omega)
 obtain ⟨T, hT, hT0, hT1⟩ := jC4 (m := 4) a1 (by omega)
 obtain ⟨O, hO, hO0, hO1⟩ := jC4 (m := 5) a2 (by omega)
 obtain ⟨K, hK, hK0, hK1⟩ := jC4 (m := 3) a3 (by omega)
 obtain ⟨n, hn, hn0, hn1⟩ := jC4 (m := 4) a4 (by omega)
 obtain ⟨k, hk, hk0, hk1⟩ := jC4 (m := 5) a5 (by omega)
 have g0 := jk9 (x := b0) (by omega) (by omega)
 have g1 := jk9 (x := b1) (by omega) (by omega)
 have g2 := jk9 (x := b2) (by omega) (by omega)
 have g3 := jk9 (x := b3) (by omega) (by omega)
 have g4 := jk9 (x := tn) (by omega) (by omega)
 have g5 := jk9 (x := on) (by omega) (by omega)
 have i0 := jk9 (x := S) (by omega) (by omega)
 have i1 := jk9 (x := T) (by omega) (by omega)
 have i2 := jk9 (x := O) (by omega) (by omega)
 have i3 := jk9 (x := K) (by omega) (by omega)
 have i4 := jk9 (x := n) (by omega) (by omega)
 have i5 := jk9 (x := k) (by omega) (by omega)
 clear hbe hbx wa wb wc wd we wf
 go_enter Try.func10, Try.ntmps10
 go_upto_region 3 with (go_at_call 21; (with_reducible refine HSP.out.mono ?_); rintro e v1 ⟨rfl, hb1⟩)
 have HB1 := Lib.hid (HB.out.trans (hb1.mono HB.out.size))
 have zD1 := (hb1.block _ (Array.getElem?_eq_some_iff.1 HBX.out).1).trans HBX.out
 have y0 := Lib.cell_of_heap zD1 0
 have y1 := Lib.cell_of_heap zD1 1
 have y2 := Lib.cell_of_heap zD1 2
 have y3 := Lib.cell_of_heap zD1 3
 simp only [List.getElem?_toArray, List.getElem?_cons_zero, List.getElem?_cons_succ] at y0 y1 y2 y3
 clear hb1 zD1 HSP HBX hW
 go_upto_region 4 with fail
 have Qd8 := HB1.out.alloc HB1.out.size (.cells #[.int .i64 S, .int .i64 T, .int .i64 O, .int .i64 K] 41)
 have hx5 := alloc_at v1 (.cells #[.int .i64 S, .int .i64 T, .int .i64 O, .int .i64 K] 41)
 obtain ⟨q, hq⟩ : ∃ q, v1.heap.size = q := ⟨_, rfl⟩
 obtain ⟨w5, hw5⟩ : ∃ W, v1.alloc (.cells #[.int .i64 S, .int .i64 T, .int .i64 O, .int .i64 K] 41) = W := ⟨_, rfl⟩
 rw [hq] at hx5
 rw [hw5] at Qd8 hx5
 rw [hq, hw5]
 have HB5 := Lib.hid Qd8
 have HQ := Lib.hid hx5
 clear Qd8 hx5 hq hw5 y0 y1 y2 y3 hS hT hO hK
 go_upto_region 5 with fail
 clear g0 g1 g2 g3 g4 g5 i0 i1 i2 i3 i4 i5 hn hk
 obtain ⟨LL, hLL⟩ : ∃ L, (qw0 S T O K n k).take 300 = L := ⟨_, rfl⟩
 have hln : LL.length ≤ 300 := by rw [← hLL, List.length_take]; omega
 have hli := fun V => js5 (S := S) (T := T) (O := O) (K := K) (n := n) (m := k) (most := 300) (L := qw0 S T O K n k) (by omega) (by omega) rfl (by omega) (jr7 (by omega) (by omega)) V
 rw [show (max (300 : Int) 1).toNat = 300 from rfl, hLL] at hli
 have HLI := Lib.hid hli
 have HLAW := Lib.hid (fun y (hy : y ∈ LL) => zs6 (S := S) (T := T) (O := O) (K := K) (n := n) (k := k) (by omega) (by omega) (List.mem_of_mem_take (hLL.symm ▸ hy)))
 clear hli hLL
 go_cut [10, 11] (fun v10 v11 wx => ∃ its itm, Both w5 LL v10 v11 its itm wx)
 case first =>
  have HQV := Lib.hid (((Below.refl w5.heap.size w5).drew.block q (Array.getElem?_eq_some_iff.1 HQ.out).1).trans HQ.out)
  have hV0 : Below w5.heap.size w5 w5.drew := (Below.refl _ _).drew
  obtain ⟨V0, hV⟩ : ∃ V0, w5.drew = V0 := ⟨_, rfl⟩
  refine jA.qB2 [] (TB q S T O K) (by kernel_rfl) ?_
  rw [hV] at hV0 HQV ⊢
  have HV0 := Lib.hid hV0
  have hAA := TB.of HQV.out
  clear hV hV0
  have HTQ := Lib.hid (fun X (hb : Below V0.heap.size V0 X) => TB.of ((hb.block q (Array.getElem?_eq_some_iff.1 HQV.out).1).trans HQV.out))
  refine ta (i := 0) (v := .agg #[.int .i64 S, .int .i64 T, .int .i64 O, .int .i64 K]) rfl (fun _ hW => by obtain ⟨q0, q1, q2, q3⟩ := hW; go_simp) hAA ?_
  simp only [Act.put, sa, sz, ss]
  refine pu (i := 1) (v := .int .i64 n) rfl (fun _ => by go_simp) ?_
  simp only [Act.put, sa, sz, ss]
  refine pu (i := 2) (v := .int .i64 k) rfl (fun _ => by go_simp) ?_
  simp only [Act.put, sa, sz, ss]
  refine ta (i := 4) (v := .agg #[.int .i64 S, .int .i64 T, .int .i64 O, .int .i64 K]) rfl (fun _ hW => by obtain ⟨q0, q1, q2, q3⟩ := hW; go_simp) hAA ?_
  simp only [Act.put, sa, sz, ss]
  refine pu (i := 5) (v := .int .i64 n) rfl (fun _ => by go_simp) ?_
  simp only [Act.put, sa, sz, ss]
  refine pu (i := 6) (v := .int .i64 k) rfl (fun _ => by go_simp) ?_
  simp only [Act.put, sa, sz, ss]
  clear hAA
  refine qa7 (i := 3) rfl (by kernel_rfl) rfl ?_
  intro K7 hK7
  have HK7 := Lib.hid hK7
  clear hK7
  (try simp only [List.getElem_toArray, List.getElem_cons_succ, List.getElem_cons_zero])
  unfold Oper.wp
  go_simp
  go_at_call 24
  refine (HLI.out V0).mono ?_
  rintro e V1 ⟨⟨v5, its, C5, rfl, hls1, hmp1⟩, hbC⟩
  have HV1 := Lib.hid hbC
  have HS1 := Lib.hid hls1
  refine HK7.out _ _ ⟨fun _ _ => HTQ.out _ HV1.out, ?_⟩
  clear HK7 K7 hbC hls1
  (try simp only [Act.put, sa, sz, ss])
  refine qa7 (i := 7) rfl (by kernel_rfl) rfl ?_
  intro K7 hK7
  have HK7 := Lib.hid hK7
  clear hK7
  (try simp only [List.getElem_toArray, List.getElem_cons_succ, List.getElem_cons_zero])
  unfold Oper.wp
  go_simp
  go_at_call 24
  refine (HLI.out V1).mono ?_
  rintro e V2 ⟨⟨v6, itm, C6, rfl, hls2, hmp2⟩, hbC⟩
  have HV2 := Lib.hid hbC
  have HB := Lib.hid (zO6 HV0.out HS1.out HV1.out hls2 HV2.out hmp1 hmp2)
  refine HK7.out _ _ ⟨fun _ _ => HTQ.out _ (HV1.out.trans (HV2.out.mono HV1.out.size)), ?_⟩
  clear HK7 K7 hbC hls2 hmp1 hmp2
  (try simp only [Act.put, sa, sz, ss])
  refine pu (i := 8) (v := v5) rfl (fun _ => by go_simp) ?_
  simp only [Act.put, sa, sz, ss]
  refine pu (i := 9) (v := v6) rfl (fun _ => by go_simp) ?_
  simp only [Act.put, sa, sz, ss]
  (try simp only [List.getElem_toArray, List.getElem_cons_succ, List.getElem_cons_zero, Act.put, sa, sz, ss])
  refine jA.qO2 (by kernel_rfl) ?_ _
  go_wp2_with fail
  go_meet
  exact ⟨its, itm, HB.out⟩
 case rest =>
  rename World => w6
  obtain ⟨its, itm, C1, C2, hl1, hl2, hapart, hc2, hlow, hm1, hm2, hb6⟩ := hcut
  have zO7 : its.length = LL.length := by rw [← hm1, List.length_map]
  have zO8 : itm.length = LL.length := by rw [← hm2, List.length_map]
  obtain ⟨A1, c1, rfl, _⟩ := LS.slice hl1
  obtain ⟨A2, c2, rfl, _⟩ := LS.slice hl2
  obtain ⟨nl, hnl⟩ : ∃ nl, LL.length = nl := ⟨_, rfl⟩
  have hld := LD.of hl1
  have hsep := hl1.sep
  have hcl : ∀ x ∈ its, ∀ b, x.has b → C1 b := fun x hx b hb => ((hl1.lo x hx).2 b hb).2
  rw [zO7, hnl] at hld
  rw [zO8, hnl] at hl2
  rw [zO7, zO8, hnl]
  have HLD := Lib.hid hld
  have HLM := Lib.hid hl2
  have HN := Lib.hid (show its.length = nl ∧ itm.length = nl from ⟨by rw [zO7, hnl], by rw [zO8, hnl]⟩)
  have HM := Lib.hid (show its.map IT.h = LL ∧ itm.map IT.h = LL from ⟨hm1, hm2⟩)
  have HSEP := Lib.hid hsep
  have HAP := Lib.hid (show (∀ x ∈ its, ∀ b, x.has b → ¬ C2 b) ∧ ∀ x ∈ its, w5.heap.size ≤ x.lo from ⟨fun x hx b hb => hapart b (hcl x hx b hb), hlow⟩)
  have HB6 := Lib.hid hb6
  have HC2 := Lib.hid hc2
  have hnl3 : nl ≤ 300 := by omega
  clear hl1 hl2 hapart hc2 hlow hm1 hm2 hb6 zO7 zO8 hnl hld hsep hcl hln
  go_wp2_with fail
  go_loopw [55] (fun v wr => ∃ i : Nat, i ≤ nl ∧ v = .int .i64 ((i : Nat) : Int) ∧ LD (.slice A1 nl c1) its i wr ∧ LS 0 (.slice A2 nl c2) itm C2 wr ∧ w6.heap.size ≤ wr.heap.size ∧ Below w5.heap.size w5 wr) (fun v _ => nl - (intOf v).toNat)
  case atStart => exact ⟨0, Nat.zero_le _, rfl, HLD.out, HLM.out, Nat.le_refl _, HB6.out⟩
  case round =>
   clear HLD HLM HB6
   obtain ⟨i, hi, rfl, hld, hlm, hsz, hb⟩ := hrel
   have HBr := Lib.hid hb
   by_cases hlt : i < nl
   ·have hltz : (i : Int) < (nl : Int) := by omega
    obtain ⟨x, hx⟩ : ∃ x, its[i]? = some x := ⟨_, List.getElem?_eq_getElem (by rw [HN.out.1]; exact hlt)⟩
    obtain ⟨z, hz⟩ : ∃ x, itm[i]? = some x := ⟨_, List.getElem?_eq_getElem (by rw [HN.out.2]; exact hlt)⟩
    have hxl : LL[i]? = some x.h := by rw [← HM.out.1, List.getElem?_map, hx]; rfl
    have hzl : LL[i]? = some z.h := by rw [← HM.out.2, List.getElem?_map, hz]; rfl
    have hxz : z.h = x.h := by rw [hxl] at hzl; exact (Option.some.inj hzl).symm
    obtain ⟨zs7, hny, hkc, hwin⟩ := HLAW.out x.h (List.mem_of_getElem? hxl)
    obtain ⟨ad, rfl, y0⟩ := hld.reads hx
    obtain ⟨am, rfl, y1⟩ := LS.Qd7 hlm hz
    have h2x := hld.h2 x (List.mem_iff_getElem?.2 ⟨0, by rw [List.getElem?_drop, Nat.add_zero]; exact hx⟩)
    have h2z := hlm.h2 z (List.mem_of_getElem? hz)
    obtain ⟨A7, c7, hv7, hc7, hr7⟩ := H2.rd h2x
    obtain ⟨A8, c8, hv8, hc8, hr8⟩ := H2.rd h2z
    rw [hxz] at hv8 hc8 hr8
    rw [hv7] at y0
    rw [hv8] at y1
    obtain ⟨ny, Qd9⟩ : ∃ ny, x.h.length = ny := ⟨_, rfl⟩
    have hny4 : ny ≤ 3 := by omega
    have q1 : ((ny : Int) != n) = false := by simp; omega
    have hop : ∀ t ∈ x.h, 1 ≤ t.ops.length ∧ t.ops.length ≤ 64 := fun t ht => by have := (qi5 t).1 (zs7.may.1 t ht); omega
    have hbig := bigR false hr7 hc7 (by omega) (fun t ht => by have := hop t ht; omega) (zO5 zs7)
    have his := fun (W : World) (hb : Below wr.heap.size wr W) => ze9 (hr7.below hb) hc7 (by omega) (fun t ht => by have := hop t ht; omega)
    rw [show isR x.h = true by unfold isR; rw [zs7.ok, zs7.eq]; simp] at his
    have hwi := fun (W : World) (hb : Below wr.heap.size wr W) => jJ5 (S := S) (T := T) (O := O) (K := K) hc7 zs7.ok (hr7.below hb)
    rw [hwin] at hwi
    have hcn := fun (W : World) (hb : Below wr.heap.size wr W) => qO5 A7 c7 x.h W (hr7.below hb) hc7 (by omega) (by omega)
    rw [hkc] at hcn
    have hsm := fun (W : World) (hb : Below wr.heap.size wr W) => jT9 (hr7.below hb) hc7 (by omega) (fun t ht => by have := hop t ht; omega) (hr8.below hb) hc8
    rw [show decide (x.h = x.h) = true by simp] at hsm
    have htq := fun (W : World) (hb : Below wr.heap.size wr W) => TB.of ((hb.block q (by have := (Array.getElem?_eq_some_iff.1 HQ.out).1; have := HBr.out.size; omega)).trans ((HBr.out.block q (Array.getElem?_eq_some_iff.1 HQ.out).1).trans HQ.out))
    have hym := fun (W : World) (hb : Below wr.heap.size wr W) => cell_below hb y1
    rw [Qd9] at hbig his hwi hcn hsm y0 hv7 hym
    have HBIG := Lib.hid hbig
    have HIS := Lib.hid his
    have HWI := Lib.hid hwi
    have HCN := Lib.hid hcn
    have HSM := Lib.hid hsm
    have HTQ := Lib.hid htq
    have HYM := Lib.hid hym
    have HX := Lib.hid (show its[i]? = some x ∧ x.h.length = ny ∧ x.v = .slice A7 ny c7 from ⟨hx, Qd9, hv7⟩)
    have HOP := Lib.hid hop
    have HLD := Lib.hid hld
    have HLM := Lib.hid hlm
    have H2X := Lib.hid h2x
    clear hx hz hxl hzl hxz zs7 hny hkc hwin y1 h2x h2z hv7 hc7 hr7 hv8 hc8 hr8 Qd9 hop hbig his hwi hcn hsm htq hym hld hlm hb
    go_upto_region 13 with (first
     | (go_at_call 12; (with_reducible refine HBIG.out.mono ?_); rintro e w1 ⟨rfl, hb1⟩; have zO9 := Lib.hid hb1; clear hb1)
     | (go_at_call 35; (with_reducible refine (HIS.out _ zO9.out).mono ?_); rintro e w2 ⟨rfl, hb2⟩; have HB2 := Lib.hid (zO9.out.trans (hb2.mono zO9.out.size)); clear hb2; obtain ⟨q0, q1, q2, q3⟩ := HTQ.out _ HB2.out)
     | (go_at_call 34; (with_reducible refine (HWI.out _ HB2.out).mono ?_); rintro e w3 ⟨rfl, hb3⟩; have HB3 := Lib.hid (HB2.out.trans (hb3.mono HB2.out.size)); clear hb3)
     | (go_at_call 33; (with_reducible refine (HCN.out _ HB3.out).mono ?_); rintro e w4 ⟨rfl, hb4⟩; have HB4 := Lib.hid (HB3.out.trans (hb4.mono HB3.out.size)); clear hb4; have ym := HYM.out _ HB4.out)
     | (go_at_call 18; (with_reducible refine (HSM.out _ HB4.out).mono ?_); rintro e w7 ⟨rfl, hb7⟩; have HB7 := Lib.hid (HB4.out.trans (hb7.mono HB4.out.size)); clear hb7))
    clear HBIG HIS HWI HCN HSM HTQ HYM y0 q0 q1 q2 q3 ym zO9 HB2 HB3 HB4
    have HLO := Lib.hid (show w5.heap.size ≤ x.lo from HAP.out.2 x (List.mem_of_getElem? HX.out.1))
    have h27 := H2.below H2X.out HB7.out
    have HHI := Lib.hid (fun b (hb : x.has b) => ((H2.ji1 h27) b hb).2)
    have hst := HD.start h27 (HBr.out.trans (HB7.out.mono HBr.out.size))
    clear h27
    go_wp2_with fail
    go_loopw [97] (fun v ws => ∃ j : Nat, j ≤ ny ∧ v = .int .i64 ((j : Nat) : Int) ∧ HD w5 w7 x j ws) (fun v _ => ny - (intOf v).toNat)
    case atStart => exact ⟨0, Nat.zero_le _, rfl, hst⟩
    case round =>
     clear hst
     rename World => ws
     obtain ⟨j, hj, rfl, hd⟩ := hrel
     by_cases hjt : j < ny
     ·have hjz : (j : Int) < (ny : Int) := by omega
      obtain ⟨t, ht⟩ : ∃ t, x.h[j]? = some t := ⟨_, List.getElem?_eq_getElem (by rw [HX.out.2.1]; exact hjt)⟩
      obtain ⟨no, hno⟩ : ∃ no, t.ops.length = no := ⟨_, rfl⟩
      have zM9 := (HOP.out t (List.mem_of_getElem? ht)).1
      obtain ⟨g, cp, r, o, hv, z0, f0, rc, z3, zk, fk, hnext⟩ := hd.step HLO.out HHI.out ht zM9 (fun s => wrap64 (s + 5)) (fun k => wrap64 (k + 5))
      rw [HX.out.2.2] at hv
      injection hv with e1 e2 e3
      subst e1
      rw [hno] at z3 zM9
      have hnoz : (0 : Int) < (no : Int) := by omega
      obtain ⟨W1, hW1⟩ : ∃ W, ws.setCell ⟨g, j * 4, none⟩ (.int .i64 (wrap64 (t.s + 5))) = W := ⟨_, rfl⟩
      rw [hW1] at z3 zk fk hnext
      have HW1 := Lib.hid hW1
      have HNX := Lib.hid hnext
      clear ht hno e2 e3 hd hW1 hnext
      go_upto_region 16 with fail
      go_upto_region 17 with fail
      rw [HW1.out]
      go_wp2_with fail
      go_roundw
      case rel => exact ⟨j + 1, by omega, by go_num, HNX.out⟩
      case measure => (simp [intOf]; try omega)
     ·have hjn : j = ny := by omega
      subst hjn
      have hld2 := (HLD.out.below HB7.out).next HSEP.out HX.out.1 (hd.keep)
      have hlm2 := (HLM.out.same fun b hb => HB7.out.block b (Nat.lt_of_lt_of_le (HC2.out b hb) hsz)).same (W' := ws) fun b hb => hd.keep b (Nat.lt_of_lt_of_le (HC2.out b hb) (Nat.le_trans hsz HB7.out.size)) (fun h => HAP.out.1 x (List.mem_of_getElem? HX.out.1) b h hb)
      have hsz2 : w6.heap.size ≤ ws.heap.size := Nat.le_trans hsz (Nat.le_trans HB7.out.size hd.size)
      have hbs := hd.below
      clear hd
      go_wp2_with fail
      go_roundw
      case rel => exact ⟨i + 1, by omega, by go_num, hld2, hlm2, hsz2, hbs⟩
      case measure => (simp [intOf]; try omega)
   ·have hin : i = nl := by omega
    subst hin
    go_wp2_with fail
    go_ret
    exact ⟨rfl, HB5.out.trans (hb.mono HB5.out.size)⟩
end Go.Proofs.Ytngkneknopenmaa.Enum
end
