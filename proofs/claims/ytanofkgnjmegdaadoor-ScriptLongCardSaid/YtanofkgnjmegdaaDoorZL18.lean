/- Texts of this claim, joined by a program of this session: the declarations that its theorem uses. -/
import Derived.Test.YtanofkgnjmegdaaDoorZL1
import Derived.Test.YtanofkgnjmegdaaDoorZL3
import Derived.Test.YtanofkgnjmegdaaDoorZL6
import Derived.Test.YtanofkgnjmegdaaDoorZL7
import Derived.Test.YtanofkgnjmegdaaDoorZL11
import Derived.Test.YtanofkgnjmegdaaDoorZL12
import Derived.Test.YtanofkgnjmegdaaDoorZL14
import Derived.Test.YtanofkgnjmegdaaDoorZL17
import Derived.Deep.AppendLies
import Derived.Test.YtanofkgnjmegdaaDoorProg
import Derived.Below
import Derived.Deep.Draws
import Derived.Maps.AppendAt
import Derived.OwnWalk
import Derived.Laws.BytesArg
import Derived.Laws.MakeOwn
import Derived.Laws.OwnMore
import Derived.Deep.OwnRows
import Derived.Tactics
import Derived.Lib.ConvBytes
import Derived.Laws.Slices
import Derived.WalkKit
import Derived.KernelRfl
import Derived.RowKit3
import Derived.Deep.LoopGhost
import Derived.Deep.QuietTactic
import Derived.BigQuiet
import Derived.WideLaws
import Derived.Deep.DeepCutAuto
import Derived.Deep.CutBlock
import Derived.Deep.RegionHeld3
import Derived.Laws.Rows
import Derived.Lib.AppendStr
import Derived.ArgAppend
import Derived.Laws.IdiomCopy
import Derived.OrdersHeld
import Derived.Laws.BitsLemmas
import Derived.RowKit
import Derived.Lib.Hide
set_option linter.unusedVariables false
set_option linter.unusedSimpArgs false
section
namespace Go.Proofs.YtanofkgnjmegdaaDoor.Script
open Go Go.Lib Go.RowKit Go.Proofs.YtanofkgnjmegdaaDoor Go.Proofs.YtanofkgnjmegdaaDoor.Hist Go.Proofs.YtanofkgnjmegdaaDoor.Row3
structure SR where
  s : Int
  b : Int
  c : Int
  v : Value
  ops : List O3
def SR.t (r : SR) : T4 := ⟨r.s, r.b, r.c, r.ops⟩
def SR.cells (r : SR) : List Value := [.int .i64 r.s, .int .i64 r.b, .int .i64 r.c, r.v]
def flatS (rows : List SR) : List Value := rows.flatMap SR.cells
theorem flatS_length (rows : List SR) : (flatS rows).length = rows.length * 4 := by
  induction rows with
  | nil => rfl
  | cons x xs ih =>
    have : flatS (x :: xs) = x.cells ++ flatS xs := rfl
    rw [this, List.length_append, ih]
    simp [SR.cells]
    omega
theorem flatS_snoc (rows : List SR) (r : SR) : flatS (rows ++ [r]) = flatS rows ++ r.cells := by simp [flatS, List.flatMap_append]
theorem flatS_get (rows : List SR) (r : SR) : (flatS (rows ++ [r]))[rows.length * 4]? = some (.int .i64 r.s) ∧ (flatS (rows ++ [r]))[rows.length * 4 + 1]? = some (.int .i64 r.b) ∧ (flatS (rows ++ [r]))[rows.length * 4 + 2]? = some (.int .i64 r.c) ∧ (flatS (rows ++ [r]))[rows.length * 4 + 3]? = some r.v := by
  rw [flatS_snoc]
  have hl := flatS_length rows
  refine ⟨?_, ?_, ?_, ?_⟩ <;> rw [List.getElem?_append_right (by omega), hl]
  · simp [SR.cells]
  · simp [SR.cells]
  · simp [SR.cells]
  · simp [SR.cells]
theorem flatS_set (rows : List SR) (r : SR) (v : Value) : (flatS (rows ++ [r])).set (rows.length * 4 + 3) v = flatS (rows ++ [{ r with v := v }]) := by
  rw [flatS_snoc, flatS_snoc]
  have hl := flatS_length rows
  rw [List.set_append_right _ _ (by omega), hl]
  congr 1
  rw [show rows.length * 4 + 3 - rows.length * 4 = 3 by omega]
  rfl
structure LS (w : World) (base : Nat) (V : Value) (rows : List SR) : Prop where
  own : w.ownsRow base 38 4 V rows.length (flatS rows)
  ops : ∀ r ∈ rows, w.ownsRow base 48 3 r.v r.ops.length (flat r.ops)
  apV : ∀ r ∈ rows, ∀ g, r.v.ownBlock = some g → V.ownBlock ≠ some g
  ap : rows.Pairwise fun r r' => ∀ g, r.v.ownBlock = some g → r'.v.ownBlock ≠ some g
variable {w w' : World} {base : Nat} {V : Value} {rows : List SR}
theorem LS.nil (w : World) (base : Nat) : LS w base (.slice none 0 0) [] := ⟨World.ownsRow_nil _ _ _ _, fun r h => (by cases h), fun r h => (by cases h), List.Pairwise.nil⟩
theorem LS.kept {row : Option Nat} (h : LS w base V rows) (hg : w.grownBy w' row) (hV : ∀ g, row = some g → V.ownBlock ≠ some g) (hr : ∀ g, row = some g → ∀ r ∈ rows, r.v.ownBlock ≠ some g) : LS w' base V rows := by
  have key : ∀ {x : Value}, (∀ g, row = some g → x.ownBlock ≠ some g) → x.ownBlock = none ∨ x.ownBlock ≠ row := by
    intro x hx
    cases hb : x.ownBlock with
    | none => exact .inl rfl
    | some b =>
      refine .inr fun e => ?_
      exact hx b e.symm hb
  exact ⟨h.own.kept hg (key hV), fun r hm => (h.ops r hm).kept hg (key fun g hg => hr g hg r hm), h.apV, h.ap⟩
theorem LS.below (h : LS w base V rows) (hb : Below w.heap.size w w') : LS w' base V rows :=
  h.kept (row := none) ⟨hb.os, hb.tape, hb.output, hb.size, fun i hi _ => hb.block i hi⟩ (fun g hg => by cases hg) (fun g hg => by cases hg)
theorem LS.alloc (h : LS w base V rows) (o : Obj) : LS (w.alloc o) base V rows := h.below ((Below.refl _ _).alloc (Nat.le_refl _) o)
theorem LS.push {w2 : World} {V2 : Value} {r : SR} {H : Nat} (h : LS w base V rows) (ho : w2.ownsRow base 38 4 V2 (rows.length + 1) (flatS rows ++ r.cells)) (hg : w.grownBy w2 V.ownBlock)
    (hat : ∃ g, V2.ownBlock = some g ∧ (V.ownBlock = some g ∨ g = H)) (hH : H = w.heap.size) (hr : w.ownsRow base 48 3 r.v r.ops.length (flat r.ops)) (hrV : ∀ g, r.v.ownBlock = some g → V.ownBlock ≠ some g) (hrr : ∀ x ∈ rows, ∀ g, x.v.ownBlock = some g → r.v.ownBlock ≠ some g) :
    LS w2 base V2 (rows ++ [r]) := by
  obtain ⟨g2, e2, hc⟩ := hat
  have nV : ∀ x : SR, (w.ownsRow base 48 3 x.v x.ops.length (flat x.ops)) → (∀ g, x.v.ownBlock = some g → V.ownBlock ≠ some g) → ∀ g, x.v.ownBlock = some g → V2.ownBlock ≠ some g := by
    intro x ho hx g hg1 hg2
    rw [e2] at hg2
    cases hg2
    rcases hc with hc | hc
    · exact hx g2 hg1 hc
    · have := (ho.lt g2 hg1).2
      omega
  have k : ∀ x : SR, (w.ownsRow base 48 3 x.v x.ops.length (flat x.ops)) → (∀ g, x.v.ownBlock = some g → V.ownBlock ≠ some g) → w2.ownsRow base 48 3 x.v x.ops.length (flat x.ops) := by
    intro x ho hx
    refine ho.kept hg ?_
    cases hb : x.v.ownBlock with
    | none => exact .inl rfl
    | some b => exact .inr fun e => hx b hb e.symm
  refine ⟨by rw [flatS_snoc, List.length_append]; exact ho, fun x hx => ?_, fun x hx => ?_, ?_⟩
  · rcases List.mem_append.1 hx with hx | hx
    · exact k x (h.ops x hx) (h.apV x hx)
    · simp at hx; subst hx; exact k _ hr hrV
  · rcases List.mem_append.1 hx with hx | hx
    · exact nV x (h.ops x hx) (h.apV x hx)
    · simp at hx; subst hx; exact nV _ hr hrV
  · rw [List.pairwise_append]
    refine ⟨h.ap, List.pairwise_singleton _ _, fun x hx y hy => ?_⟩
    simp at hy
    subst hy
    exact hrr x hx
theorem LS.addOp {w2 : World} {r : SR} {o : O3} {v2 : Value} {g2 gV capV : Nat} (h : LS w base V (rows ++ [r])) (hV : V = .slice (some ⟨gV, 0, none⟩) (rows.length + 1) capV) (ho : w2.ownsRow base 48 3 v2 (r.ops.length + 1) (flat r.ops ++ o.cells)) (hg : w.grownBy w2 r.v.ownBlock) (e2 : v2.ownBlock = some g2)
    (hc : r.v.ownBlock = some g2 ∨ g2 = w.heap.size) :
    LS (w2.setCell ⟨gV, rows.length * 4 + 3, none⟩ v2) base V (rows ++ [{ r with v := v2, ops := r.ops ++ [o] }]) := by
  have hrm : r ∈ rows ++ [r] := by simp
  have hVb : V.ownBlock = some gV := by rw [hV]; rfl
  have hVlt := h.own.lt gV hVb
  have hne : gV ≠ g2 := by
    rintro rfl
    rcases hc with hc | hc
    · exact h.apV r hrm gV hc hVb
    · omega
  have apr := (List.pairwise_append.1 h.ap).2.2
  have hrow : ∀ x ∈ rows, ∀ g, x.v.ownBlock = some g → g ≠ g2 ∧ r.v.ownBlock ≠ some g := by
    intro x hx g hxg
    have hlt := (h.ops x (List.mem_append_left _ hx)).lt g hxg
    refine ⟨?_, fun e => apr x hx r (by simp) g hxg e⟩
    rintro rfl
    rcases hc with hc | hc
    · exact apr x hx r (by simp) g hxg hc
    · omega
  have hVk : w2.ownsRow base 38 4 V (rows ++ [r]).length (flatS (rows ++ [r])) := by
    refine h.own.kept hg (.inr fun e => ?_)
    rw [hVb] at e
    exact h.apV r hrm gV e.symm hVb
  have hVk' : w2.ownsRow base 38 4 (.slice (some ⟨gV, 0, none⟩) (rows.length + 1) capV) (rows.length + 1) (flatS (rows ++ [r])) := by
    rw [← hV]
    have := hVk
    rw [List.length_append] at this
    exact this
  have hst := hVk'.stored (rows.length * 4 + 3) v2
  have hgs := hst.2
  refine ⟨?_, fun x hx => ?_, fun x hx => ?_, ?_⟩
  · have := hst.1
    rw [flatS_set] at this
    have e1 : flatS (rows ++ [{ r with v := v2 }]) = flatS (rows ++ [{ r with v := v2, ops := r.ops ++ [o] }]) := by rw [flatS_snoc, flatS_snoc]; rfl
    rw [e1, ← hV] at this
    rw [List.length_append]
    exact this
  · rcases List.mem_append.1 hx with hx | hx
    · have hxo := h.ops x (List.mem_append_left _ hx)
      have k1 : w2.ownsRow base 48 3 x.v x.ops.length (flat x.ops) := by
        refine hxo.kept hg ?_
        cases hb : x.v.ownBlock with
        | none => exact .inl rfl
        | some b => exact .inr fun e => (hrow x hx b hb).2 e.symm
      refine k1.kept hgs ?_
      cases hb : x.v.ownBlock with
      | none => exact .inl rfl
      | some b => exact .inr fun e => h.apV x (List.mem_append_left _ hx) b hb (by rw [hVb]; exact e.symm)
    · simp at hx
      subst hx
      show World.ownsRow _ base 48 3 v2 (r.ops ++ [o]).length (flat (r.ops ++ [o]))
      rw [flat_snoc, List.length_append]
      refine ho.kept hgs (.inr fun e => hne ?_)
      rw [e2] at e
      injection e with e
      exact e.symm
  · rcases List.mem_append.1 hx with hx | hx
    · exact h.apV x (List.mem_append_left _ hx)
    · simp at hx
      subst hx
      intro g hg1
      have hg1 : v2.ownBlock = some g := hg1
      rw [e2] at hg1
      cases hg1
      rw [hVb]
      intro e
      injection e with e
      exact hne e
  · rw [List.pairwise_append]
    refine ⟨(List.pairwise_append.1 h.ap).1, List.pairwise_singleton _ _, fun x hx y hy g hxg => ?_⟩
    simp at hy
    subst hy
    show v2.ownBlock ≠ some g
    rw [e2]
    intro e
    injection e with e
    exact (hrow x hx g hxg).1 e.symm
end Go.Proofs.YtanofkgnjmegdaaDoor.Script
end
section
namespace Go.Proofs.YtanofkgnjmegdaaDoor.Script
open Go Go.RowKit Go.Proofs.YtanofkgnjmegdaaDoor Go.Proofs.YtanofkgnjmegdaaDoor.Hand Go.Proofs.YtanofkgnjmegdaaDoor.Plain Go.Proofs.YtanofkgnjmegdaaDoor.Hist Go.Proofs.YtanofkgnjmegdaaDoor.Row3 Go.Proofs.YtanofkgnjmegdaaDoorW.PrintWords
theorem txninfo : (Tryd.prog.info? 38).map (fun i => (i.zero, i.size, i.bytes)) = some (some (.agg #[.int .i64 0, .int .i64 0, .int .i64 0, .slice none 0 0]), 4, 48) := by kernel_rfl
theorem head_ops {s : ByteArray} {t : T4} (h : headP s = some t) : t.ops = [] := by
  unfold headP at h
  dsimp only at h
  split at h
  · cases h; rfl
  · cases h
theorem head_yes {s : ByteArray} {t : T4} {w : World} (h : headP s = some t) (hs : s.size ≤ 140737488) (HY : Laid w) :
    Calls Tryd.prog 29 #[.string s] w fun e w' => ∃ (A3 : Option Addr) (c3 : Nat), e = .returned (.tuple #[.agg #[.int .i64 t.s, .int .i64 t.b, .int .i64 t.c, .slice A3 0 c3], .bool true]) ∧ w'.ownsRow w.heap.size 48 3 (.slice A3 0 c3) 0 [] ∧ Below w.heap.size w w' := by
  have hf : O.script_head.f s = some (t.s, t.b, t.c, [], true) := by
    rcases head_some h with h | h
    · exact h
    · exact absurd hs h
  refine (O.script_head.calls s _ _ _ _ _ w hf HY).mono ?_
  rintro e w' ⟨v3, rfl, hR, hb⟩
  obtain ⟨inner, ho⟩ := Kd.R_own hR
  have : inner = [] := by
    have := ho.1
    simp at this
    exact this
  subst this
  obtain ⟨A3, c3, rfl⟩ := Kd.R_slice hR
  exact ⟨A3, c3, rfl, ho, hb⟩
theorem head_no {s : ByteArray} {w : World} (h : headP s = none) (hs : s.size ≤ 140737488) (HY : Laid w) :
    Calls Tryd.prog 29 #[.string s] w fun e w' => ∃ (A3 : Option Addr) (c3 : Nat), e = .returned (.tuple #[.agg #[.int .i64 0, .int .i64 0, .int .i64 0, .slice A3 0 c3], .bool false]) ∧ Below w.heap.size w w' := by
  refine (O.script_head.calls s _ _ _ _ _ w (head_none h hs) HY).mono ?_
  rintro e w' ⟨v3, rfl, hR, hb⟩
  obtain ⟨A, c, rfl⟩ := Kd.R_slice hR
  exact ⟨A, c, rfl, hb⟩
theorem op_yes {s : ByteArray} {o : O3} {w : World} (h : opP s = some o) (hs : s.size ≤ 140737488) (HY : Laid w) :
    Calls Tryd.prog 30 #[.string s] w fun e w' => e = .returned (.tuple #[.agg #[.bool o.w, .int .i64 o.k, .int .i64 o.v], .bool true]) ∧ Below w.heap.size w w' :=
  O.op_Parse.calls 2 s o.w o.k o.v true w (by rw [parse_f s hs 2 (Nat.le_refl _), op_some h]) HY
theorem op_no {s : ByteArray} {w : World} (h : opP s = none) (hs : s.size ≤ 140737488) (HY : Laid w) :
    Calls Tryd.prog 30 #[.string s] w fun e w' => ∃ (a : Bool) (b c : Int), e = .returned (.tuple #[.agg #[.bool a, .int .i64 b, .int .i64 c], .bool false]) ∧ Below w.heap.size w w' := by
  obtain ⟨a, b, c, hp⟩ := op_none h
  exact (O.op_Parse.calls 2 s a b c false w (by rw [parse_f s hs 2 (Nat.le_refl _), hp]) HY).mono fun _ _ h => ⟨a, b, c, h⟩
theorem txn_cells (H : Nat) (W : World) (hH : W.heap.size = H) (a b c d : Value) : ∀ (j : Nat) (u : Value), [a, b, c, d][j]? = some u → (W.alloc (.cells #[a, b, c, d] 38)).cell? ((⟨H, 0, none⟩ : Addr).add j) = some u := by
  intro j u hj
  subst hH
  have h := Hist.alloc_at W (.cells #[a, b, c, d] 38)
  rw [show (⟨W.heap.size, 0, none⟩ : Addr).add j = ⟨W.heap.size, j, none⟩ by unfold Addr.add; split <;> simp_all, Lib.cell_of_heap h]
  simpa using hj
theorem txn_one (a b c : Int) (A : Option Addr) (n : Nat) : ∀ u ∈ [(.int .i64 a : Value), .int .i64 b, .int .i64 c, .slice A 0 n], u.oneCell' = true := by
  intro u hu
  simp at hu
  rcases hu with rfl | rfl | rfl | rfl <;> rfl
theorem op_cells (H : Nat) (W : World) (hH : W.heap.size = H) (a : Bool) (b c : Int) : ∀ (j : Nat) (u : Value), [.bool a, .int .i64 b, .int .i64 c][j]? = some u → (W.alloc (.cells #[.bool a, .int .i64 b, .int .i64 c] 48)).cell? ((⟨H, 0, none⟩ : Addr).add j) = some u := by
  intro j u hj
  subst hH
  have h := Hist.alloc_at W (.cells #[.bool a, .int .i64 b, .int .i64 c] 48)
  rw [show (⟨W.heap.size, 0, none⟩ : Addr).add j = ⟨W.heap.size, j, none⟩ by unfold Addr.add; split <;> simp_all, Lib.cell_of_heap h]
  simpa using hj
theorem op_one (a : Bool) (b c : Int) : ∀ u ∈ [(.bool a : Value), .int .i64 b, .int .i64 c], u.oneCell' = true := by
  intro u hu
  simp at hu
  rcases hu with rfl | rfl | rfl <;> rfl
def Form (V : Value) (rows : List SR) : Prop := (rows = [] ∧ V = .slice none 0 0) ∨ ∃ (rs : List SR) (r : SR) (g cap : Nat), rows = rs ++ [r] ∧ V = .slice (some ⟨g, 0, none⟩) (rs.length + 1) cap
def RelL (l : List ByteArray) (w : World) (n : Nat) (v x : Value) (wr : World) : Prop :=
  ∃ (i : Nat) (rows : List SR), i ≤ n ∧ x = .int .i64 ((i : Nat) : Int) ∧ LS wr w.heap.size v rows ∧ Below w.heap.size w wr ∧ linesF [] 0 l = linesF (rows.map SR.t) i (l.drop i) ∧ Form v rows ∧ rows.length ≤ i ∧ ∀ r ∈ rows, r.ops.length ≤ i
set_option maxHeartbeats 4000000 in
set_option maxRecDepth 100000 in
theorem lines_calls (A : Option Addr) (cap : Nat) (l : List ByteArray) (hlen : l.length ≤ 2000000) (hs : ∀ s ∈ l, s.size ≤ 140737488) (w : World) (hr : Kd.C Kd.string w A l.length l) (HY : Laid w) :
    Calls Tryd.prog 15 #[.slice A l.length cap] w fun e w' => ∃ (V : Value) (rows : List SR), e = .returned (.tuple #[V, .int .i64 (linesF [] 0 l).2]) ∧ LS w' w.heap.size V rows ∧ rows.map SR.t = (linesF [] 0 l).1 ∧ Below w.heap.size w w' := by
  obtain ⟨n, hn⟩ : ∃ n, l.length = n := ⟨_, rfl⟩
  have HN := Lib.hid hn
  rw [hn] at hlen ⊢
  have HR := Lib.hid hr
  have HS := Lib.hid hs
  clear hn hr hs
  obtain ⟨i0, hii, hz0, hz1, hz2⟩ := info_parts txninfo
  obtain ⟨j0, jii, jz0, jz1, jz2⟩ := info_parts Hist.opinfo
  go_enter Tryd.func15, Tryd.ntmps15
  go_wp2_with fail
  go_loopw [4, 14] (fun v x wr => RelL l w n v x wr) (fun _ x _ => n - (intOf x).toNat)
  case atStart => exact ⟨0, [], Nat.zero_le _, rfl, LS.nil _ _, Below.refl _ _, rfl, .inl ⟨rfl, rfl⟩, Nat.le_refl _, fun r h => by cases h⟩
  case round =>
    obtain ⟨i, rows, hi, rfl, hls, hb, hfl, hform, hrl, hol⟩ := hrel
    by_cases hlt : i < n
    · have hltz : (i : Int) < (n : Int) := by omega
      have hil : i < l.length := by rw [HN.out]; exact hlt
      obtain ⟨s, hsi⟩ : ∃ s, l[i]? = some s := ⟨_, List.getElem?_eq_getElem hil⟩
      obtain ⟨ad, rfl, hcell⟩ := Kd.at_string (Kd.C_below HR.out hb) (i : Int) (by omega) (by have := HN.out; omega)
      have hrd : rdOf ByteArray.empty l (i : Int) = s := by unfold rdOf; simp [hsi]
      rw [hrd, Int.toNat_natCast] at hcell
      have hdrop : l.drop i = s :: l.drop (i + 1) := by rw [List.drop_eq_getElem_cons hil]; congr 1; exact (List.getElem?_eq_some_iff.1 hsi).2
      rw [hdrop] at hfl
      have HFL := Lib.hid hfl
      have HSZ := Lib.hid (HS.out s (List.mem_of_getElem? hsi))
      have HLS := Lib.hid hls
      have HB := Lib.hid hb
      have HYr := Lib.hid (HY.below hb)
      have HFORM := Lib.hid hform
      have HOL := Lib.hid hol
      clear hsi hrd hil hdrop hfl hls hb hform hol
      cases hh : headP s with
      | some t =>
        have HH := Lib.hid hh
        clear hh
        have hrl2 : rows.length ≤ 2000000 := by omega
        have HRL := Lib.hid hrl2
        go_wp2_with (first
          | (go_at_call 29; (with_reducible refine (head_yes HH.out HSZ.out HYr.out).mono ?_); rintro e w2 ⟨A3, c3, rfl, ho3, hb2⟩; have HB2 := Lib.hid (HB.out.trans (hb2.mono HB.out.size)); have HLS2 := Lib.hid (HLS.out.below hb2); have HO3 := Lib.hid ho3; have HSZ2 := Lib.hid hb2.size; clear hb2 ho3)
          | (at_builtin; refine wpList_append_lies _ rfl _ _ 23 rfl w.heap.size 38 i0 (.agg #[.int .i64 0, .int .i64 0, .int .i64 0, .slice none 0 0]) 4 48 Tryd.underlying23 hii hz0 hz1 hz2 rfl (by decide) u4 rows.length (flatS rows) (by rfl) ((HLS2.out.own.alloc _).alloc _) ⟨w2.heap.size + 1, 0, none⟩ 1 1 [.int .i64 t.s, .int .i64 t.b, .int .i64 t.c, .slice A3 0 c3] rfl rfl (txn_cells (w2.heap.size + 1) _ (by simp) _ _ _ _) (txn_one _ _ _ _ _) (by decide) (by have := HRL.out; unfold maxLen; omega) (by have := HRL.out; omega) (by have := HB2.out.size; simp; omega) (w2.heap.size + 1 + 1) (by simp) ?_; intro g3 cap3 w3 hown3 hg3 hat3 hlt3))
        have hopn := head_ops HH.out
        have hbr := HB.out.size
        have hls3 := LS.push (r := ⟨t.s, t.b, t.c, .slice A3 0 c3, []⟩) ((HLS2.out.alloc (.cells #[.int .i64 t.s, .int .i64 t.b, .int .i64 t.c, .slice A3 0 c3] 38)).alloc (.cells #[.int .i64 t.s, .int .i64 t.b, .int .i64 t.c, .slice A3 0 c3] 38)) hown3 hg3 ⟨g3, rfl, hat3⟩ (by simp) (own_weaken ((HO3.out.alloc _).alloc _) hbr)
          (fun g hg e => by
            have h1 := (HO3.out.lt g hg).1
            have h2 := (HLS.out.own.lt g e).2
            omega)
          (fun x hx g hg e => by
            have h1 := (HO3.out.lt g e).1
            have h2 := ((HLS.out.ops x hx).lt g hg).2
            omega)
        have hb3 : Below w.heap.size w w3 := ((HB2.out.alloc HB2.out.size _).alloc (by have := HB2.out.size; simp; omega) _).grown hg3 (by have := HB2.out.size; simp; omega) (fun g hg => (HLS.out.own.lt g hg).1)
        have hfl3 : linesF [] 0 l = linesF ((rows ++ [(⟨t.s, t.b, t.c, .slice A3 0 c3, []⟩ : SR)]).map SR.t) (i + 1) (l.drop (i + 1)) := by
          rw [HFL.out, linesF]
          unfold stepL
          rw [HH.out]
          simp only [List.map_append, List.map_cons, List.map_nil]
          rw [show SR.t ⟨t.s, t.b, t.c, .slice A3 0 c3, []⟩ = t by obtain ⟨a, b, c, d⟩ := t; simp only at hopn; subst hopn; rfl]
        have H3 := Lib.hid hls3
        have HB3 := Lib.hid hb3
        have HF3 := Lib.hid hfl3
        clear hown3 hg3 hat3 hlt3 hopn hls3 hb3 hfl3 hcell
        go_wp2_with fail
        go_roundw
        case rel => exact ⟨i + 1, _, by omega, by go_num, H3.out, HB3.out, HF3.out, .inr ⟨rows, _, g3, cap3, rfl, rfl⟩, by simp; omega, fun r hr => by
          rcases List.mem_append.1 hr with hr | hr
          · have := HOL.out r hr; omega
          · simp at hr; subst hr; simp⟩
        case measure => (simp [Go.RowKit.intOf]; try omega)
      | none =>
        have HH := Lib.hid hh
        clear hh
        cases ho : opP s with
        | none =>
          have HO := Lib.hid ho
          have HEND := Lib.hid (show linesF [] 0 l = ([], ((i + 1 : Nat) : Int)) by
            rw [HFL.out, linesF]
            unfold stepL
            rw [HH.out, HO.out])
          clear ho
          go_wp2_with (first
            | (go_at_call 29; (with_reducible refine (head_no HH.out HSZ.out HYr.out).mono ?_); rintro e w2 ⟨A3, c3, rfl, hb2⟩; have HB2 := Lib.hid (HB.out.trans (hb2.mono HB.out.size)); clear hb2)
            | (go_at_call 30; (with_reducible refine (op_no HO.out HSZ.out (HY.below (HB2.out.alloc HB2.out.size _))).mono ?_); rintro e w4 ⟨oa, ob, oc, rfl, hb4⟩; have HB4 := Lib.hid ((HB2.out.alloc HB2.out.size _).trans (hb4.mono (HB2.out.alloc HB2.out.size _).size)); clear hb4))
          go_ret2
          exact ⟨.slice none 0 0, [], by rw [HEND.out]; go_num, LS.nil _ _, by rw [HEND.out]; rfl, HB4.out.alloc HB4.out.size _⟩
        | some o =>
          have HO := Lib.hid ho
          clear ho
          rcases HFORM.out with ⟨hr0, hv0⟩ | ⟨rs, r, g, cp, hrs, hv0⟩
          · subst hr0 hv0
            have HEND := Lib.hid (show linesF [] 0 l = ([], ((i + 1 : Nat) : Int)) by
              rw [HFL.out, linesF]
              unfold stepL
              rw [HH.out, HO.out]
              rfl)
            go_wp2_with (first
              | (go_at_call 29; (with_reducible refine (head_no HH.out HSZ.out HYr.out).mono ?_); rintro e w2 ⟨A3, c3, rfl, hb2⟩; have HB2 := Lib.hid (HB.out.trans (hb2.mono HB.out.size)); clear hb2)
              | (go_at_call 30; (with_reducible refine (op_yes HO.out HSZ.out (HY.below (HB2.out.alloc HB2.out.size _))).mono ?_); rintro e w4 ⟨rfl, hb4⟩; have HB4 := Lib.hid ((HB2.out.alloc HB2.out.size _).trans (hb4.mono (HB2.out.alloc HB2.out.size _).size)); clear hb4))
            go_ret2
            exact ⟨.slice none 0 0, [], by rw [HEND.out]; go_num, LS.nil _ _, by rw [HEND.out]; rfl, HB4.out.alloc HB4.out.size _⟩
          · subst hrs hv0
            have hl1 : (0 : Int) ≤ (rs.length : Int) := by omega
            have hl2 : (rs.length : Int) ≤ 2000000 := by simp at hrl; omega
            have hl3 : ((rs.length : Int) + 1 == 0) = false := by simp; omega
            have HRL := Lib.hid hrl
            clear hrl
            go_wp2_with (first
              | (go_at_call 29; (with_reducible refine (head_no HH.out HSZ.out HYr.out).mono ?_); rintro e w2 ⟨A3, c3, rfl, hb2⟩; have HB2 := Lib.hid (HB.out.trans (hb2.mono HB.out.size)); have HLS2 := Lib.hid (HLS.out.below hb2); clear hb2)
              | (go_at_call 30; (with_reducible refine (op_yes HO.out HSZ.out (HY.below (HB2.out.alloc HB2.out.size _))).mono ?_); rintro e w4 ⟨rfl, hb4⟩; have HB4 := Lib.hid ((HB2.out.alloc HB2.out.size _).trans (hb4.mono (HB2.out.alloc HB2.out.size _).size)); have HLS4 := Lib.hid ((HLS2.out.alloc _).below hb4); clear hb4))
            have LS5 := HLS4.out.alloc (.cells #[.bool o.w, .int .i64 o.k, .int .i64 o.v] 48)
            obtain ⟨W5, hW5⟩ : ∃ W5, w4.alloc (.cells #[.bool o.w, .int .i64 o.k, .int .i64 o.v] 48) = W5 := ⟨_, rfl⟩
            have hbk := Hist.alloc_at w4 (.cells #[.bool o.w, .int .i64 o.k, .int .i64 o.v] 48)
            have hs5 : W5.heap.size = w4.heap.size + 1 := by rw [← hW5]; simp
            have B5 : Below w.heap.size w W5 := by rw [← hW5]; exact HB4.out.alloc HB4.out.size _
            have hrb : ∀ k, r.v.ownBlock = some k → w.heap.size ≤ k ∧ k < w4.heap.size := (HLS4.out.ops r (by simp)).lt
            have hgb : w.heap.size ≤ g ∧ g < w4.heap.size := HLS4.out.own.lt g rfl
            rw [hW5] at LS5 hbk ⊢
            have hA : ∀ (W : World), LS W w.heap.size (.slice (some ⟨g, 0, none⟩) (rs.length + 1) cp) (rs ++ [r]) → W.heap[w4.heap.size]? = some (.cells #[.bool o.w, .int .i64 o.k, .int .i64 o.v] 48 (0, 0)) → (W.cell? ⟨g, rs.length * 4 + 3, none⟩ = some r.v ∧ W.cell? ⟨w4.heap.size, 0, none⟩ = some (.bool o.w) ∧ W.cell? ⟨w4.heap.size, 1, none⟩ = some (.int .i64 o.k) ∧ W.cell? ⟨w4.heap.size, 2, none⟩ = some (.int .i64 o.v)) := by
              intro W hL hB
              have h1 := hL.own.cells (g := g) rfl (rs.length * 4 + 3) r.v (flatS_get rs r).2.2.2
              rw [show (⟨g, 0, none⟩ : Addr).add (rs.length * 4 + 3) = ⟨g, rs.length * 4 + 3, none⟩ by unfold Addr.add; split <;> simp_all] at h1
              exact ⟨h1, Lib.cell_of_heap hB 0, Lib.cell_of_heap hB 1, Lib.cell_of_heap hB 2⟩
            have hAA := hA W5.drew (LS5.below ((Below.refl _ _).drew)) hbk
            refine TailRegion.wp_region_tail [8, 9, 10] (fun W => W.cell? ⟨g, rs.length * 4 + 3, none⟩ = some r.v ∧ W.cell? ⟨w4.heap.size, 0, none⟩ = some (.bool o.w) ∧ W.cell? ⟨w4.heap.size, 1, none⟩ = some (.int .i64 o.k) ∧ W.cell? ⟨w4.heap.size, 2, none⟩ = some (.int .i64 o.v)) (by kernel_rfl) ?_
            refine TailRegion.wpAnyT_pure (i := 0) (v := .pointer (some ⟨g, rs.length * 4, none⟩)) rfl (by kernel_rfl) (by kernel_rfl) (by kernel_rfl) (fun _ _ _ h => h) (.inl ⟨rfl, fun W hW => ?_⟩) ?_
            · (try obtain ⟨q0, q1, q2, q3⟩ := hW); go_simp
            simp only [Act.put, List.setIfInBounds_toArray, List.set_cons_zero, List.set_cons_succ]
            refine TailRegion.wpAnyT_pure (i := 1) (v := .pointer (some ⟨g, rs.length * 4, none⟩)) rfl (by kernel_rfl) (by kernel_rfl) (by kernel_rfl) (fun _ _ _ h => h) (.inl ⟨rfl, fun W hW => ?_⟩) ?_
            · (try obtain ⟨q0, q1, q2, q3⟩ := hW); go_simp
            simp only [Act.put, List.setIfInBounds_toArray, List.set_cons_zero, List.set_cons_succ]
            refine TailRegion.wpAnyT_pure (i := 2) (v := .pointer (some ⟨g, rs.length * 4, none⟩)) rfl (by kernel_rfl) (by kernel_rfl) (by kernel_rfl) (fun _ _ _ h => h) (.inl ⟨rfl, fun W hW => ?_⟩) ?_
            · (try obtain ⟨q0, q1, q2, q3⟩ := hW); go_simp
            simp only [Act.put, List.setIfInBounds_toArray, List.set_cons_zero, List.set_cons_succ]
            refine TailRegion.wpAnyT_pure (i := 3) (v := .pointer (some ⟨g, rs.length * 4 + 3, none⟩)) rfl (by kernel_rfl) (by kernel_rfl) (by kernel_rfl) (fun _ _ _ h => h) (.inl ⟨rfl, fun W hW => ?_⟩) ?_
            · (try obtain ⟨q0, q1, q2, q3⟩ := hW); go_simp
            simp only [Act.put, List.setIfInBounds_toArray, List.set_cons_zero, List.set_cons_succ]
            refine TailRegion.wpAnyT_take (i := 4) (v := r.v) rfl (by kernel_rfl) (by kernel_rfl) (by kernel_rfl) (by kernel_rfl) (fun _ _ _ h => h) (.inl ⟨rfl, fun W hW => ?_⟩) hAA ?_
            · (try obtain ⟨q0, q1, q2, q3⟩ := hW); go_simp
            simp only [Act.put, List.setIfInBounds_toArray, List.set_cons_zero, List.set_cons_succ]
            refine TailRegion.wpAnyT_take (i := 5) (v := .agg #[.bool o.w, .int .i64 o.k, .int .i64 o.v]) rfl (by kernel_rfl) (by kernel_rfl) (by kernel_rfl) (by kernel_rfl) (fun _ _ _ h => h) (.inl ⟨rfl, fun W hW => ?_⟩) hAA ?_
            · (try obtain ⟨q0, q1, q2, q3⟩ := hW); go_simp
            simp only [Act.put, List.setIfInBounds_toArray, List.set_cons_zero, List.set_cons_succ]
            refine TailRegion.wpAnyT_next (i := 6) rfl (by kernel_rfl) rfl ?_
            intro K7 hK7
            have HK7 := Lib.hid hK7
            clear hK7
            (try simp only [List.getElem_toArray, List.getElem_cons_succ, List.getElem_cons_zero])
            unfold Oper.wp
            go_simp
            have LS6 := (LS5.below ((Below.refl _ _).drew)).alloc (.cells #[.bool o.w, .int .i64 o.k, .int .i64 o.v] 48)
            have hs6 : (W5.drew.alloc (.cells #[.bool o.w, .int .i64 o.k, .int .i64 o.v] 48)).heap.size = w4.heap.size + 1 + 1 := by simp [hs5]
            have hbk6 : (W5.drew.alloc (.cells #[.bool o.w, .int .i64 o.k, .int .i64 o.v] 48)).heap[w4.heap.size]? = some (.cells #[.bool o.w, .int .i64 o.k, .int .i64 o.v] 48 (0, 0)) := ((((Below.refl W5.heap.size W5).drew).alloc (Nat.le_refl _) (.cells #[.bool o.w, .int .i64 o.k, .int .i64 o.v] 48)).block w4.heap.size (by omega)).trans hbk
            have B6 : Below w.heap.size w (W5.drew.alloc (.cells #[.bool o.w, .int .i64 o.k, .int .i64 o.v] 48)) := (B5.drew).alloc (by have := B5.size; simpa using this) _
            have hA6 := hA _ LS6 hbk6
            refine HK7.out _ _ ⟨fun _ _ => hA6, ?_⟩
            clear HK7 K7
            refine TailRegion.wpAnyT_next (i := 7) rfl (by kernel_rfl) rfl ?_
            intro K7 hK7
            have HK7 := Lib.hid hK7
            clear hK7
            (try simp only [List.getElem_toArray, List.getElem_cons_succ, List.getElem_cons_zero])
            refine wp_append_lies _ _ _ 36 (by rfl) w.heap.size 48 j0 (.agg #[.bool false, .int .i64 0, .int .i64 0]) 3 24 Tryd.underlying36 jii jz0 jz1 jz2 (by rfl) (by decide) r.v r.ops.length (flat r.ops) (by rfl) (LS6.ops r (by simp)) ⟨w4.heap.size + 1, 0, none⟩ 1 1 [.bool o.w, .int .i64 o.k, .int .i64 o.v] (by rfl) (by rfl) (op_cells (w4.heap.size + 1) _ (by simp [hs5]) _ _ _) (op_one _ _ _) (by decide) (by have h1 := HOL.out r (by simp); unfold maxLen; omega) (by have h1 := HOL.out r (by simp); omega) B6.size (w4.heap.size + 1 + 1) hs6 ?_
            intro g2 cap2 w7 hown7 hg7 hat7 hlt7
            have hneg : some g ≠ r.v.ownBlock := fun e => LS6.apV r (by simp) g e.symm rfl
            have hneo : some w4.heap.size ≠ r.v.ownBlock := fun e => by have := (hrb _ e.symm).2; omega
            have kg : ∀ k, w7.cell? ⟨g, k, none⟩ = (W5.drew.alloc (.cells #[.bool o.w, .int .i64 o.k, .int .i64 o.v] 48)).cell? ⟨g, k, none⟩ := fun k => World.cell?_of_block (hg7.block g (by simp [hs5]; omega) hneg)
            have ko : ∀ k, w7.cell? ⟨w4.heap.size, k, none⟩ = (W5.drew.alloc (.cells #[.bool o.w, .int .i64 o.k, .int .i64 o.v] 48)).cell? ⟨w4.heap.size, k, none⟩ := fun k => World.cell?_of_block (hg7.block w4.heap.size (by simp [hs5]; omega) hneo)
            refine HK7.out _ _ ⟨fun _ _ => ⟨(kg _).trans hA6.1, (ko _).trans hA6.2.1, (ko _).trans hA6.2.2.1, (ko _).trans hA6.2.2.2⟩, ?_⟩
            clear HK7 K7
            (try simp only [Act.put, List.setIfInBounds_toArray, List.set_cons_zero, List.set_cons_succ])
            refine TailRegion.wpAnyT_pure (i := 8) (v := .pointer (some ⟨g, rs.length * 4, none⟩)) rfl (by kernel_rfl) (by kernel_rfl) (by kernel_rfl) (fun _ _ _ h => h) (.inl ⟨rfl, fun W hW => ?_⟩) ?_
            · (try obtain ⟨q0, q1, q2, q3⟩ := hW); go_simp
            simp only [Act.put, List.setIfInBounds_toArray, List.set_cons_zero, List.set_cons_succ]
            refine TailRegion.wpAnyT_pure (i := 9) (v := .pointer (some ⟨g, rs.length * 4 + 3, none⟩)) rfl (by kernel_rfl) (by kernel_rfl) (by kernel_rfl) (fun _ _ _ h => h) (.inl ⟨rfl, fun W hW => ?_⟩) ?_
            · (try obtain ⟨q0, q1, q2, q3⟩ := hW); go_simp
            simp only [Act.put, List.setIfInBounds_toArray, List.set_cons_zero, List.set_cons_succ]
            have hV7 : w7.ownsRow w.heap.size 38 4 (.slice (some ⟨g, 0, none⟩) (rs.length + 1) cp) (rs.length + 1) (flatS (rs ++ [r])) := by
              have := LS6.own.kept hg7 (.inr (fun e => hneg e))
              rw [List.length_append] at this
              exact this
            have hc7 := (kg (rs.length * 4 + 3)).trans hA6.1
            have hz7 := hV7.frozenAt (rs.length * 4 + 3)
            have hz7 : w7.frozen? ⟨g, rs.length * 4 + 3, none⟩ = false := hz7
            refine TailRegion.wpAnyT_next (i := 10) rfl (by kernel_rfl) rfl ?_
            intro K7 hK7
            have HK7 := Lib.hid hK7
            clear hK7
            have HKG := Lib.hid kg
            have HKO := Lib.hid ko
            have HA6 := Lib.hid hA6
            clear kg ko hA6 hAA
            (try simp only [List.getElem_toArray, List.getElem_cons_succ, List.getElem_cons_zero])
            unfold Oper.wp
            go_simp
            refine HK7.out _ _ ⟨fun h => (by simp at h), ?_⟩
            clear HK7 K7
            refine TailRegion.wpAnyT_done (by kernel_rfl) ?_ _
            have hw67 : (W5.drew.alloc (.cells #[.bool o.w, .int .i64 o.k, .int .i64 o.v] 48)).grownBy w7 r.v.ownBlock := hg7
            have LS7 := LS6.addOp (o := o) rfl hown7 hw67 (g2 := g2) rfl (by rw [hs6]; exact hat7)
            have hb7 : Below w.heap.size w (w7.setCell ⟨g, rs.length * 4 + 3, none⟩ (.slice (some ⟨g2, 0, none⟩) (r.ops.length + 1) cap2)) := (B6.grown hw67 B6.size (fun k hk => (hrb k hk).1)).setCell (p := ⟨g, rs.length * 4 + 3, none⟩) hgb.1 _
            have hfl7 : linesF [] 0 l = linesF ((rs ++ [({ r with v := .slice (some ⟨g2, 0, none⟩) (r.ops.length + 1) cap2, ops := r.ops ++ [o] } : SR)]).map SR.t) (i + 1) (l.drop (i + 1)) := by
              rw [HFL.out, linesF]
              unfold stepL
              rw [HH.out, HO.out]
              simp only [List.map_append, List.map_cons, List.map_nil]
              rw [if_neg (by simp), addO_snoc]
              rfl
            have H7 := Lib.hid LS7
            have HB7 := Lib.hid hb7
            have HF7 := Lib.hid hfl7
            clear LS7 hb7 hfl7
            go_wp2_with fail
            go_roundw
            case rel => exact ⟨i + 1, _, by omega, by go_num, H7.out, HB7.out, HF7.out, .inr ⟨rs, _, g, cp, rfl, rfl⟩, by have := HRL.out; simp at this ⊢; omega, fun x hx => by
              rcases List.mem_append.1 hx with hx | hx
              · have := HOL.out x (List.mem_append_left _ hx); omega
              · simp at hx; subst hx; have := HOL.out r (by simp); simp; omega⟩
            case measure => (simp [Go.RowKit.intOf]; try omega)
    · have hin : i = n := by omega
      subst hin
      have hnz : ¬ ((i : Int) < (i : Int)) := by omega
      have HEND := Lib.hid (show linesF [] 0 l = (rows.map SR.t, 0) by
        rw [hfl, List.drop_eq_nil_of_le (by have := HN.out; omega)]
        rfl)
      have HLS := Lib.hid hls
      have HB := Lib.hid hb
      clear hfl hls hb hform hol hrl
      go_wp2_with fail
      go_ret2
      exact ⟨u4, by rw [HEND.out]; rfl, rows, HLS.out, by rw [HEND.out], HB.out⟩
end Go.Proofs.YtanofkgnjmegdaaDoor.Script
end
section
namespace Go.Proofs.YtanofkgnjmegdaaDoor.Script
open Go Go.RowKit Go.Proofs.YtanofkgnjmegdaaDoor Go.Proofs.YtanofkgnjmegdaaDoor.Row3 Go.Proofs.YtanofkgnjmegdaaDoor.Hist Go.Proofs.YtanofkgnjmegdaaDoor.K Go.Proofs.YtanofkgnjmegdaaDoorW.PrintWords
theorem flatS_at : ∀ (rows : List SR) (j : Nat) (r : SR), rows[j]? = some r → ((flatS rows).drop (j * 4)).take 4 = r.cells
  | x :: xs, 0, r, h => by
    simp at h
    subst h
    rfl
  | x :: xs, j + 1, r, h => by
    have e : flatS (x :: xs) = x.cells ++ flatS xs := rfl
    rw [e, show (j + 1) * 4 = x.cells.length + j * 4 by show _ = 4 + _; omega, List.drop_length_add_append]
    exact flatS_at xs j r (by simpa using h)
theorem LS.isS {w : World} {base : Nat} {V : Value} {rows : List SR} (hh : LS w base V rows) : Kd.S k38 38 w base (fun k => base ≤ k) V ((rows.map SR.t).map ofT) := by
  obtain ⟨ho, hops, hapV, hap⟩ := hh
  refine ⟨fun g => rows.findIdx (fun r => r.v.ownBlock == some g), fun k hk => (ho.lt k hk).1, flatS rows, ?_, ?_, ?_⟩
  · rw [List.length_zipIdx, List.length_map, List.length_map]
    exact ho
  · rw [List.length_zipIdx, List.length_map, List.length_map, flatS_length]
    rfl
  · intro j p hp
    rw [List.getElem?_zipIdx, Nat.zero_add] at hp
    obtain ⟨x, hx, rfl⟩ := Option.map_eq_some_iff.1 hp
    rw [List.getElem?_map, List.getElem?_map] at hx
    obtain ⟨t, ht, rfl⟩ := Option.map_eq_some_iff.1 hx
    obtain ⟨r, hr, rfl⟩ := Option.map_eq_some_iff.1 ht
    obtain ⟨hj, hrj⟩ := List.getElem?_eq_some_iff.1 hr
    have hrm : r ∈ rows := List.mem_of_getElem? hr
    have hcut := flatS_at rows j r hr
    show (Kd.tag _ k38).M w base _ (ofT r.t, j) (((flatS rows).drop (j * 4)).take 4)
    rw [hcut]
    have hc : r.cells = [.int .i64 (ofT r.t).f0, .int .i64 (ofT r.t).f1, .int .i64 (ofT r.t).f2, r.v] := rfl
    rw [hc]
    refine k38_mkM w base _ (ofT r.t) ⟨fun k hk => ?_, flat r.ops, ?_, ?_, ?_⟩
    · refine ⟨⟨((hops r hrm).lt k hk).1, fun e => hapV r hrm k hk e.symm⟩, ?_⟩
      rw [List.findIdx_eq hj]
      refine ⟨by rw [hrj, hk]; simp, fun i hi => ?_⟩
      have hi2 : i < rows.length := by omega
      have := List.pairwise_iff_getElem.1 hap i j hi2 hj hi
      rw [hrj] at this
      cases hb : (rows[i]'hi2).v.ownBlock == some k with
      | false => rfl
      | true =>
        have hb := eq_of_beq hb
        exact absurd hk (this k hb)
    · rw [show (ofT r.t).f3.length = r.ops.length by simp [ofT, SR.t]]
      exact hops r hrm
    · rw [flat_length]
      simp [ofT, SR.t]
      rfl
    · intro m q hq
      unfold ofT at hq
      rw [List.getElem?_map] at hq
      obtain ⟨o, ho', rfl⟩ := Option.map_eq_some_iff.1 hq
      have hcut3 : ((flat r.ops).drop (m * 3)).take 3 = o.cells := by
        obtain ⟨a, b, c⟩ := flat_get r.ops [] m o ho'
        rw [List.append_nil] at a b c
        apply List.ext_getElem?
        intro x
        rw [List.getElem?_take, List.getElem?_drop]
        match x with
        | 0 => simpa [O3.cells] using a
        | 1 => simpa [O3.cells] using b
        | 2 => simpa [O3.cells] using c
        | x + 3 => simp only [O3.cells]; rw [if_neg (by omega)]; simp
      show k48.M w base _ (ofO o) (((flat r.ops).drop (m * 3)).take 3)
      rw [hcut3]
      exact k48_mkM w base _ (ofO o)
end Go.Proofs.YtanofkgnjmegdaaDoor.Script
namespace Go.Proofs.YtanofkgnjmegdaaDoor.Give
open Go Go.RowKit Go.Proofs.YtanofkgnjmegdaaDoor Go.Proofs.YtanofkgnjmegdaaDoor.Row3 Go.Proofs.YtanofkgnjmegdaaDoor.K Go.Proofs.YtanofkgnjmegdaaDoor.Hist Go.Proofs.YtanofkgnjmegdaaDoor.Script Go.Proofs.YtanofkgnjmegdaaDoorW.PrintWords
def Small (l : List S38) : Bool := decide (l.length ≤ 4611686018427387904) && decide (countT (l.map toT) ≤ 4611686018427387904)
def history_Check.f (_ : Nat) (l : List S38) : Option Int := if Small l then some (checkF (l.map toT)) else none
theorem history_Check.mono : ∀ a0 k, LeO (history_Check.f k a0) (history_Check.f (k + 1) a0) := fun _ _ => LeO.refl _
def burgageref06_Check.f (_ : Nat) (l : List S38) : Option Int := if Small l then some (refCheckF (l.map toT)) else none
theorem burgageref06_Check.mono : ∀ a0 k, LeO (burgageref06_Check.f k a0) (burgageref06_Check.f (k + 1) a0) := fun _ _ => LeO.refl _
def Fit (l : List ByteArray) : Bool := decide (l.length ≤ 2000000) && l.all (fun s => decide (s.size ≤ 140737488))
def script_Lines.f (_ : Nat) (l : List ByteArray) : Option (List S38 × Int) := if Fit l then some (((linesF [] 0 l).1).map ofT, (linesF [] 0 l).2) else none
theorem script_Lines.mono : ∀ a0 k, LeO (script_Lines.f k a0) (script_Lines.f (k + 1) a0) := fun _ _ => LeO.refl _
theorem small_spec {l : List S38} (h : Small l = true) : l.length ≤ 4611686018427387904 ∧ countT (l.map toT) ≤ 4611686018427387904 := by
  unfold Small at h
  simpa using h
theorem history_Check.calls (k : Nat) (A0 : Option Addr) (c0 : Nat) (l0 : List S38) (r : Int) (w : World) (hr0 : Kd.C k38 w A0 l0.length l0) (hc0 : l0.length ≤ c0) (h : history_Check.f k l0 = some r) (HY : Laid w) :
    Calls Tryd.prog 16 #[.slice A0 l0.length c0] w fun e w' => e = .returned (.int .i64 r) ∧ Below w.heap.size w w' := by
  unfold history_Check.f at h
  split at h
  · rename_i hs
    cases h
    obtain ⟨h1, h2⟩ := small_spec hs
    have := check_calls A0 c0 (l0.map toT) (by simpa using hc0) (by simpa using h1) h2 w (RdT_of_C hr0)
    rw [List.length_map] at this
    exact this
  · cases h
theorem fit_spec {l : List ByteArray} (h : Fit l = true) : l.length ≤ 2000000 ∧ ∀ s ∈ l, s.size ≤ 140737488 := by
  unfold Fit at h
  simpa using h
theorem script_Lines.calls (k : Nat) (A0 : Option Addr) (c0 : Nat) (l0 : List ByteArray) (r1 : List S38) (r2 : Int) (w : World) (hr0 : Kd.C Kd.string w A0 l0.length l0) (hc0 : l0.length ≤ c0) (h : script_Lines.f k l0 = some (r1, r2)) (HY : Laid w) :
    Calls Tryd.prog 15 #[.slice A0 l0.length c0] w fun e w' => ∃ v0_ : Value, e = .returned (.tuple #[v0_, .int .i64 r2]) ∧ Kd.S k38 38 w' w.heap.size (fun _ => True) v0_ r1 ∧ Below w.heap.size w w' := by
  unfold script_Lines.f at h
  split at h
  · rename_i hs
    cases h
    obtain ⟨h1, h2⟩ := fit_spec hs
    refine (lines_calls A0 c0 l0 h1 h2 w hr0 HY).mono ?_
    rintro e w' ⟨V, rows, rfl, hL, hrow, hb⟩
    refine ⟨V, rfl, ?_, hb⟩
    rw [← hrow]
    exact Kd.S_mono hL.isS (fun _ _ => trivial)
  · cases h
end Go.Proofs.YtanofkgnjmegdaaDoor.Give
end
section
namespace Go.Proofs.YtanofkgnjmegdaaDoor.Q
open Go.Proofs.YtanofkgnjmegdaaDoor Go.Proofs.YtanofkgnjmegdaaDoor.Hand Go.Proofs.YtanofkgnjmegdaaDoor.Give Go.Proofs.YtanofkgnjmegdaaDoor.K
open Go.RowKit Go.Proofs.YtanofkgnjmegdaaDoorW.PrintWords Go.Proofs.YtanofkgnjmegdaaDoorW.PrintLast Go.Proofs.YtanofkgnjmegdaaDoorW.PrintMore
attribute [local go_sem] max2_int min2_int max_two min_two max_three min_three max_four min_four   -- for this text's walks alone
set_option linter.unusedVariables false
set_option linter.unusedSimpArgs false
def script_Parse.f (k : Nat) (a0 : ByteArray) : Option ((List (S38)) × Int × Int) := if (a0.size : Int) > 1048576 then (some (([] : List (S38)), 0, 6)) else ((token_Lines.f a0).bind fun bt101 => ((script_Lines.f k bt101.1).bind fun bt105 => (if bt105.2 > 0 then (some (([] : List (S38)), bt105.2, 1)) else (if bt101.2 = true then ((history_Check.f k bt105.1).bind fun t109 => (if t109 = 0 then (some (bt105.1, 0, 0)) else (some (([] : List (S38)), 0, t109)))) else (some (([] : List (S38)), wrap64 ((bt101.1.length : Int) + 1), 1))))))
theorem script_Parse.mono : ∀ a0 k, LeO (script_Parse.f k a0) (script_Parse.f (k + 1) a0) := by
  intro a0 k
  unfold script_Parse.f
  repeat' first
      | (with_reducible exact history_Check.mono _ _)
      | (with_reducible exact script_Lines.mono _ _)
      | (with_reducible exact LeO.refl _)
      | (with_reducible exact LeO.none _)
      | (with_reducible refine LeO.ite ?_ ?_)
      | (with_reducible refine LeO.bind ?_ (fun _ => ?_))
      | exact history_Check.mono _ _
      | exact script_Lines.mono _ _
      | exact LeO.none _
      | refine LeO.ite ?_ ?_
      | refine LeO.bind ?_ (fun _ => ?_)
set_option maxHeartbeats 8000000 in
set_option maxRecDepth 100000 in
theorem script_Parse.calls (k : Nat) (a0 : ByteArray) (r1 : List (S38)) (r2 : Int) (r3 : Int) (w : World) (h : script_Parse.f k a0 = some (r1, r2, r3)) (HY : Laid w) :
    Calls Tryd.prog 7 #[.string a0] w fun e w' => ∃ v0_ : Value, e = .returned (.tuple #[v0_, .int .i64 r2, .int .i64 r3]) ∧ Kd.S k38 38 w' w.heap.size (fun _ => True) v0_ r1 ∧ Below w.heap.size w w' := by
  have HB := Aside0.mk (Below.refl w.heap.size w)
  have H : (if (a0.size : Int) > 1048576 then (some (([] : List (S38)), 0, 6)) else ((token_Lines.f a0).bind fun bt101 => ((script_Lines.f k bt101.1).bind fun bt105 => (if bt105.2 > 0 then (some (([] : List (S38)), bt105.2, 1)) else (if bt101.2 = true then ((history_Check.f k bt105.1).bind fun t109 => (if t109 = 0 then (some (bt105.1, 0, 0)) else (some (([] : List (S38)), 0, t109)))) else (some (([] : List (S38)), wrap64 ((bt101.1.length : Int) + 1), 1))))))) = some (r1, r2, r3) := h
  clear h
  by_cases c2 : (a0.size : Int) > 1048576
  · rw [if_pos c2] at H
    have c2b0 : decide (1048576 < (a0.size : Int)) = true := decide_eq_true c2
    have c2b1 : decide (1048576 < a0.size) = true := decide_eq_true (by omega)
    clear c2
    simp only [Option.some.injEq, Prod.mk.injEq] at H
    obtain ⟨rfl, rfl, rfl⟩ := H
    go_enter Tryd.func7, Tryd.ntmps7
    go_wp2
    go_ret3
    exact ⟨_, by first | rfl | (simp [errW_none, errW_some] <;> rfl) | (simp [*, errW_none, errW_some] <;> rfl), by first | exact Kd.S_nil _ _ _ _ _ | exact Kd.N_nil _ _ _ _ _ | exact Kd.V_nil _ _ _ _ _ | exact Kd.Q_nil _ _ _ _ _ | exact Kd.R_nil _ _ _ _ _, by repeat (first | (with_reducible first | exact HB.out | apply below_alloc | apply pw_below_drewN | apply below_drew1) | exact HB.out)⟩
  · rw [if_neg c2] at H
    have c2b0 : decide (1048576 < (a0.size : Int)) = false := decide_eq_false c2
    have c2b1 : decide (1048576 < a0.size) = false := decide_eq_false (by omega)
    clear c2
    replace H := Option.bind_eq_some_iff.mp H
    obtain ⟨⟨t101, t102⟩, A30, H⟩ := H
    replace H : ((script_Lines.f k t101).bind fun bt105 => (if bt105.2 > 0 then (some (([] : List (S38)), bt105.2, 1)) else (if t102 = true then ((history_Check.f k bt105.1).bind fun t109 => (if t109 = 0 then (some (bt105.1, 0, 0)) else (some (([] : List (S38)), 0, t109)))) else (some (([] : List (S38)), wrap64 ((t101.length : Int) + 1), 1))))) = some (r1, r2, r3) := H
    have A3 := Aside0.mk A30
    clear A30
    replace H := Option.bind_eq_some_iff.mp H
    obtain ⟨⟨t105, t106⟩, A40, H⟩ := H
    replace H : (if t106 > 0 then (some (([] : List (S38)), t106, 1)) else (if t102 = true then ((history_Check.f k t105).bind fun t109 => (if t109 = 0 then (some (t105, 0, 0)) else (some (([] : List (S38)), 0, t109)))) else (some (([] : List (S38)), wrap64 ((t101.length : Int) + 1), 1)))) = some (r1, r2, r3) := H
    have A4 := Aside0.mk A40
    clear A40
    by_cases c5 : t106 > 0
    · rw [if_pos c5] at H
      have c5b0 : decide (0 < t106) = true := decide_eq_true c5
      clear c5
      simp only [Option.some.injEq, Prod.mk.injEq] at H
      obtain ⟨rfl, rfl, rfl⟩ := H
      go_enter Tryd.func7, Tryd.ntmps7
      go_wp2_with (first | ((with_reducible refine gate_callee (f := 14) rfl ?_); refine goesL_ (some 15) rfl rfl Tryd.func14 (by kernel_rfl) rfl #[.string a0] rfl (by (try simp only [List.map_toArray, List.map_cons, List.map_nil]); first | done | rfl | (simp only [List.length_drop, List.length_take]; rfl)) ?_; (with_reducible refine (token_Lines.calls a0 t101 t102 _ A3.out (Laid.below HY (by repeat (first | (with_reducible first | exact HB.out | apply below_alloc | apply pw_below_drewN | apply below_drew1) | exact HB.out)))).mono ?_); rintro e w6 ⟨v103, rfl, ho0, hb⟩; refine ⟨_, rfl, ?_⟩; have n0_ := Aside0.mk (Kd.R_lower ho0 (below_size (by repeat (first | (with_reducible first | exact HB.out | apply below_alloc | apply pw_below_drewN | apply below_drew1) | exact HB.out)))); have n1_ := Aside0.mk (below_step (by repeat (first | (with_reducible first | exact HB.out | apply below_alloc | apply pw_below_drewN | apply below_drew1) | exact HB.out)) hb); clear HB; have HO104 := n0_; have HB := n1_; clear n0_ n1_; (try clear hb); (try clear hb2); (try clear hk); (try clear hi); (try clear ho0); obtain ⟨Ao7, co7, eo7⟩ := Kd.R_slice HO104.out; subst eo7) | ((with_reducible refine gate_callee (f := 15) rfl ?_); refine goesL_ (some 20) rfl rfl Tryd.func15 (by kernel_rfl) rfl #[.slice Ao7 t101.length co7] rfl (by (try simp only [List.map_toArray, List.map_cons, List.map_nil]); first | done | rfl | (simp only [List.length_drop, List.length_take]; rfl)) ?_; (with_reducible refine (script_Lines.calls k _ _ t101 t105 t106 _ ?side1 ?side2 A4.out (Laid.below HY (by repeat (first | (with_reducible first | exact HB.out | apply below_alloc | apply pw_below_drewN | apply below_drew1) | exact HB.out)))).mono ?_); (case side1 => repeat (first | exact (Kd.R_reads' HO104.out).2.2 | (with_reducible refine Kd.C_alloc ?_ _) | (with_reducible refine Kd.C_drewN ?_ _) | (with_reducible refine Kd.C_drew ?_))); (case side2 => exact (Kd.R_reads' HO104.out).2.1); rintro e w8 ⟨v107, rfl, ho0, hb⟩; refine ⟨_, rfl, ?_⟩; have n0_ := Aside0.mk (Kd.R_below (by (with_reducible repeat (first | apply Kd.R_alloc | apply Kd.R_drewN | apply Kd.R_drew)); exact HO104.out) hb); have n1_ := Aside0.mk (Kd.S_lower ho0 (below_size (by repeat (first | (with_reducible first | exact HB.out | apply below_alloc | apply pw_below_drewN | apply below_drew1) | exact HB.out)))); have n2_ := Aside0.mk (below_step (by repeat (first | (with_reducible first | exact HB.out | apply below_alloc | apply pw_below_drewN | apply below_drew1) | exact HB.out)) hb); clear HO104; clear HB; have HO104 := n0_; have HO108 := n1_; have HB := n2_; clear n0_ n1_ n2_; (try clear hb); (try clear hb2); (try clear hk); (try clear hi); (try clear ho0)))
      go_ret3
      exact ⟨_, by first | rfl | (simp [errW_none, errW_some] <;> rfl) | (simp [*, errW_none, errW_some] <;> rfl), by first | exact Kd.S_nil _ _ _ _ _ | exact Kd.N_nil _ _ _ _ _ | exact Kd.V_nil _ _ _ _ _ | exact Kd.Q_nil _ _ _ _ _ | exact Kd.R_nil _ _ _ _ _, by repeat (first | (with_reducible first | exact HB.out | apply below_alloc | apply pw_below_drewN | apply below_drew1) | exact HB.out)⟩
    · rw [if_neg c5] at H
      have c5b0 : decide (0 < t106) = false := decide_eq_false c5
      clear c5
      by_cases c9 : t102 = true
      · subst c9
        have H1 : ((history_Check.f k t105).bind fun t109 => (if t109 = 0 then (some (t105, 0, 0)) else (some (([] : List (S38)), 0, t109)))) = some (r1, r2, r3) := by rw [if_pos rfl] at H; exact H
        clear H
        have H := H1
        clear H1
        replace H := Option.bind_eq_some_iff.mp H
        obtain ⟨t109, A100, H⟩ := H
        replace H : (if t109 = 0 then (some (t105, 0, 0)) else (some (([] : List (S38)), 0, t109))) = some (r1, r2, r3) := H
        have A10 := Aside0.mk A100
        clear A100
        by_cases c11 : t109 = 0
        · rw [if_pos c11] at H
          have c11b0 : (t109 == 0) = true := beq_iff_eq.mpr c11
          have c11b1 : (t109 != 0) = false := bne_eq_false_iff_eq.mpr c11
          clear c11
          simp only [Option.some.injEq, Prod.mk.injEq] at H
          obtain ⟨rfl, rfl, rfl⟩ := H
          go_enter Tryd.func7, Tryd.ntmps7
          go_wp2_with (first | ((with_reducible refine gate_callee (f := 14) rfl ?_); refine goesL_ (some 15) rfl rfl Tryd.func14 (by kernel_rfl) rfl #[.string a0] rfl (by (try simp only [List.map_toArray, List.map_cons, List.map_nil]); first | done | rfl | (simp only [List.length_drop, List.length_take]; rfl)) ?_; (with_reducible refine (token_Lines.calls a0 t101 true _ A3.out (Laid.below HY (by repeat (first | (with_reducible first | exact HB.out | apply below_alloc | apply pw_below_drewN | apply below_drew1) | exact HB.out)))).mono ?_); rintro e w12 ⟨v103, rfl, ho0, hb⟩; refine ⟨_, rfl, ?_⟩; have n0_ := Aside0.mk (Kd.R_lower ho0 (below_size (by repeat (first | (with_reducible first | exact HB.out | apply below_alloc | apply pw_below_drewN | apply below_drew1) | exact HB.out)))); have n1_ := Aside0.mk (below_step (by repeat (first | (with_reducible first | exact HB.out | apply below_alloc | apply pw_below_drewN | apply below_drew1) | exact HB.out)) hb); clear HB; have HO104 := n0_; have HB := n1_; clear n0_ n1_; (try clear hb); (try clear hb2); (try clear hk); (try clear hi); (try clear ho0); obtain ⟨Ao13, co13, eo13⟩ := Kd.R_slice HO104.out; subst eo13) | ((with_reducible refine gate_callee (f := 15) rfl ?_); refine goesL_ (some 20) rfl rfl Tryd.func15 (by kernel_rfl) rfl #[.slice Ao13 t101.length co13] rfl (by (try simp only [List.map_toArray, List.map_cons, List.map_nil]); first | done | rfl | (simp only [List.length_drop, List.length_take]; rfl)) ?_; (with_reducible refine (script_Lines.calls k _ _ t101 t105 t106 _ ?side1 ?side2 A4.out (Laid.below HY (by repeat (first | (with_reducible first | exact HB.out | apply below_alloc | apply pw_below_drewN | apply below_drew1) | exact HB.out)))).mono ?_); (case side1 => repeat (first | exact (Kd.R_reads' HO104.out).2.2 | (with_reducible refine Kd.C_alloc ?_ _) | (with_reducible refine Kd.C_drewN ?_ _) | (with_reducible refine Kd.C_drew ?_))); (case side2 => exact (Kd.R_reads' HO104.out).2.1); rintro e w14 ⟨v107, rfl, ho0, hb⟩; refine ⟨_, rfl, ?_⟩; have n0_ := Aside0.mk (Kd.R_below (by (with_reducible repeat (first | apply Kd.R_alloc | apply Kd.R_drewN | apply Kd.R_drew)); exact HO104.out) hb); have n1_ := Aside0.mk (Kd.S_lower ho0 (below_size (by repeat (first | (with_reducible first | exact HB.out | apply below_alloc | apply pw_below_drewN | apply below_drew1) | exact HB.out)))); have n2_ := Aside0.mk (below_step (by repeat (first | (with_reducible first | exact HB.out | apply below_alloc | apply pw_below_drewN | apply below_drew1) | exact HB.out)) hb); clear HO104; clear HB; have HO104 := n0_; have HO108 := n1_; have HB := n2_; clear n0_ n1_ n2_; (try clear hb); (try clear hb2); (try clear hk); (try clear hi); (try clear ho0); obtain ⟨Ao15, co15, eo15⟩ := Kd.S_slice HO108.out; subst eo15) | ((with_reducible refine gate_callee (f := 16) rfl ?_); refine goesL_ (some 34) rfl rfl Tryd.func16 (by kernel_rfl) rfl #[.slice Ao15 t105.length co15] rfl (by (try simp only [List.map_toArray, List.map_cons, List.map_nil]); first | done | rfl | (simp only [List.length_drop, List.length_take]; rfl)) ?_; (with_reducible refine (history_Check.calls k _ _ t105 t109 _ ?side1 ?side2 A10.out (Laid.below HY (by repeat (first | (with_reducible first | exact HB.out | apply below_alloc | apply pw_below_drewN | apply below_drew1) | exact HB.out)))).mono ?_); (case side1 => repeat (first | exact (Kd.S_reads' HO108.out).2.2 | (with_reducible refine Kd.C_alloc ?_ _) | (with_reducible refine Kd.C_drewN ?_ _) | (with_reducible refine Kd.C_drew ?_))); (case side2 => exact (Kd.S_reads' HO108.out).2.1); rintro e w16 ⟨rfl, hb⟩; refine ⟨_, rfl, ?_⟩; have n0_ := Aside0.mk (Kd.R_below (by (with_reducible repeat (first | apply Kd.R_alloc | apply Kd.R_drewN | apply Kd.R_drew)); exact HO104.out) hb); have n1_ := Aside0.mk (Kd.S_below (by (with_reducible repeat (first | apply Kd.S_alloc | apply Kd.S_drewN | apply Kd.S_drew)); exact HO108.out) hb); have n2_ := Aside0.mk (below_step (by repeat (first | (with_reducible first | exact HB.out | apply below_alloc | apply pw_below_drewN | apply below_drew1) | exact HB.out)) hb); clear HO104; clear HO108; clear HB; have HO104 := n0_; have HO108 := n1_; have HB := n2_; clear n0_ n1_ n2_; (try clear hb); (try clear hb2); (try clear hk); (try clear hi)))
          go_ret3
          exact ⟨_, by first | rfl | (simp [errW_none, errW_some] <;> rfl) | (simp [*, errW_none, errW_some] <;> rfl), by (with_reducible repeat (first | apply Kd.S_alloc | apply Kd.S_drewN | apply Kd.S_drew)); exact HO108.out, by repeat (first | (with_reducible first | exact HB.out | apply below_alloc | apply pw_below_drewN | apply below_drew1) | exact HB.out)⟩
        · rw [if_neg c11] at H
          have c11b0 : (t109 == 0) = false := beq_eq_false_iff_ne.mpr c11
          have c11b1 : (t109 != 0) = true := bne_iff_ne.mpr c11
          simp only [Option.some.injEq, Prod.mk.injEq] at H
          obtain ⟨rfl, rfl, rfl⟩ := H
          go_enter Tryd.func7, Tryd.ntmps7
          go_wp2_with (first | ((with_reducible refine gate_callee (f := 14) rfl ?_); refine goesL_ (some 15) rfl rfl Tryd.func14 (by kernel_rfl) rfl #[.string a0] rfl (by (try simp only [List.map_toArray, List.map_cons, List.map_nil]); first | done | rfl | (simp only [List.length_drop, List.length_take]; rfl)) ?_; (with_reducible refine (token_Lines.calls a0 t101 true _ A3.out (Laid.below HY (by repeat (first | (with_reducible first | exact HB.out | apply below_alloc | apply pw_below_drewN | apply below_drew1) | exact HB.out)))).mono ?_); rintro e w17 ⟨v103, rfl, ho0, hb⟩; refine ⟨_, rfl, ?_⟩; have n0_ := Aside0.mk (Kd.R_lower ho0 (below_size (by repeat (first | (with_reducible first | exact HB.out | apply below_alloc | apply pw_below_drewN | apply below_drew1) | exact HB.out)))); have n1_ := Aside0.mk (below_step (by repeat (first | (with_reducible first | exact HB.out | apply below_alloc | apply pw_below_drewN | apply below_drew1) | exact HB.out)) hb); clear HB; have HO104 := n0_; have HB := n1_; clear n0_ n1_; (try clear hb); (try clear hb2); (try clear hk); (try clear hi); (try clear ho0); obtain ⟨Ao18, co18, eo18⟩ := Kd.R_slice HO104.out; subst eo18) | ((with_reducible refine gate_callee (f := 15) rfl ?_); refine goesL_ (some 20) rfl rfl Tryd.func15 (by kernel_rfl) rfl #[.slice Ao18 t101.length co18] rfl (by (try simp only [List.map_toArray, List.map_cons, List.map_nil]); first | done | rfl | (simp only [List.length_drop, List.length_take]; rfl)) ?_; (with_reducible refine (script_Lines.calls k _ _ t101 t105 t106 _ ?side1 ?side2 A4.out (Laid.below HY (by repeat (first | (with_reducible first | exact HB.out | apply below_alloc | apply pw_below_drewN | apply below_drew1) | exact HB.out)))).mono ?_); (case side1 => repeat (first | exact (Kd.R_reads' HO104.out).2.2 | (with_reducible refine Kd.C_alloc ?_ _) | (with_reducible refine Kd.C_drewN ?_ _) | (with_reducible refine Kd.C_drew ?_))); (case side2 => exact (Kd.R_reads' HO104.out).2.1); rintro e w19 ⟨v107, rfl, ho0, hb⟩; refine ⟨_, rfl, ?_⟩; have n0_ := Aside0.mk (Kd.R_below (by (with_reducible repeat (first | apply Kd.R_alloc | apply Kd.R_drewN | apply Kd.R_drew)); exact HO104.out) hb); have n1_ := Aside0.mk (Kd.S_lower ho0 (below_size (by repeat (first | (with_reducible first | exact HB.out | apply below_alloc | apply pw_below_drewN | apply below_drew1) | exact HB.out)))); have n2_ := Aside0.mk (below_step (by repeat (first | (with_reducible first | exact HB.out | apply below_alloc | apply pw_below_drewN | apply below_drew1) | exact HB.out)) hb); clear HO104; clear HB; have HO104 := n0_; have HO108 := n1_; have HB := n2_; clear n0_ n1_ n2_; (try clear hb); (try clear hb2); (try clear hk); (try clear hi); (try clear ho0); obtain ⟨Ao20, co20, eo20⟩ := Kd.S_slice HO108.out; subst eo20) | ((with_reducible refine gate_callee (f := 16) rfl ?_); refine goesL_ (some 34) rfl rfl Tryd.func16 (by kernel_rfl) rfl #[.slice Ao20 t105.length co20] rfl (by (try simp only [List.map_toArray, List.map_cons, List.map_nil]); first | done | rfl | (simp only [List.length_drop, List.length_take]; rfl)) ?_; (with_reducible refine (history_Check.calls k _ _ t105 t109 _ ?side1 ?side2 A10.out (Laid.below HY (by repeat (first | (with_reducible first | exact HB.out | apply below_alloc | apply pw_below_drewN | apply below_drew1) | exact HB.out)))).mono ?_); (case side1 => repeat (first | exact (Kd.S_reads' HO108.out).2.2 | (with_reducible refine Kd.C_alloc ?_ _) | (with_reducible refine Kd.C_drewN ?_ _) | (with_reducible refine Kd.C_drew ?_))); (case side2 => exact (Kd.S_reads' HO108.out).2.1); rintro e w21 ⟨rfl, hb⟩; refine ⟨_, rfl, ?_⟩; have n0_ := Aside0.mk (Kd.R_below (by (with_reducible repeat (first | apply Kd.R_alloc | apply Kd.R_drewN | apply Kd.R_drew)); exact HO104.out) hb); have n1_ := Aside0.mk (Kd.S_below (by (with_reducible repeat (first | apply Kd.S_alloc | apply Kd.S_drewN | apply Kd.S_drew)); exact HO108.out) hb); have n2_ := Aside0.mk (below_step (by repeat (first | (with_reducible first | exact HB.out | apply below_alloc | apply pw_below_drewN | apply below_drew1) | exact HB.out)) hb); clear HO104; clear HO108; clear HB; have HO104 := n0_; have HO108 := n1_; have HB := n2_; clear n0_ n1_ n2_; (try clear hb); (try clear hb2); (try clear hk); (try clear hi)))
          go_ret3
          exact ⟨_, by first | rfl | (simp [errW_none, errW_some] <;> rfl) | (simp [*, errW_none, errW_some] <;> rfl), by first | exact Kd.S_nil _ _ _ _ _ | exact Kd.N_nil _ _ _ _ _ | exact Kd.V_nil _ _ _ _ _ | exact Kd.Q_nil _ _ _ _ _ | exact Kd.R_nil _ _ _ _ _, by repeat (first | (with_reducible first | exact HB.out | apply below_alloc | apply pw_below_drewN | apply below_drew1) | exact HB.out)⟩
      · replace c9 := Bool.eq_false_iff.mpr c9
        subst c9
        have H1 : (some (([] : List (S38)), wrap64 ((t101.length : Int) + 1), 1)) = some (r1, r2, r3) := by rw [if_neg (show ¬ (false = true) by decide)] at H; exact H
        clear H
        have H := H1
        clear H1
        simp only [Option.some.injEq, Prod.mk.injEq] at H
        obtain ⟨rfl, rfl, rfl⟩ := H
        go_enter Tryd.func7, Tryd.ntmps7
        go_wp2_with (first | ((with_reducible refine gate_callee (f := 14) rfl ?_); refine goesL_ (some 15) rfl rfl Tryd.func14 (by kernel_rfl) rfl #[.string a0] rfl (by (try simp only [List.map_toArray, List.map_cons, List.map_nil]); first | done | rfl | (simp only [List.length_drop, List.length_take]; rfl)) ?_; (with_reducible refine (token_Lines.calls a0 t101 false _ A3.out (Laid.below HY (by repeat (first | (with_reducible first | exact HB.out | apply below_alloc | apply pw_below_drewN | apply below_drew1) | exact HB.out)))).mono ?_); rintro e w22 ⟨v103, rfl, ho0, hb⟩; refine ⟨_, rfl, ?_⟩; have n0_ := Aside0.mk (Kd.R_lower ho0 (below_size (by repeat (first | (with_reducible first | exact HB.out | apply below_alloc | apply pw_below_drewN | apply below_drew1) | exact HB.out)))); have n1_ := Aside0.mk (below_step (by repeat (first | (with_reducible first | exact HB.out | apply below_alloc | apply pw_below_drewN | apply below_drew1) | exact HB.out)) hb); clear HB; have HO104 := n0_; have HB := n1_; clear n0_ n1_; (try clear hb); (try clear hb2); (try clear hk); (try clear hi); (try clear ho0); obtain ⟨Ao23, co23, eo23⟩ := Kd.R_slice HO104.out; subst eo23) | ((with_reducible refine gate_callee (f := 15) rfl ?_); refine goesL_ (some 20) rfl rfl Tryd.func15 (by kernel_rfl) rfl #[.slice Ao23 t101.length co23] rfl (by (try simp only [List.map_toArray, List.map_cons, List.map_nil]); first | done | rfl | (simp only [List.length_drop, List.length_take]; rfl)) ?_; (with_reducible refine (script_Lines.calls k _ _ t101 t105 t106 _ ?side1 ?side2 A4.out (Laid.below HY (by repeat (first | (with_reducible first | exact HB.out | apply below_alloc | apply pw_below_drewN | apply below_drew1) | exact HB.out)))).mono ?_); (case side1 => repeat (first | exact (Kd.R_reads' HO104.out).2.2 | (with_reducible refine Kd.C_alloc ?_ _) | (with_reducible refine Kd.C_drewN ?_ _) | (with_reducible refine Kd.C_drew ?_))); (case side2 => exact (Kd.R_reads' HO104.out).2.1); rintro e w24 ⟨v107, rfl, ho0, hb⟩; refine ⟨_, rfl, ?_⟩; have n0_ := Aside0.mk (Kd.R_below (by (with_reducible repeat (first | apply Kd.R_alloc | apply Kd.R_drewN | apply Kd.R_drew)); exact HO104.out) hb); have n1_ := Aside0.mk (Kd.S_lower ho0 (below_size (by repeat (first | (with_reducible first | exact HB.out | apply below_alloc | apply pw_below_drewN | apply below_drew1) | exact HB.out)))); have n2_ := Aside0.mk (below_step (by repeat (first | (with_reducible first | exact HB.out | apply below_alloc | apply pw_below_drewN | apply below_drew1) | exact HB.out)) hb); clear HO104; clear HB; have HO104 := n0_; have HO108 := n1_; have HB := n2_; clear n0_ n1_ n2_; (try clear hb); (try clear hb2); (try clear hk); (try clear hi); (try clear ho0)))
        go_ret3
        exact ⟨_, by first | rfl | (simp [errW_none, errW_some] <;> rfl) | (simp [*, errW_none, errW_some] <;> rfl), by first | exact Kd.S_nil _ _ _ _ _ | exact Kd.N_nil _ _ _ _ _ | exact Kd.V_nil _ _ _ _ _ | exact Kd.Q_nil _ _ _ _ _ | exact Kd.R_nil _ _ _ _ _, by repeat (first | (with_reducible first | exact HB.out | apply below_alloc | apply pw_below_drewN | apply below_drew1) | exact HB.out)⟩
def op_Text.f (a0_0 : Bool) (a0_1 : Int) (a0_2 : Int) : Option (ByteArray) := if a0_0 = true then ((token_Join.f (⟨#[119]⟩ : ByteArray) (([a0_1, a0_2] : List Int))).bind fun t114 => (some t114)) else ((token_Join.f (⟨#[114]⟩ : ByteArray) (([a0_1, a0_2] : List Int))).bind fun t118 => (some t118))
set_option maxHeartbeats 8000000 in
set_option maxRecDepth 100000 in
theorem op_Text.calls (a0_0 : Bool) (a0_1 : Int) (a0_2 : Int) (r : ByteArray) (w : World) (h : op_Text.f a0_0 a0_1 a0_2 = some r) (HY : Laid w) :
    Calls Tryd.prog 38 #[.agg #[.bool a0_0, .int .i64 a0_1, .int .i64 a0_2]] w fun e w' => e = .returned (.string r) ∧ Below w.heap.size w w' := by
  have hu48 := Tryd.underlying48
  have HB := Aside0.mk (Below.refl w.heap.size w)
  have H : (if a0_0 = true then ((token_Join.f (⟨#[119]⟩ : ByteArray) (([a0_1, a0_2] : List Int))).bind fun t114 => (some t114)) else ((token_Join.f (⟨#[114]⟩ : ByteArray) (([a0_1, a0_2] : List Int))).bind fun t118 => (some t118))) = some r := h
  clear h
  by_cases c2 : a0_0 = true
  · subst c2
    have H1 : ((token_Join.f (⟨#[119]⟩ : ByteArray) (([a0_1, a0_2] : List Int))).bind fun t114 => (some t114)) = some r := by rw [if_pos rfl] at H; exact H
    clear H
    have H := H1
    clear H1
    obtain ⟨y111, hy111⟩ : ∃ y_ : List Int, y_ = (([a0_1, a0_2] : List Int)) := ⟨_, rfl⟩
    replace H : ((token_Join.f (⟨#[119]⟩ : ByteArray) y111).bind fun t114 => (some t114)) = some r := by first | (rw [hy111]; with_reducible exact H) | (have H2_ := (Option.bind_some _ _).symm.trans H; rw [hy111]; with_reducible exact H2_) | (have H2_ := (Option.bind_some _ _).symm.trans H; with_reducible exact H2_) | with_reducible exact H | (rw [hy111]; exact H) | exact H
    have Ny111 := Aside0.mk hy111
    clear hy111
    replace H := Option.bind_eq_some_iff.mp H
    obtain ⟨t114, A30, H⟩ := H
    replace H : (some t114) = some r := H
    have A3 := Aside0.mk A30
    clear A30
    obtain rfl := Option.some.inj H
    go_enter Tryd.func38, Tryd.ntmps38
    go_wp2_with (first | ((with_reducible refine gate_dst (N := 1) rfl ?_); refine box_event ?hg (N := 1) ?hd (cs := #[.bool true, .int .i64 a0_1, .int .i64 a0_2]) (t := 48) ?hr ?_; (case hd => rfl); (case hg => rfl); (case hr => first | (go_simp; done) | (go_simp; rfl)); intro gb110 hg w4 hbox hb; have n0_ := Aside0.mk (below_step (by repeat (first | (with_reducible first | exact HB.out | apply below_alloc | apply pw_below_drewN | apply below_drew1) | exact HB.out)) hb); have n1_ := Aside0.mk (hbox); have n2_ := Aside0.mk ((by rw [hg]; exact (below_size (by repeat (first | (with_reducible first | exact HB.out | apply below_alloc | apply pw_below_drewN | apply below_drew1) | exact HB.out))) : w.heap.size ≤ gb110)); have n3_ := Aside0.mk ((by rw [hg]; exact (below_size (by repeat (first | (with_reducible first | exact HB.out | apply below_alloc | apply pw_below_drewN | apply below_drew1) | exact HB.out))) : w.heap.size ≤ gb110)); clear HB; have HB := n0_; have BK110 := n1_; have GW110 := n2_; have GE110 := n3_; clear n0_ n1_ n2_ n3_; clear hb hbox hg; have hcz5_0 : w4.cell? ⟨gb110, 0, none⟩ = some (.bool true) := (blk_cell BK110.out 0).trans rfl; have hcz5_1 : w4.cell? ⟨gb110, 1, none⟩ = some (.int .i64 a0_1) := (blk_cell BK110.out 1).trans rfl; have hcz5_2 : w4.cell? ⟨gb110, 2, none⟩ = some (.int .i64 a0_2) := (blk_cell BK110.out 2).trans rfl; have hfz5_0 := blk_frozen BK110.out 0; have hfz5_1 := blk_frozen BK110.out 1; have hfz5_2 := blk_frozen BK110.out 2) | ((with_reducible refine gate_dst (N := 9) rfl ?_); refine Kd.R_lit (Kd.int .i64) _ 3 ?hg (N := 9) ?hd (xs := ([a0_1, a0_2] : List Int)) (inner := [.int .i64 a0_1, .int .i64 a0_2]) (ok := fun _ => True) (okp := fun _ => True) ?hr ?hp (fun _ hk => hk) trivial (Below.refl _ _) (Nat.le_refl _) (by simp) ?_; (case hd => rfl); (case hg => rfl); (case hr => first | (go_simp; done) | (go_simp; rfl)); (case hp => exact (Reps.one (show Kd.M (Kd.int .i64) _ _ _ a0_1 [.int .i64 a0_1] from rfl) (Reps.one (show Kd.M (Kd.int .i64) _ _ _ a0_2 [.int .i64 a0_2] from rfl) (Reps.none _ _)))); intro v112 w6 ho7 hb hg_ hnew_; clear hg_ hnew_; (first | rw [← Ny111.out] at ho7 | (simp only [Int.reduceToNat] at ho7; rw [← Ny111.out] at ho7)); have n0_ := Aside0.mk (Kd.R_lower ho7 (below_size (by repeat (first | (with_reducible first | exact HB.out | apply below_alloc | apply pw_below_drewN | apply below_drew1 | refine below_set ?_ GE110.out) | exact HB.out)))); have n1_ := Aside0.mk (blk_below (g := gb110) (o := .cells #[.bool true, .int .i64 a0_1, .int .i64 a0_2] 48 (0, 0)) (by (with_reducible repeat (first | refine blk_drewN ?_ _ | refine blk_drew ?_ | refine blk_alloc ?_ _)); exact BK110.out) hb); have n2_ := Aside0.mk (below_step (by repeat (first | (with_reducible first | exact HB.out | apply below_alloc | apply pw_below_drewN | apply below_drew1 | refine below_set ?_ GE110.out) | exact HB.out)) hb); clear BK110; clear HB; have HO113 := n0_; have BK110 := n1_; have HB := n2_; clear n0_ n1_ n2_; clear hb ho7; obtain ⟨Ao8, co8, eo8⟩ := Kd.R_slice HO113.out; subst eo8) | ((with_reducible refine gate_callee (f := 37) rfl ?_); refine goesL_ (some 10) rfl rfl Tryd.func37 (by kernel_rfl) rfl #[.string (⟨#[119]⟩ : ByteArray), .slice Ao8 y111.length co8] rfl (by (try simp only [List.map_toArray, List.map_cons, List.map_nil]); first | done | rfl | (simp only [List.length_drop, List.length_take]; rfl)) ?_; (with_reducible refine (token_Join.calls (⟨#[119]⟩ : ByteArray) _ _ y111 t114 _ ?side1 ?side2 A3.out (Laid.below HY (by repeat (first | (with_reducible first | exact HB.out | apply below_alloc | apply pw_below_drewN | apply below_drew1 | refine below_set ?_ GE110.out) | exact HB.out)))).mono ?_); (case side1 => repeat (first | exact (Kd.R_reads' HO113.out).2.2 | (with_reducible refine Kd.C_alloc ?_ _) | (with_reducible refine Kd.C_drewN ?_ _) | (with_reducible refine Kd.C_drew ?_))); (case side2 => exact (Kd.R_reads' HO113.out).2.1); rintro e w9 ⟨rfl, hb⟩; refine ⟨_, rfl, ?_⟩; have n0_ := Aside0.mk (Kd.R_below (by (with_reducible repeat (first | apply Kd.R_alloc | apply Kd.R_drewN | apply Kd.R_drew)); exact HO113.out) hb); have n1_ := Aside0.mk (blk_below (g := gb110) (o := .cells #[.bool true, .int .i64 a0_1, .int .i64 a0_2] 48 (0, 0)) (by (with_reducible repeat (first | refine blk_drewN ?_ _ | refine blk_drew ?_ | refine blk_alloc ?_ _)); exact BK110.out) hb); have n2_ := Aside0.mk (below_step (by repeat (first | (with_reducible first | exact HB.out | apply below_alloc | apply pw_below_drewN | apply below_drew1 | refine below_set ?_ GE110.out) | exact HB.out)) hb); clear HO113; clear BK110; clear HB; have HO113 := n0_; have BK110 := n1_; have HB := n2_; clear n0_ n1_ n2_; (try clear hb); (try clear hb2); (try clear hk); (try clear hi)))
    go_ret
    exact ⟨by first | rfl | (simp [errW_none, errW_some] <;> rfl) | (simp [*, errW_none, errW_some] <;> rfl), by repeat (first | (with_reducible first | exact HB.out | apply below_alloc | apply pw_below_drewN | apply below_drew1 | refine below_set ?_ GE110.out) | exact HB.out)⟩
  · replace c2 := Bool.eq_false_iff.mpr c2
    subst c2
    have H1 : ((token_Join.f (⟨#[114]⟩ : ByteArray) (([a0_1, a0_2] : List Int))).bind fun t118 => (some t118)) = some r := by rw [if_neg (show ¬ (false = true) by decide)] at H; exact H
    clear H
    have H := H1
    clear H1
    obtain ⟨y115, hy115⟩ : ∃ y_ : List Int, y_ = (([a0_1, a0_2] : List Int)) := ⟨_, rfl⟩
    replace H : ((token_Join.f (⟨#[114]⟩ : ByteArray) y115).bind fun t118 => (some t118)) = some r := by first | (rw [hy115]; with_reducible exact H) | (have H2_ := (Option.bind_some _ _).symm.trans H; rw [hy115]; with_reducible exact H2_) | (have H2_ := (Option.bind_some _ _).symm.trans H; with_reducible exact H2_) | with_reducible exact H | (rw [hy115]; exact H) | exact H
    have Ny115 := Aside0.mk hy115
    clear hy115
    replace H := Option.bind_eq_some_iff.mp H
    obtain ⟨t118, A100, H⟩ := H
    replace H : (some t118) = some r := H
    have A10 := Aside0.mk A100
    clear A100
    obtain rfl := Option.some.inj H
    go_enter Tryd.func38, Tryd.ntmps38
    go_wp2_with (first | ((with_reducible refine gate_dst (N := 1) rfl ?_); refine box_event ?hg (N := 1) ?hd (cs := #[.bool false, .int .i64 a0_1, .int .i64 a0_2]) (t := 48) ?hr ?_; (case hd => rfl); (case hg => rfl); (case hr => first | (go_simp; done) | (go_simp; rfl)); intro gb110 hg w11 hbox hb; have n0_ := Aside0.mk (below_step (by repeat (first | (with_reducible first | exact HB.out | apply below_alloc | apply pw_below_drewN | apply below_drew1) | exact HB.out)) hb); have n1_ := Aside0.mk (hbox); have n2_ := Aside0.mk ((by rw [hg]; exact (below_size (by repeat (first | (with_reducible first | exact HB.out | apply below_alloc | apply pw_below_drewN | apply below_drew1) | exact HB.out))) : w.heap.size ≤ gb110)); have n3_ := Aside0.mk ((by rw [hg]; exact (below_size (by repeat (first | (with_reducible first | exact HB.out | apply below_alloc | apply pw_below_drewN | apply below_drew1) | exact HB.out))) : w.heap.size ≤ gb110)); clear HB; have HB := n0_; have BK110 := n1_; have GW110 := n2_; have GE110 := n3_; clear n0_ n1_ n2_ n3_; clear hb hbox hg; have hcz12_0 : w11.cell? ⟨gb110, 0, none⟩ = some (.bool false) := (blk_cell BK110.out 0).trans rfl; have hcz12_1 : w11.cell? ⟨gb110, 1, none⟩ = some (.int .i64 a0_1) := (blk_cell BK110.out 1).trans rfl; have hcz12_2 : w11.cell? ⟨gb110, 2, none⟩ = some (.int .i64 a0_2) := (blk_cell BK110.out 2).trans rfl; have hfz12_0 := blk_frozen BK110.out 0; have hfz12_1 := blk_frozen BK110.out 1; have hfz12_2 := blk_frozen BK110.out 2) | ((with_reducible refine gate_dst (N := 15) rfl ?_); refine Kd.R_lit (Kd.int .i64) _ 3 ?hg (N := 15) ?hd (xs := ([a0_1, a0_2] : List Int)) (inner := [.int .i64 a0_1, .int .i64 a0_2]) (ok := fun _ => True) (okp := fun _ => True) ?hr ?hp (fun _ hk => hk) trivial (Below.refl _ _) (Nat.le_refl _) (by simp) ?_; (case hd => rfl); (case hg => rfl); (case hr => first | (go_simp; done) | (go_simp; rfl)); (case hp => exact (Reps.one (show Kd.M (Kd.int .i64) _ _ _ a0_1 [.int .i64 a0_1] from rfl) (Reps.one (show Kd.M (Kd.int .i64) _ _ _ a0_2 [.int .i64 a0_2] from rfl) (Reps.none _ _)))); intro v116 w13 ho14 hb hg_ hnew_; clear hg_ hnew_; (first | rw [← Ny115.out] at ho14 | (simp only [Int.reduceToNat] at ho14; rw [← Ny115.out] at ho14)); have n0_ := Aside0.mk (Kd.R_lower ho14 (below_size (by repeat (first | (with_reducible first | exact HB.out | apply below_alloc | apply pw_below_drewN | apply below_drew1 | refine below_set ?_ GE110.out) | exact HB.out)))); have n1_ := Aside0.mk (blk_below (g := gb110) (o := .cells #[.bool false, .int .i64 a0_1, .int .i64 a0_2] 48 (0, 0)) (by (with_reducible repeat (first | refine blk_drewN ?_ _ | refine blk_drew ?_ | refine blk_alloc ?_ _)); exact BK110.out) hb); have n2_ := Aside0.mk (below_step (by repeat (first | (with_reducible first | exact HB.out | apply below_alloc | apply pw_below_drewN | apply below_drew1 | refine below_set ?_ GE110.out) | exact HB.out)) hb); clear BK110; clear HB; have HO117 := n0_; have BK110 := n1_; have HB := n2_; clear n0_ n1_ n2_; clear hb ho14; obtain ⟨Ao15, co15, eo15⟩ := Kd.R_slice HO117.out; subst eo15) | ((with_reducible refine gate_callee (f := 37) rfl ?_); refine goesL_ (some 16) rfl rfl Tryd.func37 (by kernel_rfl) rfl #[.string (⟨#[114]⟩ : ByteArray), .slice Ao15 y115.length co15] rfl (by (try simp only [List.map_toArray, List.map_cons, List.map_nil]); first | done | rfl | (simp only [List.length_drop, List.length_take]; rfl)) ?_; (with_reducible refine (token_Join.calls (⟨#[114]⟩ : ByteArray) _ _ y115 t118 _ ?side1 ?side2 A10.out (Laid.below HY (by repeat (first | (with_reducible first | exact HB.out | apply below_alloc | apply pw_below_drewN | apply below_drew1 | refine below_set ?_ GE110.out) | exact HB.out)))).mono ?_); (case side1 => repeat (first | exact (Kd.R_reads' HO117.out).2.2 | (with_reducible refine Kd.C_alloc ?_ _) | (with_reducible refine Kd.C_drewN ?_ _) | (with_reducible refine Kd.C_drew ?_))); (case side2 => exact (Kd.R_reads' HO117.out).2.1); rintro e w16 ⟨rfl, hb⟩; refine ⟨_, rfl, ?_⟩; have n0_ := Aside0.mk (Kd.R_below (by (with_reducible repeat (first | apply Kd.R_alloc | apply Kd.R_drewN | apply Kd.R_drew)); exact HO117.out) hb); have n1_ := Aside0.mk (blk_below (g := gb110) (o := .cells #[.bool false, .int .i64 a0_1, .int .i64 a0_2] 48 (0, 0)) (by (with_reducible repeat (first | refine blk_drewN ?_ _ | refine blk_drew ?_ | refine blk_alloc ?_ _)); exact BK110.out) hb); have n2_ := Aside0.mk (below_step (by repeat (first | (with_reducible first | exact HB.out | apply below_alloc | apply pw_below_drewN | apply below_drew1 | refine below_set ?_ GE110.out) | exact HB.out)) hb); clear HO117; clear BK110; clear HB; have HO117 := n0_; have BK110 := n1_; have HB := n2_; clear n0_ n1_ n2_; (try clear hb); (try clear hb2); (try clear hk); (try clear hi)))
    go_ret
    exact ⟨by first | rfl | (simp [errW_none, errW_some] <;> rfl) | (simp [*, errW_none, errW_some] <;> rfl), by repeat (first | (with_reducible first | exact HB.out | apply below_alloc | apply pw_below_drewN | apply below_drew1 | refine below_set ?_ GE110.out) | exact HB.out)⟩
def txn_Text.l0 : Nat → ByteArray → List (S48) → Int → Int → Option (ByteArray)
  | 0, _, _, _, _ => none
  | k + 1, x3, x16, x17, x18 => if x18 < x17 then (if 0 ≤ x18 then (if x18 < (x16.length : Int) then ((op_Text.f ((rd_T48 x16 x18).f0) ((rd_T48 x16 x18).f1) ((rd_T48 x16 x18).f2)).bind fun t126 => (if t126.size + 1 ≤ 9223372036854775807 then (if x3.size + (t126 ++ (⟨#[10]⟩ : ByteArray)).size ≤ 9223372036854775807 then (txn_Text.l0 k (x3 ++ (t126 ++ (⟨#[10]⟩ : ByteArray))) x16 x17 (wrap64 (x18 + 1))) else (none)) else (none))) else (none)) else (none)) else (some x3)
def txn_Text.f (k : Nat) (a0_0 : Int) (a0_1 : Int) (a0_2 : Int) (l0_3 : List (S48)) : Option (ByteArray) := (token_Join.f (⟨#[116, 120, 110]⟩ : ByteArray) (([a0_0, a0_1, a0_2] : List Int))).bind fun t123 => (if t123.size + 1 ≤ 9223372036854775807 then (txn_Text.l0 k (t123 ++ (⟨#[10]⟩ : ByteArray)) l0_3 (l0_3.length : Int) 0) else (none))
theorem txn_Text.mono_l : ∀ k, (∀ y0 y1 y2 y3, LeO (txn_Text.l0 k y0 y1 y2 y3) (txn_Text.l0 (k + 1) y0 y1 y2 y3))
  | 0 => fun _ _ _ _ r h => by simp [txn_Text.l0] at h
  | k + 1 => by
    have ih0 := txn_Text.mono_l k
    · intro y0 y1 y2 y3
      unfold txn_Text.l0
      repeat' first
      | (with_reducible exact ih0 _ _ _ _)
      | (with_reducible exact LeO.refl _)
      | (with_reducible exact LeO.none _)
      | (with_reducible refine LeO.ite ?_ ?_)
      | (with_reducible refine LeO.bind ?_ (fun _ => ?_))
      | exact ih0 _ _ _ _
      | exact LeO.none _
      | refine LeO.ite ?_ ?_
      | refine LeO.bind ?_ (fun _ => ?_)
theorem txn_Text.mono : ∀ a0 a1 a2 a3 k, LeO (txn_Text.f k a0 a1 a2 a3) (txn_Text.f (k + 1) a0 a1 a2 a3) := by
  intro a0 a1 a2 a3 k
  have ih0 := txn_Text.mono_l k
  unfold txn_Text.f
  repeat' first
      | (with_reducible exact ih0 _ _ _ _)
      | (with_reducible exact LeO.refl _)
      | (with_reducible exact LeO.none _)
      | (with_reducible refine LeO.ite ?_ ?_)
      | (with_reducible refine LeO.bind ?_ (fun _ => ?_))
      | exact ih0 _ _ _ _
      | exact LeO.none _
      | refine LeO.ite ?_ ?_
      | refine LeO.bind ?_ (fun _ => ?_)
set_option maxHeartbeats 8000000 in
set_option maxRecDepth 100000 in
theorem txn_Text.calls (k : Nat) (a0_0 : Int) (a0_1 : Int) (a0_2 : Int) (A0_3 : Option Addr) (c0_3 : Nat) (l0_3 : List (S48)) (r : ByteArray) (w : World) (hr0_3 : Kd.C k48 w A0_3 l0_3.length l0_3) (hc0_3 : l0_3.length ≤ c0_3) (h : txn_Text.f k a0_0 a0_1 a0_2 l0_3 = some r) (HY : Laid w) :
    Calls Tryd.prog 19 #[.agg #[.int .i64 a0_0, .int .i64 a0_1, .int .i64 a0_2, .slice A0_3 l0_3.length c0_3]] w fun e w' => e = .returned (.string r) ∧ Below w.heap.size w w' := by
  have hu38 := Tryd.underlying38
  have hu48 := Tryd.underlying48
  have HR0_3 := Aside0.mk hr0_3
  have HC0_3 := Aside0.mk hc0_3
  clear hr0_3 hc0_3
  have HB := Aside0.mk (Below.refl w.heap.size w)
  have H : ((token_Join.f (⟨#[116, 120, 110]⟩ : ByteArray) (([a0_0, a0_1, a0_2] : List Int))).bind fun t123 => (if t123.size + 1 ≤ 9223372036854775807 then (txn_Text.l0 k (t123 ++ (⟨#[10]⟩ : ByteArray)) l0_3 (l0_3.length : Int) 0) else (none))) = some r := h
  clear h
  obtain ⟨y120, hy120⟩ : ∃ y_ : List Int, y_ = (([a0_0, a0_1, a0_2] : List Int)) := ⟨_, rfl⟩
  replace H : ((token_Join.f (⟨#[116, 120, 110]⟩ : ByteArray) y120).bind fun t123 => (if t123.size + 1 ≤ 9223372036854775807 then (txn_Text.l0 k (t123 ++ (⟨#[10]⟩ : ByteArray)) l0_3 (l0_3.length : Int) 0) else (none))) = some r := by first | (rw [hy120]; with_reducible exact H) | (have H2_ := (Option.bind_some _ _).symm.trans H; rw [hy120]; with_reducible exact H2_) | (have H2_ := (Option.bind_some _ _).symm.trans H; with_reducible exact H2_) | with_reducible exact H | (rw [hy120]; exact H) | exact H
  have Ny120 := Aside0.mk hy120
  clear hy120
  replace H := Option.bind_eq_some_iff.mp H
  obtain ⟨t123, A20, H⟩ := H
  replace H : (if t123.size + 1 ≤ 9223372036854775807 then (txn_Text.l0 k (t123 ++ (⟨#[10]⟩ : ByteArray)) l0_3 (l0_3.length : Int) 0) else (none)) = some r := H
  have A2 := Aside0.mk A20
  clear A20
  by_cases c3 : t123.size + 1 ≤ 9223372036854775807
  · rw [if_pos c3] at H
    have c3b0 := eq_true c3
    have c3b1 : decide (t123.size + 1 ≤ 9223372036854775807) = true := decide_eq_true c3
    try have c3b2 : (9223372036854775807 < t123.size + 1) = False := eq_false (Nat.not_lt.2 c3)
    have H' := Aside0.mk H
    clear H
    go_enter Tryd.func19, Tryd.ntmps19
    go_wp2_with (first | ((with_reducible refine gate_dst (N := 1) rfl ?_); refine box_event ?hg (N := 1) ?hd (cs := #[.int .i64 a0_0, .int .i64 a0_1, .int .i64 a0_2, .slice A0_3 l0_3.length c0_3]) (t := 38) ?hr ?_; (case hd => rfl); (case hg => rfl); (case hr => first | (go_simp; done) | (go_simp; rfl)); intro gb119 hg w4 hbox hb; have n0_ := Aside0.mk (below_step (by repeat (first | (with_reducible first | exact HB.out | apply below_alloc | apply pw_below_drewN | apply below_drew1) | exact HB.out)) hb); have n1_ := Aside0.mk (hbox); have n2_ := Aside0.mk ((by rw [hg]; exact (below_size (by repeat (first | (with_reducible first | exact HB.out | apply below_alloc | apply pw_below_drewN | apply below_drew1) | exact HB.out))) : w.heap.size ≤ gb119)); have n3_ := Aside0.mk ((by rw [hg]; exact (below_size (by repeat (first | (with_reducible first | exact HB.out | apply below_alloc | apply pw_below_drewN | apply below_drew1) | exact HB.out))) : w.heap.size ≤ gb119)); clear HB; have HB := n0_; have BK119 := n1_; have GW119 := n2_; have GE119 := n3_; clear n0_ n1_ n2_ n3_; clear hb hbox hg; have hcz5_0 : w4.cell? ⟨gb119, 0, none⟩ = some (.int .i64 a0_0) := (blk_cell BK119.out 0).trans rfl; have hcz5_1 : w4.cell? ⟨gb119, 1, none⟩ = some (.int .i64 a0_1) := (blk_cell BK119.out 1).trans rfl; have hcz5_2 : w4.cell? ⟨gb119, 2, none⟩ = some (.int .i64 a0_2) := (blk_cell BK119.out 2).trans rfl; have hcz5_3 : w4.cell? ⟨gb119, 3, none⟩ = some (.slice A0_3 l0_3.length c0_3) := (blk_cell BK119.out 3).trans rfl; have hfz5_0 := blk_frozen BK119.out 0; have hfz5_1 := blk_frozen BK119.out 1; have hfz5_2 := blk_frozen BK119.out 2; have hfz5_3 := blk_frozen BK119.out 3) | ((with_reducible refine gate_dst (N := 12) rfl ?_); refine Kd.R_lit (Kd.int .i64) _ 3 ?hg (N := 12) ?hd (xs := ([a0_0, a0_1, a0_2] : List Int)) (inner := [.int .i64 a0_0, .int .i64 a0_1, .int .i64 a0_2]) (ok := fun _ => True) (okp := fun _ => True) ?hr ?hp (fun _ hk => hk) trivial (Below.refl _ _) (Nat.le_refl _) (by simp) ?_; (case hd => rfl); (case hg => rfl); (case hr => first | (go_simp; done) | (go_simp; rfl)); (case hp => exact (Reps.one (show Kd.M (Kd.int .i64) _ _ _ a0_0 [.int .i64 a0_0] from rfl) (Reps.one (show Kd.M (Kd.int .i64) _ _ _ a0_1 [.int .i64 a0_1] from rfl) (Reps.one (show Kd.M (Kd.int .i64) _ _ _ a0_2 [.int .i64 a0_2] from rfl) (Reps.none _ _))))); intro v121 w6 ho7 hb hg_ hnew_; clear hg_ hnew_; (first | rw [← Ny120.out] at ho7 | (simp only [Int.reduceToNat] at ho7; rw [← Ny120.out] at ho7)); have n0_ := Aside0.mk (Kd.R_lower ho7 (below_size (by repeat (first | (with_reducible first | exact HB.out | apply below_alloc | apply pw_below_drewN | apply below_drew1 | refine below_set ?_ GE119.out) | exact HB.out)))); have n1_ := Aside0.mk (blk_below (g := gb119) (o := .cells #[.int .i64 a0_0, .int .i64 a0_1, .int .i64 a0_2, .slice A0_3 l0_3.length c0_3] 38 (0, 0)) (by (with_reducible repeat (first | refine blk_drewN ?_ _ | refine blk_drew ?_ | refine blk_alloc ?_ _)); exact BK119.out) hb); have n2_ := Aside0.mk (below_step (by repeat (first | (with_reducible first | exact HB.out | apply below_alloc | apply pw_below_drewN | apply below_drew1 | refine below_set ?_ GE119.out) | exact HB.out)) hb); clear BK119; clear HB; have HO122 := n0_; have BK119 := n1_; have HB := n2_; clear n0_ n1_ n2_; clear hb ho7; obtain ⟨Ao8, co8, eo8⟩ := Kd.R_slice HO122.out; subst eo8) | ((with_reducible refine gate_callee (f := 37) rfl ?_); refine goesL_ (some 13) rfl rfl Tryd.func37 (by kernel_rfl) rfl #[.string (⟨#[116, 120, 110]⟩ : ByteArray), .slice Ao8 y120.length co8] rfl (by (try simp only [List.map_toArray, List.map_cons, List.map_nil]); first | done | rfl | (simp only [List.length_drop, List.length_take]; rfl)) ?_; (with_reducible refine (token_Join.calls (⟨#[116, 120, 110]⟩ : ByteArray) _ _ y120 t123 _ ?side1 ?side2 A2.out (Laid.below HY (by repeat (first | (with_reducible first | exact HB.out | apply below_alloc | apply pw_below_drewN | apply below_drew1 | refine below_set ?_ GE119.out) | exact HB.out)))).mono ?_); (case side1 => repeat (first | exact (Kd.R_reads' HO122.out).2.2 | (with_reducible refine Kd.C_alloc ?_ _) | (with_reducible refine Kd.C_drewN ?_ _) | (with_reducible refine Kd.C_drew ?_))); (case side2 => exact (Kd.R_reads' HO122.out).2.1); rintro e w9 ⟨rfl, hb⟩; refine ⟨_, rfl, ?_⟩; have n0_ := Aside0.mk (Kd.R_below (by (with_reducible repeat (first | apply Kd.R_alloc | apply Kd.R_drewN | apply Kd.R_drew)); exact HO122.out) hb); have n1_ := Aside0.mk (blk_below (g := gb119) (o := .cells #[.int .i64 a0_0, .int .i64 a0_1, .int .i64 a0_2, .slice A0_3 l0_3.length c0_3] 38 (0, 0)) (by (with_reducible repeat (first | refine blk_drewN ?_ _ | refine blk_drew ?_ | refine blk_alloc ?_ _)); exact BK119.out) hb); have n2_ := Aside0.mk (below_step (by repeat (first | (with_reducible first | exact HB.out | apply below_alloc | apply pw_below_drewN | apply below_drew1 | refine below_set ?_ GE119.out) | exact HB.out)) hb); clear HO122; clear BK119; clear HB; have HO122 := n0_; have BK119 := n1_; have HB := n2_; clear n0_ n1_ n2_; (try clear hb); (try clear hb2); (try clear hk); (try clear hi); have hcz10_0 : w9.cell? ⟨gb119, 0, none⟩ = some (.int .i64 a0_0) := (blk_cell BK119.out 0).trans rfl; have hcz10_1 : w9.cell? ⟨gb119, 1, none⟩ = some (.int .i64 a0_1) := (blk_cell BK119.out 1).trans rfl; have hcz10_2 : w9.cell? ⟨gb119, 2, none⟩ = some (.int .i64 a0_2) := (blk_cell BK119.out 2).trans rfl; have hcz10_3 : w9.cell? ⟨gb119, 3, none⟩ = some (.slice A0_3 l0_3.length c0_3) := (blk_cell BK119.out 3).trans rfl; have hfz10_0 := blk_frozen BK119.out 0; have hfz10_1 := blk_frozen BK119.out 1; have hfz10_2 := blk_frozen BK119.out 2; have hfz10_3 := blk_frozen BK119.out 3))
    go_loopg [3, 18] k (fun kq v3 v18 w' => ∃ (x3_1 : ByteArray) (x18_1 : Int), v3 = .string x3_1 ∧ v18 = .int .i64 x18_1 ∧ Aside0 (txn_Text.l0 kq x3_1 l0_3 (l0_3.length : Int) x18_1 = some r) ∧ Aside0 (kq ≤ k) ∧ Aside0 (w'.heap[gb119]? = some (.cells #[.int .i64 a0_0, .int .i64 a0_1, .int .i64 a0_2, (.slice A0_3 l0_3.length c0_3)] 38 (0, 0))) ∧ Aside0 (Below w.heap.size w w'))
    case atStart => exact ⟨(t123 ++ (⟨#[10]⟩ : ByteArray)), (0), (by first | rfl | (simp; done) | (simp [*]; done)), (by first | rfl | (simp; done) | (simp [*]; done)), H', ⟨Nat.le_refl _⟩, ⟨by (with_reducible repeat (first | refine blk_drewN ?_ _ | refine blk_drew ?_ | refine blk_alloc ?_ _)); exact BK119.out⟩, ⟨by repeat (first | (with_reducible first | exact HB.out | apply below_alloc | apply pw_below_drewN | apply below_drew1 | refine below_set ?_ GE119.out) | exact HB.out)⟩⟩
    case round =>
      clear H'
      try clear c1
      try clear p2
      try clear c3
      try clear c3b0
      try clear c3b1
      try clear c3b2
      try clear hcz10_0
      try clear hcz10_1
      try clear hcz10_2
      try clear hcz10_3
      try clear hcz5_0
      try clear hcz5_1
      try clear hcz5_2
      try clear hcz5_3
      try clear hfz10_0
      try clear hfz10_1
      try clear hfz10_2
      try clear hfz10_3
      try clear hfz5_0
      try clear hfz5_1
      try clear hfz5_2
      try clear hfz5_3
      obtain ⟨x3_1, x18_1, rfl, rfl, HA, HK1, BK119, HB⟩ := hrel
      cases gk with
      | zero => exact absurd HA.out (by simp [txn_Text.l0])
      | succ k1 =>
        have H := HA.out
        clear HA
        simp only [txn_Text.l0] at H
        by_cases c11 : x18_1 < (l0_3.length : Int)
        · rw [if_pos c11] at H
          have c11b0 : decide (x18_1 < (l0_3.length : Int)) = true := decide_eq_true c11
          clear c11
          by_cases c12 : 0 ≤ x18_1
          · rw [if_pos c12] at H
            have c12b0 : decide (0 ≤ x18_1) = true := decide_eq_true c12
            clear c12
            by_cases c13 : x18_1 < (l0_3.length : Int)
            · rw [if_pos c13] at H
              have c13b0 : decide (x18_1 < (l0_3.length : Int)) = true := decide_eq_true c13
              clear c13
              replace H := Option.bind_eq_some_iff.mp H
              obtain ⟨t126, A140, H⟩ := H
              replace H : (if t126.size + 1 ≤ 9223372036854775807 then (if x3_1.size + (t126 ++ (⟨#[10]⟩ : ByteArray)).size ≤ 9223372036854775807 then (txn_Text.l0 k1 (x3_1 ++ (t126 ++ (⟨#[10]⟩ : ByteArray))) l0_3 (l0_3.length : Int) (wrap64 (x18_1 + 1))) else (none)) else (none)) = some r := H
              have A14 := Aside0.mk A140
              clear A140
              by_cases c15 : t126.size + 1 ≤ 9223372036854775807
              · rw [if_pos c15] at H
                have c15b0 := eq_true c15
                have c15b1 : decide (t126.size + 1 ≤ 9223372036854775807) = true := decide_eq_true c15
                try have c15b2 : (9223372036854775807 < t126.size + 1) = False := eq_false (Nat.not_lt.2 c15)
                by_cases c16 : x3_1.size + (t126 ++ (⟨#[10]⟩ : ByteArray)).size ≤ 9223372036854775807
                · rw [if_pos c16] at H
                  have c16b0 := eq_true c16
                  have c16b1 : decide (x3_1.size + (t126 ++ (⟨#[10]⟩ : ByteArray)).size ≤ 9223372036854775807) = true := decide_eq_true c16
                  try have c16b2 : (9223372036854775807 < x3_1.size + (t126 ++ (⟨#[10]⟩ : ByteArray)).size) = False := eq_false (Nat.not_lt.2 c16)
                  have H' := Aside0.mk H
                  clear H
                  have p124 : 0 ≤ (x18_1 : Int) := of_decide_eq_true (by first | (with_reducible assumption) | assumption)
                  have q124 : x18_1 < (l0_3.length : Int) := of_decide_eq_true (by first | (with_reducible assumption) | assumption)
                  obtain ⟨ad124, e124, hx124_0, hx124_1, hx124_2⟩ := at_T48 HR0_3.out x18_1 p124 q124
                  cases e124
                  replace hx124_0 := (HB.out.cell (World.block_lt_of_cell? w _ hx124_0)).trans hx124_0
                  replace hx124_1 := (HB.out.cell (World.block_lt_of_cell? w _ hx124_1)).trans hx124_1
                  replace hx124_2 := (HB.out.cell (World.block_lt_of_cell? w _ hx124_2)).trans hx124_2
                  replace p124 := eq_true p124
                  replace q124 := eq_true q124
                  go_wp2_with (first | ((with_reducible refine gate_dst (N := 5) rfl ?_); refine box_event ?hg (N := 5) ?hd (cs := #[.bool false, .int .i64 0, .int .i64 0]) (t := 48) ?hr ?_; (case hd => rfl); (case hg => rfl); (case hr => first | (go_simp; done) | (go_simp; rfl)); intro gb125 hg w17 hbox hb; have n0_ := Aside0.mk (blk_below (g := gb119) (o := .cells #[.int .i64 a0_0, .int .i64 a0_1, .int .i64 a0_2, .slice (some ad124) l0_3.length c0_3] 38 (0, 0)) (by (with_reducible repeat (first | refine blk_drewN ?_ _ | refine blk_drew ?_ | refine blk_alloc ?_ _)); exact BK119.out) hb); have n1_ := Aside0.mk (below_step (by repeat (first | (with_reducible first | exact HB.out | apply below_alloc | apply pw_below_drewN | apply below_drew1 | refine below_set ?_ GE119.out) | exact HB.out)) hb); have n2_ := Aside0.mk (hbox); have n3_ := Aside0.mk ((by rw [hg]; exact (below_size (by repeat (first | (with_reducible first | exact HB.out | apply below_alloc | apply pw_below_drewN | apply below_drew1 | refine below_set ?_ GE119.out) | exact HB.out))) : w.heap.size ≤ gb125)); have n4_ := Aside0.mk ((by rw [hg]; exact (below_size (by repeat (first | (with_reducible first | exact HB.out | apply below_alloc | apply pw_below_drewN | apply below_drew1 | refine below_set ?_ GE119.out) | exact HB.out))) : w.heap.size ≤ gb125)); have n5_ := Aside0.mk ((by rw [hg]; exact Nat.ne_of_lt (blk_lt (g := gb119) (o := .cells #[.int .i64 a0_0, .int .i64 a0_1, .int .i64 a0_2, .slice (some ad124) l0_3.length c0_3] 38 (0, 0)) (by (with_reducible repeat (first | refine blk_drewN ?_ _ | refine blk_drew ?_ | refine blk_alloc ?_ _)); exact BK119.out)) : gb119 ≠ gb125)); have n6_ := Aside0.mk ((by rw [hg]; exact Nat.ne_of_gt (blk_lt (g := gb119) (o := .cells #[.int .i64 a0_0, .int .i64 a0_1, .int .i64 a0_2, .slice (some ad124) l0_3.length c0_3] 38 (0, 0)) (by (with_reducible repeat (first | refine blk_drewN ?_ _ | refine blk_drew ?_ | refine blk_alloc ?_ _)); exact BK119.out)) : gb125 ≠ gb119)); clear BK119; clear HB; have BK119 := n0_; have HB := n1_; have BK125 := n2_; have GW125 := n3_; have GE125 := n4_; have NB119_125 := n5_; have NB125_119 := n6_; clear n0_ n1_ n2_ n3_ n4_ n5_ n6_; clear hb hbox hg; have hnb18 := NB125_119.out; have hnc18 := NB119_125.out; have hcz19_0 : w17.cell? ⟨gb125, 0, none⟩ = some (.bool false) := (blk_cell BK125.out 0).trans rfl; have hcz19_1 : w17.cell? ⟨gb125, 1, none⟩ = some (.int .i64 0) := (blk_cell BK125.out 1).trans rfl; have hcz19_2 : w17.cell? ⟨gb125, 2, none⟩ = some (.int .i64 0) := (blk_cell BK125.out 2).trans rfl; have hfz19_0 := blk_frozen BK125.out 0; have hfz19_1 := blk_frozen BK125.out 1; have hfz19_2 := blk_frozen BK125.out 2) | ((with_reducible refine gate_callee (f := 38) rfl ?_); refine goesL_ (some 24) rfl rfl Tryd.func38 (by kernel_rfl) rfl #[.agg #[.bool ((rd_T48 l0_3 x18_1).f0), .int .i64 ((rd_T48 l0_3 x18_1).f1), .int .i64 ((rd_T48 l0_3 x18_1).f2)]] rfl (by (try simp only [List.map_toArray, List.map_cons, List.map_nil]); first | done | rfl | (simp only [List.length_drop, List.length_take]; rfl)) ?_; (with_reducible refine (op_Text.calls ((rd_T48 l0_3 x18_1).f0) ((rd_T48 l0_3 x18_1).f1) ((rd_T48 l0_3 x18_1).f2) t126 _ A14.out (Laid.below HY (by repeat (first | (with_reducible first | exact HB.out | apply below_alloc | apply pw_below_drewN | apply below_drew1 | refine below_set ?_ GE119.out | refine below_set ?_ GE125.out) | exact HB.out)))).mono ?_); rintro e w20 ⟨rfl, hb⟩; refine ⟨_, rfl, ?_⟩; have n0_ := Aside0.mk (blk_below (g := gb119) (o := .cells #[.int .i64 a0_0, .int .i64 a0_1, .int .i64 a0_2, .slice (some ad124) l0_3.length c0_3] 38 (0, 0)) (by (with_reducible repeat (first | refine blk_drewN ?_ _ | refine blk_drew ?_ | refine blk_alloc ?_ _)); refine blk_far ?_ NB119_125.out _; (with_reducible repeat (first | refine blk_drewN ?_ _ | refine blk_drew ?_ | refine blk_alloc ?_ _)); refine blk_far ?_ NB119_125.out _; (with_reducible repeat (first | refine blk_drewN ?_ _ | refine blk_drew ?_ | refine blk_alloc ?_ _)); refine blk_far ?_ NB119_125.out _; (with_reducible repeat (first | refine blk_drewN ?_ _ | refine blk_drew ?_ | refine blk_alloc ?_ _)); exact BK119.out) hb); have n1_ := Aside0.mk (blk_below (g := gb125) (o := .cells #[.bool ((rd_T48 l0_3 x18_1).f0), .int .i64 ((rd_T48 l0_3 x18_1).f1), .int .i64 ((rd_T48 l0_3 x18_1).f2)] 48 (0, 0)) (by (with_reducible repeat (first | refine blk_drewN ?_ _ | refine blk_drew ?_ | refine blk_alloc ?_ _)); refine blk_put (cs := #[.bool ((rd_T48 l0_3 x18_1).f0), .int .i64 ((rd_T48 l0_3 x18_1).f1), .int .i64 0]) ?_ 2 _ rfl; (with_reducible repeat (first | refine blk_drewN ?_ _ | refine blk_drew ?_ | refine blk_alloc ?_ _)); refine blk_put (cs := #[.bool ((rd_T48 l0_3 x18_1).f0), .int .i64 0, .int .i64 0]) ?_ 1 _ rfl; (with_reducible repeat (first | refine blk_drewN ?_ _ | refine blk_drew ?_ | refine blk_alloc ?_ _)); refine blk_put (cs := #[.bool false, .int .i64 0, .int .i64 0]) ?_ 0 _ rfl; (with_reducible repeat (first | refine blk_drewN ?_ _ | refine blk_drew ?_ | refine blk_alloc ?_ _)); exact BK125.out) hb); have n2_ := Aside0.mk (below_step (by repeat (first | (with_reducible first | exact HB.out | apply below_alloc | apply pw_below_drewN | apply below_drew1 | refine below_set ?_ GE119.out | refine below_set ?_ GE125.out) | exact HB.out)) hb); clear BK119; clear BK125; clear HB; have BK119 := n0_; have BK125 := n1_; have HB := n2_; clear n0_ n1_ n2_; (try clear hb); (try clear hb2); (try clear hk); (try clear hi)))
                  go_roundg k1
                  case measure => have := HK1.out; omega
                  case rel => exact ⟨(x3_1 ++ (t126 ++ (⟨#[10]⟩ : ByteArray))), (wrap64 (x18_1 + 1)), (by first | rfl | (simp; done) | (simp [*]; done)), (by first | rfl | (simp; done) | (simp [*]; done)), H', ⟨by have := HK1.out; omega⟩, ⟨by (with_reducible repeat (first | refine blk_drewN ?_ _ | refine blk_drew ?_ | refine blk_alloc ?_ _)); exact BK119.out⟩, ⟨by repeat (first | (with_reducible first | exact HB.out | apply below_alloc | apply pw_below_drewN | apply below_drew1 | refine below_set ?_ GE119.out | refine below_set ?_ GE125.out) | exact HB.out)⟩⟩
                · rw [if_neg c16] at H
                  exact absurd H (by simp)
              · rw [if_neg c15] at H
                exact absurd H (by simp)
            · rw [if_neg c13] at H
              exact absurd H (by simp)
          · rw [if_neg c12] at H
            exact absurd H (by simp)
        · rw [if_neg c11] at H
          have c11b0 : decide (x18_1 < (l0_3.length : Int)) = false := decide_eq_false c11
          clear c11
          obtain rfl := Option.some.inj H
          go_wp2
          go_ret
          exact ⟨by first | rfl | (simp [errW_none, errW_some] <;> rfl) | (simp [*, errW_none, errW_some] <;> rfl), by repeat (first | (with_reducible first | exact HB.out | apply below_alloc | apply pw_below_drewN | apply below_drew1 | refine below_set ?_ GE119.out) | exact HB.out)⟩
  · rw [if_neg c3] at H
    exact absurd H (by simp)
def script_Print.l0 : Nat → ByteArray → List (S38) → Int → Int → Option (ByteArray)
  | 0, _, _, _, _ => none
  | k + 1, x3, x6, x7, x8 => if x8 < x7 then (if 0 ≤ x8 then (if x8 < (x6.length : Int) then ((txn_Text.f k ((rd_T38 x6 x8).f0) ((rd_T38 x6 x8).f1) ((rd_T38 x6 x8).f2) ((rd_T38 x6 x8).f3)).bind fun t129 => (if x3.size + t129.size ≤ 9223372036854775807 then (script_Print.l0 k (x3 ++ t129) x6 x7 (wrap64 (x8 + 1))) else (none))) else (none)) else (none)) else (some x3)
def script_Print.f (k : Nat) (l0 : List (S38)) : Option (ByteArray) := script_Print.l0 k (⟨#[]⟩ : ByteArray) l0 (l0.length : Int) 0
theorem script_Print.mono_l : ∀ k, (∀ y0 y1 y2 y3, LeO (script_Print.l0 k y0 y1 y2 y3) (script_Print.l0 (k + 1) y0 y1 y2 y3))
  | 0 => fun _ _ _ _ r h => by simp [script_Print.l0] at h
  | k + 1 => by
    have ih0 := script_Print.mono_l k
    · intro y0 y1 y2 y3
      unfold script_Print.l0
      repeat' first
      | (with_reducible exact ih0 _ _ _ _)
      | (with_reducible exact txn_Text.mono _ _ _ _ _)
      | (with_reducible exact LeO.refl _)
      | (with_reducible exact LeO.none _)
      | (with_reducible refine LeO.ite ?_ ?_)
      | (with_reducible refine LeO.bind ?_ (fun _ => ?_))
      | exact ih0 _ _ _ _
      | exact txn_Text.mono _ _ _ _ _
      | exact LeO.none _
      | refine LeO.ite ?_ ?_
      | refine LeO.bind ?_ (fun _ => ?_)
theorem script_Print.mono : ∀ a0 k, LeO (script_Print.f k a0) (script_Print.f (k + 1) a0) := by
  intro a0 k
  have ih0 := script_Print.mono_l k
  unfold script_Print.f
  repeat' first
      | (with_reducible exact ih0 _ _ _ _)
      | (with_reducible exact txn_Text.mono _ _ _ _ _)
      | (with_reducible exact LeO.refl _)
      | (with_reducible exact LeO.none _)
      | (with_reducible refine LeO.ite ?_ ?_)
      | (with_reducible refine LeO.bind ?_ (fun _ => ?_))
      | exact ih0 _ _ _ _
      | exact txn_Text.mono _ _ _ _ _
      | exact LeO.none _
      | refine LeO.ite ?_ ?_
      | refine LeO.bind ?_ (fun _ => ?_)
set_option maxHeartbeats 8000000 in
set_option maxRecDepth 100000 in
theorem script_Print.calls (k : Nat) (A0 : Option Addr) (c0 : Nat) (l0 : List (S38)) (r : ByteArray) (w : World) (hr0 : Kd.C k38 w A0 l0.length l0) (hc0 : l0.length ≤ c0) (h : script_Print.f k l0 = some r) (HY : Laid w) :
    Calls Tryd.prog 10 #[.slice A0 l0.length c0] w fun e w' => e = .returned (.string r) ∧ Below w.heap.size w w' := by
  have hu38 := Tryd.underlying38
  have HR0 := Aside0.mk hr0
  have HC0 := Aside0.mk hc0
  clear hr0 hc0
  have HB := Aside0.mk (Below.refl w.heap.size w)
  have H : (script_Print.l0 k (⟨#[]⟩ : ByteArray) l0 (l0.length : Int) 0) = some r := h
  clear h
  have H' := Aside0.mk H
  clear H
  go_enter Tryd.func10, Tryd.ntmps10
  go_wp2
  go_loopg [3, 8] k (fun kq v3 v8 w' => ∃ (x3_1 : ByteArray) (x8_1 : Int), v3 = .string x3_1 ∧ v8 = .int .i64 x8_1 ∧ Aside0 (script_Print.l0 kq x3_1 l0 (l0.length : Int) x8_1 = some r) ∧ Aside0 (kq ≤ k) ∧ Aside0 (Below w.heap.size w w'))
  case atStart => exact ⟨((⟨#[]⟩ : ByteArray)), (0), (by first | rfl | (simp; done) | (simp [*]; done)), (by first | rfl | (simp; done) | (simp [*]; done)), H', ⟨Nat.le_refl _⟩, ⟨by repeat (first | (with_reducible first | exact HB.out | apply below_alloc | apply pw_below_drewN | apply below_drew1) | exact HB.out)⟩⟩
  case round =>
    clear H'
    try clear c1
    obtain ⟨x3_1, x8_1, rfl, rfl, HA, HK1, HB⟩ := hrel
    cases gk with
    | zero => exact absurd HA.out (by simp [script_Print.l0])
    | succ k1 =>
      have H := HA.out
      clear HA
      simp only [script_Print.l0] at H
      by_cases c2 : x8_1 < (l0.length : Int)
      · rw [if_pos c2] at H
        have c2b0 : decide (x8_1 < (l0.length : Int)) = true := decide_eq_true c2
        clear c2
        by_cases c3 : 0 ≤ x8_1
        · rw [if_pos c3] at H
          have c3b0 : decide (0 ≤ x8_1) = true := decide_eq_true c3
          clear c3
          by_cases c4 : x8_1 < (l0.length : Int)
          · rw [if_pos c4] at H
            have c4b0 : decide (x8_1 < (l0.length : Int)) = true := decide_eq_true c4
            clear c4
            replace H := Option.bind_eq_some_iff.mp H
            obtain ⟨t129, A50, H⟩ := H
            replace H : (if x3_1.size + t129.size ≤ 9223372036854775807 then (script_Print.l0 k1 (x3_1 ++ t129) l0 (l0.length : Int) (wrap64 (x8_1 + 1))) else (none)) = some r := H
            have A5 := Aside0.mk A50
            clear A50
            by_cases c6 : x3_1.size + t129.size ≤ 9223372036854775807
            · rw [if_pos c6] at H
              have c6b0 := eq_true c6
              have c6b1 : decide (x3_1.size + t129.size ≤ 9223372036854775807) = true := decide_eq_true c6
              try have c6b2 : (9223372036854775807 < x3_1.size + t129.size) = False := eq_false (Nat.not_lt.2 c6)
              have H' := Aside0.mk H
              clear H
              have p127 : 0 ≤ (x8_1 : Int) := of_decide_eq_true (by first | (with_reducible assumption) | assumption)
              have q127 : x8_1 < (l0.length : Int) := of_decide_eq_true (by first | (with_reducible assumption) | assumption)
              obtain ⟨ad127, A127_3, c127_3, e127, hx127_0, hx127_1, hx127_2, hx127_3, hl127_3, hi127_3⟩ := at_T38 HR0.out x8_1 p127 q127
              cases e127
              replace hx127_0 := (HB.out.cell (World.block_lt_of_cell? w _ hx127_0)).trans hx127_0
              replace hx127_1 := (HB.out.cell (World.block_lt_of_cell? w _ hx127_1)).trans hx127_1
              replace hx127_2 := (HB.out.cell (World.block_lt_of_cell? w _ hx127_2)).trans hx127_2
              replace hx127_3 := (HB.out.cell (World.block_lt_of_cell? w _ hx127_3)).trans hx127_3
              have HR127_3 := Aside0.mk hi127_3
              have HC127_3 := Aside0.mk hl127_3
              clear hi127_3 hl127_3
              replace p127 := eq_true p127
              replace q127 := eq_true q127
              go_wp2_with (first | ((with_reducible refine gate_dst (N := 5) rfl ?_); refine box_event ?hg (N := 5) ?hd (cs := #[.int .i64 0, .int .i64 0, .int .i64 0, .slice none 0 0]) (t := 38) ?hr ?_; (case hd => rfl); (case hg => rfl); (case hr => first | (go_simp; done) | (go_simp; rfl)); intro gb128 hg w7 hbox hb; have n0_ := Aside0.mk (below_step (by repeat (first | (with_reducible first | exact HB.out | apply below_alloc | apply pw_below_drewN | apply below_drew1) | exact HB.out)) hb); have n1_ := Aside0.mk (hbox); have n2_ := Aside0.mk ((by rw [hg]; exact (below_size (by repeat (first | (with_reducible first | exact HB.out | apply below_alloc | apply pw_below_drewN | apply below_drew1) | exact HB.out))) : w.heap.size ≤ gb128)); have n3_ := Aside0.mk ((by rw [hg]; exact (below_size (by repeat (first | (with_reducible first | exact HB.out | apply below_alloc | apply pw_below_drewN | apply below_drew1) | exact HB.out))) : w.heap.size ≤ gb128)); clear HB; have HB := n0_; have BK128 := n1_; have GW128 := n2_; have GE128 := n3_; clear n0_ n1_ n2_ n3_; clear hb hbox hg; have hcz8_0 : w7.cell? ⟨gb128, 0, none⟩ = some (.int .i64 0) := (blk_cell BK128.out 0).trans rfl; have hcz8_1 : w7.cell? ⟨gb128, 1, none⟩ = some (.int .i64 0) := (blk_cell BK128.out 1).trans rfl; have hcz8_2 : w7.cell? ⟨gb128, 2, none⟩ = some (.int .i64 0) := (blk_cell BK128.out 2).trans rfl; have hcz8_3 : w7.cell? ⟨gb128, 3, none⟩ = some (.slice none 0 0) := (blk_cell BK128.out 3).trans rfl; have hfz8_0 := blk_frozen BK128.out 0; have hfz8_1 := blk_frozen BK128.out 1; have hfz8_2 := blk_frozen BK128.out 2; have hfz8_3 := blk_frozen BK128.out 3) | ((with_reducible refine gate_callee (f := 19) rfl ?_); refine goesL_ (some 14) rfl rfl Tryd.func19 (by kernel_rfl) rfl #[.agg #[.int .i64 ((rd_T38 l0 x8_1).f0), .int .i64 ((rd_T38 l0 x8_1).f1), .int .i64 ((rd_T38 l0 x8_1).f2), .slice A127_3 ((rd_T38 l0 x8_1).f3).length c127_3]] rfl (by (try simp only [List.map_toArray, List.map_cons, List.map_nil]); first | done | rfl | (simp only [List.length_drop, List.length_take]; rfl)) ?_; (with_reducible refine (txn_Text.calls k1 ((rd_T38 l0 x8_1).f0) ((rd_T38 l0 x8_1).f1) ((rd_T38 l0 x8_1).f2) _ _ ((rd_T38 l0 x8_1).f3) t129 _ ?side1 ?side2 A5.out (Laid.below HY (by repeat (first | (with_reducible first | exact HB.out | apply below_alloc | apply pw_below_drewN | apply below_drew1 | refine below_set ?_ GE128.out) | exact HB.out)))).mono ?_); (case side1 => exact Kd.C_below HR127_3.out (by repeat (first | (with_reducible first | exact HB.out | apply below_alloc | apply pw_below_drewN | apply below_drew1 | refine below_set ?_ GE128.out) | exact HB.out))); (case side2 => exact HC127_3.out); rintro e w9 ⟨rfl, hb⟩; refine ⟨_, rfl, ?_⟩; have n0_ := Aside0.mk (blk_below (g := gb128) (o := .cells #[.int .i64 ((rd_T38 l0 x8_1).f0), .int .i64 ((rd_T38 l0 x8_1).f1), .int .i64 ((rd_T38 l0 x8_1).f2), .slice A127_3 ((rd_T38 l0 x8_1).f3).length c127_3] 38 (0, 0)) (by (with_reducible repeat (first | refine blk_drewN ?_ _ | refine blk_drew ?_ | refine blk_alloc ?_ _)); refine blk_put (cs := #[.int .i64 ((rd_T38 l0 x8_1).f0), .int .i64 ((rd_T38 l0 x8_1).f1), .int .i64 ((rd_T38 l0 x8_1).f2), .slice none 0 0]) ?_ 3 _ rfl; (with_reducible repeat (first | refine blk_drewN ?_ _ | refine blk_drew ?_ | refine blk_alloc ?_ _)); refine blk_put (cs := #[.int .i64 ((rd_T38 l0 x8_1).f0), .int .i64 ((rd_T38 l0 x8_1).f1), .int .i64 0, .slice none 0 0]) ?_ 2 _ rfl; (with_reducible repeat (first | refine blk_drewN ?_ _ | refine blk_drew ?_ | refine blk_alloc ?_ _)); refine blk_put (cs := #[.int .i64 ((rd_T38 l0 x8_1).f0), .int .i64 0, .int .i64 0, .slice none 0 0]) ?_ 1 _ rfl; (with_reducible repeat (first | refine blk_drewN ?_ _ | refine blk_drew ?_ | refine blk_alloc ?_ _)); refine blk_put (cs := #[.int .i64 0, .int .i64 0, .int .i64 0, .slice none 0 0]) ?_ 0 _ rfl; (with_reducible repeat (first | refine blk_drewN ?_ _ | refine blk_drew ?_ | refine blk_alloc ?_ _)); exact BK128.out) hb); have n1_ := Aside0.mk (below_step (by repeat (first | (with_reducible first | exact HB.out | apply below_alloc | apply pw_below_drewN | apply below_drew1 | refine below_set ?_ GE128.out) | exact HB.out)) hb); clear BK128; clear HB; have BK128 := n0_; have HB := n1_; clear n0_ n1_; (try clear hb); (try clear hb2); (try clear hk); (try clear hi)))
              go_roundg k1
              case measure => have := HK1.out; omega
              case rel => exact ⟨(x3_1 ++ t129), (wrap64 (x8_1 + 1)), (by first | rfl | (simp; done) | (simp [*]; done)), (by first | rfl | (simp; done) | (simp [*]; done)), H', ⟨by have := HK1.out; omega⟩, ⟨by repeat (first | (with_reducible first | exact HB.out | apply below_alloc | apply pw_below_drewN | apply below_drew1 | refine below_set ?_ GE128.out) | exact HB.out)⟩⟩
            · rw [if_neg c6] at H
              exact absurd H (by simp)
          · rw [if_neg c4] at H
            exact absurd H (by simp)
        · rw [if_neg c3] at H
          exact absurd H (by simp)
      · rw [if_neg c2] at H
        have c2b0 : decide (x8_1 < (l0.length : Int)) = false := decide_eq_false c2
        clear c2
        obtain rfl := Option.some.inj H
        go_wp2
        go_ret
        exact ⟨by first | rfl | (simp [errW_none, errW_some] <;> rfl) | (simp [*, errW_none, errW_some] <;> rfl), by repeat (first | (with_reducible first | exact HB.out | apply below_alloc | apply pw_below_drewN | apply below_drew1) | exact HB.out)⟩
def burgagelaw07_speaks.f (k : Nat)  : Option (Bool) := (script_Parse.f k (⟨#[116, 120, 110, 32, 48, 32, 49, 32, 50, 10, 119, 32, 51, 32, 53, 10]⟩ : ByteArray)).bind fun bt130 => ((script_Parse.f k (⟨#[116, 120, 110, 32, 48, 32, 49, 32, 50, 10, 119, 32, 51, 10]⟩ : ByteArray)).bind fun bt135 => (if bt130.2.2 = 0 then (if bt130.2.1 = 0 then (if (bt130.1.length : Int) = 1 then (if 0 < (bt130.1.length : Int) then (if (((rd_T38 bt130.1 0).f3).length : Int) = 1 then ((script_Print.f k bt130.1).bind fun t141 => (if t141.toList = ([116, 120, 110, 32, 48, 32, 49, 32, 50, 10, 119, 32, 51, 32, 53, 10] : List UInt8) then (if bt135.2.1 = 2 then (some (bt135.2.2 == 1)) else (some false)) else (some false))) else (some false)) else (none)) else (some false)) else (some false)) else (some false)))
theorem burgagelaw07_speaks.mono : ∀ k, LeO (burgagelaw07_speaks.f k ) (burgagelaw07_speaks.f (k + 1) ) := by
  intro  k
  unfold burgagelaw07_speaks.f
  repeat' first
      | (with_reducible exact script_Parse.mono _ _)
      | (with_reducible exact script_Print.mono _ _)
      | (with_reducible exact LeO.refl _)
      | (with_reducible exact LeO.none _)
      | (with_reducible refine LeO.ite ?_ ?_)
      | (with_reducible refine LeO.bind ?_ (fun _ => ?_))
      | exact script_Parse.mono _ _
      | exact script_Print.mono _ _
      | exact LeO.none _
      | refine LeO.ite ?_ ?_
      | refine LeO.bind ?_ (fun _ => ?_)
set_option maxHeartbeats 8000000 in
set_option maxRecDepth 100000 in
theorem burgagelaw07_speaks.calls (k : Nat)  (r : Bool) (w : World) (h : burgagelaw07_speaks.f k  = some r) (HY : Laid w) :
    Calls Tryd.prog 6 #[] w fun e w' => e = .returned (.bool r) ∧ Below w.heap.size w w' := by
  have HB := Aside0.mk (Below.refl w.heap.size w)
  have H : ((script_Parse.f k (⟨#[116, 120, 110, 32, 48, 32, 49, 32, 50, 10, 119, 32, 51, 32, 53, 10]⟩ : ByteArray)).bind fun bt130 => ((script_Parse.f k (⟨#[116, 120, 110, 32, 48, 32, 49, 32, 50, 10, 119, 32, 51, 10]⟩ : ByteArray)).bind fun bt135 => (if bt130.2.2 = 0 then (if bt130.2.1 = 0 then (if (bt130.1.length : Int) = 1 then (if 0 < (bt130.1.length : Int) then (if (((rd_T38 bt130.1 0).f3).length : Int) = 1 then ((script_Print.f k bt130.1).bind fun t141 => (if t141.toList = ([116, 120, 110, 32, 48, 32, 49, 32, 50, 10, 119, 32, 51, 32, 53, 10] : List UInt8) then (if bt135.2.1 = 2 then (some (bt135.2.2 == 1)) else (some false)) else (some false))) else (some false)) else (none)) else (some false)) else (some false)) else (some false)))) = some r := h
  clear h
  replace H := Option.bind_eq_some_iff.mp H
  obtain ⟨⟨t130, t131, t132⟩, A10, H⟩ := H
  replace H : ((script_Parse.f k (⟨#[116, 120, 110, 32, 48, 32, 49, 32, 50, 10, 119, 32, 51, 10]⟩ : ByteArray)).bind fun bt135 => (if t132 = 0 then (if t131 = 0 then (if (t130.length : Int) = 1 then (if 0 < (t130.length : Int) then (if (((rd_T38 t130 0).f3).length : Int) = 1 then ((script_Print.f k t130).bind fun t141 => (if t141.toList = ([116, 120, 110, 32, 48, 32, 49, 32, 50, 10, 119, 32, 51, 32, 53, 10] : List UInt8) then (if bt135.2.1 = 2 then (some (bt135.2.2 == 1)) else (some false)) else (some false))) else (some false)) else (none)) else (some false)) else (some false)) else (some false))) = some r := H
  have A1 := Aside0.mk A10
  clear A10
  replace H := Option.bind_eq_some_iff.mp H
  obtain ⟨⟨t135, t136, t137⟩, A20, H⟩ := H
  replace H : (if t132 = 0 then (if t131 = 0 then (if (t130.length : Int) = 1 then (if 0 < (t130.length : Int) then (if (((rd_T38 t130 0).f3).length : Int) = 1 then ((script_Print.f k t130).bind fun t141 => (if t141.toList = ([116, 120, 110, 32, 48, 32, 49, 32, 50, 10, 119, 32, 51, 32, 53, 10] : List UInt8) then (if t136 = 2 then (some (t137 == 1)) else (some false)) else (some false))) else (some false)) else (none)) else (some false)) else (some false)) else (some false)) = some r := H
  have A2 := Aside0.mk A20
  clear A20
  by_cases c3 : t132 = 0
  · rw [if_pos c3] at H
    have c3b0 : (t132 == 0) = true := beq_iff_eq.mpr c3
    have c3b1 : (t132 != 0) = false := bne_eq_false_iff_eq.mpr c3
    clear c3
    by_cases c4 : t131 = 0
    · rw [if_pos c4] at H
      have c4b0 : (t131 == 0) = true := beq_iff_eq.mpr c4
      have c4b1 : (t131 != 0) = false := bne_eq_false_iff_eq.mpr c4
      clear c4
      by_cases c5 : (t130.length : Int) = 1
      · rw [if_pos c5] at H
        have c5b0 : ((t130.length : Int) == 1) = true := beq_iff_eq.mpr c5
        have c5b1 : ((t130.length : Int) != 1) = false := bne_eq_false_iff_eq.mpr c5
        clear c5
        by_cases c6 : 0 < (t130.length : Int)
        · rw [if_pos c6] at H
          have c6b0 : decide (0 < (t130.length : Int)) = true := decide_eq_true c6
          have c6b1 : decide (0 < t130.length) = true := decide_eq_true (by omega)
          clear c6
          by_cases c7 : (((rd_T38 t130 0).f3).length : Int) = 1
          · rw [if_pos c7] at H
            have c7b0 : ((((rd_T38 t130 0).f3).length : Int) == 1) = true := beq_iff_eq.mpr c7
            have c7b1 : ((((rd_T38 t130 0).f3).length : Int) != 1) = false := bne_eq_false_iff_eq.mpr c7
            clear c7
            replace H := Option.bind_eq_some_iff.mp H
            obtain ⟨t141, A80, H⟩ := H
            replace H : (if t141.toList = ([116, 120, 110, 32, 48, 32, 49, 32, 50, 10, 119, 32, 51, 32, 53, 10] : List UInt8) then (if t136 = 2 then (some (t137 == 1)) else (some false)) else (some false)) = some r := H
            have A8 := Aside0.mk A80
            clear A80
            by_cases c9 : t141.toList = ([116, 120, 110, 32, 48, 32, 49, 32, 50, 10, 119, 32, 51, 32, 53, 10] : List UInt8)
            · rw [if_pos c9] at H
              have c9b0 : (t141.toList == ([116, 120, 110, 32, 48, 32, 49, 32, 50, 10, 119, 32, 51, 32, 53, 10] : List UInt8)) = true := beq_iff_eq.mpr c9
              have c9b1 : (t141.toList != ([116, 120, 110, 32, 48, 32, 49, 32, 50, 10, 119, 32, 51, 32, 53, 10] : List UInt8)) = false := bne_eq_false_iff_eq.mpr c9
              clear c9
              by_cases c10 : t136 = 2
              · rw [if_pos c10] at H
                have c10b0 : (t136 == 2) = true := beq_iff_eq.mpr c10
                have c10b1 : (t136 != 2) = false := bne_eq_false_iff_eq.mpr c10
                clear c10
                obtain rfl := Option.some.inj H
                go_enter Tryd.func6, Tryd.ntmps6
                go_wp2_with (first | ((with_reducible refine gate_callee (f := 7) rfl ?_); refine goesL_ (some 8) rfl rfl Tryd.func7 (by kernel_rfl) rfl #[.string (⟨#[116, 120, 110, 32, 48, 32, 49, 32, 50, 10, 119, 32, 51, 32, 53, 10]⟩ : ByteArray)] rfl (by (try simp only [List.map_toArray, List.map_cons, List.map_nil]); first | done | rfl | (simp only [List.length_drop, List.length_take]; rfl)) ?_; (with_reducible refine (script_Parse.calls k (⟨#[116, 120, 110, 32, 48, 32, 49, 32, 50, 10, 119, 32, 51, 32, 53, 10]⟩ : ByteArray) t130 t131 t132 _ A1.out (Laid.below HY (by repeat (first | (with_reducible first | exact HB.out | apply below_alloc | apply pw_below_drewN | apply below_drew1) | exact HB.out)))).mono ?_); rintro e w11 ⟨v133, rfl, ho0, hb⟩; refine ⟨_, rfl, ?_⟩; have n0_ := Aside0.mk (Kd.S_lower ho0 (below_size (by repeat (first | (with_reducible first | exact HB.out | apply below_alloc | apply pw_below_drewN | apply below_drew1) | exact HB.out)))); have n1_ := Aside0.mk (below_step (by repeat (first | (with_reducible first | exact HB.out | apply below_alloc | apply pw_below_drewN | apply below_drew1) | exact HB.out)) hb); clear HB; have HO134 := n0_; have HB := n1_; clear n0_ n1_; (try clear hb); (try clear hb2); (try clear hk); (try clear hi); (try clear ho0)) | ((with_reducible refine gate_callee (f := 7) rfl ?_); refine goesL_ (some 13) rfl rfl Tryd.func7 (by kernel_rfl) rfl #[.string (⟨#[116, 120, 110, 32, 48, 32, 49, 32, 50, 10, 119, 32, 51, 10]⟩ : ByteArray)] rfl (by (try simp only [List.map_toArray, List.map_cons, List.map_nil]); first | done | rfl | (simp only [List.length_drop, List.length_take]; rfl)) ?_; (with_reducible refine (script_Parse.calls k (⟨#[116, 120, 110, 32, 48, 32, 49, 32, 50, 10, 119, 32, 51, 10]⟩ : ByteArray) t135 t136 t137 _ A2.out (Laid.below HY (by repeat (first | (with_reducible first | exact HB.out | apply below_alloc | apply pw_below_drewN | apply below_drew1) | exact HB.out)))).mono ?_); rintro e w12 ⟨v138, rfl, ho0, hb⟩; refine ⟨_, rfl, ?_⟩; have n0_ := Aside0.mk (Kd.S_elder' (by (with_reducible repeat (first | apply Kd.S_alloc | apply Kd.S_drewN | apply Kd.S_drew)); exact HO134.out) (Kd.S_base ho0) hb); have n1_ := Aside0.mk (Kd.S_lower (Kd.S_new' ho0 (Kd.S_lt (by (with_reducible repeat (first | apply Kd.S_alloc | apply Kd.S_drewN | apply Kd.S_drew)); exact HO134.out))) (below_size (by repeat (first | (with_reducible first | exact HB.out | apply below_alloc | apply pw_below_drewN | apply below_drew1) | exact HB.out)))); have n2_ := Aside0.mk (below_step (by repeat (first | (with_reducible first | exact HB.out | apply below_alloc | apply pw_below_drewN | apply below_drew1) | exact HB.out)) hb); clear HO134; clear HB; have HO134 := n0_; have HO139 := n1_; have HB := n2_; clear n0_ n1_ n2_; (try clear hb); (try clear hb2); (try clear hk); (try clear hi); (try clear ho0); obtain ⟨Ao13, co13, eo13⟩ := Kd.S_slice HO134.out; subst eo13; have p140 : 0 ≤ (0 : Int) := (by omega); have q140 : 0 < (t130.length : Int) := of_decide_eq_true (by first | (with_reducible assumption) | assumption); obtain ⟨ad140, A140_3, c140_3, e140, hx140_0, hx140_1, hx140_2, hx140_3, hl140_3, hi140_3⟩ := at_T38 (Kd.S_reads' HO134.out).2.2 0 p140 q140; cases e140; obtain ⟨ce140, hce140, hMe140, hcc140⟩ := Kd.S_get HO134.out z38 0 p140 (by first | exact q140 | exact of_decide_eq_true (by first | (with_reducible assumption) | assumption) | (have e_ := (Kd.S_reads' HO134.out).1; omega)); obtain ⟨ve140_3, rfl, ge140_3⟩ := k38_openM hMe140; have hv140_3 := hcc140 3 _ rfl; rw [add_field _ _ 3 (by omega)] at hv140_3; replace hv140_3 := Option.some.inj (hv140_3.symm.trans hx140_3); rw [hv140_3] at ge140_3; have HL140_3 := Aside0.mk (show Kd.R k48 48 _ _ _ _ ((rd_T38 t130 0).f3) from ge140_3); clear hv140_3 ge140_3; clear hcc140 hce140; have qi140 : (0 < t130.length) = True := eq_true (by omega); (try rw [show ((0 : Int)).toNat = 0 from rfl] at hx140_0); (try rw [show 0 * 4 = 0 from rfl] at hx140_0); (try rw [Addr.add_zero'] at hx140_0); (try rw [show ((0 : Int)).toNat = 0 from rfl] at hx140_1); (try rw [show 0 * 4 = 0 from rfl] at hx140_1); (try rw [Addr.add_zero'] at hx140_1); (try rw [show ((0 : Int)).toNat = 0 from rfl] at hx140_2); (try rw [show 0 * 4 = 0 from rfl] at hx140_2); (try rw [Addr.add_zero'] at hx140_2); (try rw [show ((0 : Int)).toNat = 0 from rfl] at hx140_3); (try rw [show 0 * 4 = 0 from rfl] at hx140_3); (try rw [Addr.add_zero'] at hx140_3); have HR140_3 := Aside0.mk hi140_3; have HC140_3 := Aside0.mk hl140_3; clear hi140_3 hl140_3; replace p140 := eq_true p140; replace q140 := eq_true q140) | (go_at_call 10; (with_reducible refine (script_Print.calls k _ _ t130 t141 _ ?side1 ?side2 A8.out (Laid.below HY (by repeat (first | (with_reducible first | exact HB.out | apply below_alloc | apply pw_below_drewN | apply below_drew1) | exact HB.out)))).mono ?_); (case side1 => repeat (first | exact (Kd.S_reads' HO134.out).2.2 | (with_reducible refine Kd.C_alloc ?_ _) | (with_reducible refine Kd.C_drewN ?_ _) | (with_reducible refine Kd.C_drew ?_))); (case side2 => exact (Kd.S_reads' HO134.out).2.1); rintro e w14 ⟨rfl, hb⟩; have n0_ := Aside0.mk (Kd.S_below (by (with_reducible repeat (first | apply Kd.S_alloc | apply Kd.S_drewN | apply Kd.S_drew)); exact HO134.out) hb); have n1_ := Aside0.mk (Kd.S_below (by (with_reducible repeat (first | apply Kd.S_alloc | apply Kd.S_drewN | apply Kd.S_drew)); exact HO139.out) hb); have n2_ := Aside0.mk (Kd.R_below (by (with_reducible repeat (first | apply Kd.R_alloc | apply Kd.R_drewN | apply Kd.R_drew)); exact HL140_3.out) hb); have n3_ := Aside0.mk (Kd.C_below (by repeat (first | (with_reducible exact HR140_3.out) | (with_reducible refine Kd.C_alloc ?_ _) | (with_reducible refine Kd.C_drewN ?_ _) | (with_reducible refine Kd.C_drew ?_) | exact HR140_3.out)) hb); have n4_ := Aside0.mk (below_step (by repeat (first | (with_reducible first | exact HB.out | apply below_alloc | apply pw_below_drewN | apply below_drew1) | exact HB.out)) hb); clear HO134; clear HO139; clear HL140_3; clear HR140_3; clear HB; have HO134 := n0_; have HO139 := n1_; have HL140_3 := n2_; have HR140_3 := n3_; have HB := n4_; clear n0_ n1_ n2_ n3_ n4_; (try clear hb); (try clear hb2); (try clear hk); (try clear hi)))
                go_ret
                exact ⟨by first | rfl | (simp [errW_none, errW_some] <;> rfl) | (simp [*, errW_none, errW_some] <;> rfl), by repeat (first | (with_reducible first | exact HB.out | apply below_alloc | apply pw_below_drewN | apply below_drew1) | exact HB.out)⟩
              · rw [if_neg c10] at H
                have c10b0 : (t136 == 2) = false := beq_eq_false_iff_ne.mpr c10
                have c10b1 : (t136 != 2) = true := bne_iff_ne.mpr c10
                obtain rfl := Option.some.inj H
                go_enter Tryd.func6, Tryd.ntmps6
                go_wp2_with (first | ((with_reducible refine gate_callee (f := 7) rfl ?_); refine goesL_ (some 8) rfl rfl Tryd.func7 (by kernel_rfl) rfl #[.string (⟨#[116, 120, 110, 32, 48, 32, 49, 32, 50, 10, 119, 32, 51, 32, 53, 10]⟩ : ByteArray)] rfl (by (try simp only [List.map_toArray, List.map_cons, List.map_nil]); first | done | rfl | (simp only [List.length_drop, List.length_take]; rfl)) ?_; (with_reducible refine (script_Parse.calls k (⟨#[116, 120, 110, 32, 48, 32, 49, 32, 50, 10, 119, 32, 51, 32, 53, 10]⟩ : ByteArray) t130 t131 t132 _ A1.out (Laid.below HY (by repeat (first | (with_reducible first | exact HB.out | apply below_alloc | apply pw_below_drewN | apply below_drew1) | exact HB.out)))).mono ?_); rintro e w15 ⟨v133, rfl, ho0, hb⟩; refine ⟨_, rfl, ?_⟩; have n0_ := Aside0.mk (Kd.S_lower ho0 (below_size (by repeat (first | (with_reducible first | exact HB.out | apply below_alloc | apply pw_below_drewN | apply below_drew1) | exact HB.out)))); have n1_ := Aside0.mk (below_step (by repeat (first | (with_reducible first | exact HB.out | apply below_alloc | apply pw_below_drewN | apply below_drew1) | exact HB.out)) hb); clear HB; have HO134 := n0_; have HB := n1_; clear n0_ n1_; (try clear hb); (try clear hb2); (try clear hk); (try clear hi); (try clear ho0)) | ((with_reducible refine gate_callee (f := 7) rfl ?_); refine goesL_ (some 13) rfl rfl Tryd.func7 (by kernel_rfl) rfl #[.string (⟨#[116, 120, 110, 32, 48, 32, 49, 32, 50, 10, 119, 32, 51, 10]⟩ : ByteArray)] rfl (by (try simp only [List.map_toArray, List.map_cons, List.map_nil]); first | done | rfl | (simp only [List.length_drop, List.length_take]; rfl)) ?_; (with_reducible refine (script_Parse.calls k (⟨#[116, 120, 110, 32, 48, 32, 49, 32, 50, 10, 119, 32, 51, 10]⟩ : ByteArray) t135 t136 t137 _ A2.out (Laid.below HY (by repeat (first | (with_reducible first | exact HB.out | apply below_alloc | apply pw_below_drewN | apply below_drew1) | exact HB.out)))).mono ?_); rintro e w16 ⟨v138, rfl, ho0, hb⟩; refine ⟨_, rfl, ?_⟩; have n0_ := Aside0.mk (Kd.S_elder' (by (with_reducible repeat (first | apply Kd.S_alloc | apply Kd.S_drewN | apply Kd.S_drew)); exact HO134.out) (Kd.S_base ho0) hb); have n1_ := Aside0.mk (Kd.S_lower (Kd.S_new' ho0 (Kd.S_lt (by (with_reducible repeat (first | apply Kd.S_alloc | apply Kd.S_drewN | apply Kd.S_drew)); exact HO134.out))) (below_size (by repeat (first | (with_reducible first | exact HB.out | apply below_alloc | apply pw_below_drewN | apply below_drew1) | exact HB.out)))); have n2_ := Aside0.mk (below_step (by repeat (first | (with_reducible first | exact HB.out | apply below_alloc | apply pw_below_drewN | apply below_drew1) | exact HB.out)) hb); clear HO134; clear HB; have HO134 := n0_; have HO139 := n1_; have HB := n2_; clear n0_ n1_ n2_; (try clear hb); (try clear hb2); (try clear hk); (try clear hi); (try clear ho0); obtain ⟨Ao17, co17, eo17⟩ := Kd.S_slice HO134.out; subst eo17; have p140 : 0 ≤ (0 : Int) := (by omega); have q140 : 0 < (t130.length : Int) := of_decide_eq_true (by first | (with_reducible assumption) | assumption); obtain ⟨ad140, A140_3, c140_3, e140, hx140_0, hx140_1, hx140_2, hx140_3, hl140_3, hi140_3⟩ := at_T38 (Kd.S_reads' HO134.out).2.2 0 p140 q140; cases e140; obtain ⟨ce140, hce140, hMe140, hcc140⟩ := Kd.S_get HO134.out z38 0 p140 (by first | exact q140 | exact of_decide_eq_true (by first | (with_reducible assumption) | assumption) | (have e_ := (Kd.S_reads' HO134.out).1; omega)); obtain ⟨ve140_3, rfl, ge140_3⟩ := k38_openM hMe140; have hv140_3 := hcc140 3 _ rfl; rw [add_field _ _ 3 (by omega)] at hv140_3; replace hv140_3 := Option.some.inj (hv140_3.symm.trans hx140_3); rw [hv140_3] at ge140_3; have HL140_3 := Aside0.mk (show Kd.R k48 48 _ _ _ _ ((rd_T38 t130 0).f3) from ge140_3); clear hv140_3 ge140_3; clear hcc140 hce140; have qi140 : (0 < t130.length) = True := eq_true (by omega); (try rw [show ((0 : Int)).toNat = 0 from rfl] at hx140_0); (try rw [show 0 * 4 = 0 from rfl] at hx140_0); (try rw [Addr.add_zero'] at hx140_0); (try rw [show ((0 : Int)).toNat = 0 from rfl] at hx140_1); (try rw [show 0 * 4 = 0 from rfl] at hx140_1); (try rw [Addr.add_zero'] at hx140_1); (try rw [show ((0 : Int)).toNat = 0 from rfl] at hx140_2); (try rw [show 0 * 4 = 0 from rfl] at hx140_2); (try rw [Addr.add_zero'] at hx140_2); (try rw [show ((0 : Int)).toNat = 0 from rfl] at hx140_3); (try rw [show 0 * 4 = 0 from rfl] at hx140_3); (try rw [Addr.add_zero'] at hx140_3); have HR140_3 := Aside0.mk hi140_3; have HC140_3 := Aside0.mk hl140_3; clear hi140_3 hl140_3; replace p140 := eq_true p140; replace q140 := eq_true q140) | (go_at_call 10; (with_reducible refine (script_Print.calls k _ _ t130 t141 _ ?side1 ?side2 A8.out (Laid.below HY (by repeat (first | (with_reducible first | exact HB.out | apply below_alloc | apply pw_below_drewN | apply below_drew1) | exact HB.out)))).mono ?_); (case side1 => repeat (first | exact (Kd.S_reads' HO134.out).2.2 | (with_reducible refine Kd.C_alloc ?_ _) | (with_reducible refine Kd.C_drewN ?_ _) | (with_reducible refine Kd.C_drew ?_))); (case side2 => exact (Kd.S_reads' HO134.out).2.1); rintro e w18 ⟨rfl, hb⟩; have n0_ := Aside0.mk (Kd.S_below (by (with_reducible repeat (first | apply Kd.S_alloc | apply Kd.S_drewN | apply Kd.S_drew)); exact HO134.out) hb); have n1_ := Aside0.mk (Kd.S_below (by (with_reducible repeat (first | apply Kd.S_alloc | apply Kd.S_drewN | apply Kd.S_drew)); exact HO139.out) hb); have n2_ := Aside0.mk (Kd.R_below (by (with_reducible repeat (first | apply Kd.R_alloc | apply Kd.R_drewN | apply Kd.R_drew)); exact HL140_3.out) hb); have n3_ := Aside0.mk (Kd.C_below (by repeat (first | (with_reducible exact HR140_3.out) | (with_reducible refine Kd.C_alloc ?_ _) | (with_reducible refine Kd.C_drewN ?_ _) | (with_reducible refine Kd.C_drew ?_) | exact HR140_3.out)) hb); have n4_ := Aside0.mk (below_step (by repeat (first | (with_reducible first | exact HB.out | apply below_alloc | apply pw_below_drewN | apply below_drew1) | exact HB.out)) hb); clear HO134; clear HO139; clear HL140_3; clear HR140_3; clear HB; have HO134 := n0_; have HO139 := n1_; have HL140_3 := n2_; have HR140_3 := n3_; have HB := n4_; clear n0_ n1_ n2_ n3_ n4_; (try clear hb); (try clear hb2); (try clear hk); (try clear hi)))
                go_ret
                exact ⟨by first | rfl | (simp [errW_none, errW_some] <;> rfl) | (simp [*, errW_none, errW_some] <;> rfl), by repeat (first | (with_reducible first | exact HB.out | apply below_alloc | apply pw_below_drewN | apply below_drew1) | exact HB.out)⟩
            · rw [if_neg c9] at H
              have c9b0 : (t141.toList == ([116, 120, 110, 32, 48, 32, 49, 32, 50, 10, 119, 32, 51, 32, 53, 10] : List UInt8)) = false := beq_eq_false_iff_ne.mpr c9
              have c9b1 : (t141.toList != ([116, 120, 110, 32, 48, 32, 49, 32, 50, 10, 119, 32, 51, 32, 53, 10] : List UInt8)) = true := bne_iff_ne.mpr c9
              obtain rfl := Option.some.inj H
              go_enter Tryd.func6, Tryd.ntmps6
              go_wp2_with (first | ((with_reducible refine gate_callee (f := 7) rfl ?_); refine goesL_ (some 8) rfl rfl Tryd.func7 (by kernel_rfl) rfl #[.string (⟨#[116, 120, 110, 32, 48, 32, 49, 32, 50, 10, 119, 32, 51, 32, 53, 10]⟩ : ByteArray)] rfl (by (try simp only [List.map_toArray, List.map_cons, List.map_nil]); first | done | rfl | (simp only [List.length_drop, List.length_take]; rfl)) ?_; (with_reducible refine (script_Parse.calls k (⟨#[116, 120, 110, 32, 48, 32, 49, 32, 50, 10, 119, 32, 51, 32, 53, 10]⟩ : ByteArray) t130 t131 t132 _ A1.out (Laid.below HY (by repeat (first | (with_reducible first | exact HB.out | apply below_alloc | apply pw_below_drewN | apply below_drew1) | exact HB.out)))).mono ?_); rintro e w19 ⟨v133, rfl, ho0, hb⟩; refine ⟨_, rfl, ?_⟩; have n0_ := Aside0.mk (Kd.S_lower ho0 (below_size (by repeat (first | (with_reducible first | exact HB.out | apply below_alloc | apply pw_below_drewN | apply below_drew1) | exact HB.out)))); have n1_ := Aside0.mk (below_step (by repeat (first | (with_reducible first | exact HB.out | apply below_alloc | apply pw_below_drewN | apply below_drew1) | exact HB.out)) hb); clear HB; have HO134 := n0_; have HB := n1_; clear n0_ n1_; (try clear hb); (try clear hb2); (try clear hk); (try clear hi); (try clear ho0)) | ((with_reducible refine gate_callee (f := 7) rfl ?_); refine goesL_ (some 13) rfl rfl Tryd.func7 (by kernel_rfl) rfl #[.string (⟨#[116, 120, 110, 32, 48, 32, 49, 32, 50, 10, 119, 32, 51, 10]⟩ : ByteArray)] rfl (by (try simp only [List.map_toArray, List.map_cons, List.map_nil]); first | done | rfl | (simp only [List.length_drop, List.length_take]; rfl)) ?_; (with_reducible refine (script_Parse.calls k (⟨#[116, 120, 110, 32, 48, 32, 49, 32, 50, 10, 119, 32, 51, 10]⟩ : ByteArray) t135 t136 t137 _ A2.out (Laid.below HY (by repeat (first | (with_reducible first | exact HB.out | apply below_alloc | apply pw_below_drewN | apply below_drew1) | exact HB.out)))).mono ?_); rintro e w20 ⟨v138, rfl, ho0, hb⟩; refine ⟨_, rfl, ?_⟩; have n0_ := Aside0.mk (Kd.S_elder' (by (with_reducible repeat (first | apply Kd.S_alloc | apply Kd.S_drewN | apply Kd.S_drew)); exact HO134.out) (Kd.S_base ho0) hb); have n1_ := Aside0.mk (Kd.S_lower (Kd.S_new' ho0 (Kd.S_lt (by (with_reducible repeat (first | apply Kd.S_alloc | apply Kd.S_drewN | apply Kd.S_drew)); exact HO134.out))) (below_size (by repeat (first | (with_reducible first | exact HB.out | apply below_alloc | apply pw_below_drewN | apply below_drew1) | exact HB.out)))); have n2_ := Aside0.mk (below_step (by repeat (first | (with_reducible first | exact HB.out | apply below_alloc | apply pw_below_drewN | apply below_drew1) | exact HB.out)) hb); clear HO134; clear HB; have HO134 := n0_; have HO139 := n1_; have HB := n2_; clear n0_ n1_ n2_; (try clear hb); (try clear hb2); (try clear hk); (try clear hi); (try clear ho0); obtain ⟨Ao21, co21, eo21⟩ := Kd.S_slice HO134.out; subst eo21; have p140 : 0 ≤ (0 : Int) := (by omega); have q140 : 0 < (t130.length : Int) := of_decide_eq_true (by first | (with_reducible assumption) | assumption); obtain ⟨ad140, A140_3, c140_3, e140, hx140_0, hx140_1, hx140_2, hx140_3, hl140_3, hi140_3⟩ := at_T38 (Kd.S_reads' HO134.out).2.2 0 p140 q140; cases e140; obtain ⟨ce140, hce140, hMe140, hcc140⟩ := Kd.S_get HO134.out z38 0 p140 (by first | exact q140 | exact of_decide_eq_true (by first | (with_reducible assumption) | assumption) | (have e_ := (Kd.S_reads' HO134.out).1; omega)); obtain ⟨ve140_3, rfl, ge140_3⟩ := k38_openM hMe140; have hv140_3 := hcc140 3 _ rfl; rw [add_field _ _ 3 (by omega)] at hv140_3; replace hv140_3 := Option.some.inj (hv140_3.symm.trans hx140_3); rw [hv140_3] at ge140_3; have HL140_3 := Aside0.mk (show Kd.R k48 48 _ _ _ _ ((rd_T38 t130 0).f3) from ge140_3); clear hv140_3 ge140_3; clear hcc140 hce140; have qi140 : (0 < t130.length) = True := eq_true (by omega); (try rw [show ((0 : Int)).toNat = 0 from rfl] at hx140_0); (try rw [show 0 * 4 = 0 from rfl] at hx140_0); (try rw [Addr.add_zero'] at hx140_0); (try rw [show ((0 : Int)).toNat = 0 from rfl] at hx140_1); (try rw [show 0 * 4 = 0 from rfl] at hx140_1); (try rw [Addr.add_zero'] at hx140_1); (try rw [show ((0 : Int)).toNat = 0 from rfl] at hx140_2); (try rw [show 0 * 4 = 0 from rfl] at hx140_2); (try rw [Addr.add_zero'] at hx140_2); (try rw [show ((0 : Int)).toNat = 0 from rfl] at hx140_3); (try rw [show 0 * 4 = 0 from rfl] at hx140_3); (try rw [Addr.add_zero'] at hx140_3); have HR140_3 := Aside0.mk hi140_3; have HC140_3 := Aside0.mk hl140_3; clear hi140_3 hl140_3; replace p140 := eq_true p140; replace q140 := eq_true q140) | (go_at_call 10; (with_reducible refine (script_Print.calls k _ _ t130 t141 _ ?side1 ?side2 A8.out (Laid.below HY (by repeat (first | (with_reducible first | exact HB.out | apply below_alloc | apply pw_below_drewN | apply below_drew1) | exact HB.out)))).mono ?_); (case side1 => repeat (first | exact (Kd.S_reads' HO134.out).2.2 | (with_reducible refine Kd.C_alloc ?_ _) | (with_reducible refine Kd.C_drewN ?_ _) | (with_reducible refine Kd.C_drew ?_))); (case side2 => exact (Kd.S_reads' HO134.out).2.1); rintro e w22 ⟨rfl, hb⟩; have n0_ := Aside0.mk (Kd.S_below (by (with_reducible repeat (first | apply Kd.S_alloc | apply Kd.S_drewN | apply Kd.S_drew)); exact HO134.out) hb); have n1_ := Aside0.mk (Kd.S_below (by (with_reducible repeat (first | apply Kd.S_alloc | apply Kd.S_drewN | apply Kd.S_drew)); exact HO139.out) hb); have n2_ := Aside0.mk (Kd.R_below (by (with_reducible repeat (first | apply Kd.R_alloc | apply Kd.R_drewN | apply Kd.R_drew)); exact HL140_3.out) hb); have n3_ := Aside0.mk (Kd.C_below (by repeat (first | (with_reducible exact HR140_3.out) | (with_reducible refine Kd.C_alloc ?_ _) | (with_reducible refine Kd.C_drewN ?_ _) | (with_reducible refine Kd.C_drew ?_) | exact HR140_3.out)) hb); have n4_ := Aside0.mk (below_step (by repeat (first | (with_reducible first | exact HB.out | apply below_alloc | apply pw_below_drewN | apply below_drew1) | exact HB.out)) hb); clear HO134; clear HO139; clear HL140_3; clear HR140_3; clear HB; have HO134 := n0_; have HO139 := n1_; have HL140_3 := n2_; have HR140_3 := n3_; have HB := n4_; clear n0_ n1_ n2_ n3_ n4_; (try clear hb); (try clear hb2); (try clear hk); (try clear hi)))
              go_ret
              exact ⟨by first | rfl | (simp [errW_none, errW_some] <;> rfl) | (simp [*, errW_none, errW_some] <;> rfl), by repeat (first | (with_reducible first | exact HB.out | apply below_alloc | apply pw_below_drewN | apply below_drew1) | exact HB.out)⟩
          · rw [if_neg c7] at H
            have c7b0 : ((((rd_T38 t130 0).f3).length : Int) == 1) = false := beq_eq_false_iff_ne.mpr c7
            have c7b1 : ((((rd_T38 t130 0).f3).length : Int) != 1) = true := bne_iff_ne.mpr c7
            obtain rfl := Option.some.inj H
            go_enter Tryd.func6, Tryd.ntmps6
            go_wp2_with (first | ((with_reducible refine gate_callee (f := 7) rfl ?_); refine goesL_ (some 8) rfl rfl Tryd.func7 (by kernel_rfl) rfl #[.string (⟨#[116, 120, 110, 32, 48, 32, 49, 32, 50, 10, 119, 32, 51, 32, 53, 10]⟩ : ByteArray)] rfl (by (try simp only [List.map_toArray, List.map_cons, List.map_nil]); first | done | rfl | (simp only [List.length_drop, List.length_take]; rfl)) ?_; (with_reducible refine (script_Parse.calls k (⟨#[116, 120, 110, 32, 48, 32, 49, 32, 50, 10, 119, 32, 51, 32, 53, 10]⟩ : ByteArray) t130 t131 t132 _ A1.out (Laid.below HY (by repeat (first | (with_reducible first | exact HB.out | apply below_alloc | apply pw_below_drewN | apply below_drew1) | exact HB.out)))).mono ?_); rintro e w23 ⟨v133, rfl, ho0, hb⟩; refine ⟨_, rfl, ?_⟩; have n0_ := Aside0.mk (Kd.S_lower ho0 (below_size (by repeat (first | (with_reducible first | exact HB.out | apply below_alloc | apply pw_below_drewN | apply below_drew1) | exact HB.out)))); have n1_ := Aside0.mk (below_step (by repeat (first | (with_reducible first | exact HB.out | apply below_alloc | apply pw_below_drewN | apply below_drew1) | exact HB.out)) hb); clear HB; have HO134 := n0_; have HB := n1_; clear n0_ n1_; (try clear hb); (try clear hb2); (try clear hk); (try clear hi); (try clear ho0)) | ((with_reducible refine gate_callee (f := 7) rfl ?_); refine goesL_ (some 13) rfl rfl Tryd.func7 (by kernel_rfl) rfl #[.string (⟨#[116, 120, 110, 32, 48, 32, 49, 32, 50, 10, 119, 32, 51, 10]⟩ : ByteArray)] rfl (by (try simp only [List.map_toArray, List.map_cons, List.map_nil]); first | done | rfl | (simp only [List.length_drop, List.length_take]; rfl)) ?_; (with_reducible refine (script_Parse.calls k (⟨#[116, 120, 110, 32, 48, 32, 49, 32, 50, 10, 119, 32, 51, 10]⟩ : ByteArray) t135 t136 t137 _ A2.out (Laid.below HY (by repeat (first | (with_reducible first | exact HB.out | apply below_alloc | apply pw_below_drewN | apply below_drew1) | exact HB.out)))).mono ?_); rintro e w24 ⟨v138, rfl, ho0, hb⟩; refine ⟨_, rfl, ?_⟩; have n0_ := Aside0.mk (Kd.S_elder' (by (with_reducible repeat (first | apply Kd.S_alloc | apply Kd.S_drewN | apply Kd.S_drew)); exact HO134.out) (Kd.S_base ho0) hb); have n1_ := Aside0.mk (Kd.S_lower (Kd.S_new' ho0 (Kd.S_lt (by (with_reducible repeat (first | apply Kd.S_alloc | apply Kd.S_drewN | apply Kd.S_drew)); exact HO134.out))) (below_size (by repeat (first | (with_reducible first | exact HB.out | apply below_alloc | apply pw_below_drewN | apply below_drew1) | exact HB.out)))); have n2_ := Aside0.mk (below_step (by repeat (first | (with_reducible first | exact HB.out | apply below_alloc | apply pw_below_drewN | apply below_drew1) | exact HB.out)) hb); clear HO134; clear HB; have HO134 := n0_; have HO139 := n1_; have HB := n2_; clear n0_ n1_ n2_; (try clear hb); (try clear hb2); (try clear hk); (try clear hi); (try clear ho0); obtain ⟨Ao25, co25, eo25⟩ := Kd.S_slice HO134.out; subst eo25; have p140 : 0 ≤ (0 : Int) := (by omega); have q140 : 0 < (t130.length : Int) := of_decide_eq_true (by first | (with_reducible assumption) | assumption); obtain ⟨ad140, A140_3, c140_3, e140, hx140_0, hx140_1, hx140_2, hx140_3, hl140_3, hi140_3⟩ := at_T38 (Kd.S_reads' HO134.out).2.2 0 p140 q140; cases e140; obtain ⟨ce140, hce140, hMe140, hcc140⟩ := Kd.S_get HO134.out z38 0 p140 (by first | exact q140 | exact of_decide_eq_true (by first | (with_reducible assumption) | assumption) | (have e_ := (Kd.S_reads' HO134.out).1; omega)); obtain ⟨ve140_3, rfl, ge140_3⟩ := k38_openM hMe140; have hv140_3 := hcc140 3 _ rfl; rw [add_field _ _ 3 (by omega)] at hv140_3; replace hv140_3 := Option.some.inj (hv140_3.symm.trans hx140_3); rw [hv140_3] at ge140_3; have HL140_3 := Aside0.mk (show Kd.R k48 48 _ _ _ _ ((rd_T38 t130 0).f3) from ge140_3); clear hv140_3 ge140_3; clear hcc140 hce140; have qi140 : (0 < t130.length) = True := eq_true (by omega); (try rw [show ((0 : Int)).toNat = 0 from rfl] at hx140_0); (try rw [show 0 * 4 = 0 from rfl] at hx140_0); (try rw [Addr.add_zero'] at hx140_0); (try rw [show ((0 : Int)).toNat = 0 from rfl] at hx140_1); (try rw [show 0 * 4 = 0 from rfl] at hx140_1); (try rw [Addr.add_zero'] at hx140_1); (try rw [show ((0 : Int)).toNat = 0 from rfl] at hx140_2); (try rw [show 0 * 4 = 0 from rfl] at hx140_2); (try rw [Addr.add_zero'] at hx140_2); (try rw [show ((0 : Int)).toNat = 0 from rfl] at hx140_3); (try rw [show 0 * 4 = 0 from rfl] at hx140_3); (try rw [Addr.add_zero'] at hx140_3); have HR140_3 := Aside0.mk hi140_3; have HC140_3 := Aside0.mk hl140_3; clear hi140_3 hl140_3; replace p140 := eq_true p140; replace q140 := eq_true q140))
            go_ret
            exact ⟨by first | rfl | (simp [errW_none, errW_some] <;> rfl) | (simp [*, errW_none, errW_some] <;> rfl), by repeat (first | (with_reducible first | exact HB.out | apply below_alloc | apply pw_below_drewN | apply below_drew1) | exact HB.out)⟩
        · rw [if_neg c6] at H
          exact absurd H (by simp)
      · rw [if_neg c5] at H
        have c5b0 : ((t130.length : Int) == 1) = false := beq_eq_false_iff_ne.mpr c5
        have c5b1 : ((t130.length : Int) != 1) = true := bne_iff_ne.mpr c5
        obtain rfl := Option.some.inj H
        go_enter Tryd.func6, Tryd.ntmps6
        go_wp2_with (first | ((with_reducible refine gate_callee (f := 7) rfl ?_); refine goesL_ (some 8) rfl rfl Tryd.func7 (by kernel_rfl) rfl #[.string (⟨#[116, 120, 110, 32, 48, 32, 49, 32, 50, 10, 119, 32, 51, 32, 53, 10]⟩ : ByteArray)] rfl (by (try simp only [List.map_toArray, List.map_cons, List.map_nil]); first | done | rfl | (simp only [List.length_drop, List.length_take]; rfl)) ?_; (with_reducible refine (script_Parse.calls k (⟨#[116, 120, 110, 32, 48, 32, 49, 32, 50, 10, 119, 32, 51, 32, 53, 10]⟩ : ByteArray) t130 t131 t132 _ A1.out (Laid.below HY (by repeat (first | (with_reducible first | exact HB.out | apply below_alloc | apply pw_below_drewN | apply below_drew1) | exact HB.out)))).mono ?_); rintro e w26 ⟨v133, rfl, ho0, hb⟩; refine ⟨_, rfl, ?_⟩; have n0_ := Aside0.mk (Kd.S_lower ho0 (below_size (by repeat (first | (with_reducible first | exact HB.out | apply below_alloc | apply pw_below_drewN | apply below_drew1) | exact HB.out)))); have n1_ := Aside0.mk (below_step (by repeat (first | (with_reducible first | exact HB.out | apply below_alloc | apply pw_below_drewN | apply below_drew1) | exact HB.out)) hb); clear HB; have HO134 := n0_; have HB := n1_; clear n0_ n1_; (try clear hb); (try clear hb2); (try clear hk); (try clear hi); (try clear ho0)) | ((with_reducible refine gate_callee (f := 7) rfl ?_); refine goesL_ (some 13) rfl rfl Tryd.func7 (by kernel_rfl) rfl #[.string (⟨#[116, 120, 110, 32, 48, 32, 49, 32, 50, 10, 119, 32, 51, 10]⟩ : ByteArray)] rfl (by (try simp only [List.map_toArray, List.map_cons, List.map_nil]); first | done | rfl | (simp only [List.length_drop, List.length_take]; rfl)) ?_; (with_reducible refine (script_Parse.calls k (⟨#[116, 120, 110, 32, 48, 32, 49, 32, 50, 10, 119, 32, 51, 10]⟩ : ByteArray) t135 t136 t137 _ A2.out (Laid.below HY (by repeat (first | (with_reducible first | exact HB.out | apply below_alloc | apply pw_below_drewN | apply below_drew1) | exact HB.out)))).mono ?_); rintro e w27 ⟨v138, rfl, ho0, hb⟩; refine ⟨_, rfl, ?_⟩; have n0_ := Aside0.mk (Kd.S_elder' (by (with_reducible repeat (first | apply Kd.S_alloc | apply Kd.S_drewN | apply Kd.S_drew)); exact HO134.out) (Kd.S_base ho0) hb); have n1_ := Aside0.mk (Kd.S_lower (Kd.S_new' ho0 (Kd.S_lt (by (with_reducible repeat (first | apply Kd.S_alloc | apply Kd.S_drewN | apply Kd.S_drew)); exact HO134.out))) (below_size (by repeat (first | (with_reducible first | exact HB.out | apply below_alloc | apply pw_below_drewN | apply below_drew1) | exact HB.out)))); have n2_ := Aside0.mk (below_step (by repeat (first | (with_reducible first | exact HB.out | apply below_alloc | apply pw_below_drewN | apply below_drew1) | exact HB.out)) hb); clear HO134; clear HB; have HO134 := n0_; have HO139 := n1_; have HB := n2_; clear n0_ n1_ n2_; (try clear hb); (try clear hb2); (try clear hk); (try clear hi); (try clear ho0); obtain ⟨Ao28, co28, eo28⟩ := Kd.S_slice HO134.out; subst eo28))
        go_ret
        exact ⟨by first | rfl | (simp [errW_none, errW_some] <;> rfl) | (simp [*, errW_none, errW_some] <;> rfl), by repeat (first | (with_reducible first | exact HB.out | apply below_alloc | apply pw_below_drewN | apply below_drew1) | exact HB.out)⟩
    · rw [if_neg c4] at H
      have c4b0 : (t131 == 0) = false := beq_eq_false_iff_ne.mpr c4
      have c4b1 : (t131 != 0) = true := bne_iff_ne.mpr c4
      obtain rfl := Option.some.inj H
      go_enter Tryd.func6, Tryd.ntmps6
      go_wp2_with (first | ((with_reducible refine gate_callee (f := 7) rfl ?_); refine goesL_ (some 8) rfl rfl Tryd.func7 (by kernel_rfl) rfl #[.string (⟨#[116, 120, 110, 32, 48, 32, 49, 32, 50, 10, 119, 32, 51, 32, 53, 10]⟩ : ByteArray)] rfl (by (try simp only [List.map_toArray, List.map_cons, List.map_nil]); first | done | rfl | (simp only [List.length_drop, List.length_take]; rfl)) ?_; (with_reducible refine (script_Parse.calls k (⟨#[116, 120, 110, 32, 48, 32, 49, 32, 50, 10, 119, 32, 51, 32, 53, 10]⟩ : ByteArray) t130 t131 t132 _ A1.out (Laid.below HY (by repeat (first | (with_reducible first | exact HB.out | apply below_alloc | apply pw_below_drewN | apply below_drew1) | exact HB.out)))).mono ?_); rintro e w29 ⟨v133, rfl, ho0, hb⟩; refine ⟨_, rfl, ?_⟩; have n0_ := Aside0.mk (Kd.S_lower ho0 (below_size (by repeat (first | (with_reducible first | exact HB.out | apply below_alloc | apply pw_below_drewN | apply below_drew1) | exact HB.out)))); have n1_ := Aside0.mk (below_step (by repeat (first | (with_reducible first | exact HB.out | apply below_alloc | apply pw_below_drewN | apply below_drew1) | exact HB.out)) hb); clear HB; have HO134 := n0_; have HB := n1_; clear n0_ n1_; (try clear hb); (try clear hb2); (try clear hk); (try clear hi); (try clear ho0)) | ((with_reducible refine gate_callee (f := 7) rfl ?_); refine goesL_ (some 13) rfl rfl Tryd.func7 (by kernel_rfl) rfl #[.string (⟨#[116, 120, 110, 32, 48, 32, 49, 32, 50, 10, 119, 32, 51, 10]⟩ : ByteArray)] rfl (by (try simp only [List.map_toArray, List.map_cons, List.map_nil]); first | done | rfl | (simp only [List.length_drop, List.length_take]; rfl)) ?_; (with_reducible refine (script_Parse.calls k (⟨#[116, 120, 110, 32, 48, 32, 49, 32, 50, 10, 119, 32, 51, 10]⟩ : ByteArray) t135 t136 t137 _ A2.out (Laid.below HY (by repeat (first | (with_reducible first | exact HB.out | apply below_alloc | apply pw_below_drewN | apply below_drew1) | exact HB.out)))).mono ?_); rintro e w30 ⟨v138, rfl, ho0, hb⟩; refine ⟨_, rfl, ?_⟩; have n0_ := Aside0.mk (Kd.S_elder' (by (with_reducible repeat (first | apply Kd.S_alloc | apply Kd.S_drewN | apply Kd.S_drew)); exact HO134.out) (Kd.S_base ho0) hb); have n1_ := Aside0.mk (Kd.S_lower (Kd.S_new' ho0 (Kd.S_lt (by (with_reducible repeat (first | apply Kd.S_alloc | apply Kd.S_drewN | apply Kd.S_drew)); exact HO134.out))) (below_size (by repeat (first | (with_reducible first | exact HB.out | apply below_alloc | apply pw_below_drewN | apply below_drew1) | exact HB.out)))); have n2_ := Aside0.mk (below_step (by repeat (first | (with_reducible first | exact HB.out | apply below_alloc | apply pw_below_drewN | apply below_drew1) | exact HB.out)) hb); clear HO134; clear HB; have HO134 := n0_; have HO139 := n1_; have HB := n2_; clear n0_ n1_ n2_; (try clear hb); (try clear hb2); (try clear hk); (try clear hi); (try clear ho0)))
      go_ret
      exact ⟨by first | rfl | (simp [errW_none, errW_some] <;> rfl) | (simp [*, errW_none, errW_some] <;> rfl), by repeat (first | (with_reducible first | exact HB.out | apply below_alloc | apply pw_below_drewN | apply below_drew1) | exact HB.out)⟩
  · rw [if_neg c3] at H
    have c3b0 : (t132 == 0) = false := beq_eq_false_iff_ne.mpr c3
    have c3b1 : (t132 != 0) = true := bne_iff_ne.mpr c3
    obtain rfl := Option.some.inj H
    go_enter Tryd.func6, Tryd.ntmps6
    go_wp2_with (first | ((with_reducible refine gate_callee (f := 7) rfl ?_); refine goesL_ (some 8) rfl rfl Tryd.func7 (by kernel_rfl) rfl #[.string (⟨#[116, 120, 110, 32, 48, 32, 49, 32, 50, 10, 119, 32, 51, 32, 53, 10]⟩ : ByteArray)] rfl (by (try simp only [List.map_toArray, List.map_cons, List.map_nil]); first | done | rfl | (simp only [List.length_drop, List.length_take]; rfl)) ?_; (with_reducible refine (script_Parse.calls k (⟨#[116, 120, 110, 32, 48, 32, 49, 32, 50, 10, 119, 32, 51, 32, 53, 10]⟩ : ByteArray) t130 t131 t132 _ A1.out (Laid.below HY (by repeat (first | (with_reducible first | exact HB.out | apply below_alloc | apply pw_below_drewN | apply below_drew1) | exact HB.out)))).mono ?_); rintro e w31 ⟨v133, rfl, ho0, hb⟩; refine ⟨_, rfl, ?_⟩; have n0_ := Aside0.mk (Kd.S_lower ho0 (below_size (by repeat (first | (with_reducible first | exact HB.out | apply below_alloc | apply pw_below_drewN | apply below_drew1) | exact HB.out)))); have n1_ := Aside0.mk (below_step (by repeat (first | (with_reducible first | exact HB.out | apply below_alloc | apply pw_below_drewN | apply below_drew1) | exact HB.out)) hb); clear HB; have HO134 := n0_; have HB := n1_; clear n0_ n1_; (try clear hb); (try clear hb2); (try clear hk); (try clear hi); (try clear ho0)) | ((with_reducible refine gate_callee (f := 7) rfl ?_); refine goesL_ (some 13) rfl rfl Tryd.func7 (by kernel_rfl) rfl #[.string (⟨#[116, 120, 110, 32, 48, 32, 49, 32, 50, 10, 119, 32, 51, 10]⟩ : ByteArray)] rfl (by (try simp only [List.map_toArray, List.map_cons, List.map_nil]); first | done | rfl | (simp only [List.length_drop, List.length_take]; rfl)) ?_; (with_reducible refine (script_Parse.calls k (⟨#[116, 120, 110, 32, 48, 32, 49, 32, 50, 10, 119, 32, 51, 10]⟩ : ByteArray) t135 t136 t137 _ A2.out (Laid.below HY (by repeat (first | (with_reducible first | exact HB.out | apply below_alloc | apply pw_below_drewN | apply below_drew1) | exact HB.out)))).mono ?_); rintro e w32 ⟨v138, rfl, ho0, hb⟩; refine ⟨_, rfl, ?_⟩; have n0_ := Aside0.mk (Kd.S_elder' (by (with_reducible repeat (first | apply Kd.S_alloc | apply Kd.S_drewN | apply Kd.S_drew)); exact HO134.out) (Kd.S_base ho0) hb); have n1_ := Aside0.mk (Kd.S_lower (Kd.S_new' ho0 (Kd.S_lt (by (with_reducible repeat (first | apply Kd.S_alloc | apply Kd.S_drewN | apply Kd.S_drew)); exact HO134.out))) (below_size (by repeat (first | (with_reducible first | exact HB.out | apply below_alloc | apply pw_below_drewN | apply below_drew1) | exact HB.out)))); have n2_ := Aside0.mk (below_step (by repeat (first | (with_reducible first | exact HB.out | apply below_alloc | apply pw_below_drewN | apply below_drew1) | exact HB.out)) hb); clear HO134; clear HB; have HO134 := n0_; have HO139 := n1_; have HB := n2_; clear n0_ n1_ n2_; (try clear hb); (try clear hb2); (try clear hk); (try clear hi); (try clear ho0)))
    go_ret
    exact ⟨by first | rfl | (simp [errW_none, errW_some] <;> rfl) | (simp [*, errW_none, errW_some] <;> rfl), by repeat (first | (with_reducible first | exact HB.out | apply below_alloc | apply pw_below_drewN | apply below_drew1) | exact HB.out)⟩
def burgageref03_Cut.l0 : Nat → ByteArray → Int → List ByteArray → Int → Int → Option (List ByteArray)
  | 0, _, _, _, _, _ => none
  | k + 1, x0, x1, x5, x6, x7 => if x7 ≤ (x0.size : Int) then (if x7 = (x0.size : Int) then (if 0 ≤ x6 then (if x6 ≤ x7 then (if x5.length < 8796093022208 then (burgageref03_Cut.l0 k x0 x1 (x5 ++ [x0.extract (x6 : Int).toNat (x7 : Int).toNat]) (wrap64 (x7 + 1)) (wrap64 (x7 + 1))) else (none)) else (none)) else (none)) else (if 0 ≤ x7 then (if x7 < (x0.size : Int) then (if (bt x0 x7) = x1 then (if 0 ≤ x6 then (if x6 ≤ x7 then (if x5.length < 8796093022208 then (burgageref03_Cut.l0 k x0 x1 (x5 ++ [x0.extract (x6 : Int).toNat (x7 : Int).toNat]) (wrap64 (x7 + 1)) (wrap64 (x7 + 1))) else (none)) else (none)) else (none)) else (burgageref03_Cut.l0 k x0 x1 x5 x6 (wrap64 (x7 + 1)))) else (none)) else (none))) else (some x5)
def burgageref03_Cut.f (k : Nat) (a0 : ByteArray) (a1 : Int) : Option (List ByteArray) := burgageref03_Cut.l0 k a0 a1 (([] : List ByteArray)) 0 0
theorem burgageref03_Cut.mono_l : ∀ k, (∀ y0 y1 y2 y3 y4, LeO (burgageref03_Cut.l0 k y0 y1 y2 y3 y4) (burgageref03_Cut.l0 (k + 1) y0 y1 y2 y3 y4))
  | 0 => fun _ _ _ _ _ r h => by simp [burgageref03_Cut.l0] at h
  | k + 1 => by
    have ih0 := burgageref03_Cut.mono_l k
    · intro y0 y1 y2 y3 y4
      unfold burgageref03_Cut.l0
      repeat' first
      | (with_reducible exact ih0 _ _ _ _ _)
      | (with_reducible exact LeO.refl _)
      | (with_reducible exact LeO.none _)
      | (with_reducible refine LeO.ite ?_ ?_)
      | (with_reducible refine LeO.bind ?_ (fun _ => ?_))
      | exact ih0 _ _ _ _ _
      | exact LeO.none _
      | refine LeO.ite ?_ ?_
      | refine LeO.bind ?_ (fun _ => ?_)
theorem burgageref03_Cut.mono : ∀ a0 a1 k, LeO (burgageref03_Cut.f k a0 a1) (burgageref03_Cut.f (k + 1) a0 a1) := by
  intro a0 a1 k
  have ih0 := burgageref03_Cut.mono_l k
  unfold burgageref03_Cut.f
  repeat' first
      | (with_reducible exact ih0 _ _ _ _ _)
      | (with_reducible exact LeO.refl _)
      | (with_reducible exact LeO.none _)
      | (with_reducible refine LeO.ite ?_ ?_)
      | (with_reducible refine LeO.bind ?_ (fun _ => ?_))
      | exact ih0 _ _ _ _ _
      | exact LeO.none _
      | refine LeO.ite ?_ ?_
      | refine LeO.bind ?_ (fun _ => ?_)
def burgageref03_Num.f : Nat → Int → Option (ByteArray)
  | 0, _ => none
  | k + 1, a0 => if a0 < 0 then ((some (([(wrap64 (48 - (Int.tmod a0 10))) % 256] : List Int) : List Int)).bind fun y151 => (if a0 > (-10) then (if 1 + (strOfNums y151).size ≤ 9223372036854775807 then (some ((⟨#[45]⟩ : ByteArray) ++ (strOfNums y151))) else (none)) else ((burgageref03_Num.f k (wrap64 (Int.tdiv a0 10))).bind fun t154 => (if t154.size + (strOfNums y151).size ≤ 9223372036854775807 then (some (t154 ++ (strOfNums y151))) else (none))))) else ((some (([(wrap64 (48 + (Int.tmod a0 10))) % 256] : List Int) : List Int)).bind fun y155 => (if a0 < 10 then (some (strOfNums y155)) else ((burgageref03_Num.f k (wrap64 (Int.tdiv a0 10))).bind fun t158 => (if t158.size + (strOfNums y155).size ≤ 9223372036854775807 then (some (t158 ++ (strOfNums y155))) else (none)))))
theorem burgageref03_Num.mono_l : ∀ k, (∀ y0, LeO (burgageref03_Num.f k y0) (burgageref03_Num.f (k + 1) y0))
  | 0 => fun _ r h => by simp [burgageref03_Num.f] at h
  | k + 1 => by
    have ih0 := burgageref03_Num.mono_l k
    · intro y0
      unfold burgageref03_Num.f
      repeat' first
      | (with_reducible exact ih0 _)
      | (with_reducible exact LeO.refl _)
      | (with_reducible exact LeO.none _)
      | (with_reducible refine LeO.ite ?_ ?_)
      | (with_reducible refine LeO.bind ?_ (fun _ => ?_))
      | exact ih0 _
      | exact LeO.none _
      | refine LeO.ite ?_ ?_
      | refine LeO.bind ?_ (fun _ => ?_)
theorem burgageref03_Num.mono : ∀ a0 k, LeO (burgageref03_Num.f k a0) (burgageref03_Num.f (k + 1) a0) := by
  intro a0 k
  have ih0 := burgageref03_Num.mono_l k
  exact ih0 a0
end Go.Proofs.YtanofkgnjmegdaaDoor.Q
end
section
namespace Go.Proofs.YtanofkgnjmegdaaDoor.Q
open Go.Proofs.YtanofkgnjmegdaaDoor Go.Proofs.YtanofkgnjmegdaaDoor.Hand Go.Proofs.YtanofkgnjmegdaaDoor.Give Go.Proofs.YtanofkgnjmegdaaDoor.K
open Go.RowKit Go.Proofs.YtanofkgnjmegdaaDoorW.PrintWords Go.Proofs.YtanofkgnjmegdaaDoorW.PrintLast Go.Proofs.YtanofkgnjmegdaaDoorW.PrintMore
attribute [local go_sem] max2_int min2_int max_two min_two max_three min_three max_four min_four   -- for this text's walks alone
set_option linter.unusedVariables false
set_option linter.unusedSimpArgs false
mutual
def burgageref03_Number.j0 : Nat → ByteArray → Bool → Option (Int × Bool)
  | 0, _, _ => none
  | k + 1, x0, x13 => if x13 = true then (some (0, false)) else (burgageref03_Number.l0 k x0 0 0)
def burgageref03_Number.l0 : Nat → ByteArray → Int → Int → Option (Int × Bool)
  | 0, _, _, _ => none
  | k + 1, x0, x4, x5 => if x5 < (x0.size : Int) then (if 0 ≤ x5 then (if (bt x0 x5) < 48 then (some (0, false)) else (if (bt x0 x5) > 57 then (some (0, false)) else (burgageref03_Number.l0 k x0 (wrap64 ((wrap64 (x4 * 10)) + (((bt x0 x5) - 48) % 256))) (wrap64 (x5 + 1))))) else (none)) else ((burgageref03_Num.f k x4).bind fun t159 => (if t159.toList = x0.toList then (if x4 > 2147483647 then (some (0, false)) else (some (x4, true))) else (some (0, false))))
end
def burgageref03_Number.f (k : Nat) (a0 : ByteArray) : Option (Int × Bool) := if (a0.size : Int) < 1 then (burgageref03_Number.j0 k a0 true) else (burgageref03_Number.j0 k a0 (decide ((a0.size : Int) > 10)))
theorem burgageref03_Number.mono_l : ∀ k, (∀ y0 y1, LeO (burgageref03_Number.j0 k y0 y1) (burgageref03_Number.j0 (k + 1) y0 y1)) ∧ (∀ y0 y1 y2, LeO (burgageref03_Number.l0 k y0 y1 y2) (burgageref03_Number.l0 (k + 1) y0 y1 y2))
  | 0 => ⟨fun _ _ r h => by simp [burgageref03_Number.j0] at h, fun _ _ _ r h => by simp [burgageref03_Number.l0] at h⟩
  | k + 1 => by
    obtain ⟨ih0, ih1⟩ := burgageref03_Number.mono_l k
    refine ⟨?_, ?_⟩
    · intro y0 y1
      unfold burgageref03_Number.j0
      repeat' first
      | (with_reducible exact ih0 _ _)
      | (with_reducible exact ih1 _ _ _)
      | (with_reducible exact burgageref03_Num.mono _ _)
      | (with_reducible exact LeO.refl _)
      | (with_reducible exact LeO.none _)
      | (with_reducible refine LeO.ite ?_ ?_)
      | (with_reducible refine LeO.bind ?_ (fun _ => ?_))
      | exact ih0 _ _
      | exact ih1 _ _ _
      | exact burgageref03_Num.mono _ _
      | exact LeO.none _
      | refine LeO.ite ?_ ?_
      | refine LeO.bind ?_ (fun _ => ?_)
    · intro y0 y1 y2
      unfold burgageref03_Number.l0
      repeat' first
      | (with_reducible exact ih0 _ _)
      | (with_reducible exact ih1 _ _ _)
      | (with_reducible exact burgageref03_Num.mono _ _)
      | (with_reducible exact LeO.refl _)
      | (with_reducible exact LeO.none _)
      | (with_reducible refine LeO.ite ?_ ?_)
      | (with_reducible refine LeO.bind ?_ (fun _ => ?_))
      | exact ih0 _ _
      | exact ih1 _ _ _
      | exact burgageref03_Num.mono _ _
      | exact LeO.none _
      | refine LeO.ite ?_ ?_
      | refine LeO.bind ?_ (fun _ => ?_)
theorem burgageref03_Number.mono : ∀ a0 k, LeO (burgageref03_Number.f k a0) (burgageref03_Number.f (k + 1) a0) := by
  intro a0 k
  obtain ⟨ih0, ih1⟩ := burgageref03_Number.mono_l k
  unfold burgageref03_Number.f
  repeat' first
      | (with_reducible exact ih0 _ _)
      | (with_reducible exact ih1 _ _ _)
      | (with_reducible exact burgageref03_Num.mono _ _)
      | (with_reducible exact LeO.refl _)
      | (with_reducible exact LeO.none _)
      | (with_reducible refine LeO.ite ?_ ?_)
      | (with_reducible refine LeO.bind ?_ (fun _ => ?_))
      | exact ih0 _ _
      | exact ih1 _ _ _
      | exact burgageref03_Num.mono _ _
      | exact LeO.none _
      | refine LeO.ite ?_ ?_
      | refine LeO.bind ?_ (fun _ => ?_)
def burgageref03_Words.l0 : Nat → List ByteArray → List Int → Int → Option (ByteArray × List Int × Bool)
  | 0, _, _, _ => none
  | k + 1, x7, x8, x9 => if x9 < (x7.length : Int) then (if 0 ≤ x9 then ((burgageref03_Number.f k (rdOf ByteArray.empty x7 x9)).bind fun bt167 => (if bt167.2 = true then (if x8.length < 17592186044416 then (burgageref03_Words.l0 k x7 (x8 ++ [bt167.1]) (wrap64 (x9 + 1))) else (none)) else (some ((⟨#[]⟩ : ByteArray), ([] : List Int), false)))) else (none)) else (if 0 < (x7.length : Int) then (some (rdOf ByteArray.empty x7 0, x8, true)) else (none))
def burgageref03_Words.f (k : Nat) (a0 : ByteArray) (a1 : Int) : Option (ByteArray × List Int × Bool) := (burgageref03_Cut.f k a0 32).bind fun t160 => (if (t160.length : Int) = (wrap64 (a1 + 1)) then (burgageref03_Words.l0 k t160 (([] : List Int)) 1) else (some ((⟨#[]⟩ : ByteArray), ([] : List Int), false)))
theorem burgageref03_Words.mono_l : ∀ k, (∀ y0 y1 y2, LeO (burgageref03_Words.l0 k y0 y1 y2) (burgageref03_Words.l0 (k + 1) y0 y1 y2))
  | 0 => fun _ _ _ r h => by simp [burgageref03_Words.l0] at h
  | k + 1 => by
    have ih0 := burgageref03_Words.mono_l k
    · intro y0 y1 y2
      unfold burgageref03_Words.l0
      repeat' first
      | (with_reducible exact ih0 _ _ _)
      | (with_reducible exact burgageref03_Cut.mono _ _ _)
      | (with_reducible exact burgageref03_Number.mono _ _)
      | (with_reducible exact LeO.refl _)
      | (with_reducible exact LeO.none _)
      | (with_reducible refine LeO.ite ?_ ?_)
      | (with_reducible refine LeO.bind ?_ (fun _ => ?_))
      | exact ih0 _ _ _
      | exact burgageref03_Cut.mono _ _ _
      | exact burgageref03_Number.mono _ _
      | exact LeO.none _
      | refine LeO.ite ?_ ?_
      | refine LeO.bind ?_ (fun _ => ?_)
theorem burgageref03_Words.mono : ∀ a0 a1 k, LeO (burgageref03_Words.f k a0 a1) (burgageref03_Words.f (k + 1) a0 a1) := by
  intro a0 a1 k
  have ih0 := burgageref03_Words.mono_l k
  unfold burgageref03_Words.f
  repeat' first
      | (with_reducible exact ih0 _ _ _)
      | (with_reducible exact burgageref03_Cut.mono _ _ _)
      | (with_reducible exact burgageref03_Number.mono _ _)
      | (with_reducible exact LeO.refl _)
      | (with_reducible exact LeO.none _)
      | (with_reducible refine LeO.ite ?_ ?_)
      | (with_reducible refine LeO.bind ?_ (fun _ => ?_))
      | exact ih0 _ _ _
      | exact burgageref03_Cut.mono _ _ _
      | exact burgageref03_Number.mono _ _
      | exact LeO.none _
      | refine LeO.ite ?_ ?_
      | refine LeO.bind ?_ (fun _ => ?_)
end Go.Proofs.YtanofkgnjmegdaaDoor.Q
end
section
namespace Go.Proofs.YtanofkgnjmegdaaDoor.Q
open Go.Proofs.YtanofkgnjmegdaaDoor Go.Proofs.YtanofkgnjmegdaaDoor.Hand Go.Proofs.YtanofkgnjmegdaaDoor.Give Go.Proofs.YtanofkgnjmegdaaDoor.K
open Go.RowKit Go.Proofs.YtanofkgnjmegdaaDoorW.PrintWords Go.Proofs.YtanofkgnjmegdaaDoorW.PrintLast Go.Proofs.YtanofkgnjmegdaaDoorW.PrintMore
attribute [local go_sem] max2_int min2_int max_two min_two max_three min_three max_four min_four   -- for this text's walks alone
set_option linter.unusedVariables false
set_option linter.unusedSimpArgs false
theorem eqA48 (d : Nat) (w : World) (x0 y0 : Bool) (x1 y1 : Int) (x2 y2 : Int) :
    (Op.equalIn (d + 2) 48 (.agg #[.bool x0, .int .i64 x1, .int .i64 x2]) (.agg #[.bool y0, .int .i64 y1, .int .i64 y2])).run Tryd.prog w = .ok (x0 == y0 && (x1 == y1 && (x2 == y2))) w := by
  refine eqA_of Tryd.underlying48 (by kernel_rfl) ?_
  refine eqf_cons (by rfl) (by go_simp; rfl) (by go_simp; rfl) (by go_simp) ?_
  refine eqf_cons (by rfl) (by go_simp; rfl) (by go_simp; rfl) (by go_simp) ?_
  exact eqf_last (by rfl) (by go_simp; rfl) (by go_simp; rfl) (by go_simp)
end Go.Proofs.YtanofkgnjmegdaaDoor.Q
end
section
namespace Go.Proofs.YtanofkgnjmegdaaDoor.Q
open Go.Proofs.YtanofkgnjmegdaaDoor Go.Proofs.YtanofkgnjmegdaaDoor.Hand Go.Proofs.YtanofkgnjmegdaaDoor.Give Go.Proofs.YtanofkgnjmegdaaDoor.K
open Go.RowKit Go.Proofs.YtanofkgnjmegdaaDoorW.PrintWords Go.Proofs.YtanofkgnjmegdaaDoorW.PrintLast Go.Proofs.YtanofkgnjmegdaaDoorW.PrintMore
attribute [local go_sem] max2_int min2_int max_two min_two max_three min_three max_four min_four   -- for this text's walks alone
set_option linter.unusedVariables false
set_option linter.unusedSimpArgs false
def burgageref07_opOf.f (k : Nat) (a0 : ByteArray) : Option (Bool × Int × Int × Bool) := (burgageref03_Words.f k a0 2).bind fun bt174 => (if bt174.2.2 = true then (if bt174.1.toList = ([114] : List UInt8) then (if 0 < (bt174.2.1.length : Int) then (if (rd bt174.2.1 0) > 63 then (some (false, 0, 0, false)) else (if bt174.1.toList = ([119] : List UInt8) then (if 1 < (bt174.2.1.length : Int) then (if (rd bt174.2.1 1) = 0 then (some (false, 0, 0, false)) else (some ((bt174.1.toList == ([119] : List UInt8)), rd bt174.2.1 0, rd bt174.2.1 1, true))) else (none)) else (if 1 < (bt174.2.1.length : Int) then (some ((bt174.1.toList == ([119] : List UInt8)), rd bt174.2.1 0, rd bt174.2.1 1, true)) else (none)))) else (none)) else (if bt174.1.toList = ([119] : List UInt8) then (if 0 < (bt174.2.1.length : Int) then (if (rd bt174.2.1 0) > 63 then (some (false, 0, 0, false)) else (if 1 < (bt174.2.1.length : Int) then (if (rd bt174.2.1 1) = 0 then (some (false, 0, 0, false)) else (some ((bt174.1.toList == ([119] : List UInt8)), rd bt174.2.1 0, rd bt174.2.1 1, true))) else (none))) else (none)) else (some (false, 0, 0, false)))) else (some (false, 0, 0, false)))
theorem burgageref07_opOf.mono : ∀ a0 k, LeO (burgageref07_opOf.f k a0) (burgageref07_opOf.f (k + 1) a0) := by
  intro a0 k
  unfold burgageref07_opOf.f
  repeat' first
      | (with_reducible exact burgageref03_Words.mono _ _ _)
      | (with_reducible exact LeO.refl _)
      | (with_reducible exact LeO.none _)
      | (with_reducible refine LeO.ite ?_ ?_)
      | (with_reducible refine LeO.bind ?_ (fun _ => ?_))
      | exact burgageref03_Words.mono _ _ _
      | exact LeO.none _
      | refine LeO.ite ?_ ?_
      | refine LeO.bind ?_ (fun _ => ?_)
end Go.Proofs.YtanofkgnjmegdaaDoor.Q
end
section
namespace Go.Proofs.YtanofkgnjmegdaaDoor.Q
open Go.Proofs.YtanofkgnjmegdaaDoor Go.Proofs.YtanofkgnjmegdaaDoor.Hand Go.Proofs.YtanofkgnjmegdaaDoor.Give Go.Proofs.YtanofkgnjmegdaaDoor.K
open Go.RowKit Go.Proofs.YtanofkgnjmegdaaDoorW.PrintWords Go.Proofs.YtanofkgnjmegdaaDoorW.PrintLast Go.Proofs.YtanofkgnjmegdaaDoorW.PrintMore
attribute [local go_sem] max2_int min2_int max_two min_two max_three min_three max_four min_four   -- for this text's walks alone
set_option linter.unusedVariables false
set_option linter.unusedSimpArgs false
mutual
def burgageref07_Lines.l0 : Nat → List ByteArray → List (S38) → Int → Option ((List (S38)) × Int)
  | 0, _, _, _ => none
  | k + 1, x0, x4, x5 => if x5 < (x0.length : Int) then (if 0 ≤ x5 then ((burgageref03_Words.f k (rdOf ByteArray.empty x0 x5) 3).bind fun bt193 => ((burgageref07_opOf.f k (rdOf ByteArray.empty x0 x5)).bind fun bt199 => (if bt193.2.2 = true then (burgageref07_Lines.j1 k x0 x4 x5 bt193.2.1 bt199.2.2.2 (bt193.1.toList == ([116, 120, 110] : List UInt8)) bt199.1 bt199.2.1 bt199.2.2.1) else (burgageref07_Lines.j1 k x0 x4 x5 bt193.2.1 bt199.2.2.2 false bt199.1 bt199.2.1 bt199.2.2.1)))) else (none)) else (some (x4, 0))
def burgageref07_Lines.j1 : Nat → List ByteArray → List (S38) → Int → List Int → Bool → Bool → Bool → Int → Int → Option ((List (S38)) × Int)
  | 0, _, _, _, _, _, _, _, _, _ => none
  | k + 1, x0, x4, x5, x7, x10, x40, x204000, x204001, x204002 => if x40 = true then (if 0 < (x7.length : Int) then (if 1 < (x7.length : Int) then (if 2 < (x7.length : Int) then ((some (([(⟨rd x7 0, rd x7 1, rd x7 2, ([] : List (S48))⟩ : S38)] : List (S38)) : List (S38))).bind fun y207 => (if x4.length + y207.length < 2932031007402 then (burgageref07_Lines.l0 k x0 (x4 ++ y207) (wrap64 (x5 + 1))) else (none))) else (none)) else (none)) else (none)) else (if x10 = true then (if (x4.length : Int) > 0 then (if 0 ≤ (wrap64 ((x4.length : Int) - 1)) then (if (wrap64 ((x4.length : Int) - 1)) < (x4.length : Int) then ((some (([] : List (S48)) : List (S48))).bind fun y215 => (if y215.length + ((rd_T38 x4 (wrap64 ((x4.length : Int) - 1))).f3).length < 5864062014805 then ((some (y215 ++ ((rd_T38 x4 (wrap64 ((x4.length : Int) - 1))).f3) : List (S48))).bind fun y218 => ((some (([(⟨x204000, x204001, x204002⟩ : S48)] : List (S48)) : List (S48))).bind fun y221 => (if y218.length + y221.length < 5864062014805 then (burgageref07_Lines.l0 k x0 (x4.set ((wrap64 ((x4.length : Int) - 1)) : Int).toNat (⟨(rd_T38 x4 (wrap64 ((x4.length : Int) - 1))).f0, (rd_T38 x4 (wrap64 ((x4.length : Int) - 1))).f1, (rd_T38 x4 (wrap64 ((x4.length : Int) - 1))).f2, (y218 ++ y221)⟩ : S38)) (wrap64 (x5 + 1))) else (none)))) else (none))) else (none)) else (none)) else (some (([] : List (S38)), wrap64 (x5 + 1)))) else (some (([] : List (S38)), wrap64 (x5 + 1))))
end
def burgageref07_Lines.f (k : Nat) (l0 : List ByteArray) : Option ((List (S38)) × Int) := burgageref07_Lines.l0 k l0 (([] : List (S38))) 0
theorem burgageref07_Lines.mono_l : ∀ k, (∀ y0 y1 y2, LeO (burgageref07_Lines.l0 k y0 y1 y2) (burgageref07_Lines.l0 (k + 1) y0 y1 y2)) ∧ (∀ y0 y1 y2 y3 y4 y5 y6 y7 y8, LeO (burgageref07_Lines.j1 k y0 y1 y2 y3 y4 y5 y6 y7 y8) (burgageref07_Lines.j1 (k + 1) y0 y1 y2 y3 y4 y5 y6 y7 y8))
  | 0 => ⟨fun _ _ _ r h => by simp [burgageref07_Lines.l0] at h, fun _ _ _ _ _ _ _ _ _ r h => by simp [burgageref07_Lines.j1] at h⟩
  | k + 1 => by
    obtain ⟨ih0, ih1⟩ := burgageref07_Lines.mono_l k
    refine ⟨?_, ?_⟩
    · intro y0 y1 y2
      unfold burgageref07_Lines.l0
      repeat' first
      | (with_reducible exact ih0 _ _ _)
      | (with_reducible exact ih1 _ _ _ _ _ _ _ _ _)
      | (with_reducible exact burgageref03_Words.mono _ _ _)
      | (with_reducible exact burgageref07_opOf.mono _ _)
      | (with_reducible exact LeO.refl _)
      | (with_reducible exact LeO.none _)
      | (with_reducible refine LeO.ite ?_ ?_)
      | (with_reducible refine LeO.bind ?_ (fun _ => ?_))
      | exact ih0 _ _ _
      | exact ih1 _ _ _ _ _ _ _ _ _
      | exact burgageref03_Words.mono _ _ _
      | exact burgageref07_opOf.mono _ _
      | exact LeO.none _
      | refine LeO.ite ?_ ?_
      | refine LeO.bind ?_ (fun _ => ?_)
    · intro y0 y1 y2 y3 y4 y5 y6 y7 y8
      unfold burgageref07_Lines.j1
      repeat' first
      | (with_reducible exact ih0 _ _ _)
      | (with_reducible exact ih1 _ _ _ _ _ _ _ _ _)
      | (with_reducible exact burgageref03_Words.mono _ _ _)
      | (with_reducible exact burgageref07_opOf.mono _ _)
      | (with_reducible exact LeO.refl _)
      | (with_reducible exact LeO.none _)
      | (with_reducible refine LeO.ite ?_ ?_)
      | (with_reducible refine LeO.bind ?_ (fun _ => ?_))
      | exact ih0 _ _ _
      | exact ih1 _ _ _ _ _ _ _ _ _
      | exact burgageref03_Words.mono _ _ _
      | exact burgageref07_opOf.mono _ _
      | exact LeO.none _
      | refine LeO.ite ?_ ?_
      | refine LeO.bind ?_ (fun _ => ?_)
theorem burgageref07_Lines.mono : ∀ a0 k, LeO (burgageref07_Lines.f k a0) (burgageref07_Lines.f (k + 1) a0) := by
  intro a0 k
  obtain ⟨ih0, ih1⟩ := burgageref07_Lines.mono_l k
  unfold burgageref07_Lines.f
  repeat' first
      | (with_reducible exact ih0 _ _ _)
      | (with_reducible exact ih1 _ _ _ _ _ _ _ _ _)
      | (with_reducible exact burgageref03_Words.mono _ _ _)
      | (with_reducible exact burgageref07_opOf.mono _ _)
      | (with_reducible exact LeO.refl _)
      | (with_reducible exact LeO.none _)
      | (with_reducible refine LeO.ite ?_ ?_)
      | (with_reducible refine LeO.bind ?_ (fun _ => ?_))
      | exact ih0 _ _ _
      | exact ih1 _ _ _ _ _ _ _ _ _
      | exact burgageref03_Words.mono _ _ _
      | exact burgageref07_opOf.mono _ _
      | exact LeO.none _
      | refine LeO.ite ?_ ?_
      | refine LeO.bind ?_ (fun _ => ?_)
end Go.Proofs.YtanofkgnjmegdaaDoor.Q
end
section
namespace Go.Proofs.YtanofkgnjmegdaaDoor.Q
open Go.Proofs.YtanofkgnjmegdaaDoor Go.Proofs.YtanofkgnjmegdaaDoor.Hand Go.Proofs.YtanofkgnjmegdaaDoor.Give Go.Proofs.YtanofkgnjmegdaaDoor.K
open Go.RowKit Go.Proofs.YtanofkgnjmegdaaDoorW.PrintWords Go.Proofs.YtanofkgnjmegdaaDoorW.PrintLast Go.Proofs.YtanofkgnjmegdaaDoorW.PrintMore
attribute [local go_sem] max2_int min2_int max_two min_two max_three min_three max_four min_four   -- for this text's walks alone
set_option linter.unusedVariables false
set_option linter.unusedSimpArgs false
attribute [local go_sem high] eqA48
def burgageref07_Parse.f (k : Nat) (a0 : ByteArray) : Option ((List (S38)) × Int × Int) := (burgageref03_Cut.f k a0 10).bind fun t228 => (if 0 ≤ (wrap64 ((t228.length : Int) - 1)) then (if (wrap64 ((t228.length : Int) - 1)) ≤ (t228.length : Int) then ((burgageref07_Lines.f k (t228.take ((wrap64 ((t228.length : Int) - 1)) : Int).toNat)).bind fun bt236 => (if bt236.2 > 0 then (some (([] : List (S38)), bt236.2, 1)) else (if (wrap64 ((t228.length : Int) - 1)) < (t228.length : Int) then (if (rdOf ByteArray.empty t228 (wrap64 ((t228.length : Int) - 1))).toList = ([] : List UInt8) then ((burgageref06_Check.f k bt236.1).bind fun t241 => (if t241 = 0 then (some (bt236.1, 0, 0)) else ((burgageref06_Check.f k bt236.1).bind fun t242 => (some (([] : List (S38)), 0, t242))))) else (some (([] : List (S38)), (t228.length : Int), 1))) else (none)))) else (none)) else (none))
theorem burgageref07_Parse.mono : ∀ a0 k, LeO (burgageref07_Parse.f k a0) (burgageref07_Parse.f (k + 1) a0) := by
  intro a0 k
  unfold burgageref07_Parse.f
  repeat' first
      | (with_reducible exact burgageref03_Cut.mono _ _ _)
      | (with_reducible exact burgageref06_Check.mono _ _)
      | (with_reducible exact burgageref07_Lines.mono _ _)
      | (with_reducible exact LeO.refl _)
      | (with_reducible exact LeO.none _)
      | (with_reducible refine LeO.ite ?_ ?_)
      | (with_reducible refine LeO.bind ?_ (fun _ => ?_))
      | exact burgageref03_Cut.mono _ _ _
      | exact burgageref06_Check.mono _ _
      | exact burgageref07_Lines.mono _ _
      | exact LeO.none _
      | refine LeO.ite ?_ ?_
      | refine LeO.bind ?_ (fun _ => ?_)
mutual
def history_Same.l0 : Nat → List (S38) → List (S38) → Int → Int → Option (Bool)
  | 0, _, _, _, _ => none
  | k + 1, x1, x15, x16, x17 => if x17 < x16 then (if 0 ≤ x17 then (if x17 < (x15.length : Int) then (if x17 < (x1.length : Int) then (if ((rd_T38 x15 x17).f0) = ((rd_T38 x1 x17).f0) then (if ((rd_T38 x15 x17).f1) = ((rd_T38 x1 x17).f1) then (if ((rd_T38 x15 x17).f2) = ((rd_T38 x1 x17).f2) then (history_Same.j1 k x1 x15 x16 x17 ((((rd_T38 x15 x17).f3).length : Int) != (((rd_T38 x1 x17).f3).length : Int)) ((rd_T38 x15 x17).f0) ((rd_T38 x15 x17).f1) ((rd_T38 x15 x17).f2) ((rd_T38 x15 x17).f3) ((rd_T38 x1 x17).f0) ((rd_T38 x1 x17).f1) ((rd_T38 x1 x17).f2) ((rd_T38 x1 x17).f3)) else (history_Same.j1 k x1 x15 x16 x17 true ((rd_T38 x15 x17).f0) ((rd_T38 x15 x17).f1) ((rd_T38 x15 x17).f2) ((rd_T38 x15 x17).f3) ((rd_T38 x1 x17).f0) ((rd_T38 x1 x17).f1) ((rd_T38 x1 x17).f2) ((rd_T38 x1 x17).f3))) else (history_Same.j1 k x1 x15 x16 x17 true ((rd_T38 x15 x17).f0) ((rd_T38 x15 x17).f1) ((rd_T38 x15 x17).f2) ((rd_T38 x15 x17).f3) ((rd_T38 x1 x17).f0) ((rd_T38 x1 x17).f1) ((rd_T38 x1 x17).f2) ((rd_T38 x1 x17).f3))) else (history_Same.j1 k x1 x15 x16 x17 true ((rd_T38 x15 x17).f0) ((rd_T38 x15 x17).f1) ((rd_T38 x15 x17).f2) ((rd_T38 x15 x17).f3) ((rd_T38 x1 x17).f0) ((rd_T38 x1 x17).f1) ((rd_T38 x1 x17).f2) ((rd_T38 x1 x17).f3))) else (none)) else (none)) else (none)) else (some true)
def history_Same.j1 : Nat → List (S38) → List (S38) → Int → Int → Bool → Int → Int → Int → List (S48) → Int → Int → Int → List (S48) → Option (Bool)
  | 0, _, _, _, _, _, _, _, _, _, _, _, _, _ => none
  | k + 1, x1, x15, x16, x17, x53, x245000, x245001, x245002, x245003, x247000, x247001, x247002, x247003 => if x53 = true then (some false) else (history_Same.l1 k x1 x15 x16 x17 x245003 (x245003.length : Int) 0 x247000 x247001 x247002 x247003)
def history_Same.l1 : Nat → List (S38) → List (S38) → Int → Int → List (S48) → Int → Int → Int → Int → Int → List (S48) → Option (Bool)
  | 0, _, _, _, _, _, _, _, _, _, _, _ => none
  | k + 1, x1, x15, x16, x17, x55, x56, x57, x247000, x247001, x247002, x247003 => if x57 < x56 then (if 0 ≤ x57 then (if x57 < (x55.length : Int) then (if x57 < (x247003.length : Int) then (if (!(((rd_T48 x247003 x57).f0) == ((rd_T48 x55 x57).f0)) || (!(((rd_T48 x247003 x57).f1) == ((rd_T48 x55 x57).f1)) || (!(((rd_T48 x247003 x57).f2) == ((rd_T48 x55 x57).f2))))) = true then (some false) else (history_Same.l1 k x1 x15 x16 x17 x55 x56 (wrap64 (x57 + 1)) x247000 x247001 x247002 x247003)) else (none)) else (none)) else (none)) else (history_Same.l0 k x1 x15 x16 (wrap64 (x17 + 1)))
end
def history_Same.f (k : Nat) (l0 : List (S38)) (l1 : List (S38)) : Option (Bool) := if (l0.length : Int) = (l1.length : Int) then (history_Same.l0 k l1 l0 (l0.length : Int) 0) else (some false)
theorem history_Same.mono_l : ∀ k, (∀ y0 y1 y2 y3, LeO (history_Same.l0 k y0 y1 y2 y3) (history_Same.l0 (k + 1) y0 y1 y2 y3)) ∧ (∀ y0 y1 y2 y3 y4 y5 y6 y7 y8 y9 y10 y11 y12, LeO (history_Same.j1 k y0 y1 y2 y3 y4 y5 y6 y7 y8 y9 y10 y11 y12) (history_Same.j1 (k + 1) y0 y1 y2 y3 y4 y5 y6 y7 y8 y9 y10 y11 y12)) ∧ (∀ y0 y1 y2 y3 y4 y5 y6 y7 y8 y9 y10, LeO (history_Same.l1 k y0 y1 y2 y3 y4 y5 y6 y7 y8 y9 y10) (history_Same.l1 (k + 1) y0 y1 y2 y3 y4 y5 y6 y7 y8 y9 y10))
  | 0 => ⟨fun _ _ _ _ r h => by simp [history_Same.l0] at h, fun _ _ _ _ _ _ _ _ _ _ _ _ _ r h => by simp [history_Same.j1] at h, fun _ _ _ _ _ _ _ _ _ _ _ r h => by simp [history_Same.l1] at h⟩
  | k + 1 => by
    obtain ⟨ih0, ih1, ih2⟩ := history_Same.mono_l k
    refine ⟨?_, ?_, ?_⟩
    · intro y0 y1 y2 y3
      unfold history_Same.l0
      repeat' first
      | (with_reducible exact ih0 _ _ _ _)
      | (with_reducible exact ih1 _ _ _ _ _ _ _ _ _ _ _ _ _)
      | (with_reducible exact ih2 _ _ _ _ _ _ _ _ _ _ _)
      | (with_reducible exact LeO.refl _)
      | (with_reducible exact LeO.none _)
      | (with_reducible refine LeO.ite ?_ ?_)
      | (with_reducible refine LeO.bind ?_ (fun _ => ?_))
      | exact ih0 _ _ _ _
      | exact ih1 _ _ _ _ _ _ _ _ _ _ _ _ _
      | exact ih2 _ _ _ _ _ _ _ _ _ _ _
      | exact LeO.none _
      | refine LeO.ite ?_ ?_
      | refine LeO.bind ?_ (fun _ => ?_)
    · intro y0 y1 y2 y3 y4 y5 y6 y7 y8 y9 y10 y11 y12
      unfold history_Same.j1
      repeat' first
      | (with_reducible exact ih0 _ _ _ _)
      | (with_reducible exact ih1 _ _ _ _ _ _ _ _ _ _ _ _ _)
      | (with_reducible exact ih2 _ _ _ _ _ _ _ _ _ _ _)
      | (with_reducible exact LeO.refl _)
      | (with_reducible exact LeO.none _)
      | (with_reducible refine LeO.ite ?_ ?_)
      | (with_reducible refine LeO.bind ?_ (fun _ => ?_))
      | exact ih0 _ _ _ _
      | exact ih1 _ _ _ _ _ _ _ _ _ _ _ _ _
      | exact ih2 _ _ _ _ _ _ _ _ _ _ _
      | exact LeO.none _
      | refine LeO.ite ?_ ?_
      | refine LeO.bind ?_ (fun _ => ?_)
    · intro y0 y1 y2 y3 y4 y5 y6 y7 y8 y9 y10
      unfold history_Same.l1
      repeat' first
      | (with_reducible exact ih0 _ _ _ _)
      | (with_reducible exact ih1 _ _ _ _ _ _ _ _ _ _ _ _ _)
      | (with_reducible exact ih2 _ _ _ _ _ _ _ _ _ _ _)
      | (with_reducible exact LeO.refl _)
      | (with_reducible exact LeO.none _)
      | (with_reducible refine LeO.ite ?_ ?_)
      | (with_reducible refine LeO.bind ?_ (fun _ => ?_))
      | exact ih0 _ _ _ _
      | exact ih1 _ _ _ _ _ _ _ _ _ _ _ _ _
      | exact ih2 _ _ _ _ _ _ _ _ _ _ _
      | exact LeO.none _
      | refine LeO.ite ?_ ?_
      | refine LeO.bind ?_ (fun _ => ?_)
theorem history_Same.mono : ∀ a0 a1 k, LeO (history_Same.f k a0 a1) (history_Same.f (k + 1) a0 a1) := by
  intro a0 a1 k
  obtain ⟨ih0, ih1, ih2⟩ := history_Same.mono_l k
  unfold history_Same.f
  repeat' first
      | (with_reducible exact ih0 _ _ _ _)
      | (with_reducible exact ih1 _ _ _ _ _ _ _ _ _ _ _ _ _)
      | (with_reducible exact ih2 _ _ _ _ _ _ _ _ _ _ _)
      | (with_reducible exact LeO.refl _)
      | (with_reducible exact LeO.none _)
      | (with_reducible refine LeO.ite ?_ ?_)
      | (with_reducible refine LeO.bind ?_ (fun _ => ?_))
      | exact ih0 _ _ _ _
      | exact ih1 _ _ _ _ _ _ _ _ _ _ _ _ _
      | exact ih2 _ _ _ _ _ _ _ _ _ _ _
      | exact LeO.none _
      | refine LeO.ite ?_ ?_
      | refine LeO.bind ?_ (fun _ => ?_)
end Go.Proofs.YtanofkgnjmegdaaDoor.Q
end
section
namespace Go.Proofs.YtanofkgnjmegdaaDoor.Script
open Go Go.Lib Go.RowKit Go.Proofs.YtanofkgnjmegdaaDoor Go.Proofs.YtanofkgnjmegdaaDoor.Hand Go.Proofs.YtanofkgnjmegdaaDoor.Plain Go.Proofs.YtanofkgnjmegdaaDoor.Hist Go.Proofs.YtanofkgnjmegdaaDoor.Row3 Go.Proofs.YtanofkgnjmegdaaDoorW.PrintWords
open Go.Proofs.YtanofkgnjmegdaaDoor.K (S38 S48 rd_T38 rd_T48)
theorem mkB_size (l : List UInt8) : (mkB l).size = l.length := ba_size l
theorem mkB_append (a b : List UInt8) : mkB a ++ mkB b = mkB (a ++ b) := ba_append a b
theorem right_wf {o : O3} (h : rightB o.w o.k o.v = true) : (0 ≤ o.k ∧ o.k ≤ 63) ∧ In31 o.v := by
  unfold rightB at h
  rw [decide_eq_true_iff] at h
  exact ⟨⟨h.1, by omega⟩, ⟨h.2.2.1, h.2.2.2.1⟩⟩
theorem textO_f {o : O3} (h : rightB o.w o.k o.v = true) : Q.op_Text.f o.w o.k o.v = some (mkB (lineO o)) := by
  obtain ⟨h1, h2⟩ := right_wf h
  obtain ⟨h2, h3⟩ := h2
  have hin : inI64 [o.k, o.v] = true := by unfold inI64; simp; omega
  have hj : ∀ c : UInt8, token_Join.f ⟨#[c]⟩ [o.k, o.v] = some (mkB (c :: tailL [o.k, o.v])) := by
    intro c
    unfold token_Join.f
    rw [if_pos ⟨by simp [ByteArray.size], hin⟩]
    rfl
  unfold Q.op_Text.f lineO opText
  cases o.w with
  | true => rw [if_pos rfl, hj]; rfl
  | false => rw [if_neg (by simp), hj]; rfl
theorem textL_cons (l : List UInt8) (ls : List (List UInt8)) : textL (l :: ls) = l ++ 10 :: textL ls := by simp [textL]
theorem textL_append (a b : List (List UInt8)) : textL (a ++ b) = textL a ++ textL b := by simp [textL]
theorem txn_l0 (ops : List O3) (hr : ∀ o ∈ ops, rightB o.w o.k o.v = true) (hn : ops.length ≤ 4611686018427387904) : ∀ (d j : Nat) (acc : List UInt8), j + d = ops.length → acc.length + (textL ((ops.drop j).map lineO)).length ≤ 4611686018427387904 →
    Ev (fun k => Q.txn_Text.l0 k (mkB acc) (ops.map ofO) (ops.length : Int) (j : Int)) (mkB (acc ++ textL ((ops.drop j).map lineO))) := by
  intro d
  induction d with
  | zero =>
    intro j acc hj hb
    refine Ev.step (f := fun _ => some (mkB acc)) (fun k => by rw [Q.txn_Text.l0]; rw [if_neg (by omega)]) ?_
    rw [List.drop_of_length_le (by omega)]
    simp only [List.map_nil, textL, List.flatMap_nil, List.append_nil]
    exact Ev.now _
  | succ d ih =>
    intro j acc hj hb
    have hlt : j < ops.length := by omega
    have hd : ops.drop j = ops[j] :: ops.drop (j + 1) := List.drop_eq_getElem_cons hlt
    rw [hd, List.map_cons, textL_cons] at hb ⊢
    have hr1 := hr ops[j] (List.getElem_mem hlt)
    simp only [List.length_append, List.length_cons] at hb
    refine Ev.step (f := fun k => Q.txn_Text.l0 k (mkB (acc ++ (lineO ops[j] ++ [10]))) (ops.map ofO) (ops.length : Int) ((j + 1 : Nat) : Int)) (fun k => ?_) ?_
    · rw [Q.txn_Text.l0]
      rw [if_pos (by omega), if_pos (by omega), if_pos (by rw [List.length_map]; omega), rdO_at ops j hlt, Hist.wrap_nat (x := j) (by omega)]
      show (Q.op_Text.f ops[j].w ops[j].k ops[j].v).bind _ = _
      rw [textO_f hr1, Option.bind_some, if_pos (by rw [mkB_size]; omega)]
      have e : mkB (lineO ops[j]) ++ (⟨#[10]⟩ : ByteArray) = mkB (lineO ops[j] ++ [10]) := mkB_append _ [10]
      rw [e, if_pos (by rw [mkB_size, mkB_size]; simp; omega), mkB_append]
    · have := ih (j + 1) (acc ++ (lineO ops[j] ++ [10])) (by omega) (by simp only [List.length_append, List.length_cons, List.length_nil]; omega)
      simp only [List.append_assoc, List.singleton_append] at this ⊢
      exact this
theorem txn_f (t : T4) (hn : NumT t) (hl : t.ops.length ≤ 4611686018427387904) (hb : (textL (linesOfT t)).length ≤ 4611686018427387904) : Ev (fun k => Q.txn_Text.f k t.s t.b t.c (t.ops.map ofO)) (mkB (textL (linesOfT t))) := by
  obtain ⟨⟨h1, h1'⟩, ⟨h2, h2'⟩, ⟨h3, h3'⟩, h4⟩ := hn
  have hin : inI64 [t.s, t.b, t.c] = true := by unfold inI64; simp; omega
  have hj : token_Join.f ⟨#[116, 120, 110]⟩ [t.s, t.b, t.c] = some (mkB (headL t.s t.b t.c)) := by
    unfold token_Join.f
    rw [if_pos ⟨by show 3 + 21 * 3 ≤ _; omega, hin⟩]
    rfl
  unfold linesOfT at hb ⊢
  rw [textL_cons] at hb ⊢
  simp only [List.length_append, List.length_cons] at hb
  refine Ev.congr (f := fun k => Q.txn_Text.l0 k (mkB (headL t.s t.b t.c ++ [10])) (t.ops.map ofO) (t.ops.length : Int) ((0 : Nat) : Int)) (fun k => ?_) ?_
  · unfold Q.txn_Text.f
    rw [hj, Option.bind_some, if_pos (by rw [mkB_size]; omega)]
    have e : mkB (headL t.s t.b t.c) ++ (⟨#[10]⟩ : ByteArray) = mkB (headL t.s t.b t.c ++ [10]) := mkB_append _ [10]
    rw [e, List.length_map]
    rfl
  · have := txn_l0 t.ops h4 hl t.ops.length 0 (headL t.s t.b t.c ++ [10]) (by omega) (by simp; omega)
    simp only [List.drop_zero, List.append_assoc, List.singleton_append] at this
    exact this
theorem le_text {t : T4} {h : List T4} (ht : t ∈ h) : (textL (linesOfT t)).length ≤ (textL (linesT h)).length := by
  induction h with
  | nil => cases ht
  | cons u h ih =>
    have e : linesT (u :: h) = linesOfT u ++ linesT h := by simp [linesT]
    rw [e, textL_append, List.length_append]
    rcases List.mem_cons.1 ht with rfl | ht
    · omega
    · have := ih ht; omega
theorem lines_le : ∀ ls : List (List UInt8), ls.length ≤ (textL ls).length
  | [] => Nat.zero_le _
  | l :: ls => by
    rw [textL_cons]
    have := lines_le ls
    simp
    omega
theorem print_l0 (h : List T4) (hn : ∀ t ∈ h, NumT t) (hb : (textL (linesT h)).length ≤ 2000000000) : ∀ (d j : Nat) (acc : List UInt8), j + d = h.length → acc.length + (textL (linesT (h.drop j))).length ≤ 2000000000 →
    Ev (fun k => Q.script_Print.l0 k (mkB acc) (h.map ofT) (h.length : Int) (j : Int)) (mkB (acc ++ textL (linesT (h.drop j)))) := by
  have hlen : h.length ≤ 2000000000 := by
    have h1 := linesT_length h
    have h2 := lines_le (linesT h)
    omega
  intro d
  induction d with
  | zero =>
    intro j acc hj hc
    refine Ev.step (f := fun _ => some (mkB acc)) (fun k => by rw [Q.script_Print.l0]; rw [if_neg (by omega)]) ?_
    rw [List.drop_of_length_le (by omega)]
    simp only [linesT, textL, List.flatMap_nil, List.append_nil]
    exact Ev.now _
  | succ d ih =>
    intro j acc hj hc
    have hlt : j < h.length := by omega
    have hd : h.drop j = h[j] :: h.drop (j + 1) := List.drop_eq_getElem_cons hlt
    have e : linesT (h[j] :: h.drop (j + 1)) = linesOfT h[j] ++ linesT (h.drop (j + 1)) := rfl
    rw [hd, e, textL_append] at hc ⊢
    rw [List.length_append] at hc
    have hm := List.getElem_mem hlt
    have hle := le_text hm
    have hops : h[j].ops.length ≤ 4611686018427387904 := by
      have h1 := lines_le (linesOfT h[j])
      have h2 : h[j].ops.length ≤ (linesOfT h[j]).length := by simp [linesOfT]
      omega
    refine Ev.step (f := fun k => (Q.txn_Text.f k h[j].s h[j].b h[j].c (h[j].ops.map ofO)).bind fun t => if (mkB acc).size + t.size ≤ 9223372036854775807 then Q.script_Print.l0 k (mkB acc ++ t) (h.map ofT) (h.length : Int) ((j + 1 : Nat) : Int) else none) (fun k => ?_) ?_
    · rw [Q.script_Print.l0]
      rw [if_pos (by omega), if_pos (by omega), if_pos (by rw [List.length_map]; omega), rdT_at h j hlt, Hist.wrap_nat (x := j) (by omega)]
      rfl
    · refine Ev.bind (txn_f h[j] (hn _ hm) hops (by omega)) ?_
      refine Ev.congr (f := fun k => Q.script_Print.l0 k (mkB (acc ++ textL (linesOfT h[j]))) (h.map ofT) (h.length : Int) ((j + 1 : Nat) : Int)) (fun k => ?_) ?_
      · rw [if_pos (by rw [mkB_size, mkB_size]; omega), mkB_append]
      · have := ih (j + 1) (acc ++ textL (linesOfT h[j])) (by omega) (by rw [List.length_append]; omega)
        simp only [List.append_assoc] at this
        exact this
theorem print_f (h : List T4) (hn : ∀ t ∈ h, NumT t) (hb : (textL (linesT h)).length ≤ 2000000000) : Ev (fun k => Q.script_Print.f k (h.map ofT)) (mkB (textL (linesT h))) := by
  unfold Q.script_Print.f
  rw [List.length_map]
  exact print_l0 h hn hb h.length 0 [] (by omega) (by simpa using hb)
theorem nlines_cut (a : ByteArray) : nlines a = (cutL 10 a.data.toList).map mkB := by
  rw [← splitB_cutL 10 a]
  exact (map_mkB _).symm
def linesP (a : ByteArray) : List ByteArray := (nlines a).dropLast
def parseF (a : ByteArray) : List T4 × Int × Int :=
  let r := linesF [] 0 (linesP a)
  if 0 < r.2 then ([], r.2, 1) else if endedB a = true then (if checkF r.1 = 0 then (r.1, 0, 0) else ([], 0, checkF r.1)) else ([], ((linesP a).length : Int) + 1, 1)
theorem linesP_le (a : ByteArray) : (linesP a).length ≤ a.size ∧ ∀ s ∈ linesP a, s.size ≤ a.size := by
  unfold linesP
  rw [nlines_cut]
  obtain ⟨h1, h2⟩ := cutL_len 10 a.data.toList
  have hs : a.data.toList.length = a.size := by simp
  refine ⟨by simp; omega, fun s hm => ?_⟩
  have hm := List.dropLast_subset _ hm
  obtain ⟨p, hp, rfl⟩ := List.mem_map.1 hm
  rw [mkB_size]
  have := h2 p hp
  omega
theorem lines_small (a : ByteArray) : (linesF [] 0 (linesP a)).1.length + countT (linesF [] 0 (linesP a)).1 ≤ a.size := by
  have hl := (linesP_le a).1
  rcases linesF_lines (linesP a) [] 0 (fun t ht => by cases ht) with ⟨_, h2, _⟩ | ⟨_, _, h3⟩
  · have := linesT_length (linesF [] 0 (linesP a)).1
    rw [h2] at this
    simp [linesT] at this
    omega
  · rw [h3]
    simp [countT]
theorem smallT {h : List T4} (h1 : h.length ≤ 4611686018427387904) (h2 : countT h ≤ 4611686018427387904) : Give.Small (h.map ofT) = true := by
  unfold Give.Small
  rw [toT_ofT_map, List.length_map]
  simp [h1, h2]
theorem parse_f' (a : ByteArray) (hs : a.size ≤ 1048576) (k : Nat) : Q.script_Parse.f k a = some ((parseF a).1.map ofT, (parseF a).2.1, (parseF a).2.2) := by
  obtain ⟨h1, h2⟩ := linesP_le a
  have h3 := lines_small a
  have e1 : token_Lines.f a = some (linesP a, endedB a) := by
    unfold token_Lines.f
    rw [if_pos (by omega)]
    rfl
  have e2 : Give.script_Lines.f k (linesP a) = some ((linesF [] 0 (linesP a)).1.map ofT, (linesF [] 0 (linesP a)).2) := by
    unfold Give.script_Lines.f
    rw [if_pos (by unfold Give.Fit; simp only [Bool.and_eq_true, decide_eq_true_eq, List.all_eq_true]; exact ⟨by omega, fun s hm => by have := h2 s hm; omega⟩)]
  have e3 : Give.history_Check.f k ((linesF [] 0 (linesP a)).1.map ofT) = some (checkF (linesF [] 0 (linesP a)).1) := by
    unfold Give.history_Check.f
    rw [if_pos (smallT (by omega) (by omega)), toT_ofT_map]
  unfold Q.script_Parse.f
  rw [if_neg (by omega), e1, Option.bind_some, e2, Option.bind_some]
  unfold parseF
  dsimp only
  by_cases c1 : 0 < (linesF [] 0 (linesP a)).2
  · rw [if_pos (show _ > (0 : Int) from c1), if_pos c1]
    rfl
  · rw [if_neg (show ¬ _ > (0 : Int) from c1), if_neg c1]
    by_cases c2 : endedB a = true
    · rw [if_pos c2, if_pos c2, e3, Option.bind_some]
      by_cases c3 : checkF (linesF [] 0 (linesP a)).1 = 0
      · rw [if_pos c3, if_pos c3]
      · rw [if_neg c3, if_neg c3]
        rfl
    · rw [if_neg c2, if_neg c2, Plain.wrap_id (by omega) (by omega)]
      rfl
theorem parse_long (a : ByteArray) (hs : 1048576 < a.size) (k : Nat) : Q.script_Parse.f k a = some ([], 0, 6) := by
  unfold Q.script_Parse.f
  rw [if_pos (by omega)]
theorem parse_text (h : List T4) (hc : checkF h = 0) (hn : ∀ t ∈ h, NumT t) : parseF (mkB (textL (linesT h))) = (h, 0, 0) := by
  have hcut : cutL 10 (mkB (textL (linesT h))).data.toList = linesT h ++ [[]] := cutL_lines 10 (linesT h) (line_free h)
  have hP : linesP (mkB (textL (linesT h))) = (linesT h).map mkB := by
    unfold linesP
    rw [nlines_cut, hcut]
    simp
  have hE : endedB (mkB (textL (linesT h))) = true := by
    unfold endedB
    rw [nlines_cut, hcut]
    simp only [List.map_append, List.map_cons, List.map_nil, List.getLastD_concat]
    rw [toList_data]
    rfl
  have hL : linesF [] 0 (linesP (mkB (textL (linesT h)))) = (h, 0) := by
    rw [hP]
    have := linesF_back [] h [] 0 hn
    rw [List.append_nil, List.nil_append] at this
    rw [this]
    rfl
  unfold parseF
  rw [hL, hE]
  dsimp only
  rw [if_neg (by omega), if_pos rfl, if_pos hc]
end Go.Proofs.YtanofkgnjmegdaaDoor.Script
end
section
namespace Go.Proofs.YtanofkgnjmegdaaDoor.Q
open Go.Proofs.YtanofkgnjmegdaaDoor Go.Proofs.YtanofkgnjmegdaaDoor.Hand Go.Proofs.YtanofkgnjmegdaaDoor.Give Go.Proofs.YtanofkgnjmegdaaDoor.K
open Go.RowKit Go.Proofs.YtanofkgnjmegdaaDoorW.PrintWords Go.Proofs.YtanofkgnjmegdaaDoorW.PrintLast Go.Proofs.YtanofkgnjmegdaaDoorW.PrintMore
attribute [local go_sem] max2_int min2_int max_two min_two max_three min_three max_four min_four   -- for this text's walks alone
set_option linter.unusedVariables false
set_option linter.unusedSimpArgs false
def burgagelaw07_ScriptParses.f (k : Nat) (a0 : ByteArray) : Option (Bool) := (burgagelaw07_speaks.f k).bind fun t250 => (if t250 = true then (if (a0.size : Int) > 3000 then (some true) else ((script_Parse.f k a0).bind fun bt251 => ((burgageref07_Parse.f k a0).bind fun bt256 => (if bt251.2.1 = bt256.2.1 then (if bt251.2.2 = bt256.2.2 then ((history_Same.f k bt251.1 bt256.1).bind fun t261 => (if t261 = true then (if bt251.2.2 = 0 then ((script_Print.f k bt251.1).bind fun t262 => (some (t262.toList == a0.toList))) else (some true)) else (some false))) else (some false)) else (some false))))) else (some false))
theorem burgagelaw07_ScriptParses.mono : ∀ a0 k, LeO (burgagelaw07_ScriptParses.f k a0) (burgagelaw07_ScriptParses.f (k + 1) a0) := by
  intro a0 k
  unfold burgagelaw07_ScriptParses.f
  repeat' first
      | (with_reducible exact burgagelaw07_speaks.mono _)
      | (with_reducible exact burgageref07_Parse.mono _ _)
      | (with_reducible exact history_Same.mono _ _ _)
      | (with_reducible exact script_Parse.mono _ _)
      | (with_reducible exact script_Print.mono _ _)
      | (with_reducible exact LeO.refl _)
      | (with_reducible exact LeO.none _)
      | (with_reducible refine LeO.ite ?_ ?_)
      | (with_reducible refine LeO.bind ?_ (fun _ => ?_))
      | exact burgagelaw07_speaks.mono _
      | exact burgageref07_Parse.mono _ _
      | exact history_Same.mono _ _ _
      | exact script_Parse.mono _ _
      | exact script_Print.mono _ _
      | exact LeO.none _
      | refine LeO.ite ?_ ?_
      | refine LeO.bind ?_ (fun _ => ?_)
def burgagelaw06_Big.l0 : Nat → Int → List (S38) → Int → Int → Option (Int)
  | 0, _, _, _, _ => none
  | k + 1, x3, x9, x10, x11 => if x11 < x10 then (if 0 ≤ x11 then (if x11 < (x9.length : Int) then (if (wrap64 (x3 + (((rd_T38 x9 x11).f3).length : Int))) > 1200 then (some 1) else (burgagelaw06_Big.l0 k (wrap64 (x3 + (((rd_T38 x9 x11).f3).length : Int))) x9 x10 (wrap64 (x11 + 1)))) else (none)) else (none)) else (some 0)
def burgagelaw06_Big.f (k : Nat) (l0 : List (S38)) : Option (Int) := if (l0.length : Int) > 100 then (some 1) else (burgagelaw06_Big.l0 k 0 l0 (l0.length : Int) 0)
theorem burgagelaw06_Big.mono_l : ∀ k, (∀ y0 y1 y2 y3, LeO (burgagelaw06_Big.l0 k y0 y1 y2 y3) (burgagelaw06_Big.l0 (k + 1) y0 y1 y2 y3))
  | 0 => fun _ _ _ _ r h => by simp [burgagelaw06_Big.l0] at h
  | k + 1 => by
    have ih0 := burgagelaw06_Big.mono_l k
    · intro y0 y1 y2 y3
      unfold burgagelaw06_Big.l0
      repeat' first
      | (with_reducible exact ih0 _ _ _ _)
      | (with_reducible exact LeO.refl _)
      | (with_reducible exact LeO.none _)
      | (with_reducible refine LeO.ite ?_ ?_)
      | (with_reducible refine LeO.bind ?_ (fun _ => ?_))
      | exact ih0 _ _ _ _
      | exact LeO.none _
      | refine LeO.ite ?_ ?_
      | refine LeO.bind ?_ (fun _ => ?_)
theorem burgagelaw06_Big.mono : ∀ a0 k, LeO (burgagelaw06_Big.f k a0) (burgagelaw06_Big.f (k + 1) a0) := by
  intro a0 k
  have ih0 := burgagelaw06_Big.mono_l k
  unfold burgagelaw06_Big.f
  repeat' first
      | (with_reducible exact ih0 _ _ _ _)
      | (with_reducible exact LeO.refl _)
      | (with_reducible exact LeO.none _)
      | (with_reducible refine LeO.ite ?_ ?_)
      | (with_reducible refine LeO.bind ?_ (fun _ => ?_))
      | exact ih0 _ _ _ _
      | exact LeO.none _
      | refine LeO.ite ?_ ?_
      | refine LeO.bind ?_ (fun _ => ?_)
def burgagelaw07_ScriptBack.j0 : Nat → List (S38) → Bool → Option (Bool)
  | 0, _, _ => none
  | k + 1, x0, x15 => if x15 = true then (some true) else ((script_Print.f k x0).bind fun t268 => ((script_Parse.f k t268).bind fun bt269 => (if bt269.2.2 = 0 then (if bt269.2.1 = 0 then ((history_Same.f k bt269.1 x0).bind fun t274 => (some t274)) else (some false)) else (some false))))
def burgagelaw07_ScriptBack.f (k : Nat) (l0 : List (S38)) : Option (Bool) := (burgagelaw07_speaks.f k).bind fun t265 => (if t265 = true then ((burgagelaw06_Big.f k l0).bind fun t266 => (if t266 = 1 then (burgagelaw07_ScriptBack.j0 k l0 true) else ((burgageref06_Check.f k l0).bind fun t267 => (burgagelaw07_ScriptBack.j0 k l0 (t267 != 0))))) else (some false))
theorem burgagelaw07_ScriptBack.mono_l : ∀ k, (∀ y0 y1, LeO (burgagelaw07_ScriptBack.j0 k y0 y1) (burgagelaw07_ScriptBack.j0 (k + 1) y0 y1))
  | 0 => fun _ _ r h => by simp [burgagelaw07_ScriptBack.j0] at h
  | k + 1 => by
    have ih0 := burgagelaw07_ScriptBack.mono_l k
    · intro y0 y1
      unfold burgagelaw07_ScriptBack.j0
      repeat' first
      | (with_reducible exact ih0 _ _)
      | (with_reducible exact burgagelaw06_Big.mono _ _)
      | (with_reducible exact burgagelaw07_speaks.mono _)
      | (with_reducible exact burgageref06_Check.mono _ _)
      | (with_reducible exact history_Same.mono _ _ _)
      | (with_reducible exact script_Parse.mono _ _)
      | (with_reducible exact script_Print.mono _ _)
      | (with_reducible exact LeO.refl _)
      | (with_reducible exact LeO.none _)
      | (with_reducible refine LeO.ite ?_ ?_)
      | (with_reducible refine LeO.bind ?_ (fun _ => ?_))
      | exact ih0 _ _
      | exact burgagelaw06_Big.mono _ _
      | exact burgagelaw07_speaks.mono _
      | exact burgageref06_Check.mono _ _
      | exact history_Same.mono _ _ _
      | exact script_Parse.mono _ _
      | exact script_Print.mono _ _
      | exact LeO.none _
      | refine LeO.ite ?_ ?_
      | refine LeO.bind ?_ (fun _ => ?_)
theorem burgagelaw07_ScriptBack.mono : ∀ a0 k, LeO (burgagelaw07_ScriptBack.f k a0) (burgagelaw07_ScriptBack.f (k + 1) a0) := by
  intro a0 k
  have ih0 := burgagelaw07_ScriptBack.mono_l k
  unfold burgagelaw07_ScriptBack.f
  repeat' first
      | (with_reducible exact ih0 _ _)
      | (with_reducible exact burgagelaw06_Big.mono _ _)
      | (with_reducible exact burgagelaw07_speaks.mono _)
      | (with_reducible exact burgageref06_Check.mono _ _)
      | (with_reducible exact history_Same.mono _ _ _)
      | (with_reducible exact script_Parse.mono _ _)
      | (with_reducible exact script_Print.mono _ _)
      | (with_reducible exact LeO.refl _)
      | (with_reducible exact LeO.none _)
      | (with_reducible refine LeO.ite ?_ ?_)
      | (with_reducible refine LeO.bind ?_ (fun _ => ?_))
      | exact ih0 _ _
      | exact burgagelaw06_Big.mono _ _
      | exact burgagelaw07_speaks.mono _
      | exact burgageref06_Check.mono _ _
      | exact history_Same.mono _ _ _
      | exact script_Parse.mono _ _
      | exact script_Print.mono _ _
      | exact LeO.none _
      | refine LeO.ite ?_ ?_
      | refine LeO.bind ?_ (fun _ => ?_)
end Go.Proofs.YtanofkgnjmegdaaDoor.Q
end
section
namespace Go.Proofs.YtanofkgnjmegdaaDoor.Script
open Go Go.Lib Go.RowKit Go.Proofs.YtanofkgnjmegdaaDoor Go.Proofs.YtanofkgnjmegdaaDoor.Hand Go.Proofs.YtanofkgnjmegdaaDoor.Plain Go.Proofs.YtanofkgnjmegdaaDoor.Hist Go.Proofs.YtanofkgnjmegdaaDoor.Row3 Go.Proofs.YtanofkgnjmegdaaDoorW.PrintWords
open Go.Proofs.YtanofkgnjmegdaaDoor.K (S38 S48 rd_T38 rd_T48)
def one3 : List T4 := [⟨0, 1, 2, [⟨true, 3, 5⟩]⟩]
theorem one3_text : mkB (textL (linesT one3)) = ⟨#[116, 120, 110, 32, 48, 32, 49, 32, 50, 10, 119, 32, 51, 32, 53, 10]⟩ := by
  have i : ∀ u : Nat, u < 10 → itoa (u : Int) = [UInt8.ofNat (48 + u)] := fun u hu => by rw [itoa_nat, decDigits_small hu]
  have i0 : itoa 0 = [48] := i 0 (by omega)
  have i1 : itoa 1 = [49] := i 1 (by omega)
  have i2 : itoa 2 = [50] := i 2 (by omega)
  have i3 : itoa 3 = [51] := i 3 (by omega)
  have i5 : itoa 5 = [53] := i 5 (by omega)
  unfold mkB textL linesT one3
  simp only [List.flatMap_cons, List.flatMap_nil, linesOfT, headL, lineO, opText, tailL, List.map_cons, List.map_nil, i0, i1, i2, i3, i5]
  rfl
theorem one3_check : checkF one3 = 0 := by decide
theorem one3_num : ∀ t ∈ one3, NumT t := by
  intro t ht
  simp [one3] at ht
  subst ht
  exact ⟨⟨by decide, by decide⟩, ⟨by decide, by decide⟩, ⟨by decide, by decide⟩, fun o ho => by simp at ho; subst ho; decide⟩
theorem speaks_f : Ev (fun k => Q.burgagelaw07_speaks.f k) true := by
  have p1 : parseF ⟨#[116, 120, 110, 32, 48, 32, 49, 32, 50, 10, 119, 32, 51, 32, 53, 10]⟩ = (one3, 0, 0) := by
    rw [← one3_text]
    exact parse_text one3 one3_check one3_num
  have p2 : parseF ⟨#[116, 120, 110, 32, 48, 32, 49, 32, 50, 10, 119, 32, 51, 10]⟩ = ([], 2, 1) := by
    have hl : linesP ⟨#[116, 120, 110, 32, 48, 32, 49, 32, 50, 10, 119, 32, 51, 10]⟩ = [mkB (headL 0 1 2), mkB [119, 32, 51]] := by
      have i : ∀ u : Nat, u < 10 → itoa (u : Int) = [UInt8.ofNat (48 + u)] := fun u hu => by rw [itoa_nat, decDigits_small hu]
      have i0 : itoa 0 = [48] := i 0 (by omega)
      have i1 : itoa 1 = [49] := i 1 (by omega)
      have i2 : itoa 2 = [50] := i 2 (by omega)
      unfold linesP
      rw [nlines_cut]
      unfold headL tailL
      simp only [List.flatMap_cons, List.flatMap_nil, i0, i1, i2]
      rfl
    have hw : ∀ n : Int, n ≠ 1 → wordsP (mkB [119, 32, 51]) n = (⟨#[]⟩, [], false) := by
      intro n hn
      unfold wordsP
      have hp : (pieces (mkB [119, 32, 51])).length = 2 := by rw [← pieces_cut]; rfl
      rw [if_neg (by rw [hp]; omega)]
    unfold parseF
    rw [hl]
    have hL : linesF [] 0 [mkB (headL 0 1 2), mkB [119, 32, 51]] = ([], 2) := by
      rw [linesF]
      unfold stepL
      rw [head_back ⟨by decide, by decide⟩ ⟨by decide, by decide⟩ ⟨by decide, by decide⟩]
      dsimp only
      rw [linesF]
      unfold stepL headP opP opParse
      rw [hw 3 (by omega), hw 2 (by omega)]
      rfl
    rw [hL]
    dsimp only
    rw [if_pos (by omega)]
  unfold Q.burgagelaw07_speaks.f
  have s1 : ByteArray.size ⟨#[116, 120, 110, 32, 48, 32, 49, 32, 50, 10, 119, 32, 51, 32, 53, 10]⟩ = 16 := rfl
  have s2 : ByteArray.size ⟨#[116, 120, 110, 32, 48, 32, 49, 32, 50, 10, 119, 32, 51, 10]⟩ = 14 := rfl
  refine Ev.congr (f := fun k => (Q.script_Print.f k (one3.map ofT)).bind fun t141 => if t141.toList = ([116, 120, 110, 32, 48, 32, 49, 32, 50, 10, 119, 32, 51, 32, 53, 10] : List UInt8) then some true else some false) (fun k => ?_) ?_
  · rw [parse_f' _ (by rw [s1]; omega), Option.bind_some, parse_f' _ (by rw [s2]; omega), Option.bind_some, p1, p2]
    rfl
  · refine Ev.bind (print_f one3 one3_num (by rw [← mkB_size, one3_text]; show 16 ≤ _; omega)) ?_
    rw [one3_text]
    refine Ev.congr (fun k => if_pos (by rw [toList_data])) (Ev.now _)
end Go.Proofs.YtanofkgnjmegdaaDoor.Script
end
section
namespace Go.Proofs.YtanofkgnjmegdaaDoor.Give
open Go Go.RowKit Go.Proofs.YtanofkgnjmegdaaDoor
def strings_Repeat.f (a0 : ByteArray) (a1 : Int) : Option ByteArray := if 0 ≤ a1 ∧ a1 ≤ 9223372036854775807 ∧ a0.size * a1.toNat ≤ 140737488355328 then some ⟨(Lib.repeatL a0.data.toList a1.toNat).toArray⟩ else none
theorem strings_Repeat.calls (a0 : ByteArray) (a1 : Int) (r : ByteArray) (w : World) (h : strings_Repeat.f a0 a1 = some r) (_HY : Laid w) :
    Calls Tryd.prog 13 #[.string a0, .int .i64 a1] w fun e w' => e = .returned (.string r) ∧ Below w.heap.size w w' := by
  unfold strings_Repeat.f at h
  split at h
  · rename_i hc
    cases h
    have := Tryd.strings_Repeat a0 a1.toNat w (by omega) hc.2.2
    rw [Int.toNat_of_nonneg hc.1] at this
    exact this
  · cases h
end Go.Proofs.YtanofkgnjmegdaaDoor.Give
end
section
namespace Go.Proofs.YtanofkgnjmegdaaDoor.Pure
open Go Go.Lib Go.RowKit Go.Proofs.YtanofkgnjmegdaaDoor Go.Proofs.YtanofkgnjmegdaaDoor.Hand Go.Proofs.YtanofkgnjmegdaaDoor.Plain Go.Proofs.YtanofkgnjmegdaaDoor.Hist Go.Proofs.YtanofkgnjmegdaaDoor.Row3 Go.Proofs.YtanofkgnjmegdaaDoor.Script Go.Proofs.YtanofkgnjmegdaaDoorW.PrintWords
theorem rep_spec (c : UInt8) (n : Nat) (h : n ≤ 140737488355328) : ∃ r, Give.strings_Repeat.f ⟨#[c]⟩ (n : Int) = some r ∧ r.size = n ∧ (0 < n → ∃ l, r.data.toList = c :: l) := by
  refine ⟨⟨(Lib.repeatL [c] n).toArray⟩, ?_, ?_, ?_⟩
  · unfold Give.strings_Repeat.f
    rw [Int.toNat_natCast, if_pos ⟨by omega, by omega, by show 1 * _ ≤ _; omega⟩]
  · show (Lib.repeatL [c] n).toArray.size = n
    simp [Lib.repeatL_length]
  · intro h0
    obtain ⟨m, rfl⟩ : ∃ m, n = m + 1 := ⟨n - 1, by omega⟩
    exact ⟨Lib.repeatL [c] m, by simp [Lib.repeatL]⟩
theorem parse_nl (a : ByteArray) (l : List UInt8) (h : a.data.toList = 10 :: l) : parseF a = ([], 1, 1) := by
  have hP : ∃ r, linesP a = mkB [] :: r := by
    unfold linesP
    rw [nlines_cut, h]
    obtain ⟨p, q, e⟩ : ∃ p q, cutL 10 l = p :: q := by
      cases e : cutL 10 l with
      | nil => exact absurd e (cutL_ne 10 l)
      | cons p q => exact ⟨p, q, rfl⟩
    have e2 : cutL 10 (10 :: l) = [] :: p :: q := by
      unfold cutL
      rw [if_pos rfl, e]
    rw [e2]
    exact ⟨((p :: q).map mkB).dropLast, rfl⟩
  obtain ⟨r, hr⟩ := hP
  have hs : stepL [] (mkB []) = none := by
    have hh : headP (mkB []) = none := by rfl
    unfold stepL
    rw [hh]
    dsimp only
    cases opP (mkB []) with
    | none => rfl
    | some o => exact if_pos rfl
  have hl : linesF [] 0 (linesP a) = ([], 1) := by
    rw [hr]
    unfold linesF
    rw [hs]
    rfl
  unfold parseF
  rw [hl]
  rfl
theorem parse_long (a : ByteArray) (h : 1048576 < a.size) (k : Nat) : Q.script_Parse.f k a = some ([], 0, 6) := by
  unfold Q.script_Parse.f
  rw [if_pos (by omega)]
end Go.Proofs.YtanofkgnjmegdaaDoor.Pure
namespace Go.Proofs.YtanofkgnjmegdaaDoor.Long
open Go Go.RowKit Go.Proofs.YtanofkgnjmegdaaDoor Go.Proofs.YtanofkgnjmegdaaDoor.Row3 Go.Proofs.YtanofkgnjmegdaaDoor.K Go.Proofs.YtanofkgnjmegdaaDoor.Hist Go.Proofs.YtanofkgnjmegdaaDoor.Script Go.Proofs.YtanofkgnjmegdaaDoorW.PrintWords
theorem speaks_calls (w : World) (HY : Laid w) : Calls Tryd.prog 6 #[] w fun e w' => e = .returned (.bool true) ∧ Below w.heap.size w w' := by
  obtain ⟨k, hk⟩ := speaks_f.rounds
  exact Q.burgagelaw07_speaks.calls k true w hk HY
theorem parse_any (a : ByteArray) (r1 : Int) (r2 : Int) (l : List S38) (h : ∃ k, Q.script_Parse.f k a = some (l, r1, r2)) (w : World) (HY : Laid w) :
    Calls Tryd.prog 7 #[.string a] w fun e w' => ∃ v : Value, e = .returned (.tuple #[v, .int .i64 r1, .int .i64 r2]) ∧ Below w.heap.size w w' := by
  obtain ⟨k, hk⟩ := h
  exact (Q.script_Parse.calls k a l r1 r2 w hk HY).mono fun e w' ⟨v, he, _, hb⟩ => ⟨v, he, hb⟩
set_option maxHeartbeats 2000000 in
set_option maxRecDepth 100000 in
theorem scriptLong_walk (a0 : ByteArray) (a1 : Int) (w : World) (w0 : a0.size ≤ 140737488351232) (w1 : (Lit.int .u8 a1).wf = true) (HY : Laid w) :
    Calls Tryd.prog 5 #[.string a0, .int .u8 a1] w fun e w' => e = .returned (.bool true) ∧ Below w.heap.size w w' := by
  have hu : 0 ≤ a1 ∧ a1 ≤ 255 := by
    simp [Lit.wf, IntKind.min, IntKind.max, IntKind.signed, IntKind.bits] at w1
    omega
  obtain ⟨hu0, hu1⟩ := hu
  clear w1
  have HYH := Lib.hid HY
  clear HY
  by_cases c1 : 1000 < a0.size
  · have d1 : decide (1000 < (a0.size : Int)) = true := decide_eq_true (by omega)
    have d2 : decide (1000 < a0.size) = true := decide_eq_true c1
    go_enter Tryd.func5, Tryd.ntmps5
    go_wp2_with (go_at_call 6; (with_reducible refine (speaks_calls _ HYH.out).mono ?_); rintro e w1 ⟨rfl, hb1⟩; have HB1 := Lib.hid hb1; clear hb1)
    go_ret
    exact ⟨rfl, HB1.out⟩
  · have c1' : a0.size ≤ 1000 := by omega
    have d1 : decide (1000 < (a0.size : Int)) = false := decide_eq_false (by omega)
    have d2 : decide (1000 < a0.size) = false := decide_eq_false c1
    by_cases c2 : 3 < a1
    · have d3 : decide (3 < a1) = true := decide_eq_true c2
      go_enter Tryd.func5, Tryd.ntmps5
      go_wp2_with (go_at_call 6; (with_reducible refine (speaks_calls _ HYH.out).mono ?_); rintro e w1 ⟨rfl, hb1⟩; have HB1 := Lib.hid hb1; clear hb1)
      go_ret
      exact ⟨rfl, HB1.out⟩
    · have d3 : decide (3 < a1) = false := decide_eq_false c2
      have c2' : a1 ≤ 3 := by omega
      clear c1 c2
      obtain ⟨n, hn⟩ : ∃ n : Nat, (n : Int) = 1048577 - (a0.size : Int) + a1 := ⟨(1048577 - (a0.size : Int) + a1).toNat, by omega⟩
      obtain ⟨r, hr, hrs, _⟩ := Pure.rep_spec 120 n (by omega)
      obtain ⟨q, hq, hqs, hql⟩ := Pure.rep_spec 10 1048576 (by omega)
      obtain ⟨ql, hql⟩ := hql (by omega)
      have hsz : 1048576 < (r ++ a0).size := by rw [ByteArray.size_append]; omega
      have P1 := Lib.hid (show ∃ k, Q.script_Parse.f k (r ++ a0) = some ([], 0, 6) from ⟨0, Pure.parse_long _ hsz 0⟩)
      have P2 := Lib.hid (show ∃ k, Q.script_Parse.f k q = some ([], 1, 1) from ⟨0, by rw [parse_f' q (by omega) 0, Pure.parse_nl q ql hql]; rfl⟩)
      rw [hn] at hr
      have HR := Lib.hid hr
      have HQ := Lib.hid (show Give.strings_Repeat.f ⟨#[10]⟩ 1048576 = some q from hq)
      have hb : r.size + a0.size ≤ 2000000 := by omega
      clear hr hq hqs hql hsz hn hrs
      go_enter Tryd.func5, Tryd.ntmps5
      go_wp2_with (go_at_call 6; (with_reducible refine (speaks_calls _ HYH.out).mono ?_); rintro e w1 ⟨rfl, hb1⟩; have HB1 := Lib.hid hb1; clear hb1; have HY1 := Lib.hid (HYH.out.below HB1.out))
      go_wp2_with (go_at_call 13; (with_reducible refine (Give.strings_Repeat.calls _ _ _ _ HR.out HY1.out).mono ?_); rintro e w2 ⟨rfl, hb2⟩; have HB2 := Lib.hid (HB1.out.trans (hb2.mono HB1.out.size)); clear hb2; have HY2 := Lib.hid (HYH.out.below HB2.out))
      go_wp2_with (go_at_call 7; (with_reducible refine (parse_any _ _ _ _ P1.out _ HY2.out).mono ?_); rintro e w3 ⟨v3, rfl, hb3⟩; have HB3 := Lib.hid (HB2.out.trans (hb3.mono HB2.out.size)); clear hb3; have HY3 := Lib.hid (HYH.out.below HB3.out))
      go_wp2_with (go_at_call 13; (with_reducible refine (Give.strings_Repeat.calls _ _ _ _ HQ.out HY3.out).mono ?_); rintro e w4 ⟨rfl, hb4⟩; have HB4 := Lib.hid (HB3.out.trans (hb4.mono HB3.out.size)); clear hb4; have HY4 := Lib.hid (HYH.out.below HB4.out))
      go_wp2_with (go_at_call 7; (with_reducible refine (parse_any _ _ _ _ P2.out _ HY4.out).mono ?_); rintro e w5 ⟨v5, rfl, hb5⟩; have HB5 := Lib.hid (HB4.out.trans (hb5.mono HB4.out.size)); clear hb5)
      go_ret
      exact ⟨rfl, HB5.out⟩
end Go.Proofs.YtanofkgnjmegdaaDoor.Long
end
