/- qr7 of this claim, joined by a program of this session: the zP that its theorem uses. -/
import Derived.Test.YtngkneknopenmaaZH0
import Derived.Test.YtngkneknopenmaaZH1
import Derived.Test.YtngkneknopenmaaZH2
import Derived.Test.YtngkneknopenmaaZH5
import Derived.Test.YtngkneknopenmaaZH7
import Derived.Test.YtngkneknopenmaaZH11
import Derived.Test.YtngkneknopenmaaZH12
import Derived.Test.YtngkneknopenmaaZH13
import Derived.Sort.OwnSortedInts
import Derived.Deep.DeepCutAuto
import Derived.Deep.RegionWith
import Derived.Test.YtngkneknopenmaaProg
import Derived.Below
import Derived.Deep.Draws
import Derived.Deep.AppendLies
import Derived.Maps.AppendAt
import Derived.OwnWalk
import Derived.Laws.BytesArg
import Derived.Laws.MakeOwn
import Derived.Laws.OwnMore
import Derived.Deep.OwnRows
import Derived.Tactics
import Derived.Lib.ConvBytes
import Derived.Laws.Slices
import Derived.WalkKit
import Derived.KernelRfl
import Derived.RowKit3
import Derived.Deep.LoopGhost
import Derived.Deep.QuietTactic
import Derived.BigQuiet
import Derived.WideLaws
import Derived.Deep.CutBlock
import Derived.Deep.RegionHeld3
import Derived.Laws.Rows
import Derived.Lib.AppendStr
import Derived.ArgAppend
import Derived.Laws.IdiomCopy
import Derived.OrdersHeld
import Derived.Laws.BitsLemmas
import Derived.RowKit
set_option linter.unusedVariables false
set_option linter.unusedSimpArgs false
namespace Go.Proofs.Ytngkneknopenmaa.za6
end Go.Proofs.Ytngkneknopenmaa.za6
section
namespace Go.Proofs.Ytngkneknopenmaa.Hist
open Go Go.RowKit Go.Proofs.Ytngkneknopenmaa.qb9 Go.Sort Go.Shelf
instance : Inhabited TR := ⟨⟨0, 0, 0, 0, 0, 0⟩⟩
theorem jF4 (r : TR) : (TR.cells r).length = 4 := rfl
theorem cells_one (r : TR) : ∀ v ∈ TR.cells r, v.oneCell' = true := by
 intro v hv
 simp [TR.cells] at hv
 rcases hv with rfl | rfl | rfl | rfl <;> rfl
theorem jp3 (rows : Array TR) : (flatK TR.cells 4 rows).toList = qj6 rows.toList := by
 apply List.ext_getElem (by simp [qv0])
 intro t h1 h2
 have ht : t < rows.size * 4 := by simpa using h1
 have hd : t / 4 < rows.size := by omega
 have e1 : (flatK TR.cells 4 rows).toList[t] = (TR.cells rows[t / 4]!)[t % 4]! := by
  rw [← get_flatK _ _ _ _ ht, Array.getElem_toList, getElem!_pos]
 rw [e1, getElem!_pos rows _ hd]
 obtain ⟨a, b, c, d⟩ := jh7 rows.toList [] (t / 4) rows[t / 4] (by rw [Array.getElem?_toList, Array.getElem?_eq_getElem hd])
 rw [List.append_nil] at a b c d
 obtain ⟨r, hr⟩ : ∃ r, rows[t / 4] = r := ⟨_, rfl⟩
 rw [hr] at a b c d ⊢
 have h4 : t % 4 < 4 := Nat.mod_lt _ (by omega)
 have htm : t = t / 4 * 4 + t % 4 := by omega
 have key : (qj6 rows.toList)[t]? = some (TR.cells r)[t % 4]! := by
  obtain ⟨m, hm⟩ : ∃ m, t % 4 = m := ⟨_, rfl⟩
  rw [hm] at htm h4 ⊢
  match m, h4 with
  | 0, _ => rw [htm, Nat.add_zero, a]; rfl
  | 1, _ => rw [htm, b]; rfl
  | 2, _ => rw [htm, c]; rfl
  | 3, _ => rw [htm, d]; rfl
 rw [List.getElem?_eq_getElem h2] at key
 exact (Option.some.inj key).symm
theorem jP8 {w : World} {g : Nat} {cur : Array Value} {e : TypeId} {D : Array Value} (hb : w.heap[g]? = some (.cells cur e (0, 0))) (ht : cur.toList.take D.size = D.toList) : Holds id w g 0 D := by
 intro j hj
 refine ⟨?_, by simp [World.frozen?, hb]⟩
 have h1 : (cur.toList.take D.size)[j]? = D.toList[j]? := by rw [ht]
 rw [List.getElem?_take_of_lt hj] at h1
 simp only [World.cell?, hb, Nat.zero_add]
 simp only [Option.isSome_none, Bool.false_eq_true, if_false]
 rw [← Array.getElem?_toList, h1]
 simp [hj]
theorem heap_put {w : World} {g n : Nat} {os : Array Obj} {cur : Array Value} {e : TypeId} {fr : Nat × Nat} (D : Array Value) (hb : w.heap[g]? = some (.cells cur e fr)) :
  (grow (putRow id (Sort.ahead w n) g 0 D) os).heap[g]? = some (.cells (putCells id 0 D cur) e fr) := by
 have hg : g < w.heap.size := (Array.getElem?_eq_some_iff.1 hb).1
 rw [heap_grow_old _ _ (by simpa using hg)]
 simp [putRow, mapBlock, Sort.ahead, Array.getElem?_modify, hb, onCells]
theorem zq2 {w : World} {g n : Nat} {os : Array Obj} (D : Array Value) : w.grownBy (grow (putRow id (Sort.ahead w n) g 0 D) os) (some g) := by
 refine ⟨rfl, rfl, rfl, by simp, fun k hk hne => ?_⟩
 rw [heap_grow_old _ _ (by simpa using hk)]
 have : g ≠ k := fun e => hne (by rw [e])
 simp [putRow, mapBlock, Sort.ahead, Array.getElem?_modify, this]
theorem zv8 (cur D : Array Value) (h : D.size ≤ cur.size) : (putCells id 0 D cur).toList.take D.size = D.toList := by
 apply List.ext_getElem?
 intro j
 by_cases hj : j < D.size
 ·rw [List.getElem?_take_of_lt hj, Array.getElem?_toList]
  simp [putCells, hj, show j < cur.size by omega]
 ·rw [List.getElem?_take_eq_none (by omega), List.getElem?_eq_none (by simp; omega)]
theorem ltB (x y : TR) : ltOf (fun x y : TR => Lib.compareInt x.b y.b) x y = decide (x.b < y.b) := by
 unfold ltOf Lib.compareInt
 by_cases h1 : x.b < y.b
 ·simp [h1]
 ·by_cases h2 : y.b < x.b <;> simp [h1, h2]
theorem swoB : SWO (ltOf fun x y : TR => Lib.compareInt x.b y.b) where
 irrefl x := by rw [ltB]; simp
 trans x y z h1 h2 := by rw [ltB] at *; simp at *; omega
 ntrans x y z h1 h2 := by rw [ltB] at *; simp at *; omega
set_option maxHeartbeats 1000000 in
theorem jx9 (x y : TR) (W : World) : Calls Try.prog 38 #[.agg x.cells.toArray, .agg y.cells.toArray] W fun e w' => e = .returned (.int .i64 (Lib.compareInt x.b y.b)) ∧ ∃ q os', w' = grow (W.drewN q) os' := by
 have hcon := fun W' => Try.cmp_Compare_int x.b y.b W'
 generalize Lib.compareInt x.b y.b = r at hcon ⊢
 have e1 : x.cells.toArray = #[.int .i64 x.s, .int .i64 x.b, .int .i64 x.c, .slice (some ⟨x.g, 0, none⟩) x.n x.cp] := rfl
 have e2 : y.cells.toArray = #[.int .i64 y.s, .int .i64 y.b, .int .i64 y.c, .slice (some ⟨y.g, 0, none⟩) y.n y.cp] := rfl
 rw [e1, e2]
 clear e1 e2
 go_enter Try.func38, Try.ntmps38
 go_wp2_with (go_at_call 39; refine (hcon _).mono ?_; rintro e w' ⟨rfl, rfl⟩)
 go_ret
 exact ⟨rfl, 0, _, by rw [alloc_eq_grow, alloc_eq_grow, grow_grow]; rfl⟩
theorem zI0 (w : World) : (isAgg 55).run Try.prog w = .ok true w := by kernel_rfl
theorem zv9 (w : World) : (Go.sizeOf 55).run Try.prog w = .ok 4 w := by kernel_rfl
set_option maxHeartbeats 1000000 in
theorem jy0 (g cap : Nat) (base : Nat) (rows : List TR) (hlen : rows.length ≤ 4611686018427387903) (w : World) (hown : w.ownsRow base 55 4 (.slice (some ⟨g, 0, none⟩) rows.length cap) rows.length (qj6 rows)) :
  Calls Try.prog 37 #[.slice (some ⟨g, 0, none⟩) rows.length cap, .func (.func 38) #[] #[]] w fun e w' =>
   e = .returned (.tuple #[]) ∧ ∃ rows' : List TR, rows'.Perm rows ∧ rows'.Pairwise (fun x y => x.b ≤ y.b) ∧ w'.ownsRow base 55 4 (.slice (some ⟨g, 0, none⟩) rows.length cap) rows.length (qj6 rows') ∧ w.grownBy w' (some g) := by
 by_cases h0 : rows.length = 0
 ·have hn := AnyF.slices_SortFunc_none Try.zj7 (some ⟨g, 0, none⟩) cap (.func (.func 38) #[] #[]) w
  rw [h0]
  refine hn.mono ?_
  rintro e w' ⟨rfl, rfl⟩
  exact ⟨rfl, rows, List.Perm.refl _, by rw [List.eq_nil_of_length_eq_zero h0]; exact .nil, by rw [h0] at hown; exact hown, below_grown (Below.refl _ _)⟩
 ·rcases hown.2 with ⟨h, _⟩ | ⟨g', cp, cur, he, hg, hh, h1, h2, h3, h4⟩
  ·cases h
  ·cases he
   have Qj9 : (flatK TR.cells 4 rows.toArray).toList = qj6 rows := jp3 rows.toArray
   have hsz : (flatK TR.cells 4 rows.toArray).size = rows.length * 4 := by simp
   have hH : HoldsK TR.cells 4 w g 0 rows.toArray := jP8 hh (by rw [hsz, h4, Qj9])
   have eg : ∀ args w, (callFunc 38 args).run Try.prog w = .ok (.enter 38 args) w := enters_of Try.func38 (by kernel_rfl) rfl
   have hcon := AnyQ.slices_SortFunc Try.zj7 4 zI0 zv9 TR.cells jF4 cells_one (fun x y => Lib.compareInt x.b y.b) swoB 38 #[] g 0 cap rows.toArray w eg (fun _ _ _ _ x y => jx9 x y _) hH (Array.getElem?_eq_some_iff.1 hh).1 (by simp; omega)
   have Qk0 : Calls Try.prog 37 #[.slice (some ⟨g, 0, none⟩) rows.length cap, .func (.func 38) #[] #[]] w _ := hcon
   refine Qk0.mono ?_
   rintro e w' ⟨rfl, d', n, os, hp, hs, rfl⟩
   obtain ⟨hp1, _, hp3⟩ := hp
   have hpl : d'.toList.Perm rows := by
    have e1 : d'.extract 0 rows.toArray.size = d' := by rw [← hp1]; simp
    have e2 : rows.toArray.extract 0 rows.toArray.size = rows.toArray := by simp
    rw [e1, e2] at hp3
    exact hp3
   have hfl' : (flatK TR.cells 4 d').toList = qj6 d'.toList := jp3 d'
   have hds : d'.size = rows.length := by rw [hp1]; simp
   have hsz' : (flatK TR.cells 4 d').size = rows.length * 4 := by simp [hds]
   refine ⟨rfl, d'.toList, hpl, ?_, ⟨by rw [qv0]; simp [hds], .inr ⟨g, cap, _, rfl, hg, heap_put _ hh, h1, h2, by simp [putCells, h3], ?_⟩⟩, zq2 _⟩
   ·rw [List.pairwise_iff_getElem]
    intro i j hi hj hij
    have hij2 := hs i j (Nat.zero_le _) hij (by rw [← hp1]; simpa using hj)
    rw [ltB, decide_eq_false_iff_not] at hij2
    have hi' : i < d'.size := by simpa using hi
    have hj' : j < d'.size := by simpa using hj
    rw [getElem!_pos d' i hi', getElem!_pos d' j hj'] at hij2
    simpa using hij2
   ·rw [← hfl', ← hsz']
    exact zv8 _ _ (by rw [hsz', h3]; exact Nat.mul_le_mul_right _ h1)
end Go.Proofs.Ytngkneknopenmaa.Hist
end
section
namespace Go.Proofs.Ytngkneknopenmaa.Hist
open Go Go.RowKit Go.Proofs.Ytngkneknopenmaa.qb9 Go.Proofs.Ytngkneknopenmaa.qj7 Go.Proofs.YtngkneknopenmaaW.PrintWords
def j5 (h : List T4) : List Int := h.flatMap fun t => [t.b, t.c]
theorem jF5 (h : List T4) (t : T4) : j5 (h ++ [t]) = j5 h ++ [t.b, t.c] := by simp [j5, List.flatMap_append]
theorem qp9 (h : List T4) : (j5 h).length = h.length * 2 := by
 induction h with
 | nil => rfl
 | cons t h ih =>
  have : j5 (t :: h) = [t.b, t.c] ++ j5 h := rfl
  rw [this, List.length_append, ih]
  simp
  omega
def qD4 (l : List Int) : List Int := l.mergeSort fun x y => decide (x ≤ y)
def qq0 : Nat → List Int → (Int → Option Int) → Int → Option Int
 | _, [], f => f
 | i, x :: l, f => qq0 (i + 1) l fun y => if y = x then some (i : Int) else f y
def places (l : List Int) : Int → Option Int := qq0 0 l fun _ => none
def qx5 (h : List T4) : Int → Option Int := places (qD4 (j5 h))
def jF6 (f : Int → Option Int) : Int → Option Value := fun x => (f x).map (Value.int .i64)
theorem zw0 (f : Int → Option Int) (x i : Int) : jF6 (fun y => if y = x then some i else f y) = upd (jF6 f) x (.int .i64 i) := by
 funext y
 unfold jF6 upd
 by_cases h : y = x <;> simp [h]
theorem jm2 : (Try.prog.info? 3).map (fun i => (i.zero, i.size, i.bytes)) = some (some (.int .i64 0), 1, 8) := by kernel_rfl
def Qk1 (h : List T4) (w : World) (x v : Value) (wr : World) : Prop :=
 ∃ i : Nat, i ≤ h.length ∧ v = .int .i64 ((i : Nat) : Int) ∧ wr.ownsRow w.heap.size 3 1 x (i * 2) ((j5 (h.take i)).map (Value.int .i64)) ∧ Below w.heap.size w wr
set_option maxHeartbeats 8000000 in
set_option maxRecDepth 100000 in
theorem jP9 (A : Option Addr) (cap : Nat) (h : List T4) (hlen : h.length ≤ 64) (hok : ∀ t ∈ h, OkS t) (w : World) (hr : RdT w A h) :
  Calls Try.prog 40 #[.slice A h.length cap] w fun e w' => ∃ b s, e = .returned (.map (some b)) ∧ IM Try.prog 3 w' b (jF6 (qx5 h)) s ∧ w.heap.size ≤ b ∧ Below w.heap.size w w' := by
 obtain ⟨n, hn⟩ : ∃ n, h.length = n := ⟨_, rfl⟩
 have HN := Lib.hid hn
 rw [hn] at hlen ⊢
 have HR := Lib.hid hr
 have HOK := Lib.hid hok
 clear hn hr hok
 have hmm := @run_makeMap Try.prog
 obtain ⟨i0, hii, hz0, hz1, hz2⟩ := info_parts jm2
 go_enter Try.func40, Try.ntmps40
 go_wp2_with fail
 go_loopw [3, 11] (fun x v wr => Qk1 h w x v wr) (fun _ v _ => n - (intOf v).toNat)
 case atStart => exact ⟨0, Nat.zero_le _, rfl, World.ownsRow_nil _ _ _ _, Below.refl _ _⟩
 case round =>
  obtain ⟨i, hi, rfl, hown, hb⟩ := hrel
  rw [HN.out] at hi
  by_cases hlt : i < n
  ·have hltz : (i : Int) < (n : Int) := by omega
   have hil : i < h.length := by rw [HN.out]; exact hlt
   obtain ⟨ad, rfl, hc⟩ := HR.out (by omega)
   obtain ⟨t, ht⟩ : ∃ t, h[i]? = some t := ⟨_, List.getElem?_eq_getElem hil⟩
   obtain ⟨A3, c3, t0, t1, t2, t3, hl3, hro⟩ := hc i t ht
   have hto : j5 (h.take (i + 1)) = j5 (h.take i) ++ [t.b, t.c] := by rw [List.take_add_one, ht]; exact jF5 _ _
   replace t0 := cell_below hb t0
   replace t1 := cell_below hb t1
   replace t2 := cell_below hb t2
   replace t3 := cell_below hb t3
   have HTO := Lib.hid hto
   have HB := Lib.hid hb
   have HOWN := Lib.hid hown
   have hbz := hb.size
   obtain ⟨m, hm⟩ : ∃ m, t.ops.length = m := ⟨_, rfl⟩
   rw [hm] at t3
   clear hc ht hro hil hm hto hb hown hl3
   have hsl : (j5 (h.take i)).length = i * 2 := by rw [qp9, List.length_take, HN.out]; omega
   go_wp2_with (at_builtin; refine wpList_append_own_at _ rfl _ _ 29 rfl w.heap.size 3 i0 (.int .i64 0) 1 8 Try.underlying29 hii hz0 hz1 hz2 rfl (by decide) _ (i * 2) ((j5 (h.take i)).map (Value.int .i64)) rfl ((HOWN.out.alloc _).alloc _) ⟨wr.heap.size + 1, 0, none⟩ 2 2 [.int .i64 t.b, .int .i64 t.c] rfl rfl ?c1 ?c2 (by unfold maxLen; omega) (by omega) (by simp; omega) ?_)
   case c1 =>
    intro j u hj
    have h := alloc_at (wr.alloc (.cells #[.int .i64 t.s, .int .i64 t.b, .int .i64 t.c, .slice A3 m c3] 55)) (.cells #[.int .i64 t.b, .int .i64 t.c] 3)
    rw [show (wr.alloc (.cells #[.int .i64 t.s, .int .i64 t.b, .int .i64 t.c, .slice A3 m c3] 55)).heap.size = wr.heap.size + 1 by simp] at h
    rw [add_zero, Lib.cell_of_heap h]
    simpa using hj
   case c2 =>
    intro u hu
    simp at hu
    rcases hu with rfl | rfl <;> rfl
   intro v8 w8 zj5 za5 zj6 zZ1
   have hb8 : Below w.heap.size w w8 := ((HB.out.alloc HB.out.size _).alloc (HB.out.alloc HB.out.size _).size _).grown za5 ((HB.out.alloc HB.out.size _).alloc (HB.out.alloc HB.out.size _).size _).size (fun j hj => (HOWN.out.lt j hj).1)
   clear za5 zj6 zZ1 t0 t1 t2 t3
   go_wp2_with fail
   go_roundw
   case rel => exact ⟨i + 1, by rw [HN.out]; omega, by go_num, by rw [HTO.out, List.map_append, Nat.add_mul]; exact zj5, hb8⟩
   case measure => (simp [intOf]; try omega)
  ·have hin : i = n := by omega
   subst hin
   rw [List.take_of_length_le (by rw [HN.out]; exact Nat.le_refl _)] at hown
   have hsl : (j5 h).length = i * 2 := by rw [qp9, HN.out]
   have hLl : (qD4 (j5 h)).length = i * 2 := by unfold qD4; rw [List.length_mergeSort, hsl]
   have hLm : ∀ x ∈ qD4 (j5 h), 0 ≤ x ∧ x ≤ 2147483647 := by
    intro x hx
    unfold qD4 at hx
    rw [List.mem_mergeSort] at hx
    unfold j5 at hx
    rw [List.mem_flatMap] at hx
    obtain ⟨t, ht, hx⟩ := hx
    obtain ⟨o1, o2, o3, o4, o5, o6⟩ := HOK.out t ht
    simp at hx
    rcases hx with rfl | rfl
    ·exact ⟨o3, o4⟩
    ·exact ⟨o5, o6⟩
   have hsort : Calls Try.prog 63 #[u3] wr fun e w' => e = .returned (.tuple #[]) ∧ w'.ownsRow w.heap.size 3 1 u3 (i * 2) ((qD4 (j5 h)).map (Value.int .i64)) ∧ wr.grownBy w' u3.ownBlock := by
    rcases hown.2 with ⟨rfl, h0⟩ | ⟨g, cp, cur, rfl, hg, hh, h1, h2, h3, h4⟩
    ·refine (Try.slices_Sort_int_none none 0 wr).mono ?_
     rintro e w' ⟨rfl, rfl⟩
     have hnil : j5 h = [] := List.eq_nil_of_length_eq_zero (by omega)
     refine ⟨rfl, ?_, below_grown (Below.refl _ _)⟩
     have hsn : qD4 [] = [] := by simp [qD4]
     rw [hnil] at hown ⊢
     rw [hsn]
     exact hown
    ·have hH := holds_of_blockI (ss := j5 h) hh (by rw [hsl]; simpa using h4)
     have hcon := Try.slices_Sort_int g 0 cp (j5 h) wr hH (Array.getElem?_eq_some_iff.1 hh).1 (by omega)
     rw [hsl] at hcon
     refine hcon.mono ?_
     rintro e w' ⟨rfl, k, os, rfl⟩
     refine ⟨rfl, ?_, grownBy_sortedI _⟩
     have := ownsRow_sortedI (os := os) (n := k) (ss := j5 h) (ts := qD4 (j5 h)) (by rw [hLl, hsl]) hg hh (by omega) h2 h3
     rw [hsl] at this
     exact this
   have hlow : ∀ j, u3.ownBlock = some j → w.heap.size ≤ j := fun j hj => (hown.lt j hj).1
   obtain ⟨A9, cp9, rfl, hA9⟩ : ∃ A9 cp9, u3 = .slice A9 (i * 2) cp9 ∧ (0 < i * 2 → ∃ g, A9 = some ⟨g, 0, none⟩) := by
    rcases hown.2 with ⟨rfl, h0⟩ | ⟨g, cp, cur, rfl, _⟩
    ·exact ⟨none, 0, by rw [h0], by omega⟩
    ·exact ⟨_, _, rfl, fun _ => ⟨g, rfl⟩⟩
   have HL := Lib.hid hLm
   have HLL := Lib.hid hLl
   have HS := Lib.hid hsort
   have HB := Lib.hid hb
   have HRF := Lib.hid (show qx5 h = places (qD4 (j5 h)) from rfl)
   clear hown hLm hLl hsort hb hsl hz0 hz1 hz2 hii
   generalize qD4 (j5 h) = L at HL HLL HS HRF
   go_wp2_with (go_at_call 63; (with_reducible refine HS.out.mono ?_); rintro e w5 ⟨rfl, hown5, hgr5⟩)
   have hb5 := HB.out.grown hgr5 HB.out.size hlow
   have qs3 := IM.made w5 Try.prog 3
   have hown6 := hown5.alloc (.map #[] 0)
   have hb6 := hb5.alloc hb5.size (.map #[] 0)
   have HBB := Lib.hid hb5.size
   clear hown5 hb5 hgr5 hmm HS HB hlow
   obtain ⟨b, hbb⟩ : ∃ b, w5.heap.size = b := ⟨_, rfl⟩
   rw [hbb] at qs3 HBB ⊢
   clear hbb
   go_loopw [28] (fun v wr => ∃ (j s : Nat) (f : Int → Option Int), j ≤ L.length ∧ v = .int .i64 ((j : Nat) : Int) ∧ s ≤ j ∧ IM Try.prog 3 wr b (jF6 f) s ∧ Below w.heap.size w wr ∧ wr.ownsRow w.heap.size 3 1 (.slice A9 (i * 2) cp9) (i * 2) (L.map (Value.int .i64)) ∧ qq0 j (L.drop j) f = places L) (fun v _ => i * 2 - (intOf v).toNat)
   case atStart => exact ⟨0, 0, fun _ => none, Nat.zero_le _, rfl, Nat.zero_le _, qs3, hb6, hown6, rfl⟩
   case round =>
    clear qs3 hb6 hown6
    obtain ⟨j, s, f, hj, rfl, hs, him, hb, hown, hpl⟩ := hrel
    rw [HLL.out] at hj
    have HIM := Lib.hid him
    clear him
    by_cases hlt : j < i * 2
    ·have hltz : (j : Int) < (i : Int) * 2 := by omega
     obtain ⟨g, rfl⟩ := hA9 (by omega)
     obtain ⟨x, hx⟩ : ∃ x, L[j]? = some x := ⟨_, List.getElem?_eq_getElem (by rw [HLL.out]; exact hlt)⟩
     have hcell : wr.cell? ⟨g, j, none⟩ = some (.int .i64 x) := by
      rw [hown.cellAt j (by omega)]
      simp [hx]
     have hxb := HL.out x (List.mem_of_getElem? hx)
     have HW := Lib.hid (qY9 (x := x) (by omega) (by omega))
     have hdr : L.drop j = x :: L.drop (j + 1) := by
      rw [List.drop_eq_getElem_cons (by rw [HLL.out]; exact hlt)]
      congr 1
      exact Option.some.inj ((List.getElem?_eq_getElem (by rw [HLL.out]; exact hlt)).symm.trans hx)
     rw [hdr] at hpl
     have HPL := Lib.hid (show qq0 (j + 1) (L.drop (j + 1)) (fun y => if y = x then some (j : Int) else f y) = places L from hpl)
     have hgne : g ≠ b := by
      rintro rfl
      have hh := HIM.out
      rcases hown.2 with ⟨h, _⟩ | ⟨g', cp, cur, he, hg, hh2, _⟩
      ·cases h
      ·cases he
       obtain ⟨D, ⟨es, clock, hb', _⟩, _⟩ := hh
       rw [hb'] at hh2
       cases hh2
     have HOWN := Lib.hid hown
     have HB := Lib.hid hb
     clear hx hdr hpl hown hb hxb
     go_wp2_with (at_mapUpdate; refine qf2 HIM.out rfl _ _ _ 34 3 rfl Try.underlying34 Try.underlying3 (by unfold maxLen; omega) rfl x (.int .i64 (j : Int)) rfl rfl HW.out ?_; intro w7 jo9 hg7)
     rw [← zw0] at jo9
     have hb7 := HB.out.grown hg7 HB.out.size (fun k hk => by cases hk; exact HBB.out)
     have jo7 := HOWN.out.kept hg7 (.inr (by simp [Value.ownBlock]; exact hgne))
     clear hg7 hcell HIM
     go_wp2_with fail
     go_roundw
     case rel => exact ⟨j + 1, _, _, by rw [HLL.out]; omega, by go_num, by split <;> omega, jo9, hb7, jo7, HPL.out⟩
     case measure => (simp [intOf]; try omega)
    ·have hji : j = i * 2 := by omega
     subst hji
     rw [List.drop_of_length_le (by rw [HLL.out]; exact Nat.le_refl _)] at hpl
     have HPL := Lib.hid hpl
     clear hpl
     go_wp2_with fail
     go_ret
     exact ⟨b, s, rfl, by rw [HRF.out, ← HPL.out]; exact HIM.out, HBB.out, hb⟩
end Go.Proofs.Ytngkneknopenmaa.Hist
end
section
namespace Go.Proofs.Ytngkneknopenmaa.Hist
open Go Go.RowKit Go.Proofs.Ytngkneknopenmaa.qb9 Go.Proofs.Ytngkneknopenmaa.qj7
def zU (l : List Int) (x : Int) : Nat := l.findIdx (· == x)
def zH (l : List Int) (x : Int) : List Int := if x ∈ l then l else l ++ [x]
theorem qS4 {l : List Int} {x : Int} (h : x ∈ l) : zU l x < l.length := List.findIdx_lt_length_of_exists ⟨x, h, by simp⟩
theorem qP5 {l : List Int} {x : Int} (h : x ∉ l) : zU (l ++ [x]) x = l.length := by
 unfold zU
 rw [List.findIdx_append]
 have : ¬ l.findIdx (· == x) < l.length := fun hh => by
  have := List.findIdx_getElem (w := hh)
  simp at this
  exact h (this ▸ List.getElem_mem hh)
 rw [if_neg this]
 simp
theorem qZ0 {l : List Int} {x y : Int} (h : x ∈ l) : zU (l ++ [y]) x = zU l x := by
 have hh := qS4 h
 unfold zU at hh ⊢
 rw [List.findIdx_append, if_pos hh]
def qn8 (first : Int) (l : List Int) : Int → Option Value := fun x => if x ∈ l then some (.int .i64 (first + (zU l x : Int))) else none
theorem jh8 (first : Int) (l : List Int) (x : Int) (h : x ∉ l) : qn8 first (l ++ [x]) = upd (qn8 first l) x (.int .i64 (first + (l.length : Int))) := by
 funext y
 unfold qn8 upd
 by_cases hy : y = x
 ·subst hy
  rw [if_pos (by simp), if_pos rfl, qP5 h]
 ·rw [if_neg hy]
  show _ = if y ∈ l then _ else none
  by_cases hl : y ∈ l
  ·rw [if_pos (by simp [hl]), if_pos hl, qZ0 hl]
  ·rw [if_neg (by simp [hl, hy]), if_neg hl]
def NM (w : World) (p : Nat) (m : Option Nat) (first : Int) (l : List Int) : Prop :=
 w.heap[p]? = some (.cells #[.map m, .int .i64 first] 77 (0, 0)) ∧ (m = none → l = []) ∧ ∀ b, m = some b → IM Try.prog 3 w b (qn8 first l) l.length
def Trn (w w' : World) (S : Nat → Prop) : Prop := w'.os = w.os ∧ w'.tape = w.tape ∧ w'.output = w.output ∧ w.heap.size ≤ w'.heap.size ∧ ∀ k, k < w.heap.size → ¬ S k → w'.heap[k]? = w.heap[k]?
theorem Trn.qy8 {w w' : World} {row : Option Nat} (h : w.grownBy w' row) : Trn w w' (fun k => row = some k) :=
 ⟨h.os, h.tape, h.output, h.size, fun k hk hn => h.block k hk (fun e => hn e.symm)⟩
theorem Trn.of_below {w w' : World} {S : Nat → Prop} (h : Below w.heap.size w w') : Trn w w' S := ⟨h.os, h.tape, h.output, h.size, fun k hk _ => h.block k hk⟩
theorem Trn.trans {a b c : World} {S T : Nat → Prop} (h : Trn a b S) (k : Trn b c T) : Trn a c (fun x => S x ∨ T x) :=
 ⟨k.1.trans h.1, k.2.1.trans h.2.1, k.2.2.1.trans h.2.2.1, Nat.le_trans h.2.2.2.1 k.2.2.2.1, fun x hx hn => (k.2.2.2.2 x (by have := h.2.2.2.1; omega) (fun e => hn (.inr e))).trans (h.2.2.2.2 x hx (fun e => hn (.inl e)))⟩
theorem Trn.mono {a b : World} {S T : Nat → Prop} (h : Trn a b S) (k : ∀ x, x < a.heap.size → S x → T x) : Trn a b T :=
 ⟨h.1, h.2.1, h.2.2.1, h.2.2.2.1, fun x hx hn => h.2.2.2.2 x hx (fun e => hn (k x hx e))⟩
theorem Trn.size {a b : World} {S : Nat → Prop} (h : Trn a b S) : a.heap.size ≤ b.heap.size := h.2.2.2.1
theorem Trn.block {a b : World} {S : Nat → Prop} (h : Trn a b S) {k : Nat} (hk : k < a.heap.size) (hn : ¬ S k) : b.heap[k]? = a.heap[k]? := h.2.2.2.2 k hk hn
theorem Trn.below {w a b : World} {S : Nat → Prop} (hb : Below w.heap.size w a) (h : Trn a b S) (hS : ∀ k, S k → w.heap.size ≤ k) : Below w.heap.size w b := by
 refine ⟨h.1.trans hb.os, h.2.1.trans hb.tape, h.2.2.1.trans hb.output, Nat.le_trans hb.size h.size, fun k hk => (h.block (by have := hb.size; omega) (fun e => ?_)).trans (hb.block k hk)⟩
 have := hS k e
 omega
theorem look_nil (w : World) (x : Int) : (Instr.lookup 34 (.map none) (.int .i64 x) true).run Try.prog w = .ok (.tuple #[.int .i64 0, .bool false]) w := by
 have h1 : Instr.findNow (.int .i64) (.int .i64 x) ([] : List MapEntry) 0 = some none := rfl
 have hz : (zeroValue 3).run Try.prog w = .ok (.int .i64 0) w := by kernel_rfl
 have hk : MapKept.IsKey (.int .i64) (.int .i64 x) := by simp [MapKept.IsKey]
 simp [Instr.lookup, run_underlying Try.underlying34, MapKept.run_checkKey Try.underlying3 hk, MapKept.run_findKey Try.underlying3 h1, hz, Result.andThen]
theorem eq_nil (w : World) : (binOp BinOp.eql 34 (.map none) (.map none)).run Try.prog w = .ok (.bool true) w := by kernel_rfl
theorem zI1 (w : World) (b : Nat) : (binOp BinOp.eql 34 (.map (some b)) (.map none)).run Try.prog w = .ok (.bool false) w := by kernel_rfl
set_option maxHeartbeats 8000000 in
set_option maxRecDepth 100000 in
theorem qV3 (p : Nat) (m : Option Nat) (first : Int) (l : List Int) (x : Int) (hx : 0 ≤ x ∧ x ≤ 2147483647) (hf : 0 ≤ first ∧ first ≤ 1) (hl : l.length ≤ 5000) (hmp : m ≠ some p) (w : World) (hn : NM w p m first l) :
  Calls Try.prog 41 #[.pointer (some ⟨p, 0, none⟩), .int .i64 x] w fun e w' => e = .returned (.int .i64 (first + (zU (zH l x) x : Int))) ∧
   ∃ m', NM w' p m' first (zH l x) ∧ (m' = m ∨ ∃ b, m' = some b ∧ w.heap.size ≤ b) ∧ Trn w w' (fun k => k = p ∨ m = some k) := by
 obtain ⟨hp, hm0, hm1⟩ := hn
 have hmm := @run_makeMap Try.prog
 have c0 := Lib.cell_of_heap hp 0
 have c1 := Lib.cell_of_heap hp 1
 have f0 := Lib.frozen_of_heap hp 0
 simp only [List.getElem?_toArray, List.getElem?_cons_zero, List.getElem?_cons_succ] at c0 c1
 have HW := Lib.hid (qY9 (x := x) (by omega) (by omega))
 cases m with
 | none =>
  obtain rfl := hm0 rfl
  clear hm0 hm1
  have hpl := (Array.getElem?_eq_some_iff.1 hp).1
  have hln := look_nil w x
  have heq := eq_nil w
  go_enter Try.func41, Try.ntmps41
  go_wp2_with fail
  obtain ⟨b, hb⟩ : ∃ b, w.heap.size = b := ⟨_, rfl⟩
  have hpb : p < b := by omega
  have hsz4 : (w.setCell ⟨p, 0, none⟩ (.map (some b))).heap.size = b := by simp [hb]
  have hp4 := qa5 w p 0 _ _ _ (.map (some b)) hp
  simp only [List.setIfInBounds_toArray, List.set_cons_zero] at hp4
  have hbe := (Below.refl (w.setCell ⟨p, 0, none⟩ (.map (some b))).heap.size (w.setCell ⟨p, 0, none⟩ (.map (some b)))).alloc (Nat.le_refl _) (.map #[] 0)
  have hp5 := (hbe.block p (by rw [hsz4]; exact hpb)).trans hp4
  have qs3 : IM Try.prog 3 ((w.setCell ⟨p, 0, none⟩ (.map (some b))).alloc (.map #[] 0)) b (qn8 first []) 0 := by
   have := IM.made (w.setCell ⟨p, 0, none⟩ (.map (some b))) Try.prog 3
   rw [hsz4] at this
   exact this
  have ht5 := (Trn.qy8 (zV w p 0 (.map (some b)))).trans (Trn.of_below (S := fun _ => False) hbe)
  rw [hb]
  clear hmm hln heq c0 c1 f0 hbe hp4
  obtain ⟨W, hW⟩ : ∃ W, (w.setCell ⟨p, 0, none⟩ (.map (some b))).alloc (.map #[] 0) = W := ⟨_, rfl⟩
  rw [hW] at hp5 qs3 ht5 ⊢
  clear hW
  have c0 := Lib.cell_of_heap hp5 0
  have c1 := Lib.cell_of_heap hp5 1
  simp only [List.getElem?_toArray, List.getElem?_cons_zero, List.getElem?_cons_succ] at c0 c1
  have qI1 : IM Try.prog 3 W.drew b (qn8 first []) 0 := qs3.below ((Below.refl _ _).drew)
  have hln := qI1.len Try.underlying34
  obtain ⟨w6, hrun, jo9, hg7⟩ := qI1.store Try.underlying34 Try.underlying3 (by unfold maxLen; omega) HW.out (.int .i64 first)
  have hp7 := (hg7.block p (by rw [World.size_drew]; exact (Array.getElem?_eq_some_iff.1 hp5).1) (by intro e; injection e; omega)).trans hp5
  have ht7 := (ht5.trans (Trn.of_below (S := fun _ => False) (Below.refl _ W).drew)).trans (Trn.qy8 hg7)
  have zw1 : IM Try.prog 3 w6 b (qn8 first [x]) 1 := by
   have := jh8 first [] x (by simp)
   rw [List.nil_append] at this
   rw [this]
   simpa [qn8] using jo9
  go_region
  clear hrun hln qs3 qI1 jo9 hg7 ht5 c0 c1
  have c0 := Lib.cell_of_heap hp7 0
  simp only [List.getElem?_toArray, List.getElem?_cons_zero] at c0
  go_wp2_with (at_lookup; refine zD zw1 rfl _ _ 34 3 false rfl Try.underlying34 Try.underlying3 (.int .i64 0) (fun _ => by kernel_rfl) rfl x rfl HW.out (.int .i64 first) (by simp [qn8, zU]) ?_)
  go_ret
  have e1 : zH [] x = [x] := by simp [zH]
  have e2 : zU [x] x = 0 := by simp [zU]
  refine ⟨by rw [e1, e2]; simp, some b, ⟨hp7, by simp, fun c hc => by cases hc; rw [e1]; exact zw1⟩, .inr ⟨b, rfl, by omega⟩, ht7.mono ?_⟩
  rintro k hk (((e | e) | e) | e)
  ·injection e with e; exact .inl e.symm
  ·exact e.elim
  ·exact e.elim
  ·injection e with e; omega
 | some b =>
  have him := hm1 b rfl
  have HIM := Lib.hid him
  have hbp : b ≠ p := fun e => hmp (by rw [e])
  have heq := zI1 w b
  have hpl := (Array.getElem?_eq_some_iff.1 hp).1
  clear hm0 hm1 him
  by_cases hxl : x ∈ l
  ·have HV := Lib.hid (show (if true = true then (.tuple #[(qn8 first l x).getD (.int .i64 0), .bool (qn8 first l x).isSome] : Value) else (qn8 first l x).getD (.int .i64 0)) = .tuple #[.int .i64 (first + (zU l x : Int)), .bool true] by simp [qn8, hxl])
   have HV2 := Lib.hid (show (if false = true then (.tuple #[(qn8 first l x).getD (.int .i64 0), .bool (qn8 first l x).isSome] : Value) else (qn8 first l x).getD (.int .i64 0)) = .int .i64 (first + (zU l x : Int)) by simp [qn8, hxl])
   go_enter Try.func41, Try.ntmps41
   go_wp2_with (first
    | (at_lookup; refine zD HIM.out rfl _ _ 34 3 true rfl Try.underlying34 Try.underlying3 (.int .i64 0) (fun _ => by kernel_rfl) rfl x rfl HW.out _ HV.out ?_)
    | (at_lookup; refine zD HIM.out rfl _ _ 34 3 false rfl Try.underlying34 Try.underlying3 (.int .i64 0) (fun _ => by kernel_rfl) rfl x rfl HW.out _ HV2.out ?_))
   go_ret
   have e1 : zH l x = l := by simp [zH, hxl]
   exact ⟨by rw [e1]; rfl, some b, ⟨hp, by simp, fun c hc => by cases hc; rw [e1]; exact HIM.out⟩, .inl rfl, Trn.of_below (Below.refl _ _)⟩
  ·have HV := Lib.hid (show (if true = true then (.tuple #[(qn8 first l x).getD (.int .i64 0), .bool (qn8 first l x).isSome] : Value) else (qn8 first l x).getD (.int .i64 0)) = .tuple #[.int .i64 0, .bool false] by simp [qn8, hxl])
   have qI1 : IM Try.prog 3 w.drew b (qn8 first l) l.length := HIM.out.below ((Below.refl _ _).drew)
   have hln := qI1.len Try.underlying34
   obtain ⟨n, hnl⟩ : ∃ n, l.length = n := ⟨_, rfl⟩
   have HNL := Lib.hid hnl
   rw [hnl] at hln hl qI1
   obtain ⟨w6, hrun, jo9, hg7⟩ := qI1.store Try.underlying34 Try.underlying3 (by unfold maxLen; omega) HW.out (.int .i64 (first + (n : Int)))
   have hp7 := (hg7.block p (by rw [World.size_drew]; exact hpl) (by intro e; injection e; omega)).trans hp
   have ht7 := (Trn.of_below (S := fun _ => False) (Below.refl _ w).drew).trans (Trn.qy8 hg7)
   have e1 : zH l x = l ++ [x] := by simp [zH, hxl]
   have zw1 : IM Try.prog 3 w6 b (qn8 first (l ++ [x])) (l.length + 1) := by
    rw [jh8 first l x hxl, hnl]
    simpa [qn8, hxl] using jo9
   have hnv : qn8 first (l ++ [x]) x = some (.int .i64 (first + (n : Int))) := by
    rw [jh8 first l x hxl, hnl]
    unfold upd
    rw [if_pos rfl]
   have HIM8 := Lib.hid zw1
   have HNV := Lib.hid hnv
   clear qI1 jo9 zw1 hnl hnv
   go_enter Try.func41, Try.ntmps41
   go_wp2_with (at_lookup; refine zD HIM.out rfl _ _ 34 3 true rfl Try.underlying34 Try.underlying3 (.int .i64 0) (fun _ => by kernel_rfl) rfl x rfl HW.out _ HV.out ?_)
   go_region
   clear hrun hln c0 c1 hg7
   have c0 := Lib.cell_of_heap hp7 0
   simp only [List.getElem?_toArray, List.getElem?_cons_zero] at c0
   go_wp2_with (at_lookup; refine zD HIM8.out rfl _ _ 34 3 false rfl Try.underlying34 Try.underlying3 (.int .i64 0) (fun _ => by kernel_rfl) rfl x rfl HW.out (.int .i64 (first + (n : Int))) (by rw [HNV.out]; rfl) ?_)
   go_ret
   refine ⟨by rw [e1, qP5 hxl, HNL.out]; rfl, some b, ⟨hp7, by simp, fun c hc => by cases hc; rw [e1, List.length_append]; exact HIM8.out⟩, .inl rfl, ht7.mono ?_⟩
   rintro k hk (e | e)
   ·exact e.elim
   ·exact .inr e
end Go.Proofs.Ytngkneknopenmaa.Hist
end
section
namespace Go.Proofs.Ytngkneknopenmaa.Hist
open Go Go.RowKit Go.Proofs.Ytngkneknopenmaa.qb9 Go.Proofs.Ytngkneknopenmaa.qj7
def names (l : List Int) : List Int := l.foldl zH []
theorem qq1 (l : List Int) (x : Int) : names (l ++ [x]) = zH (names l) x := by simp [names, List.foldl_append]
theorem qI2 {l : List Int} {x y : Int} : y ∈ zH l x ↔ y ∈ l ∨ y = x := by
 unfold zH
 split
 ·rename_i h
  exact ⟨.inl, fun e => e.elim id (fun e => e ▸ h)⟩
 ·simp
theorem zq3 {l : List Int} : ∀ {acc : List Int} {y : Int}, y ∈ l.foldl zH acc ↔ y ∈ acc ∨ y ∈ l := by
 induction l with
 | nil => simp
 | cons x l ih =>
  intro acc y
  rw [List.foldl_cons, ih, qI2, List.mem_cons, or_assoc]
theorem qc8 {l : List Int} {y : Int} : y ∈ names l ↔ y ∈ l := by unfold names; rw [zq3]; simp
theorem zq4 {l : List Int} {x y : Int} (h : y ∈ l) : zU (zH l x) y = zU l y := by
 unfold zH
 split
 ·rfl
 ·exact qZ0 h
theorem qS5 {r : List Int} : ∀ {l : List Int} {y : Int}, y ∈ l → zU (r.foldl zH l) y = zU l y := by
 induction r with
 | nil => intro l y _; rfl
 | cons x r ih =>
  intro l y h
  rw [List.foldl_cons, ih (qI2.2 (.inl h)), zq4 h]
theorem jh9 {l r : List Int} {y : Int} (h : y ∈ l) : zU (names (l ++ r)) y = zU (names l) y := by
 have := qS5 (r := r) (l := names l) (qc8.2 h)
 unfold names at this ⊢
 rw [List.foldl_append]
 exact this
theorem jF7 (l : List Int) (x : Int) : (zH l x).length ≤ l.length + 1 := by unfold zH; split <;> simp
theorem jF8 {l : List Int} : ∀ acc : List Int, (l.foldl zH acc).length ≤ acc.length + l.length := by
 induction l with
 | nil => intro acc; simp
 | cons x l ih =>
  intro acc
  have := ih (zH acc x)
  have := jF7 acc x
  simp only [List.foldl_cons, List.length_cons]
  omega
theorem qg2 (l : List Int) : (names l).length ≤ l.length := by have := jF8 (l := l) []; simpa [names] using this
def qk1 (ops : List O3) : List Int := ops.map (·.k)
def qf4 (ops : List O3) : List Int := (ops.filter fun o => decide (o.v ≠ 0)).map (·.v)
def jL (l : List T4) : List Int := l.flatMap fun t => qk1 t.ops
def zB (l : List T4) : List Int := l.flatMap fun t => qf4 t.ops
def zI (l : List T4) : List Int := l.map (·.s)
def qC0 (KK VV : List Int) (o : O3) : O3 := ⟨o.w, (zU KK o.k : Int), if o.v = 0 then 0 else 1 + (zU VV o.v : Int)⟩
def qV4 (SS KK VV : List Int) (R : Int → Int) (t : T4) : T4 := ⟨(zU SS t.s : Int), R t.b, R t.c, t.ops.map (qC0 KK VV)⟩
def qD5 (R : Int → Int) (l : List T4) : List T4 := l.map (qV4 (names (zI l)) (names (jL l)) (names (zB l)) R)
theorem jA7 (xs : List O3) (rest : List Value) : ∀ (i : Nat) (o : O3) (k : Int), xs[i]? = some o → (flat xs ++ rest).set (i * 3 + 1) (.int .i64 k) = flat (xs.set i { o with k := k }) ++ rest := by
 induction xs with
 | nil => intro i o k h; simp at h
 | cons x xs ih =>
  intro i o k h
  have e : flat (x :: xs) ++ rest = .bool x.w :: .int .i64 x.k :: .int .i64 x.v :: (flat xs ++ rest) := rfl
  rw [e]
  cases i with
  | zero => simp at h; subst h; rfl
  | succ i =>
   have e1 : (i + 1) * 3 + 1 = i * 3 + 1 + 1 + 1 + 1 := by omega
   rw [e1]
   simp only [List.set_cons_succ]
   rw [ih i o k (by simpa using h)]
   rfl
theorem jA8 (xs : List O3) (rest : List Value) : ∀ (i : Nat) (o : O3) (v : Int), xs[i]? = some o → (flat xs ++ rest).set (i * 3 + 2) (.int .i64 v) = flat (xs.set i { o with v := v }) ++ rest := by
 induction xs with
 | nil => intro i o k h; simp at h
 | cons x xs ih =>
  intro i o v h
  have e : flat (x :: xs) ++ rest = .bool x.w :: .int .i64 x.k :: .int .i64 x.v :: (flat xs ++ rest) := rfl
  rw [e]
  cases i with
  | zero => simp at h; subst h; rfl
  | succ i =>
   have e1 : (i + 1) * 3 + 2 = i * 3 + 2 + 1 + 1 + 1 := by omega
   rw [e1]
   simp only [List.set_cons_succ]
   rw [ih i o v (by simpa using h)]
   rfl
structure CS (w : World) (base B : Nat) (rest : List Value) (rows : List TR) (hs : List T4) (P : Nat → Nat) (M : Nat → Option Nat) (F : Nat → Int) (L : Nat → List Int) (bR sR : Nat) (fR : Int → Option Int) : Prop where
 row : w.heap[B]? = some (.cells (qj6 rows ++ rest).toArray 55 (0, 0))
 says : qd1 w base rows hs
 nm : ∀ c, c < 3 → NM w (P c) (M c) (F c) (L c)
 rk : IM Try.prog 3 w bR (jF6 fR) sR
 loB : base ≤ B
 loP : ∀ c, c < 3 → base ≤ P c
 loM : ∀ c k, c < 3 → M c = some k → base ≤ k
 apP : ∀ c d, c < 3 → d < 3 → c ≠ d → P c ≠ P d
 apM : ∀ c d k, c < 3 → d < 3 → c ≠ d → M c = some k → M d ≠ some k
 apR : ∀ c, c < 3 → M c ≠ some bR
variable {w w' : World} {base B bR sR : Nat} {rest : List Value} {rows : List TR} {hs : List T4} {P : Nat → Nat} {M : Nat → Option Nat} {F : Nat → Int} {L : Nat → List Int} {fR : Int → Option Int}
theorem qV5 {b s : Nat} {f : Int → Option Value} (h : IM Try.prog 3 w b f s) : ∃ es clock, w.heap[b]? = some (.map es clock) := by
 obtain ⟨D, ⟨es, clock, hb, _⟩, _⟩ := h
 exact ⟨es, clock, hb⟩
theorem NM.move {p : Nat} {m : Option Nat} {first : Int} {l : List Int} {S : Nat → Prop} (h : NM w p m first l) (ht : Trn w w' S) (hp : ¬ S p) (hm : ∀ k, m = some k → ¬ S k) : NM w' p m first l :=
 ⟨(ht.block (Array.getElem?_eq_some_iff.1 h.1).1 hp).trans h.1, h.2.1, fun b e => (h.2.2 b e).move (ht.block (h.2.2 b e).lt (hm b e))⟩
theorem qd1.trn {S : Nat → Prop} (hs' : qd1 w base rows hs) (ht : Trn w w' S) (hne : ∀ r ∈ rows, ¬ S r.g) : qd1 w' base rows hs :=
 ⟨hs'.1, fun i r t hr ht' => (hs'.2.1 i r t hr ht').move (ht.block (by obtain ⟨_, _, _, _, _, _, h⟩ := hs'.2.1 i r t hr ht'; exact h.lt) (hne r (List.mem_of_getElem? hr))), hs'.2.2⟩
theorem CS.jp4 (h : CS w base B rest rows hs P M F L bR sR fR) {r : TR} (hr : r ∈ rows) : ∃ cs, w.heap[r.g]? = some (.cells cs 51 (0, 0)) := by
 obtain ⟨i, hi⟩ := List.mem_iff_getElem?.1 hr
 have hil := (List.getElem?_eq_some_iff.1 hi).1
 obtain ⟨_, _, _, _, _, _, rst, g, _⟩ := h.says.2.1 i r _ hi (List.getElem?_eq_getElem (by rw [← h.says.1]; exact hil))
 exact ⟨_, g⟩
theorem CS.move {S : Nat → Prop} (h : CS w base B rest rows hs P M F L bR sR fR) (ht : Trn w w' S) (hB : ¬ S B) (hg : ∀ r ∈ rows, ¬ S r.g) (hp : ∀ c, c < 3 → ¬ S (P c) ∧ ∀ k, M c = some k → ¬ S k) (hR : ¬ S bR) : CS w' base B rest rows hs P M F L bR sR fR where
 row := (ht.block (Array.getElem?_eq_some_iff.1 h.row).1 hB).trans h.row
 says := h.says.trn ht hg
 nm := fun c hc => (h.nm c hc).move ht (hp c hc).1 (hp c hc).2
 rk := h.rk.move (ht.block h.rk.lt hR)
 loB := h.loB
 loP := h.loP
 loM := h.loM
 apP := h.apP
 apM := h.apM
 apR := h.apR
theorem CS.below (h : CS w base B rest rows hs P M F L bR sR fR) (hb : Below w.heap.size w w') : CS w' base B rest rows hs P M F L bR sR fR :=
 h.move (Trn.of_below (S := fun _ => False) hb) id (fun _ _ => id) (fun _ _ => ⟨id, fun _ _ => id⟩) id
theorem CS.name (h : CS w base B rest rows hs P M F L bR sR fR) (hb : base ≤ w.heap.size) (c : Nat) (hc : c < 3) (x : Int) {m' : Option Nat} (hn : NM w' (P c) m' (F c) (zH (L c) x)) (hm : m' = M c ∨ ∃ b, m' = some b ∧ w.heap.size ≤ b) (ht : Trn w w' (fun k => k = P c ∨ M c = some k)) :
  CS w' base B rest rows hs P (fun d => if d = c then m' else M d) F (fun d => if d = c then zH (L c) x else L d) bR sR fR := by
 obtain ⟨esR, clR, hR⟩ := qV5 h.rk
 have hmap : ∀ d k, d < 3 → M d = some k → ∃ es clock, w.heap[k]? = some (.map es clock) := fun d k hd e => qV5 ((h.nm d hd).2.2 k e)
 have hmlt : ∀ d k, d < 3 → M d = some k → k < w.heap.size := fun d k hd e => ((h.nm d hd).2.2 k e).lt
 have hB : ¬ (B = P c ∨ M c = some B) := by
  rintro (e | e)
  ·have h1 := h.row
   rw [e, (h.nm c hc).1] at h1
   simp at h1
  ·obtain ⟨es, cl, h2⟩ := hmap c B hc e
   have h1 := h.row
   rw [h2] at h1
   cases h1
 have hg : ∀ r ∈ rows, ¬ (r.g = P c ∨ M c = some r.g) := by
  intro r hr
  obtain ⟨cs, h1⟩ := h.jp4 hr
  rintro (e | e)
  ·rw [e, (h.nm c hc).1] at h1
   simp at h1
  ·obtain ⟨es, cl, h2⟩ := hmap c _ hc e
   rw [h2] at h1
   cases h1
 have hR2 : ¬ (bR = P c ∨ M c = some bR) := by
  rintro (e | e)
  ·rw [e, (h.nm c hc).1] at hR
   cases hR
  ·exact h.apR c hc e
 have hpm : ∀ d k, d < 3 → M d = some k → k ≠ P c := by
  intro d k hd e e2
  obtain ⟨es, cl, h2⟩ := hmap d k hd e
  rw [e2, (h.nm c hc).1] at h2
  cases h2
 constructor
 ·exact (ht.block (Array.getElem?_eq_some_iff.1 h.row).1 hB).trans h.row
 ·exact h.says.trn ht hg
 ·intro d hd
  by_cases e : d = c
  ·subst e
   simpa using hn
  ·simp only [if_neg e]
   refine (h.nm d hd).move ht ?_ ?_
   ·rintro (e2 | e2)
    ·exact h.apP d c hd hc e e2
    ·exact hpm c _ hc e2 (by
      obtain ⟨es, cl, h2⟩ := hmap c _ hc e2
      rw [(h.nm d hd).1] at h2
      cases h2)
   ·rintro k hk (e2 | e2)
    ·exact hpm d k hd hk e2
    ·exact h.apM d c k hd hc e hk e2
 ·exact h.rk.move (ht.block h.rk.lt hR2)
 ·exact h.loB
 ·exact h.loP
 ·intro d k hd e
  by_cases e2 : d = c
  ·simp only [if_pos e2] at e
   rcases hm with hm | ⟨b, hm, hlo⟩
   ·exact h.loM c k hc (by rw [← hm]; exact e)
   ·rw [hm] at e
    cases e
    omega
  ·simp only [if_neg e2] at e
   exact h.loM d k hd e
 ·exact h.apP
 ·intro d e k hd he hne
  by_cases h1 : d = c
  ·have h2 : e ≠ c := fun h2 => hne (h1.trans h2.symm)
   simp only [if_pos h1, if_neg h2]
   intro hk hk2
   rcases hm with hm | ⟨b, hm, hlo⟩
   ·rw [hm] at hk
    exact h.apM e c k he hc h2 hk2 hk
   ·rw [hm] at hk
    cases hk
    have := hmlt e _ he hk2
    omega
  ·simp only [if_neg h1]
   by_cases h2 : e = c
   ·simp only [if_pos h2]
    intro hk hk2
    rcases hm with hm | ⟨b, hm, hlo⟩
    ·rw [hm] at hk2
     exact h.apM d c k hd hc h1 hk hk2
    ·rw [hm] at hk2
     cases hk2
     have := hmlt d _ hd hk
     omega
   ·simp only [if_neg h2]
    exact h.apM d e k hd he hne
 ·intro d hd
  by_cases e2 : d = c
  ·simp only [if_pos e2]
   rcases hm with hm | ⟨b, hm, hlo⟩
   ·rw [hm]; exact h.apR c hc
   ·rw [hm]
    intro e
    cases e
    have := h.rk.lt
    omega
  ·simp only [if_neg e2]
   exact h.apR d hd
theorem CS.sep (h : CS w base B rest rows hs P M F L bR sR fR) : (∀ r ∈ rows, r.g ≠ B) ∧ (∀ c, c < 3 → P c ≠ B ∧ ∀ k, M c = some k → k ≠ B) ∧ bR ≠ B ∧ ∀ r ∈ rows, (∀ c, c < 3 → P c ≠ r.g ∧ ∀ k, M c = some k → k ≠ r.g) ∧ bR ≠ r.g := by
 have hmap : ∀ d k, d < 3 → M d = some k → ∃ es clock, w.heap[k]? = some (.map es clock) := fun d k hd e => qV5 ((h.nm d hd).2.2 k e)
 obtain ⟨esR, clR, hR⟩ := qV5 h.rk
 have hrow := h.row
 refine ⟨fun r hr e => ?_, fun c hc => ⟨fun e => ?_, fun k hk e => ?_⟩, fun e => ?_, fun r hr => ⟨fun c hc => ⟨fun e => ?_, fun k hk e => ?_⟩, fun e => ?_⟩⟩
 ·obtain ⟨cs, h1⟩ := h.jp4 hr
  rw [e, hrow] at h1
  simp at h1
 ·have h1 := (h.nm c hc).1
  rw [e, hrow] at h1
  simp at h1
 ·obtain ⟨es, cl, h1⟩ := hmap c k hc hk
  rw [e, hrow] at h1
  cases h1
 ·rw [e, hrow] at hR
  cases hR
 ·obtain ⟨cs, h1⟩ := h.jp4 hr
  have h2 := (h.nm c hc).1
  rw [e, h1] at h2
  simp at h2
 ·obtain ⟨cs, h1⟩ := h.jp4 hr
  obtain ⟨es, cl, h2⟩ := hmap c k hc hk
  rw [e, h1] at h2
  cases h2
 ·obtain ⟨cs, h1⟩ := h.jp4 hr
  rw [e, h1] at hR
  cases hR
theorem zq5 {l : List TR} {i : Nat} {r r' : TR} (h : l[i]? = some r) (e : r'.g = r.g) : (l.set i r').map (·.g) = l.map (·.g) := by
 rw [List.map_set, e]
 refine List.ext_getElem? fun j => ?_
 rw [List.getElem?_set]
 split
 ·rename_i hj
  subst hj
  obtain ⟨hi, hl⟩ := List.getElem?_eq_some_iff.1 h
  simp [hi, hl]
 ·rfl
def jF9 (w : World) (B i : Nat) (s b c : Int) : World := ((w.setCell ⟨B, i * 4, none⟩ (.int .i64 s)).setCell ⟨B, i * 4 + 1, none⟩ (.int .i64 b)).setCell ⟨B, i * 4 + 2, none⟩ (.int .i64 c)
theorem qZ1 (w : World) (B i : Nat) (s b c : Int) : w.grownBy (jF9 w B i s b c) (some B) :=
 World.grownBy.trans (World.grownBy.trans (zV _ _ _ _) (zV _ _ _ _)) (zV _ _ _ _)
theorem CS.zZ2 (h : CS w base B rest rows hs P M F L bR sR fR) {i : Nat} {r : TR} {t : T4} (hr : rows[i]? = some r) (ht : hs[i]? = some t) (s b c : Int) :
  CS (jF9 w B i s b c) base B rest (rows.set i { r with s := s, b := b, c := c }) (hs.set i { t with s := s, b := b, c := c }) P M F L bR sR fR := by
 have hg := Trn.qy8 (qZ1 w B i s b c)
 obtain ⟨a1, a2, a3, a4⟩ := h.sep
 have ho : CS (jF9 w B i s b c) base B rest rows hs P M F L bR sR fR ∨ True := .inr trivial
 constructor
 ·unfold jF9
  rw [qa5 _ _ _ _ _ _ _ (qa5 _ _ _ _ _ _ _ (qa5 _ _ _ _ _ _ _ h.row)), ← zq0 rows rest i r s b c hr]
  simp
 ·have hs1 := h.says.trn hg (fun x hx e => a1 x hx (by injection e with e; exact e.symm))
  refine ⟨by simp [hs1.1], fun j x y hx hy => ?_, by rw [zq5 (r' := { r with s := s, b := b, c := c }) hr rfl]; exact hs1.2.2⟩
  rw [List.getElem?_set] at hx hy
  by_cases hj : i = j
  ·subst hj
   rw [if_pos rfl, if_pos (List.getElem?_eq_some_iff.1 hr).1] at hx
   rw [if_pos rfl, if_pos (List.getElem?_eq_some_iff.1 ht).1] at hy
   cases hx
   cases hy
   obtain ⟨b1, b2, b3, b4, b5, b6, b7⟩ := hs1.2.1 i r t hr ht
   exact ⟨rfl, rfl, rfl, b4, b5, b6, b7⟩
  ·rw [if_neg hj] at hx hy
   exact hs1.2.1 j x y hx hy
 ·exact fun c hc => (h.nm c hc).move hg (fun e => (a2 c hc).1 (by injection e with e; exact e.symm)) (fun k hk e => (a2 c hc).2 k hk (by injection e with e; exact e.symm))
 ·exact h.rk.move (hg.block h.rk.lt (fun e => a3 (by injection e with e; exact e.symm)))
 ·exact h.loB
 ·exact h.loP
 ·exact h.loM
 ·exact h.apP
 ·exact h.apM
 ·exact h.apR
theorem CS.jQ0 (h : CS w base B rest rows hs P M F L bR sR fR) {i a : Nat} {v : Value} {r : TR} {t : T4} {ops' : List O3} (hr : rows[i]? = some r) (ht : hs[i]? = some t) (hl : ops'.length = t.ops.length)
  (hf : ∀ rst, (flat t.ops ++ rst).set a v = flat ops' ++ rst) : CS (w.setCell ⟨r.g, a, none⟩ v) base B rest rows (hs.set i { t with ops := ops' }) P M F L bR sR fR := by
 have hg := Trn.qy8 (zV w r.g a v)
 have hrm := List.mem_of_getElem? hr
 obtain ⟨a1, a2, a3, a4⟩ := h.sep
 obtain ⟨c1, c2⟩ := a4 r hrm
 constructor
 ·exact (hg.block (Array.getElem?_eq_some_iff.1 h.row).1 (fun e => a1 r hrm (by injection e))).trans h.row
 ·refine ⟨by simp [h.says.1], fun k x y hx hy => ?_, h.says.2.2⟩
  rw [List.getElem?_set] at hy
  by_cases hk : i = k
  ·subst hk
   rw [if_pos rfl, if_pos (List.getElem?_eq_some_iff.1 ht).1] at hy
   cases hy
   rw [hr] at hx
   cases hx
   obtain ⟨b1, b2, b3, b4, b5, b6, rst, b7, b8, b9⟩ := h.says.2.1 i r t hr ht
   refine ⟨b1, b2, b3, by rw [b4]; exact hl.symm, b5, b6, rst, ?_, by rw [← hf rst, List.length_set]; exact b8, b9⟩
   have h7 : w.heap[r.g]? = some (.cells (flat t.ops ++ rst).toArray 51 (0, 0)) := b7
   unfold RW
   rw [qa5 _ _ _ _ _ _ _ h7, ← hf rst]
   simp
  ·rw [if_neg hk] at hy
   have hne : x.g ≠ r.g := by
    intro e
    have hnd := List.pairwise_iff_getElem.1 h.says.2.2
    obtain ⟨hkl, hkx⟩ := List.getElem?_eq_some_iff.1 hx
    obtain ⟨hil, hir⟩ := List.getElem?_eq_some_iff.1 hr
    rcases Nat.lt_or_gt_of_ne hk with hlt | hlt
    ·exact hnd i k (by simpa using hil) (by simpa using hkl) hlt (by simp [hkx, hir, e])
    ·exact hnd k i (by simpa using hkl) (by simpa using hil) hlt (by simp [hkx, hir, e])
   exact (h.says.2.1 k x y hx hy).move (hg.block (by obtain ⟨_, _, _, _, _, _, g⟩ := h.says.2.1 k x y hx hy; exact g.lt) (fun e => hne (by injection e with e; exact e.symm)))
 ·exact fun c hc => (h.nm c hc).move hg (fun e => (c1 c hc).1 (by injection e with e; exact e.symm)) (fun k hk e => (c1 c hc).2 k hk (by injection e with e; exact e.symm))
 ·exact h.rk.move (hg.block h.rk.lt (fun e => c2 (by injection e with e; exact e.symm)))
 ·exact h.loB
 ·exact h.loP
 ·exact h.loM
 ·exact h.apP
 ·exact h.apM
 ·exact h.apR
end Go.Proofs.Ytngkneknopenmaa.Hist
end
section
namespace Go.Proofs.Ytngkneknopenmaa.Hist
open Go Go.RowKit Go.Proofs.Ytngkneknopenmaa.qb9
def jO (l : List Int) (x : Int) : Nat := l.countP fun y => decide (y < x)
theorem qP6 : ∀ (l : List Int) (i : Nat) (f : Int → Option Int) (x : Int), x ∉ l → qq0 i l f x = f x
 | [], _, _, _, _ => rfl
 | y :: l, i, f, x, h => by
  simp only [List.mem_cons, not_or] at h
  unfold qq0
  rw [qP6 l (i + 1) _ x h.2, if_neg h.1]
theorem qF4 : ∀ (l : List Int) (i : Nat) (f : Int → Option Int) (x : Int), l.Pairwise (· < ·) → x ∈ l → qq0 i l f x = some ((i + jO l x : Nat) : Int)
 | [], _, _, _, _, h => by cases h
 | y :: l, i, f, x, hp, h => by
  obtain ⟨h1, h2⟩ := List.pairwise_cons.1 hp
  unfold qq0
  by_cases hx : x ∈ l
  ·rw [qF4 l (i + 1) _ x h2 hx]
   have := h1 x hx
   unfold jO
   rw [List.countP_cons, if_pos (by simpa using this)]
   congr 1
   omega
  ·have hxy : x = y := by
    rcases List.mem_cons.1 h with e | e
    ·exact e
    ·exact absurd e hx
   subst hxy
   rw [qP6 l _ _ x hx, if_pos rfl]
   have h0 : jO (x :: l) x = 0 := by
    unfold jO
    rw [List.countP_eq_zero]
    intro z hz
    simp only [decide_eq_true_eq]
    rcases List.mem_cons.1 hz with e | e
    ·omega
    ·have := h1 z e
     omega
   rw [h0]
   rfl
theorem jG0 (l : List Int) (hn : l.Nodup) : (qD4 l).Pairwise (· < ·) := by
 have hs : (qD4 l).Pairwise fun x y => decide (x ≤ y) = true := List.pairwise_mergeSort (fun a b c h1 h2 => by simp at *; omega) (fun a b => by simp; omega) l
 have hn2 : (qD4 l).Nodup := (List.mergeSort_perm l _).nodup_iff.2 hn
 have := hs.and hn2
 exact this.imp fun ⟨h1, h2⟩ => by simp at h1; omega
theorem jQ1 {h : List T4} (hn : (j5 h).Nodup) {x : Int} (hx : x ∈ j5 h) : qx5 h x = some (jO (j5 h) x : Int) := by
 unfold qx5 places
 rw [qF4 _ 0 _ x (jG0 _ hn) ((List.mergeSort_perm _ _).mem_iff.2 hx), Nat.zero_add]
 have := (List.mergeSort_perm (j5 h) fun x y => decide (x ≤ y)).countP_eq (fun y => decide (y < x))
 unfold jO qD4
 rw [this]
theorem jp5 : ∀ {h : List T4}, (∀ t ∈ h, qd6 t = true) → h.Pairwise qu9 → (j5 h).Nodup
 | [], _, _ => by simp [j5]
 | t :: h, hr, hp => by
  obtain ⟨h1, h2⟩ := List.pairwise_cons.1 hp
  have e : j5 (t :: h) = [t.b, t.c] ++ j5 h := rfl
  have ih := jp5 (fun u hu => hr u (by simp [hu])) h2
  have hlt := jp0 (hr t (by simp))
  rw [e, List.nodup_append]
  refine ⟨by simp; omega, ih, fun a ha b hb => ?_⟩
  unfold j5 at hb
  rw [List.mem_flatMap] at hb
  obtain ⟨u, hu, hb⟩ := hb
  have hpu := h1 u hu
  simp at ha hb
  rcases ha with rfl | rfl <;> rcases hb with rfl | rfl
  ·exact hpu.1
  ·exact hpu.2.1
  ·exact hpu.2.2.1
  ·exact hpu.2.2.2.1
theorem qd8 {h : List T4} {t : T4} (ht : t ∈ h) : t.b ∈ j5 h ∧ t.c ∈ j5 h := by
 unfold j5
 rw [List.mem_flatMap, List.mem_flatMap]
 exact ⟨⟨t, ht, by simp⟩, ⟨t, ht, by simp⟩⟩
theorem qs5 {l l' : List T4} (hp : l.Perm l') (h1 : l.Pairwise fun x y => x.b ≤ y.b) (h2 : l'.Pairwise fun x y => x.b ≤ y.b) (hd : ∀ x ∈ l, ∀ y ∈ l, x.b = y.b → x = y) : l = l' :=
 List.Perm.eq_of_pairwise (fun a b ha hb h1 h2 => hd a ha b (hp.mem_iff.2 hb) (by omega)) h1 h2 hp
def jy1 (t : T4) : List T4 → List T4
 | [] => [t]
 | u :: r => if t.b ≤ u.b then t :: u :: r else u :: jy1 t r
def qc0 : List T4 → List T4
 | [] => []
 | t :: r => jy1 t (qc0 r)
theorem ji0 (t : T4) : ∀ l, (jy1 t l).Perm (t :: l)
 | [] => List.Perm.refl _
 | u :: r => by
  unfold jy1
  split
  ·exact List.Perm.refl _
  ·exact ((ji0 t r).cons u).trans (List.Perm.swap t u r)
theorem zM : ∀ l, (qc0 l).Perm l
 | [] => List.Perm.refl _
 | t :: r => (ji0 t (qc0 r)).trans ((zM r).cons t)
theorem jk3 (t : T4) : ∀ l : List T4, l.Pairwise (fun x y => x.b ≤ y.b) → (jy1 t l).Pairwise (fun x y => x.b ≤ y.b)
 | [], _ => by simp [jy1]
 | u :: r, h => by
  obtain ⟨h1, h2⟩ := List.pairwise_cons.1 h
  unfold jy1
  split
  ·rename_i hle
   rw [List.pairwise_cons]
   refine ⟨fun x hx => ?_, h⟩
   rcases List.mem_cons.1 hx with rfl | hx
   ·exact hle
   ·exact Int.le_trans hle (h1 x hx)
  ·rename_i hle
   rw [List.pairwise_cons]
   refine ⟨fun x hx => ?_, jk3 t r h2⟩
   rcases List.mem_cons.1 ((ji0 t r).mem_iff.1 hx) with rfl | hx
   ·omega
   ·exact h1 x hx
theorem qh5 : ∀ l : List T4, (qc0 l).Pairwise (fun x y => x.b ≤ y.b)
 | [] => by simp [qc0]
 | t :: r => jk3 t _ (qh5 r)
theorem qJ6 {h : List T4} (hm : qy7 h) : ∀ x ∈ h, ∀ y ∈ h, x.b = y.b → x = y := by
 intro x hx y hy e
 obtain ⟨i, hi⟩ := List.mem_iff_getElem?.1 hx
 obtain ⟨j, hj⟩ := List.mem_iff_getElem?.1 hy
 obtain ⟨hil, rfl⟩ := List.getElem?_eq_some_iff.1 hi
 obtain ⟨hjl, rfl⟩ := List.getElem?_eq_some_iff.1 hj
 have hp := List.pairwise_iff_getElem.1 hm.2.1
 rcases Nat.lt_trichotomy i j with hlt | heq | hgt
 ·exact absurd e (hp i j hil hjl hlt).1
 ·subst heq; rfl
 ·exact absurd e.symm (hp j i hjl hil hgt).1
def qu4 (h : List T4) : Int → Int := fun x => (jO (j5 h) x : Int)
def jW (h : List T4) : List T4 := qD5 (qu4 h) (qc0 h)
def qv1 (h : List T4) : Int → Int := fun x => (qx5 h x).getD 0
theorem jQ2 {h : List T4} (hm : qy7 h) {x : Int} (hx : x ∈ j5 h) : qv1 h x = qu4 h x := by
 unfold qv1 qu4
 rw [jQ1 (jp5 hm.1 hm.2.1) hx]
 rfl
theorem jG1 {h l : List T4} (hm : qy7 h) (hp : l.Perm h) (hs : l.Pairwise fun x y => x.b ≤ y.b) : qD5 (qv1 h) l = jW h := by
 have hl : l = qc0 h := qs5 (hp.trans (zM h).symm) hs (qh5 h) (fun x hx y hy e => qJ6 hm x (hp.mem_iff.1 hx) y (hp.mem_iff.1 hy) e)
 subst hl
 unfold jW qD5
 refine List.map_congr_left fun t ht => ?_
 have ht2 := (zM h).mem_iff.1 ht
 obtain ⟨m1, m2⟩ := qd8 ht2
 unfold qV4
 rw [jQ2 hm m1, jQ2 hm m2]
end Go.Proofs.Ytngkneknopenmaa.Hist
end
section
namespace Go.Proofs.Ytngkneknopenmaa.Hist
open Go Go.RowKit Go.Proofs.Ytngkneknopenmaa.qb9
structure Ren where
 S : Int → Int
 K : Int → Int
 V : Int → Int
 R : Int → Int
def qj8 (ρ : Ren) (o : O3) : O3 := ⟨o.w, ρ.K o.k, if o.v = 0 then 0 else ρ.V o.v⟩
def qm2 (ρ : Ren) (t : T4) : T4 := ⟨ρ.S t.s, ρ.R t.b, ρ.R t.c, t.ops.map (qj8 ρ)⟩
def jQ3 (f : Int → Int) (l : List Int) : Prop := ∀ x ∈ l, ∀ y ∈ l, f x = f y → x = y
structure jp6 (ρ : Ren) (h : List T4) : Prop where
 s : jQ3 ρ.S (zI h)
 k : jQ3 ρ.K (jL h)
 v : jQ3 ρ.V (zB h)
 z : ∀ x ∈ zB h, ρ.V x ≠ 0
 r : ∀ x ∈ j5 h, ∀ y ∈ j5 h, x < y → ρ.R x < ρ.R y
theorem qi3 {h : List T4} {x : Int} : x ∈ zI h ↔ ∃ t ∈ h, t.s = x := by unfold zI; rw [List.mem_map]
theorem qq8 {h : List T4} {x : Int} : x ∈ jL h ↔ ∃ t ∈ h, ∃ o ∈ t.ops, o.k = x := by
 unfold jL qk1
 rw [List.mem_flatMap]
 constructor
 ·rintro ⟨t, ht, hx⟩; obtain ⟨o, ho, e⟩ := List.mem_map.1 hx; exact ⟨t, ht, o, ho, e⟩
 ·rintro ⟨t, ht, o, ho, e⟩; exact ⟨t, ht, List.mem_map.2 ⟨o, ho, e⟩⟩
theorem qI3 {ops : List O3} {x : Int} : x ∈ qf4 ops ↔ ∃ o ∈ ops, o.v ≠ 0 ∧ o.v = x := by
 unfold qf4
 rw [List.mem_map]
 constructor
 ·rintro ⟨o, ho, e⟩
  rw [List.mem_filter] at ho
  exact ⟨o, ho.1, of_decide_eq_true ho.2, e⟩
 ·rintro ⟨o, ho, hn, e⟩; exact ⟨o, List.mem_filter.2 ⟨ho, decide_eq_true hn⟩, e⟩
theorem ql4 {h : List T4} {x : Int} : x ∈ zB h ↔ ∃ t ∈ h, ∃ o ∈ t.ops, o.v ≠ 0 ∧ o.v = x := by
 unfold zB
 rw [List.mem_flatMap]
 constructor
 ·rintro ⟨t, ht, hx⟩; exact ⟨t, ht, qI3.1 hx⟩
 ·rintro ⟨t, ht, hx⟩; exact ⟨t, ht, qI3.2 hx⟩
theorem qt5 {h : List T4} {x : Int} : x ∈ j5 h ↔ ∃ t ∈ h, t.b = x ∨ t.c = x := by
 unfold j5
 rw [List.mem_flatMap]
 constructor
 ·rintro ⟨t, ht, hx⟩
  simp at hx
  exact ⟨t, ht, hx.imp Eq.symm Eq.symm⟩
 ·rintro ⟨t, ht, hx⟩
  exact ⟨t, ht, by simp; exact hx.imp Eq.symm Eq.symm⟩
theorem jp6.perm {ρ : Ren} {h h' : List T4} (k : jp6 ρ h) (hp : h'.Perm h) : jp6 ρ h' := by
 have e1 : ∀ x, x ∈ zI h' → x ∈ zI h := fun x hx => by
  obtain ⟨t, ht, e⟩ := qi3.1 hx; exact qi3.2 ⟨t, hp.mem_iff.1 ht, e⟩
 have e2 : ∀ x, x ∈ jL h' → x ∈ jL h := fun x hx => by
  obtain ⟨t, ht, e⟩ := qq8.1 hx; exact qq8.2 ⟨t, hp.mem_iff.1 ht, e⟩
 have e3 : ∀ x, x ∈ zB h' → x ∈ zB h := fun x hx => by
  obtain ⟨t, ht, e⟩ := ql4.1 hx; exact ql4.2 ⟨t, hp.mem_iff.1 ht, e⟩
 have e4 : ∀ x, x ∈ j5 h' → x ∈ j5 h := fun x hx => by
  obtain ⟨t, ht, e⟩ := qt5.1 hx; exact qt5.2 ⟨t, hp.mem_iff.1 ht, e⟩
 exact ⟨fun x hx y hy => k.s x (e1 x hx) y (e1 y hy), fun x hx y hy => k.k x (e2 x hx) y (e2 y hy), fun x hx y hy => k.v x (e3 x hx) y (e3 y hy), fun x hx => k.z x (e3 x hx), fun x hx y hy => k.r x (e4 x hx) y (e4 y hy)⟩
theorem jA9 (ρ : Ren) (h : List T4) : zI (h.map (qm2 ρ)) = (zI h).map ρ.S := by
 unfold zI; rw [List.map_map, List.map_map]; rfl
theorem jB0 (ρ : Ren) (h : List T4) : jL (h.map (qm2 ρ)) = (jL h).map ρ.K := by
 unfold jL
 rw [List.flatMap_map, List.map_flatMap]
 congr 1
 funext t
 show qk1 (t.ops.map (qj8 ρ)) = _
 unfold qk1
 rw [List.map_map, List.map_map]; rfl
theorem jB1 (ρ : Ren) : ∀ ops : List O3, (∀ x ∈ qf4 ops, ρ.V x ≠ 0) → qf4 (ops.map (qj8 ρ)) = (qf4 ops).map ρ.V
 | [], _ => rfl
 | o :: ops, hz => by
  have ih := jB1 ρ ops (fun x hx => hz x (by
   obtain ⟨u, hu, a, b⟩ := qI3.1 hx; exact qI3.2 ⟨u, List.mem_cons_of_mem _ hu, a, b⟩))
  unfold qf4 at ih ⊢
  by_cases h0 : o.v = 0
  ·have : (qj8 ρ o).v = 0 := by simp [qj8, h0]
   rw [List.map_cons, List.filter_cons_of_neg (by simp [this]), List.filter_cons_of_neg (by simp [h0]), ih]
  ·have e : (qj8 ρ o).v = ρ.V o.v := by simp [qj8, h0]
   have hn : ρ.V o.v ≠ 0 := hz o.v (qI3.2 ⟨o, List.mem_cons_self, h0, rfl⟩)
   rw [List.map_cons, List.filter_cons_of_pos (by simp [e, hn]), List.filter_cons_of_pos (by simp [h0]), List.map_cons, List.map_cons, List.map_cons, ih, e]
theorem jB2 (ρ : Ren) : ∀ h : List T4, (∀ x ∈ zB h, ρ.V x ≠ 0) → zB (h.map (qm2 ρ)) = (zB h).map ρ.V
 | [], _ => rfl
 | t :: h, hz => by
  have ih := jB2 ρ h (fun x hx => hz x (by
   obtain ⟨u, hu, a⟩ := ql4.1 hx; exact ql4.2 ⟨u, List.mem_cons_of_mem _ hu, a⟩))
  have e1 : zB ((t :: h).map (qm2 ρ)) = qf4 (t.ops.map (qj8 ρ)) ++ zB (h.map (qm2 ρ)) := rfl
  have e2 : zB (t :: h) = qf4 t.ops ++ zB h := rfl
  rw [e1, e2, ih, List.map_append, jB1 ρ t.ops (fun x hx => hz x (by rw [e2]; exact List.mem_append_left _ hx))]
theorem jQ4 (ρ : Ren) (h : List T4) : j5 (h.map (qm2 ρ)) = (j5 h).map ρ.R := by
 unfold j5
 rw [List.flatMap_map, List.map_flatMap]
 rfl
theorem zq6 {f : Int → Int} {l : List Int} {x : Int} (hi : ∀ y ∈ l, f y = f x → y = x) : zH (l.map f) (f x) = (zH l x).map f := by
 unfold zH
 by_cases h : x ∈ l
 ·rw [if_pos h, if_pos (List.mem_map.2 ⟨x, h, rfl⟩)]
 ·rw [if_neg h, if_neg (fun hm => by
   obtain ⟨y, hy, e⟩ := List.mem_map.1 hm
   exact h (hi y hy e ▸ hy)), List.map_append]
  rfl
theorem foldl_map {f : Int → Int} : ∀ (l acc : List Int), jQ3 f (acc ++ l) → (l.map f).foldl zH (acc.map f) = (l.foldl zH acc).map f
 | [], _, _ => rfl
 | x :: l, acc, hi => by
  rw [List.map_cons, List.foldl_cons, List.foldl_cons, zq6 (fun y hy e => hi y (by simp [hy]) x (by simp) e)]
  refine foldl_map l (zH acc x) (fun y hy z hz e => hi y ?_ z ?_ e)
  ·rcases List.mem_append.1 hy with h | h
   ·rcases qI2.1 h with h | rfl <;> simp [*]
   ·simp [h]
  ·rcases List.mem_append.1 hz with h | h
   ·rcases qI2.1 h with h | rfl <;> simp [*]
   ·simp [h]
theorem ji1 {f : Int → Int} {l : List Int} (hi : jQ3 f l) : names (l.map f) = (names l).map f := by
 have := foldl_map (f := f) l [] (by simpa using hi)
 exact this
theorem jQ5 {f : Int → Int} {x : Int} : ∀ l : List Int, (∀ y ∈ l, f y = f x → y = x) → zU (l.map f) (f x) = zU l x
 | [], _ => rfl
 | y :: l, hi => by
  have ih := jQ5 (f := f) (x := x) l (fun z hz => hi z (by simp [hz]))
  unfold zU at ih ⊢
  rw [List.map_cons, List.findIdx_cons, List.findIdx_cons, ih]
  by_cases e : y = x
  ·subst e; simp
  ·have : ¬ f y = f x := fun h => e (hi y (by simp) h)
   have a : (f y == f x) = false := by simpa using this
   have b : (y == x) = false := by simpa using e
   rw [a, b]
theorem jG2 {f : Int → Int} {l : List Int} (hi : jQ3 f l) {x : Int} (hx : x ∈ l) : zU (names (l.map f)) (f x) = zU (names l) x := by
 rw [ji1 hi]
 exact jQ5 _ (fun y hy e => hi y (qc8.1 hy) x hx e)
theorem jQ6 {R : Int → Int} {l : List Int} (hr : ∀ x ∈ l, ∀ y ∈ l, x < y → R x < R y) {x y : Int} (hx : x ∈ l) (hy : y ∈ l) : R x < R y ↔ x < y := by
 constructor
 ·intro h
  rcases Int.lt_trichotomy x y with k | k | k
  ·exact k
  ·subst k; omega
  ·have := hr y hy x hx k; omega
 ·exact hr x hx y hy
theorem jG3 {R : Int → Int} {l : List Int} (hr : ∀ x ∈ l, ∀ y ∈ l, x < y → R x < R y) {x y : Int} (hx : x ∈ l) (hy : y ∈ l) : R x ≤ R y ↔ x ≤ y := by
 have := jQ6 hr hy hx
 omega
theorem jp7 {R : Int → Int} {l : List Int} (hr : ∀ x ∈ l, ∀ y ∈ l, x < y → R x < R y) {x : Int} (hx : x ∈ l) : jO (l.map R) (R x) = jO l x := by
 unfold jO
 rw [List.countP_map]
 refine List.countP_congr fun y hy => ?_
 simp only [Function.comp, decide_eq_true_eq]
 exact jQ6 hr hy hx
theorem jQ7 {ρ : Ren} {t : T4} : ∀ l : List T4, (∀ u ∈ l, ρ.R t.b ≤ ρ.R u.b ↔ t.b ≤ u.b) → jy1 (qm2 ρ t) (l.map (qm2 ρ)) = (jy1 t l).map (qm2 ρ)
 | [], _ => rfl
 | u :: l, h => by
  have ih := jQ7 (ρ := ρ) (t := t) l (fun v hv => h v (by simp [hv]))
  rw [List.map_cons]
  unfold jy1
  by_cases k : t.b ≤ u.b
  ·rw [if_pos k, if_pos (show (qm2 ρ t).b ≤ (qm2 ρ u).b from (h u (by simp)).2 k)]; rfl
  ·rw [if_neg k, if_neg (show ¬ (qm2 ρ t).b ≤ (qm2 ρ u).b from fun e => k ((h u (by simp)).1 e)), ih]; rfl
theorem jB3 {ρ : Ren} : ∀ l : List T4, (∀ t ∈ l, ∀ u ∈ l, ρ.R t.b ≤ ρ.R u.b ↔ t.b ≤ u.b) → qc0 (l.map (qm2 ρ)) = (qc0 l).map (qm2 ρ)
 | [], _ => rfl
 | t :: l, h => by
  have ih := jB3 (ρ := ρ) l (fun a ha b hb => h a (by simp [ha]) b (by simp [hb]))
  rw [List.map_cons]
  unfold qc0
  rw [ih]
  exact jQ7 _ (fun u hu => h t (by simp) u (by simp [(zM l).mem_iff.1 hu]))
theorem jB4 {ρ : Ren} {h : List T4} (k : jp6 ρ h) : jW (h.map (qm2 ρ)) = jW h := by
 have k2 := k.perm (zM h)
 have hs : qc0 (h.map (qm2 ρ)) = (qc0 h).map (qm2 ρ) :=
  jB3 h fun t ht u hu => jG3 k.r (qd8 ht).1 (qd8 hu).1
 unfold jW
 rw [hs]
 unfold qD5
 rw [List.map_map]
 refine List.map_congr_left fun t ht => ?_
 have ht2 := (zM h).mem_iff.1 ht
 obtain ⟨m1, m2⟩ := qd8 ht2
 have hc : ∀ x ∈ j5 h, qu4 (h.map (qm2 ρ)) (ρ.R x) = qu4 h x := fun x hx => by
  unfold qu4; rw [jQ4, jp7 k.r hx]
 show qV4 _ _ _ _ (qm2 ρ t) = qV4 _ _ _ _ t
 rw [jA9, jB0, jB2 ρ _ k2.z]
 have e1 : ∀ SS KK VV R, qV4 SS KK VV R (qm2 ρ t) = ⟨(zU SS (ρ.S t.s) : Int), R (ρ.R t.b), R (ρ.R t.c), (t.ops.map (qj8 ρ)).map (qC0 KK VV)⟩ := fun _ _ _ _ => rfl
 rw [e1]
 unfold qV4
 rw [jG2 k2.s (qi3.2 ⟨t, ht, rfl⟩), hc _ m1, hc _ m2, List.map_map]
 congr 1
 refine List.map_congr_left fun o ho => ?_
 show qC0 _ _ (qj8 ρ o) = qC0 _ _ o
 unfold qC0 qj8
 dsimp only
 rw [jG2 k2.k (qq8.2 ⟨t, ht, o, ho, rfl⟩)]
 by_cases h0 : o.v = 0
 ·simp [h0]
 ·have hm : o.v ∈ zB (qc0 h) := ql4.2 ⟨t, ht, o, ho, h0, rfl⟩
  have hn := k2.z _ hm
  simp only [if_neg h0, if_neg hn]
  rw [jG2 k2.v hm]
theorem za7 {h h' : List T4} (hm : qy7 h) (hp : h'.Perm h) : jW h' = jW h := by
 have hs : qc0 h' = qc0 h := qs5 ((zM h').trans (hp.trans (zM h).symm)) (qh5 h') (qh5 h) (fun x hx y hy e => qJ6 hm x (hp.mem_iff.1 ((zM h').mem_iff.1 hx)) y (hp.mem_iff.1 ((zM h').mem_iff.1 hy)) e)
 have hc : qu4 h' = qu4 h := by
  funext x
  unfold qu4 jO
  have : (j5 h').Perm (j5 h) := hp.flatMap_right _
  rw [this.countP_eq]
 unfold jW
 rw [hs, hc]
def ql5 (ops : List O3) : List Int := ops.filterMap fun o => if o.w then some o.v else none
theorem zq7 (i : Nat) (ops : List O3) : (wrs i ops).map (·.1) = ql5 ops := by
 unfold wrs ql5
 rw [List.map_filterMap]
 congr 1
 funext o
 cases o.w <;> rfl
theorem qD6 : ∀ (h : List T4) (i : Nat), (qJ5 i h).map (·.1) = h.flatMap fun t => ql5 t.ops
 | [], _ => rfl
 | t :: h, i => by
  have e : qJ5 i (t :: h) = wrs i t.ops ++ qJ5 (i + 1) h := rfl
  rw [e, List.map_append, zq7, qD6 h (i + 1)]
  rfl
theorem qy7.sort {h : List T4} (hm : qy7 h) : qy7 (qc0 h) := by
 have hp := zM h
 obtain ⟨h1, h2, h3, h4⟩ := hm
 refine ⟨fun t ht => h1 t (hp.mem_iff.1 ht), ?_, ?_, fun t ht o ho hw hv => ?_⟩
 ·have key : ∀ x ∈ h, ∀ y ∈ h, x ≠ y → qu9 x y ∨ qu9 y x := by
   intro x hx y hy hne
   obtain ⟨i, hi⟩ := List.mem_iff_getElem?.1 hx
   obtain ⟨j, hj⟩ := List.mem_iff_getElem?.1 hy
   obtain ⟨hil, rfl⟩ := List.getElem?_eq_some_iff.1 hi
   obtain ⟨hjl, rfl⟩ := List.getElem?_eq_some_iff.1 hj
   have hpw := List.pairwise_iff_getElem.1 h2
   rcases Nat.lt_trichotomy i j with hlt | heq | hgt
   ·exact .inl (hpw i j hil hjl hlt)
   ·subst heq; exact absurd rfl hne
   ·exact .inr (hpw j i hjl hil hgt)
  have hnd : (qc0 h).Pairwise (· ≠ ·) := by
   have : h.Pairwise (· ≠ ·) := h2.imp fun {a b} k e => by subst e; exact k.1 rfl
   exact (hp.nodup_iff (α := T4)).2 this
  have := (qh5 h).and hnd
  refine this.imp_of_mem fun {x y} hx hy ⟨hle, hne⟩ => ?_
  have hx2 := hp.mem_iff.1 hx
  have hy2 := hp.mem_iff.1 hy
  rcases key x hx2 y hy2 hne with k | k
  ·exact k
  ·have := jp0 (h1 y hy2)
   exact ⟨fun e => k.1 e.symm, fun e => k.2.2.1 e.symm, fun e => k.2.1 e.symm, fun e => k.2.2.2.1 e.symm, fun e => by have := k.2.2.2.2 e.symm; omega⟩
 ·rw [qD6] at h3 ⊢
  exact (hp.flatMap_right _).nodup_iff.2 h3
 ·obtain ⟨u, hu, k⟩ := h4 t (hp.mem_iff.1 ht) o ho hw hv
  exact ⟨u, hp.mem_iff.2 hu, k⟩
structure zw2 (ρ : Ren) (h : List T4) : Prop where
 s : ∀ x ∈ zI h, 0 ≤ ρ.S x ∧ ρ.S x < 64
 k : ∀ x ∈ jL h, 0 ≤ ρ.K x ∧ ρ.K x < 64
 v : ∀ x ∈ zB h, 0 < ρ.V x ∧ ρ.V x ≤ 2147483647
 r : ∀ x ∈ j5 h, 0 ≤ ρ.R x ∧ ρ.R x ≤ 2147483647
theorem qh1 (t : T4) : qd6 t = true ↔ 0 ≤ t.s ∧ t.s < 64 ∧ 0 ≤ t.b ∧ t.b < t.c ∧ t.c ≤ 2147483647 ∧ 1 ≤ t.ops.length ∧ t.ops.length ≤ 64 ∧ ∀ o ∈ t.ops, qp8 o = true := by
 unfold qd6
 simp only [Bool.and_eq_true, decide_eq_true_eq, List.all_eq_true]
 constructor
 ·rintro ⟨⟨⟨⟨⟨⟨⟨a, b⟩, c⟩, d⟩, e⟩, f⟩, g⟩, i⟩; exact ⟨a, b, c, d, e, f, g, i⟩
 ·rintro ⟨a, b, c, d, e, f, g, i⟩; exact ⟨⟨⟨⟨⟨⟨⟨a, b⟩, c⟩, d⟩, e⟩, f⟩, g⟩, i⟩
theorem qi8 (o : O3) : qp8 o = true ↔ 0 ≤ o.k ∧ o.k < 64 ∧ 0 ≤ o.v ∧ o.v ≤ 2147483647 ∧ (o.w = true → 0 < o.v) := by
 unfold qp8
 simp only [Bool.and_eq_true, decide_eq_true_eq, Bool.or_eq_true, Bool.not_eq_true']
 constructor
 ·rintro ⟨⟨⟨⟨a, b⟩, c⟩, d⟩, e⟩; exact ⟨a, b, c, d, fun h => by rcases e with e | e; (rw [h] at e; cases e); exact e⟩
 ·rintro ⟨a, b, c, d, e⟩; refine ⟨⟨⟨⟨a, b⟩, c⟩, d⟩, ?_⟩; cases hw : o.w; exact .inl rfl; exact .inr (e hw)
theorem qP7 {α β : Type} {f g : α → Option β} : ∀ l : List α, (∀ x ∈ l, f x = g x) → l.filterMap f = l.filterMap g
 | [], _ => rfl
 | x :: l, h => by
  rw [List.filterMap_cons, List.filterMap_cons, h x (by simp), qP7 l fun y hy => h y (by simp [hy])]
theorem jy2 {f : Int → Int} {l : List Int} (hi : jQ3 f l) (hn : l.Nodup) : (l.map f).Nodup := by
 rw [List.Nodup, List.pairwise_map]
 exact hn.imp_of_mem fun {a b} ha hb hne e => hne (hi a ha b hb e)
theorem zI2 {ρ : Ren} {h : List T4} (hm : qy7 h) (k : jp6 ρ h) (b : zw2 ρ h) : qy7 (h.map (qm2 ρ)) := by
 obtain ⟨h1, h2, h3, h4⟩ := hm
 refine ⟨fun t ht => ?_, ?_, ?_, fun t ht o ho hw hv => ?_⟩
 ·obtain ⟨u, hu, rfl⟩ := List.mem_map.1 ht
  obtain ⟨a1, a2, a3, a4, a5, a6, a7, a8⟩ := (qh1 u).1 (h1 u hu)
  obtain ⟨m1, m2⟩ := qd8 hu
  refine (qh1 _).2 ⟨(b.s _ (qi3.2 ⟨u, hu, rfl⟩)).1, (b.s _ (qi3.2 ⟨u, hu, rfl⟩)).2, (b.r _ m1).1, k.r _ m1 _ m2 a4, (b.r _ m2).2, by simpa [qm2] using a6, by simpa [qm2] using a7, fun o ho => ?_⟩
  obtain ⟨x, hx, rfl⟩ := List.mem_map.1 ho
  obtain ⟨c1, c2, c3, c4, c5⟩ := (qi8 x).1 (a8 x hx)
  have hk := b.k _ (qq8.2 ⟨u, hu, x, hx, rfl⟩)
  by_cases h0 : x.v = 0
  ·exact (qi8 _).2 ⟨hk.1, hk.2, by simp [qj8, h0], by simp [qj8, h0], fun hw => by have := c5 hw; omega⟩
  ·have hv := b.v _ (ql4.2 ⟨u, hu, x, hx, h0, rfl⟩)
   exact (qi8 _).2 ⟨hk.1, hk.2, by simp [qj8, h0]; omega, by simp [qj8, h0]; omega, fun _ => by simp [qj8, h0]; omega⟩
 ·rw [List.pairwise_map]
  refine h2.imp_of_mem fun {x y} hx hy p => ?_
  obtain ⟨x1, x2⟩ := qd8 hx
  obtain ⟨y1, y2⟩ := qd8 hy
  have inj : ∀ a ∈ j5 h, ∀ c ∈ j5 h, a ≠ c → ρ.R a ≠ ρ.R c := fun a ha c hc hne e => by
   rcases Int.lt_trichotomy a c with q | q | q
   ·have := k.r a ha c hc q; omega
   ·exact hne q
   ·have := k.r c hc a ha q; omega
  exact ⟨inj _ x1 _ y1 p.1, inj _ x1 _ y2 p.2.1, inj _ x2 _ y1 p.2.2.1, inj _ x2 _ y2 p.2.2.2.1, fun e => (jG3 k.r x2 y1).2 (p.2.2.2.2 (k.s _ (qi3.2 ⟨x, hx, rfl⟩) _ (qi3.2 ⟨y, hy, rfl⟩) e))⟩
 ·rw [qD6] at h3 ⊢
  have hv : ∀ (l : List T4), (∀ t ∈ l, qd6 t = true) → (l.map (qm2 ρ)).flatMap (fun t => ql5 t.ops) = (l.flatMap fun t => ql5 t.ops).map ρ.V := by
   intro l hl
   rw [List.flatMap_map, List.map_flatMap]
   have : ∀ t ∈ l, ql5 (qm2 ρ t).ops = (ql5 t.ops).map ρ.V := fun t ht => by
    have ho := ((qh1 t).1 (hl t ht)).2.2.2.2.2.2.2
    show ql5 (t.ops.map (qj8 ρ)) = _
    unfold ql5
    rw [List.filterMap_map, List.map_filterMap]
    refine qP7 _ fun o hoo => ?_
    have := ((qi8 o).1 (ho o hoo)).2.2.2.2
    cases hw : o.w with
    | false => simp [Function.comp, qj8, hw]
    | true =>
     have := this hw
     have h0 : o.v ≠ 0 := by omega
     simp [Function.comp, qj8, hw, h0]
   clear hl
   induction l with
   | nil => rfl
   | cons t l ih =>
    rw [List.flatMap_cons, List.flatMap_cons, this t (by simp), ih (fun u hu => this u (by simp [hu]))]
  rw [hv h h1]
  refine jy2 (fun x hx y hy e => k.v x ?_ y ?_ e) h3
  ·obtain ⟨t, ht, q⟩ := List.mem_flatMap.1 hx
   obtain ⟨o, ho, q⟩ := List.mem_filterMap.1 q
   cases hw : o.w with
   | false => rw [hw] at q; cases q
   | true =>
    rw [hw] at q; cases q
    have := ((qi8 o).1 (((qh1 t).1 (h1 t ht)).2.2.2.2.2.2.2 o ho)).2.2.2.2 hw
    exact ql4.2 ⟨t, ht, o, ho, by omega, rfl⟩
  ·obtain ⟨t, ht, q⟩ := List.mem_flatMap.1 hy
   obtain ⟨o, ho, q⟩ := List.mem_filterMap.1 q
   cases hw : o.w with
   | false => rw [hw] at q; cases q
   | true =>
    rw [hw] at q; cases q
    have := ((qi8 o).1 (((qh1 t).1 (h1 t ht)).2.2.2.2.2.2.2 o ho)).2.2.2.2 hw
    exact ql4.2 ⟨t, ht, o, ho, by omega, rfl⟩
 ·obtain ⟨u, hu, rfl⟩ := List.mem_map.1 ht
  obtain ⟨x, hx, rfl⟩ := List.mem_map.1 ho
  have h0 : x.v ≠ 0 := fun e => hv (by simp [qj8, e])
  obtain ⟨u2, hu2, y, hy, e1, e2, e3⟩ := h4 u hu x hx hw h0
  refine ⟨qm2 ρ u2, List.mem_map.2 ⟨u2, hu2, rfl⟩, qj8 ρ y, List.mem_map.2 ⟨y, hy, rfl⟩, e1, ?_, ?_⟩
  ·show ρ.K y.k = ρ.K x.k
   rw [e2]
  ·show (if y.v = 0 then 0 else ρ.V y.v) = if x.v = 0 then 0 else ρ.V x.v
   rw [e3]
def qj9 (h : List T4) : Ren := ⟨fun x => (zU (names (zI (qc0 h))) x : Int), fun x => (zU (names (jL (qc0 h))) x : Int), fun x => 1 + (zU (names (zB (qc0 h))) x : Int), qu4 h⟩
theorem qk6 (h : List T4) : jW h = (qc0 h).map (qm2 (qj9 h)) := by
 unfold jW qD5
 refine List.map_congr_left fun t _ => ?_
 rfl
theorem qZ2 {l : List Int} {x y : Int} (hx : x ∈ l) (hy : y ∈ l) (e : zU l x = zU l y) : x = y := by
 have h1 := qS4 hx
 have h2 := qS4 hy
 have a := List.findIdx_getElem (p := (· == x)) (xs := l) (w := h1)
 have b := List.findIdx_getElem (p := (· == y)) (xs := l) (w := h2)
 simp only [beq_iff_eq] at a b
 unfold zU at e
 rw [← a, ← b]
 congr 1
theorem qU0 {l : List Int} {x y : Int} (hx : x ∈ l) (h : x < y) : jO l x < jO l y := by
 unfold jO
 induction l with
 | nil => cases hx
 | cons z l ih =>
  have hmono : ∀ l : List Int, l.countP (fun y => decide (y < x)) ≤ l.countP (fun z => decide (z < y)) := fun l => by
   refine List.countP_mono_left fun a _ ha => ?_
   simp only [decide_eq_true_eq] at ha ⊢
   omega
  rw [List.countP_cons, List.countP_cons]
  rcases List.mem_cons.1 hx with rfl | hx
  ·have := hmono l
   simp only [decide_eq_true_eq]
   rw [if_neg (by omega), if_pos h]
   omega
  ·have := ih hx
   simp only [decide_eq_true_eq]
   by_cases a : z < x
   ·rw [if_pos a, if_pos (by omega)]; omega
   ·rw [if_neg a]; split <;> omega
theorem qU1 (l : List Int) (x : Int) : jO l x ≤ l.length := List.countP_le_length
theorem qI4 (h : List T4) : jp6 (qj9 h) (qc0 h) where
 s x hx y hy e := qZ2 (qc8.2 hx) (qc8.2 hy) (by have : ((zU (names (zI (qc0 h))) x : Nat) : Int) = (zU (names (zI (qc0 h))) y : Nat) := e; omega)
 k x hx y hy e := qZ2 (qc8.2 hx) (qc8.2 hy) (by have : ((zU (names (jL (qc0 h))) x : Nat) : Int) = (zU (names (jL (qc0 h))) y : Nat) := e; omega)
 v x hx y hy e := qZ2 (qc8.2 hx) (qc8.2 hy) (by have : 1 + ((zU (names (zB (qc0 h))) x : Nat) : Int) = 1 + (zU (names (zB (qc0 h))) y : Nat) := e; omega)
 z x _ := by show 1 + ((zU (names (zB (qc0 h))) x : Nat) : Int) ≠ 0; omega
 r x hx y _ hlt := by
  have hp : (j5 (qc0 h)).Perm (j5 h) := (zM h).flatMap_right _
  have := qU0 (hp.mem_iff.1 hx) hlt
  show ((jO (j5 h) x : Nat) : Int) < (jO (j5 h) y : Nat)
  omega
theorem jp8 {h : List T4} (hm : qy7 h) : jW (jW h) = jW h := by
 rw [qk6 h, jB4 (qI4 h), za7 hm (zM h)]
 exact qk6 h
theorem qP8 (l : List Int) : (names l).Nodup := by
 have h : ∀ (l acc : List Int), acc.Nodup → (l.foldl zH acc).Nodup := by
  intro l
  induction l with
  | nil => exact fun _ h => h
  | cons x l ih =>
   intro acc hn
   refine ih _ ?_
   unfold zH
   split
   ·exact hn
   ·rename_i hx
    rw [List.nodup_append]
    refine ⟨hn, by simp, fun a ha b hb => ?_⟩
    simp at hb
    subst hb
    exact fun e => hx (e ▸ ha)
 exact h l [] List.nodup_nil
theorem jG4 {l : List Int} {n : Nat} (hn : l.Nodup) (hb : ∀ x ∈ l, 0 ≤ x ∧ x < n) : l.length ≤ n := by
 induction n generalizing l with
 | zero =>
  cases l with
  | nil => simp
  | cons x l => have := hb x (by simp); omega
 | succ n ih =>
  have h1 := ih (l := l.filter fun x => decide (x ≠ (n : Int))) (hn.sublist List.filter_sublist) (fun x hx => by
   rw [List.mem_filter] at hx
   have := hb x hx.1
   have := of_decide_eq_true hx.2
   omega)
  have h2 : (l.filter fun x => decide (x = (n : Int))).length ≤ 1 := by
   have hf : (l.filter fun x => decide (x = (n : Int))).Nodup := hn.sublist List.filter_sublist
   cases e : l.filter fun x => decide (x = (n : Int)) with
   | nil => simp
   | cons a r =>
    cases r with
    | nil => simp
    | cons b r =>
     rw [e] at hf
     have ha : a ∈ l.filter fun x => decide (x = (n : Int)) := by rw [e]; simp
     have hb2 : b ∈ l.filter fun x => decide (x = (n : Int)) := by rw [e]; simp
     rw [List.mem_filter] at ha hb2
     have h1 := of_decide_eq_true ha.2
     have h2 := of_decide_eq_true hb2.2
     simp [h1, h2] at hf
  have h3 : l.length = (l.filter fun x => decide (x = (n : Int))).length + (l.filter fun x => decide (x ≠ (n : Int))).length := by
   have := List.length_eq_countP_add_countP (l := l) (fun x => decide (x = (n : Int)))
   rw [this, List.countP_eq_length_filter, List.countP_eq_length_filter]
   congr 2
   refine List.filter_congr fun x _ => ?_
   by_cases q : x = (n : Int) <;> simp [q]
  omega
theorem za8 (ρ : Ren) (h : List T4) : jG (h.map (qm2 ρ)) = jG h := by
 unfold jG
 rw [List.map_map]
 congr 1
 refine List.map_congr_left fun t _ => ?_
 simp [qm2]
theorem zw3 (ops : List O3) : (qf4 ops).length ≤ ops.length := by unfold qf4; rw [List.length_map]; exact List.length_filter_le _ _
theorem jQ8 : ∀ h : List T4, (zB h).length ≤ jG h
 | [] => by simp [zB]
 | t :: h => by
  have e : zB (t :: h) = qf4 t.ops ++ zB h := rfl
  rw [e, List.length_append]
  have := jQ8 h
  have := zw3 t.ops
  have e2 : jG (t :: h) = t.ops.length + jG h := by simp [jG]
  omega
theorem qV6 {l h : List T4} (hp : l.Perm h) : jG l = jG h := by unfold jG; exact (hp.map _).sum_nat
theorem za9 {h : List T4} (hm : qy7 h) (h1 : h.length ≤ 64) (h2 : jG h ≤ 1024) : zw2 (qj9 h) (qc0 h) where
 s x hx := by
  have := qS4 (qc8.2 hx)
  have hl := qg2 (zI (qc0 h))
  have : (zI (qc0 h)).length ≤ 64 := by unfold zI; rw [List.length_map, (zM h).length_eq]; exact h1
  show (0 : Int) ≤ ((zU (names (zI (qc0 h))) x : Nat) : Int) ∧ ((zU (names (zI (qc0 h))) x : Nat) : Int) < 64
  omega
 k x hx := by
  have := qS4 (qc8.2 hx)
  have hb := jG4 (n := 64) (qP8 (jL (qc0 h))) (fun y hy => by
   obtain ⟨t, ht, o, ho, rfl⟩ := qq8.1 (qc8.1 hy)
   have := (qi8 o).1 (((qh1 t).1 (hm.1 t ((zM h).mem_iff.1 ht))).2.2.2.2.2.2.2 o ho)
   exact ⟨this.1, this.2.1⟩)
  show (0 : Int) ≤ ((zU (names (jL (qc0 h))) x : Nat) : Int) ∧ ((zU (names (jL (qc0 h))) x : Nat) : Int) < 64
  omega
 v x hx := by
  have := qS4 (qc8.2 hx)
  have hl := qg2 (zB (qc0 h))
  have := jQ8 (qc0 h)
  rw [qV6 (zM h)] at this
  show (0 : Int) < 1 + ((zU (names (zB (qc0 h))) x : Nat) : Int) ∧ 1 + ((zU (names (zB (qc0 h))) x : Nat) : Int) ≤ 2147483647
  omega
 r x _ := by
  have := qU1 (j5 h) x
  rw [qp9] at this
  show (0 : Int) ≤ ((jO (j5 h) x : Nat) : Int) ∧ ((jO (j5 h) x : Nat) : Int) ≤ 2147483647
  omega
theorem qx9 (h : List T4) : (jW h).length = h.length := by rw [qk6, List.length_map, (zM h).length_eq]
theorem qC1 (h : List T4) : jG (jW h) = jG h := by rw [qk6, za8, qV6 (zM h)]
theorem zq8 {h : List T4} (hm : qy7 h) (h1 : h.length ≤ 64) (h2 : jG h ≤ 1024) : qy7 (jW h) := by
 rw [qk6]
 exact zI2 hm.sort (qI4 h) (za9 hm h1 h2)
theorem qe5 {h : List T4} (hc : zW h = 0) : h.length ≤ 64 ∧ jG h ≤ 1024 ∧ qy7 h := by
 by_cases hb : h.length > 64 ∨ jG h > 1024
 ·unfold zW at hc
  rw [if_pos hb] at hc
  cases hc
 ·exact ⟨by omega, by omega, (qD3 h (by omega) (by omega)).1 hc⟩
theorem qy9 {h : List T4} (hc : zW h = 0) : zW (jW h) = 0 := by
 obtain ⟨h1, h2, hm⟩ := qe5 hc
 exact (qD3 _ (by rw [qx9]; exact h1) (by rw [qC1]; exact h2)).2 (zq8 hm h1 h2)
end Go.Proofs.Ytngkneknopenmaa.Hist
end
section
namespace Go.Proofs.Ytngkneknopenmaa.qe4
open Go Go.Proofs.Ytngkneknopenmaa Go.Proofs.Ytngkneknopenmaa.Hist Go.Proofs.Ytngkneknopenmaa.qb9
def qu1 : Nat → List Int → Prop
 | _, [] => True
 | k, x :: r => 0 ≤ x ∧ x ≤ (k : Int) ∧ qu1 (max k (x.toNat + 1)) r
def qa6 (k : Nat) : List Int := (List.range k).map fun n : Nat => (n : Int)
theorem qh2 {k : Nat} {x : Int} : x ∈ qa6 k ↔ 0 ≤ x ∧ x < (k : Int) := by
 unfold qa6
 rw [List.mem_map]
 constructor
 ·rintro ⟨n, hn, rfl⟩
  rw [List.mem_range] at hn
  omega
 ·rintro ⟨h1, h2⟩
  exact ⟨x.toNat, List.mem_range.2 (by omega), by omega⟩
theorem qF5 (k : Nat) : qa6 (k + 1) = qa6 k ++ [(k : Int)] := by unfold qa6; rw [List.range_succ, List.map_append]; rfl
theorem qk7 (k : Nat) : (qa6 k).length = k := by simp [qa6]
theorem jp9 : ∀ (k : Nat) (x : Int), 0 ≤ x → x < (k : Int) → (zU (qa6 k) x : Int) = x
 | 0, x, h1, h2 => by omega
 | k + 1, x, h1, h2 => by
  rw [qF5]
  by_cases h : x < (k : Int)
  ·rw [qZ0 (qh2.2 ⟨h1, h⟩)]
   exact jp9 k x h1 h
  ·obtain rfl : x = (k : Int) := by omega
   rw [qP5 (fun hm => by have := qh2.1 hm; omega), qk7]
def qD7 (k : Nat) (l : List Int) : Nat := l.foldl (fun k x => max k (x.toNat + 1)) k
theorem qJ7 : ∀ (l : List Int) (k : Nat), qu1 k l → l.foldl zH (qa6 k) = qa6 (qD7 k l)
 | [], k, _ => rfl
 | x :: l, k, h => by
  obtain ⟨h1, h2, h3⟩ := h
  rw [List.foldl_cons]
  by_cases hx : x < (k : Int)
  ·have e : zH (qa6 k) x = qa6 k := by unfold zH; rw [if_pos (qh2.2 ⟨h1, hx⟩)]
   have em : max k (x.toNat + 1) = k := by omega
   rw [em] at h3
   rw [e, qJ7 l k h3]
   unfold qD7
   rw [List.foldl_cons, em]
  ·have e : zH (qa6 k) x = qa6 (k + 1) := by
    unfold zH
    rw [if_neg (fun hm => hx (qh2.1 hm).2), qF5, show x = (k : Int) by omega]
   have em : max k (x.toNat + 1) = k + 1 := by omega
   rw [em] at h3
   rw [e, qJ7 l (k + 1) h3]
   unfold qD7
   rw [List.foldl_cons, em]
theorem jG5 : ∀ (l : List Int) (k : Nat), qu1 k l → (∀ x ∈ l, 0 ≤ x ∧ x < (qD7 k l : Int)) ∧ k ≤ qD7 k l
 | [], k, _ => ⟨fun x h => by simp at h, Nat.le_refl _⟩
 | x :: l, k, h => by
  obtain ⟨h1, h2, h3⟩ := h
  obtain ⟨i1, i2⟩ := jG5 l _ h3
  have e : qD7 k (x :: l) = qD7 (max k (x.toNat + 1)) l := rfl
  rw [e]
  refine ⟨fun y hy => ?_, by omega⟩
  rcases List.mem_cons.1 hy with rfl | hy
  ·omega
  ·exact i1 y hy
theorem jB5 {l : List Int} (h : qu1 0 l) : ∀ x ∈ l, (zU (names l) x : Int) = x := by
 intro x hx
 have e := qJ7 l 0 h
 obtain ⟨h1, h2⟩ := (jG5 l 0 h).1 x hx
 unfold names
 rw [show ([] : List Int) = qa6 0 from rfl, e]
 exact jp9 _ x h1 h2
theorem qS5 : ∀ (l acc : List Int) (x : Int), x ∈ acc → zU (l.foldl zH acc) x = zU acc x
 | [], _, _, _ => rfl
 | y :: l, acc, x, hx => by
  rw [List.foldl_cons]
  have hm : x ∈ zH acc y := qI2.2 (.inl hx)
  rw [qS5 l _ x hm]
  unfold zH
  split
  ·rfl
  ·exact qZ0 hx
theorem qS6 : ∀ (l : List Int) (k : Nat), (∀ x ∈ l, (zU (l.foldl zH (qa6 k)) x : Int) = x) → qu1 k l
 | [], _, _ => trivial
 | x :: l, k, h => by
  have hx := h x (by simp)
  rw [List.foldl_cons] at hx h
  by_cases hm : x ∈ qa6 k
  ·obtain ⟨h1, h2⟩ := qh2.1 hm
   have e : zH (qa6 k) x = qa6 k := by unfold zH; rw [if_pos hm]
   rw [e] at h
   have em : max k (x.toNat + 1) = k := by omega
   exact ⟨h1, by omega, by rw [em]; exact qS6 l k (fun y hy => h y (by simp [hy]))⟩
  ·have e : zH (qa6 k) x = qa6 k ++ [x] := by unfold zH; rw [if_neg hm]
   rw [e, qS5 _ _ _ (by simp), qP5 hm, qk7] at hx
   have e2 : zH (qa6 k) x = qa6 (k + 1) := by rw [e, qF5, hx]
   rw [e2] at h
   have em : max k (x.toNat + 1) = k + 1 := by omega
   exact ⟨by omega, by omega, by rw [em]; exact qS6 l (k + 1) (fun y hy => h y (by simp [hy]))⟩
end Go.Proofs.Ytngkneknopenmaa.qe4
end
section
namespace Go.Proofs.Ytngkneknopenmaa.qe4
open Go.Proofs.Ytngkneknopenmaa.Hist Go.Proofs.Ytngkneknopenmaa.qb9
def hdT (t : T4) : Int × Int × Int := (t.s, t.b, t.c)
def flO (p : List T4) : List O3 := p.flatMap (·.ops)
def lnO (p : List T4) : List Nat := p.map fun t => t.ops.length
def qZ3 : List (Int × Int × Int) → List Nat → List O3 → List T4
 | x :: hd, k :: cs, fl => ⟨x.1, x.2.1, x.2.2, fl.take k⟩ :: qZ3 hd cs (fl.drop k)
 | _, _, _ => []
theorem jQ9 : ∀ p : List T4, qZ3 (p.map hdT) (lnO p) (flO p) = p
 | [] => rfl
 | t :: p => by
  have ih := jQ9 p
  show (⟨t.s, t.b, t.c, (t.ops ++ flO p).take t.ops.length⟩ : T4) :: qZ3 (p.map hdT) (lnO p) ((t.ops ++ flO p).drop t.ops.length) = t :: p
  rw [List.take_left, List.drop_left, ih]
theorem jR0 : ∀ (hd : List (Int × Int × Int)) (cs : List Nat) (fl : List O3), hd.length = cs.length → cs.sum = fl.length → (qZ3 hd cs fl).map hdT = hd ∧ lnO (qZ3 hd cs fl) = cs ∧ flO (qZ3 hd cs fl) = fl
 | [], [], fl, _, h => by
  simp at h
  have : fl = [] := List.eq_nil_of_length_eq_zero h.symm
  subst this
  exact ⟨rfl, rfl, rfl⟩
 | x :: hd, k :: cs, fl, h1, h2 => by
  have h3 : k + cs.sum = fl.length := by simpa using h2
  obtain ⟨a, b, c⟩ := jR0 hd cs (fl.drop k) (by simpa using h1) (by rw [List.length_drop]; omega)
  refine ⟨?_, ?_, ?_⟩
  ·show (x.1, x.2.1, x.2.2) :: (qZ3 hd cs (fl.drop k)).map hdT = x :: hd
   rw [a]
  ·show (fl.take k).length :: lnO (qZ3 hd cs (fl.drop k)) = k :: cs
   rw [b, List.length_take, Nat.min_eq_left (by omega)]
  ·show fl.take k ++ flO (qZ3 hd cs (fl.drop k)) = fl
   rw [c, List.take_append_drop]
theorem qP9 (t : T4) (p : List T4) : flO (t :: p) = t.ops ++ flO p := rfl
theorem qk2 : ∀ p : List T4, jG p = (flO p).length
 | [] => rfl
 | t :: p => by
  rw [qP9, List.length_append, ← qk2 p]
  simp [jG]
theorem zj8 (p : List T4) : (lnO p).sum = (flO p).length := by rw [← qk2]; rfl
theorem qy0 {p : List T4} {o : O3} : o ∈ flO p ↔ ∃ t ∈ p, o ∈ t.ops := by unfold flO; rw [List.mem_flatMap]
theorem jG6 (a b : List O3) : ql5 (a ++ b) = ql5 a ++ ql5 b := by simp [ql5]
theorem qV7 : ∀ p : List T4, (p.flatMap fun t => ql5 t.ops) = ql5 (flO p)
 | [] => rfl
 | t :: p => by rw [List.flatMap_cons, qV7 p, qP9, jG6]
theorem qq2 : ∀ p : List T4, jL p = (flO p).map (·.k)
 | [] => rfl
 | t :: p => by
  have : jL (t :: p) = t.ops.map (·.k) ++ jL p := rfl
  rw [this, qq2 p, qP9, List.map_append]
def qV8 (fl : List O3) : Prop := ∀ (j : Nat) (o : O3), fl[j]? = some o → (o.w = true → o.v = (j : Int) + 1) ∧ (o.w = false → o.v = 0 ∨ ∃ (i : Nat) (u : O3), fl[i]? = some u ∧ u.w = true ∧ u.k = o.k ∧ o.v = (i : Int) + 1)
theorem qZ4 : ∀ (fl : List O3) (k : Int), (∀ (j : Nat) (o : O3), fl[j]? = some o → o.w = true → o.v = k + (j : Int) + 1) → (ql5 fl).Pairwise (· < ·) ∧ ∀ x ∈ ql5 fl, k < x
 | [], k, _ => by simp [ql5]
 | o :: fl, k, h => by
  obtain ⟨a, b⟩ := qZ4 fl (k + 1) (fun j u hu hw => by
   have := h (j + 1) u (by simpa using hu) hw
   omega)
  have e : ql5 (o :: fl) = (if o.w then [o.v] else []) ++ ql5 fl := by obtain ⟨w, k, v⟩ := o; cases w <;> rfl
  rw [e]
  cases hw : o.w with
  | false =>
   simp only [Bool.false_eq_true, if_false, List.nil_append]
   exact ⟨a, fun x hx => by have := b x hx; omega⟩
  | true =>
   have h0 := h 0 o rfl hw
   simp only [if_true, List.cons_append, List.nil_append, List.pairwise_cons, List.mem_cons]
   refine ⟨⟨fun x hx => by have := b x hx; omega, a⟩, ?_⟩
   rintro x (rfl | hx)
   ·omega
   ·have := b x hx; omega
theorem qV8.nodup {fl : List O3} (h : qV8 fl) : (ql5 fl).Nodup := by
 have := (qZ4 fl 0 (fun j o ho hw => by have := (h j o ho).1 hw; omega)).1
 exact this.imp fun {a b} hab e => by omega
theorem qV8.le {fl : List O3} (h : qV8 fl) {o : O3} (ho : o ∈ fl) : 0 ≤ o.v ∧ o.v ≤ (fl.length : Int) ∧ (o.w = true → 0 < o.v) := by
 obtain ⟨j, hj⟩ := List.mem_iff_getElem?.1 ho
 have hjl := (List.getElem?_eq_some_iff.1 hj).1
 obtain ⟨a, b⟩ := h j o hj
 cases hw : o.w with
 | true => have := a hw; exact ⟨by omega, by omega, fun _ => by omega⟩
 | false =>
  rcases b hw with e | ⟨i, u, hu, _, _, e⟩
  ·exact ⟨by omega, by omega, fun h => by cases h⟩
  ·have := (List.getElem?_eq_some_iff.1 hu).1
   exact ⟨by omega, by omega, fun h => by cases h⟩
theorem jq0 : ∀ {l : List Nat} {x : Nat}, x ∈ l → x ≤ l.sum
 | y :: l, x, h => by
  rw [List.sum_cons]
  rcases List.mem_cons.1 h with rfl | h
  ·omega
  ·have := jq0 h; omega
theorem zZ3 {p : List T4} (h64 : (flO p).length ≤ 64) (hp : p.length ≤ 64) (hl : ∀ k ∈ lnO p, 1 ≤ k) (hs : ∀ t ∈ p, 0 ≤ t.s ∧ t.s < 64 ∧ 0 ≤ t.b ∧ t.b < t.c ∧ t.c ≤ 2147483647) (hk : ∀ o ∈ flO p, 0 ≤ o.k ∧ o.k < 64) (hpw : p.Pairwise qu9) (hpl : qV8 (flO p)) : qy7 p := by
 have hlen : ∀ t ∈ p, t.ops.length ≤ (flO p).length := by
  intro t ht
  rw [← zj8]
  exact jq0 (List.mem_map.2 ⟨t, ht, rfl⟩)
 refine ⟨fun t ht => (qh1 t).2 ⟨(hs t ht).1, (hs t ht).2.1, (hs t ht).2.2.1, (hs t ht).2.2.2.1, (hs t ht).2.2.2.2, hl _ (List.mem_map.2 ⟨t, ht, rfl⟩), by have := hlen t ht; omega, fun o ho => ?_⟩, hpw, ?_, fun t ht o ho hw hv => ?_⟩
 ·have hm : o ∈ flO p := qy0.2 ⟨t, ht, ho⟩
  have h1 := hk o hm
  have h2 := hpl.le hm
  exact (qi8 o).2 ⟨h1.1, h1.2, h2.1, by omega, h2.2.2⟩
 ·rw [qD6, qV7]; exact hpl.nodup
 ·obtain ⟨j, hj⟩ := List.mem_iff_getElem?.1 (qy0.2 ⟨t, ht, ho⟩)
  rcases (hpl j o hj).2 hw with e | ⟨i, u, hu, h1, h2, h3⟩
  ·exact absurd e hv
  ·obtain ⟨t2, ht2, hu2⟩ := qy0.1 (List.mem_of_getElem? hu)
   exact ⟨t2, ht2, u, hu2, h1, h2, by rw [h3, (hpl i u hu).1 h1]⟩
end Go.Proofs.Ytngkneknopenmaa.qe4
end
section
namespace Go.Proofs.Ytngkneknopenmaa.qe4
open Go.Proofs.Ytngkneknopenmaa.Hist Go.Proofs.Ytngkneknopenmaa.qb9
theorem jk4 (z : List (Nat × Nat)) (ss : List Nat) (s x : Nat) (h : ss.length < z.length) : qH8 z (ss ++ [s]) x = if s = x then some (cm z ss.length) else qH8 z ss x := by
 unfold qH8
 have hz : z = z.take ss.length ++ z.drop ss.length := (List.take_append_drop _ _).symm
 have hd : z.drop ss.length = z[ss.length] :: z.drop (ss.length + 1) := List.drop_eq_getElem_cons h
 have e1 : (ss ++ [s]).zip z = ss.zip z ++ [(s, z[ss.length])] := by
  conv => lhs; rw [hz, hd]
  rw [List.zip_append (by rw [List.length_take]; omega)]
  have : ss.zip (z.take ss.length) = ss.zip z := by
   conv => rhs; rw [hz]
   conv => rhs; rw [show ss = ss ++ [] by simp]
   rw [List.zip_append (by rw [List.length_take]; simp; omega)]
   simp
  rw [this]
  simp only [List.zip_cons_cons, List.zip_nil_left]
 rw [e1, List.foldl_append]
 simp only [List.foldl_cons, List.foldl_nil]
 have : cm z ss.length = z[ss.length].2 := by unfold cm; rw [List.getD_eq_getElem?_getD, List.getElem?_eq_getElem h]; rfl
 rw [this]
theorem qu2 (ss : List Nat) (s : Nat) : qb4 (ss ++ [s]) = max (qb4 ss) (s + 1) := by simp [qb4, List.foldl_append]
theorem zb0 {S : Nat} {d : List (Nat × Nat)} : ∀ {r ss : List Nat}, OkS S d ss r → ∀ (j s : Nat), r[j]? = some s → s < min (qb4 (ss ++ r.take j) + 1) S ∧ qy6 d (ss ++ r.take j) s = true
 | x :: r, ss, h, 0, s, hs => by
  simp at hs
  subst hs
  simp only [List.take_zero, List.append_nil]
  exact ⟨h.1, h.2.1⟩
 | x :: r, ss, h, j + 1, s, hs => by
  have := zb0 h.2.2 j s (by simpa using hs)
  simp only [List.take_succ_cons]
  rwa [List.append_assoc, List.singleton_append] at this
theorem jR1 {S : Nat} {d : List (Nat × Nat)} : ∀ {r ss : List Nat}, OkS S d ss r → qu1 (qb4 ss) (r.map fun s : Nat => (s : Int))
 | [], ss, _ => trivial
 | x :: r, ss, h => by
  have h1 := h.1
  refine ⟨Int.natCast_nonneg _, by show (x : Int) ≤ _; omega, ?_⟩
  have ih := jR1 h.2.2
  rw [qu2] at ih
  rw [Int.toNat_natCast]
  exact ih
theorem zb1 {S : Nat} {d : List (Nat × Nat)} : ∀ {r ss : List Nat}, OkS S d ss r → qb4 ss ≤ ss.length → ∀ s ∈ r, s < S ∧ s < ss.length + r.length
 | x :: r, ss, h, hk, s, hs => by
  have h1 := h.1
  rcases List.mem_cons.1 hs with rfl | hs
  ·simp; omega
  ·have := zb1 h.2.2 (by rw [qu2, List.length_append, List.length_singleton]; omega) s hs
   simp at this ⊢
   omega
theorem zb2 {S : Nat} {z : List (Nat × Nat)} {ss : List Nat} (h : OkS S z [] ss) (hl : ss.length ≤ z.length) (hbc : ∀ i, i < z.length → bg z i < cm z i) : ∀ (i j : Nat) (s : Nat), i < j → ss[i]? = some s → ss[j]? = some s → cm z i ≤ bg z j := by
 have key : ∀ (j : Nat), j ≤ ss.length → ∀ i s, i < j → ss[i]? = some s → ∃ e, qH8 z (ss.take j) s = some e ∧ cm z i ≤ e := by
  intro j
  induction j with
  | zero => intro _ i s hi; omega
  | succ j ih =>
   intro hj i s hi hs
   obtain ⟨x, hx⟩ : ∃ x, ss[j]? = some x := ⟨_, List.getElem?_eq_getElem (by omega)⟩
   have e : ss.take (j + 1) = ss.take j ++ [x] := by rw [List.take_add_one, hx]; rfl
   have hjl : (ss.take j).length = j := by rw [List.length_take]; omega
   rw [e, jk4 z _ _ _ (by omega), hjl]
   by_cases hij : i = j
   ·subst hij
    rw [hs] at hx
    cases hx
    exact ⟨cm z i, by rw [if_pos rfl], Nat.le_refl _⟩
   ·obtain ⟨e2, h1, h2⟩ := ih (by omega) i s (by omega) hs
    by_cases hxs : x = s
    ·subst hxs
     refine ⟨cm z j, by rw [if_pos rfl], ?_⟩
     have hf := (zb0 h j x hx).2
     rw [List.nil_append] at hf
     unfold qy6 at hf
     rw [h1, hjl] at hf
     have hf' := of_decide_eq_true hf
     have := hbc j (by omega)
     unfold bg at this
     omega
    ·rw [if_neg hxs]
     exact ⟨e2, h1, h2⟩
 intro i j s hij hi hj
 have hjl := (List.getElem?_eq_some_iff.1 hj).1
 obtain ⟨e, h1, h2⟩ := key j (by omega) i s hij hi
 have hf := (zb0 h j s hj).2
 rw [List.nil_append] at hf
 unfold qy6 at hf
 rw [h1, List.length_take, Nat.min_eq_left (by omega)] at hf
 have hf' := of_decide_eq_true hf
 unfold bg
 omega
theorem jq1 {K : Nat} : ∀ {ks : List (Bool × Nat)} {kn : Nat}, jA0 K kn ks → ∀ x ∈ ks, x.2 < K ∧ x.2 < kn + ks.length
 | y :: ks, kn, h, x, hx => by
  rcases List.mem_cons.1 hx with rfl | hx
  ·have := h.1; simp; omega
  ·have := jq1 h.2 x hx
   have := h.1
   simp
   omega
theorem jq2 {K : Nat} : ∀ {ks : List (Bool × Nat)} {kn : Nat}, jA0 K kn ks → qu1 kn (ks.map fun x => (x.2 : Int))
 | [], _, _ => trivial
 | y :: ks, kn, h => by
  have := h.1
  refine ⟨Int.natCast_nonneg _, by show (y.2 : Int) ≤ _; omega, ?_⟩
  rw [Int.toNat_natCast]
  exact jq2 h.2
def zw4 (x : Bool × Nat) (v : Nat) : O3 := ⟨x.1, (x.2 : Int), (v : Int)⟩
def jq3 (ks : List (Bool × Nat)) (vs : List Nat) : List O3 := List.zipWith zw4 ks vs
theorem qz0 {ks : List (Bool × Nat)} {vs : List Nat} {j : Nat} {o : O3} : (jq3 ks vs)[j]? = some o ↔ ∃ x v, ks[j]? = some x ∧ vs[j]? = some v ∧ o = zw4 x v := by
 unfold jq3
 rw [List.getElem?_zipWith]
 constructor
 ·intro h
  split at h
  ·rename_i x v h1 h2
   cases h
   exact ⟨x, v, h1, h2, rfl⟩
  ·cases h
 ·rintro ⟨x, v, h1, h2, rfl⟩
  rw [h1, h2]
theorem qz1 {ks : List (Bool × Nat)} {vs : List Nat} (h : vs.length = ks.length) : (jq3 ks vs).length = ks.length := by unfold jq3; rw [List.length_zipWith]; omega
theorem zq9 {ks : List (Bool × Nat)} {vs : List Nat} (h : OkV ks 0 ks vs) : qV8 (jq3 ks vs) := by
 obtain ⟨hl, ha⟩ := jm0.1 h
 intro j o ho
 obtain ⟨x, v, h1, h2, rfl⟩ := qz0.1 ho
 have hx := ha j x v h1 h2
 refine ⟨fun hw => ?_, fun hw => ?_⟩
 ·have hw' : x.1 = true := hw
  rw [if_pos hw'] at hx
  show (v : Int) = (j : Int) + 1
  omega
 ·have hw' : x.1 = false := hw
  rw [if_neg (by rw [hw']; simp)] at hx
  unfold choices at hx
  rcases List.mem_cons.1 hx with rfl | hx
  ·exact .inl rfl
  ·right
   obtain ⟨i, rfl, hi⟩ := (qB6 x.2 ks 1 v).1 hx
   obtain ⟨u, hu⟩ : ∃ u, vs[i]? = some u := ⟨_, List.getElem?_eq_getElem (by rw [hl]; exact (List.getElem?_eq_some_iff.1 hi).1)⟩
   exact ⟨i, zw4 (true, x.2) u, qz0.2 ⟨_, _, hi, hu, rfl⟩, rfl, rfl, by show ((1 + i : Nat) : Int) = (i : Int) + 1; omega⟩
def hds (z : List (Nat × Nat)) (ss : List Nat) : List (Int × Int × Int) := List.zipWith (fun (s : Nat) (x : Nat × Nat) => ((s : Int), (x.1 : Int), (x.2 : Int))) ss z
theorem jm3 {z : List (Nat × Nat)} {ss : List Nat} {i : Nat} {x : Int × Int × Int} : (hds z ss)[i]? = some x ↔ ∃ s y, ss[i]? = some s ∧ z[i]? = some y ∧ x = ((s : Int), (y.1 : Int), (y.2 : Int)) := by
 unfold hds
 rw [List.getElem?_zipWith]
 constructor
 ·intro h
  split at h
  ·rename_i s y h1 h2
   cases h
   exact ⟨s, y, h1, h2, rfl⟩
  ·cases h
 ·rintro ⟨s, y, h1, h2, rfl⟩
  rw [h1, h2]
theorem qJ8 {z : List (Nat × Nat)} {i : Nat} {y : Nat × Nat} (h : z[i]? = some y) : bg z i = y.1 ∧ cm z i = y.2 := by
 unfold bg cm
 rw [List.getD_eq_getElem?_getD, h]
 exact ⟨rfl, rfl⟩
structure qm3 (n K m S : Nat) (z : List (Nat × Nat)) (ss cs : List Nat) (ks : List (Bool × Nat)) (vs : List Nat) : Prop where
 ze : Ext n 0 [] [] z
 sl : ss.length = n
 s : OkS S z [] ss
 cl : cs.length = n
 c : cs.sum = m
 c1 : ∀ k ∈ cs, 1 ≤ k
 kl : ks.length = m
 k : jA0 K 0 ks
 v : OkV ks 0 ks vs
variable {n K m S : Nat} {z : List (Nat × Nat)} {ss cs : List Nat} {ks : List (Bool × Nat)} {vs : List Nat}
def qa7 (z : List (Nat × Nat)) (ss cs : List Nat) (ks : List (Bool × Nat)) (vs : List Nat) : List T4 := qZ3 (hds z ss) cs (jq3 ks vs)
theorem qm3.vl (r : qm3 n K m S z ss cs ks vs) : vs.length = m := by rw [(jm0.1 r.v).1, r.kl]
theorem qm3.spec (r : qm3 n K m S z ss cs ks vs) : (qa7 z ss cs ks vs).map hdT = hds z ss ∧ lnO (qa7 z ss cs ks vs) = cs ∧ flO (qa7 z ss cs ks vs) = jq3 ks vs :=
 jR0 _ _ _ (by unfold hds; rw [List.length_zipWith, r.sl, r.ze.len, r.cl]; omega) (by rw [qz1 (by rw [r.vl, r.kl]), r.kl, r.c])
theorem qm3.length (r : qm3 n K m S z ss cs ks vs) : (qa7 z ss cs ks vs).length = n := by
 have := congrArg List.length r.spec.1
 rw [List.length_map] at this
 rw [this]
 unfold hds
 rw [List.length_zipWith, r.sl, r.ze.len]
 omega
theorem qm3.at (r : qm3 n K m S z ss cs ks vs) {i : Nat} {t : T4} (ht : (qa7 z ss cs ks vs)[i]? = some t) : ∃ s y, ss[i]? = some s ∧ z[i]? = some y ∧ t.s = (s : Int) ∧ t.b = (y.1 : Int) ∧ t.c = (y.2 : Int) := by
 have h : ((qa7 z ss cs ks vs).map hdT)[i]? = some (hdT t) := by rw [List.getElem?_map, ht]; rfl
 rw [r.spec.1] at h
 obtain ⟨s, y, h1, h2, e⟩ := jm3.1 h
 unfold hdT at e
 simp only [Prod.mk.injEq] at e
 exact ⟨s, y, h1, h2, e.1, e.2.1, e.2.2⟩
theorem qm3.bc (r : qm3 n K m S z ss cs ks vs) : ∀ i, i < z.length → bg z i < cm z i := fun i hi => (r.ze.new i (Nat.zero_le _) (by rw [← r.ze.len]; exact hi)).2
theorem qm3.pairs (r : qm3 n K m S z ss cs ks vs) : (qa7 z ss cs ks vs).Pairwise fun u t => qu9 u t ∧ u.b < t.b := by
 rw [List.pairwise_iff_getElem]
 intro i j hi hj hij
 have hn := r.length
 obtain ⟨s, y, h1, h2, e1, e2, e3⟩ := r.at (List.getElem?_eq_getElem hi)
 obtain ⟨s', y', g1, g2, f1, f2, f3⟩ := r.at (List.getElem?_eq_getElem hj)
 obtain ⟨b1, c1⟩ := qJ8 h2
 obtain ⟨b2, c2⟩ := qJ8 g2
 have k1 := r.ze.inc i j (Nat.zero_le _) hij (by omega)
 have k2 := r.ze.dbc i j (Nat.zero_le _) (by omega) (.inr (Nat.zero_le _)) (by omega)
 have k3 := r.ze.dbc j i (Nat.zero_le _) (by omega) (.inr (Nat.zero_le _)) (by omega)
 have k4 := r.ze.dcc i j (.inr (Nat.zero_le _)) (by omega) (.inr (Nat.zero_le _)) (by omega) (by omega)
 refine ⟨⟨by rw [e2, f2]; omega, by rw [e2, f3]; omega, by rw [e3, f2]; omega, by rw [e3, f3]; omega, fun e => ?_⟩, by rw [e2, f2]; omega⟩
 have hs : s = s' := by rw [e1, f1] at e; omega
 subst hs
 have := zb2 r.s (by rw [r.sl, r.ze.len]; exact Nat.le_refl _) r.bc i j s hij h1 g1
 rw [e3, f2]
 omega
theorem qm3.zw5 (r : qm3 n K m S z ss cs ks vs) : zI (qa7 z ss cs ks vs) = ss.map fun s : Nat => (s : Int) := by
 apply List.ext_getElem?
 intro i
 unfold zI
 rw [List.getElem?_map, List.getElem?_map]
 by_cases hi : i < n
 ·obtain ⟨s, y, h1, h2, e1, _⟩ := r.at (List.getElem?_eq_getElem (by rw [r.length]; exact hi))
  rw [List.getElem?_eq_getElem (by rw [r.length]; exact hi), h1]
  exact congrArg some e1
 ·rw [List.getElem?_eq_none (by rw [r.length]; omega), List.getElem?_eq_none (by rw [r.sl]; omega)]; rfl
theorem qm3.keys (r : qm3 n K m S z ss cs ks vs) : jL (qa7 z ss cs ks vs) = ks.map fun x => (x.2 : Int) := by
 rw [qq2, r.spec.2.2]
 have hl : vs.length = ks.length := by rw [r.vl, r.kl]
 apply List.ext_getElem?
 intro i
 rw [List.getElem?_map, List.getElem?_map]
 by_cases hi : i < ks.length
 ·rw [qz0.2 ⟨_, _, List.getElem?_eq_getElem hi, List.getElem?_eq_getElem (by rw [hl]; exact hi), rfl⟩, List.getElem?_eq_getElem hi]
  rfl
 ·rw [List.getElem?_eq_none (by rw [qz1 hl]; omega), List.getElem?_eq_none (by omega)]; rfl
theorem qm3.placed (r : qm3 n K m S z ss cs ks vs) : qV8 (flO (qa7 z ss cs ks vs)) := by rw [r.spec.2.2]; exact zq9 r.v
theorem qm3.stamps (r : qm3 n K m S z ss cs ks vs) (hnd : (j5 (qa7 z ss cs ks vs)).Nodup) : (j5 (qa7 z ss cs ks vs)).Perm (qa6 (2 * n)) := by
 have hl : (j5 (qa7 z ss cs ks vs)).length = 2 * n := by rw [qp9, r.length]; omega
 have hr : (qa6 (2 * n)).Nodup := by
  unfold qa6 List.Nodup
  rw [List.pairwise_map]
  exact (List.nodup_range (n := 2 * n)).imp fun {a b} hab e => hab (by omega)
 have hsub : qa6 (2 * n) ⊆ j5 (qa7 z ss cs ks vs) := by
  intro x hx
  obtain ⟨h0, h1⟩ := qh2.1 hx
  obtain ⟨u, rfl⟩ : ∃ u : Nat, x = (u : Int) := ⟨x.toNat, by omega⟩
  rw [qt5]
  rcases r.ze.cov u (Nat.zero_le _) (by omega) with ⟨i, _, hi, e⟩ | ⟨i, _, hi, e⟩
  ·obtain ⟨t, ht⟩ : ∃ t, (qa7 z ss cs ks vs)[i]? = some t := ⟨_, List.getElem?_eq_getElem (by rw [r.length]; exact hi)⟩
   obtain ⟨s, y, _, h2, _, e2, _⟩ := r.at ht
   exact ⟨t, List.mem_of_getElem? ht, .inl (by rw [e2, ← (qJ8 h2).1, e])⟩
  ·obtain ⟨t, ht⟩ : ∃ t, (qa7 z ss cs ks vs)[i]? = some t := ⟨_, List.getElem?_eq_getElem (by rw [r.length]; exact hi)⟩
   obtain ⟨s, y, _, h2, _, _, e3⟩ := r.at ht
   exact ⟨t, List.mem_of_getElem? ht, .inr (by rw [e3, ← (qJ8 h2).2, e])⟩
 rw [List.perm_iff_count]
 intro a
 rw [hnd.count, hr.count]
 by_cases ha : a ∈ qa6 (2 * n)
 ·rw [if_pos ha, if_pos (hsub ha)]
 ·rw [if_neg ha]
  by_cases hb : a ∈ j5 (qa7 z ss cs ks vs)
  ·have h1 : (a :: qa6 (2 * n)).Nodup := List.nodup_cons.2 ⟨ha, hr⟩
   have h2 := h1.length_le_of_subset (l₂ := j5 (qa7 z ss cs ks vs)) (by intro x hx; rcases List.mem_cons.1 hx with rfl | hx; exact hb; exact hsub hx)
   rw [List.length_cons, qk7, hl] at h2
   omega
  ·rw [if_neg hb]
end Go.Proofs.Ytngkneknopenmaa.qe4
end
section
namespace Go.Proofs.Ytngkneknopenmaa.qe4
open Go.Proofs.Ytngkneknopenmaa.Hist Go.Proofs.Ytngkneknopenmaa.qb9
theorem qJ9 : ∀ {p : List T4}, (∀ t ∈ p, t.b ≠ t.c) → p.Pairwise qu9 → (j5 p).Nodup
 | [], _, _ => by simp [j5]
 | t :: p, h, hp => by
  obtain ⟨h1, h2⟩ := List.pairwise_cons.1 hp
  have ih := qJ9 (fun u hu => h u (by simp [hu])) h2
  have e : j5 (t :: p) = t.b :: t.c :: j5 p := rfl
  rw [e, List.nodup_cons, List.nodup_cons]
  refine ⟨fun hm => ?_, fun hm => ?_, ih⟩
  ·rcases List.mem_cons.1 hm with hm | hm
   ·exact h t (by simp) hm
   ·obtain ⟨u, hu, e | e⟩ := qt5.1 hm
    ·exact (h1 u hu).1 e.symm
    ·exact (h1 u hu).2.1 e.symm
  ·obtain ⟨u, hu, e | e⟩ := qt5.1 hm
   ·exact (h1 u hu).2.2.1 e.symm
   ·exact (h1 u hu).2.2.2.1 e.symm
theorem qK0 : ∀ (N : Nat) (x : Int), 0 ≤ x → x ≤ (N : Int) → (jO (qa6 N) x : Int) = x
 | 0, x, h0, h1 => by
  have : x = 0 := by omega
  subst this
  rfl
 | N + 1, x, h0, h1 => by
  rw [qF5]
  unfold jO
  rw [List.countP_append]
  by_cases h : x ≤ (N : Int)
  ·have ih := qK0 N x h0 h
   unfold jO at ih
   have e : List.countP (fun y => decide (y < x)) [(N : Int)] = 0 := by simp; omega
   rw [e]
   omega
  ·have hx : x = (N : Int) + 1 := by omega
   have ih := qK0 N N (by omega) (by omega)
   unfold jO at ih
   have e : List.countP (fun y => decide (y < x)) [(N : Int)] = 1 := by simp; omega
   have e2 : List.countP (fun y => decide (y < x)) (qa6 N) = N := by
    have : List.countP (fun y => decide (y < x)) (qa6 N) = (qa6 N).length := by
     rw [List.countP_eq_length]
     intro a ha
     have := qh2.1 ha
     simp
     omega
    rw [this, qk7]
   rw [e, e2]
   omega
def qD8 (V : Int → Int) : Ren := ⟨id, id, V, id⟩
theorem jm4 (ρ : Ren) : ∀ p : List T4, flO (p.map (qm2 ρ)) = (flO p).map (qj8 ρ)
 | [] => rfl
 | t :: p => by
  rw [List.map_cons, qP9, qP9, List.map_append, jm4 ρ p]
  rfl
theorem zI3 (ρ : Ren) (p : List T4) : lnO (p.map (qm2 ρ)) = lnO p := by
 unfold lnO
 rw [List.map_map]
 exact List.map_congr_left fun t _ => by simp [qm2]
variable {n K m S : Nat} {z : List (Nat × Nat)} {ss cs : List Nat} {ks : List (Bool × Nat)} {vs : List Nat}
theorem qm3.zU3 (r : qm3 n K m S z ss cs ks vs) : (j5 (qa7 z ss cs ks vs)).Nodup := by
 refine qJ9 (fun t ht => ?_) (r.pairs.imp And.left)
 obtain ⟨i, hi⟩ := List.mem_iff_getElem?.1 ht
 obtain ⟨s, y, _, h2, _, e2, e3⟩ := r.at hi
 have := r.bc i (List.getElem?_eq_some_iff.1 h2).1
 rw [(qJ8 h2).1, (qJ8 h2).2] at this
 rw [e2, e3]
 omega
theorem qm3.may (r : qm3 n K m S z ss cs ks vs) (hn : n ≤ 64) (hm : m ≤ 64) : qy7 (qa7 z ss cs ks vs) := by
 have hfl : (flO (qa7 z ss cs ks vs)).length = m := by rw [r.spec.2.2, qz1 (by rw [r.vl, r.kl]), r.kl]
 refine zZ3 (by rw [hfl]; exact hm) (by rw [r.length]; exact hn) (by rw [r.spec.2.1]; exact r.c1) (fun t ht => ?_) (fun o ho => ?_) (r.pairs.imp And.left) r.placed
 ·obtain ⟨i, hi⟩ := List.mem_iff_getElem?.1 ht
  obtain ⟨s, y, h1, h2, e1, e2, e3⟩ := r.at hi
  have hs := (zb1 r.s (by simp [qb4]) s (List.mem_of_getElem? h1)).2
  rw [List.length_nil, r.sl] at hs
  have hbc := r.bc i (List.getElem?_eq_some_iff.1 h2).1
  rw [(qJ8 h2).1, (qJ8 h2).2] at hbc
  have hc := (qh2.1 ((r.stamps r.zU3).mem_iff.1 (qd8 ht).2)).2
  rw [e1, e2, e3]
  rw [e3] at hc
  exact ⟨by omega, by omega, by omega, by omega, by omega⟩
 ·rw [r.spec.2.2] at ho
  obtain ⟨j, hj⟩ := List.mem_iff_getElem?.1 ho
  obtain ⟨x, v, h1, _, rfl⟩ := qz0.1 hj
  have := (jq1 r.k x (List.mem_of_getElem? h1)).2
  rw [r.kl] at this
  show 0 ≤ (x.2 : Int) ∧ (x.2 : Int) < 64
  omega
theorem qm3.check (r : qm3 n K m S z ss cs ks vs) (hn : n ≤ 64) (hm : m ≤ 64) : zW (qa7 z ss cs ks vs) = 0 := by
 have hfl : (flO (qa7 z ss cs ks vs)).length = m := by rw [r.spec.2.2, qz1 (by rw [r.vl, r.kl]), r.kl]
 exact (qD3 _ (by rw [r.length]; exact hn) (by rw [qk2, hfl]; omega)).2 (r.may hn hm)
theorem qm3.sorted (r : qm3 n K m S z ss cs ks vs) : qc0 (qa7 z ss cs ks vs) = qa7 z ss cs ks vs := by
 refine qs5 (zM _) (qh5 _) (r.pairs.imp fun {a b} h => by have := h.2; omega) (fun x hx y hy e => ?_)
 have hx := (zM _).mem_iff.1 hx
 have hy := (zM _).mem_iff.1 hy
 obtain ⟨i, hi⟩ := List.mem_iff_getElem?.1 hx
 obtain ⟨j, hj⟩ := List.mem_iff_getElem?.1 hy
 obtain ⟨hil, rfl⟩ := List.getElem?_eq_some_iff.1 hi
 obtain ⟨hjl, rfl⟩ := List.getElem?_eq_some_iff.1 hj
 have hpw := List.pairwise_iff_getElem.1 r.pairs
 rcases Nat.lt_trichotomy i j with h | h | h
 ·have := (hpw i j hil hjl h).2; omega
 ·subst h; rfl
 ·have := (hpw j i hjl hil h).2; omega
def zb3 (p : List T4) (x : Int) : Int := 1 + (zU (names (zB p)) x : Int)
theorem qm3.canon (r : qm3 n K m S z ss cs ks vs) : jW (qa7 z ss cs ks vs) = (qa7 z ss cs ks vs).map (qm2 (qD8 (zb3 (qa7 z ss cs ks vs)))) := by
 rw [qk6, r.sorted]
 refine List.map_congr_left fun t ht => ?_
 have hS : qu1 0 (zI (qa7 z ss cs ks vs)) := by rw [r.zw5]; exact jR1 r.s
 have hK : qu1 0 (jL (qa7 z ss cs ks vs)) := by rw [r.keys]; exact jq2 r.k
 have hR : ∀ x ∈ j5 (qa7 z ss cs ks vs), qu4 (qa7 z ss cs ks vs) x = x := by
  intro x hx
  have hp := r.stamps r.zU3
  have h1 := qh2.1 (hp.mem_iff.1 hx)
  unfold qu4
  have e : jO (j5 (qa7 z ss cs ks vs)) x = jO (qa6 (2 * n)) x := hp.countP_eq _
  rw [e]
  exact qK0 _ x h1.1 (by omega)
 have e1 : (qj9 (qa7 z ss cs ks vs)).S t.s = t.s := by
  unfold qj9
  rw [r.sorted]
  exact jB5 hS t.s (qi3.2 ⟨t, ht, rfl⟩)
 have e2 : (qj9 (qa7 z ss cs ks vs)).R t.b = t.b := hR t.b (qd8 ht).1
 have e3 : (qj9 (qa7 z ss cs ks vs)).R t.c = t.c := hR t.c (qd8 ht).2
 have e4 : t.ops.map (qj8 (qj9 (qa7 z ss cs ks vs))) = t.ops.map (qj8 (qD8 (zb3 (qa7 z ss cs ks vs)))) := by
  refine List.map_congr_left fun o ho => ?_
  have k1 : (qj9 (qa7 z ss cs ks vs)).K o.k = o.k := by
   unfold qj9
   rw [r.sorted]
   exact jB5 hK o.k (qq8.2 ⟨t, ht, o, ho, rfl⟩)
  have k2 : (qj9 (qa7 z ss cs ks vs)).V = zb3 (qa7 z ss cs ks vs) := by
   unfold qj9 zb3
   rw [r.sorted]
  unfold qj8
  rw [k1, k2]
  rfl
 unfold qm2
 rw [e1, e2, e3, e4]
 rfl
def plV (fl : List O3) (v : Int) : Int := 1 + (fl.findIdx fun u => u.w && decide (u.v = v) : Nat)
def qt6 (p : List T4) : List T4 := p.map (qm2 (qD8 (plV (flO p))))
theorem qm3.back (r : qm3 n K m S z ss cs ks vs) : qt6 (jW (qa7 z ss cs ks vs)) = qa7 z ss cs ks vs := by
 rw [r.canon]
 generalize hV : zb3 (qa7 z ss cs ks vs) = V
 have hVi : ∀ x ∈ zB (qa7 z ss cs ks vs), ∀ y ∈ zB (qa7 z ss cs ks vs), V x = V y → x = y := by
  intro x hx y hy e
  rw [← hV] at e
  unfold zb3 at e
  exact qZ2 (qc8.2 hx) (qc8.2 hy) (by omega)
 have hVz : ∀ x, V x ≠ 0 := by intro x; rw [← hV]; unfold zb3; omega
 have hpl := r.placed
 generalize hp : qa7 z ss cs ks vs = p at *
 unfold qt6
 rw [jm4, List.map_map]
 conv => rhs; rw [← List.map_id p]
 refine List.map_congr_left fun t ht => ?_
 have hops : (t.ops.map (qj8 (qD8 V))).map (qj8 (qD8 (plV ((flO p).map (qj8 (qD8 V)))))) = t.ops := by
  rw [List.map_map]
  conv => rhs; rw [← List.map_id t.ops]
  refine List.map_congr_left fun o ho => ?_
  have hm : o ∈ flO p := qy0.2 ⟨t, ht, ho⟩
  show (⟨o.w, o.k, if (if o.v = 0 then 0 else V o.v) = 0 then 0 else plV ((flO p).map (qj8 (qD8 V))) (if o.v = 0 then 0 else V o.v)⟩ : O3) = o
  by_cases hz : o.v = 0
  ·rw [if_pos hz, if_pos rfl, ← hz]
  ·rw [if_neg hz, if_neg (hVz _)]
   obtain ⟨i, u, hi, hw, hv⟩ : ∃ (i : Nat) (u : O3), (flO p)[i]? = some u ∧ u.w = true ∧ o.v = (i : Int) + 1 := by
    obtain ⟨j, hj⟩ := List.mem_iff_getElem?.1 hm
    cases hw : o.w with
    | true => exact ⟨j, o, hj, hw, (hpl j o hj).1 hw⟩
    | false =>
     rcases (hpl j o hj).2 hw with e | ⟨i, u, h1, h2, _, h4⟩
     ·exact absurd e hz
     ·exact ⟨i, u, h1, h2, h4⟩
   have huv : u.v = o.v := by rw [(hpl i u hi).1 hw, hv]
   have hil := (List.getElem?_eq_some_iff.1 hi).1
   have hvm : ∀ x ∈ flO p, x.v ≠ 0 → x.v ∈ zB p := fun x hx hn => by
    obtain ⟨t2, ht2, hx2⟩ := qy0.1 hx
    exact ql4.2 ⟨t2, ht2, x, hx2, hn, rfl⟩
   have hidx : ((flO p).map (qj8 (qD8 V))).findIdx (fun x => x.w && decide (x.v = V o.v)) = i := by
    rw [List.findIdx_eq (by rw [List.length_map]; exact hil)]
    have hget : ∀ j (hj : j < (flO p).length), ((flO p).map (qj8 (qD8 V)))[j]'(by rw [List.length_map]; exact hj) = qj8 (qD8 V) ((flO p)[j]) := fun j hj => by simp
    refine ⟨?_, fun j hj => ?_⟩
    ·rw [hget i hil, show (flO p)[i] = u from (List.getElem?_eq_some_iff.1 hi).2]
     have : (qj8 (qD8 V) u).v = V o.v := by show (if u.v = 0 then 0 else V u.v) = _; rw [if_neg (by rw [huv]; exact hz), huv]
     have hw2 : (qj8 (qD8 V) u).w = true := hw
     rw [hw2, this]
     simp
    ·have hjl : j < (flO p).length := by omega
     rw [hget j hjl]
     have hj' := hpl j _ (List.getElem?_eq_getElem hjl)
     cases hwj : (flO p)[j].w with
     | false =>
      have : (qj8 (qD8 V) (flO p)[j]).w = false := hwj
      rw [this]; rfl
     | true =>
      have e1 := hj'.1 hwj
      have hne : (qj8 (qD8 V) (flO p)[j]).v ≠ V o.v := by
       show (if (flO p)[j].v = 0 then 0 else V (flO p)[j].v) ≠ _
       rw [if_neg (by omega)]
       intro e
       have := hVi _ (hvm _ (List.getElem_mem hjl) (by omega)) _ (hvm o hm hz) e
       omega
      have h2 : decide ((qj8 (qD8 V) (flO p)[j]).v = V o.v) = false := decide_eq_false hne
      rw [h2, Bool.and_false]
   unfold plV
   rw [hidx, show (1 : Int) + ((i : Nat) : Int) = o.v by omega]
 show (⟨t.s, t.b, t.c, _⟩ : T4) = t
 rw [show (qm2 (qD8 V) t).ops = t.ops.map (qj8 (qD8 V)) from rfl, hops]
end Go.Proofs.Ytngkneknopenmaa.qe4
end
section
namespace Go.Proofs.Ytngkneknopenmaa.qe4
open Go.Proofs.Ytngkneknopenmaa.Hist Go.Proofs.Ytngkneknopenmaa.qb9
theorem zw6 {S : Nat} {d : List (Nat × Nat)} : ∀ {r ss : List Nat}, (∀ (j s : Nat), r[j]? = some s → s < min (qb4 (ss ++ r.take j) + 1) S ∧ qy6 d (ss ++ r.take j) s = true) → OkS S d ss r
 | [], _, _ => trivial
 | x :: r, ss, h => by
  have h0 := h 0 x rfl
  rw [List.take_zero, List.append_nil] at h0
  refine ⟨h0.1, h0.2, zw6 fun j s hs => ?_⟩
  have := h (j + 1) s (by simpa using hs)
  rw [List.take_succ_cons] at this
  rwa [List.append_assoc, List.singleton_append]
theorem zj9 : ∀ {r ss : List Nat}, qu1 (qb4 ss) (r.map fun s : Nat => (s : Int)) → ∀ (j s : Nat), r[j]? = some s → s ≤ qb4 (ss ++ r.take j)
 | x :: r, ss, h, 0, s, hs => by
  simp at hs
  subst hs
  have := h.2.1
  rw [List.take_zero, List.append_nil]
  have h2 : (x : Int) ≤ (qb4 ss : Int) := this
  omega
 | x :: r, ss, h, j + 1, s, hs => by
  have h3 : qu1 (qb4 (ss ++ [x])) (r.map fun s : Nat => (s : Int)) := by
   rw [qu2]
   have := h.2.2
   rwa [Int.toNat_natCast] at this
  have := zj9 h3 j s (by simpa using hs)
  rwa [List.append_assoc, List.singleton_append, ← List.take_succ_cons] at this
theorem zb4 {z : List (Nat × Nat)} {ss : List Nat} (hl : ss.length ≤ z.length) : ∀ (j : Nat), j ≤ ss.length → ∀ (s e : Nat), qH8 z (ss.take j) s = some e → ∃ i, i < j ∧ ss[i]? = some s ∧ e = cm z i := by
 intro j
 induction j with
 | zero => intro _ s e h; simp [qH8] at h
 | succ j ih =>
  intro hj s e h
  obtain ⟨x, hx⟩ : ∃ x, ss[j]? = some x := ⟨_, List.getElem?_eq_getElem (by omega)⟩
  rw [show ss.take (j + 1) = ss.take j ++ [x] by rw [List.take_add_one, hx]; rfl, jk4 z _ _ _ (by rw [List.length_take]; omega), List.length_take, Nat.min_eq_left (by omega)] at h
  by_cases hxs : x = s
  ·subst hxs
   rw [if_pos rfl] at h
   cases h
   exact ⟨j, by omega, hx, rfl⟩
  ·rw [if_neg hxs] at h
   obtain ⟨i, h1, h2, h3⟩ := ih (by omega) s e h
   exact ⟨i, by omega, h2, h3⟩
theorem jR2 {K : Nat} : ∀ {ks : List (Bool × Nat)} {kn : Nat}, qu1 kn (ks.map fun x => (x.2 : Int)) → (∀ x ∈ ks, x.2 < K) → jA0 K kn ks
 | [], _, _, _ => trivial
 | y :: ks, kn, h, hk => by
  have h1 : (y.2 : Int) ≤ (kn : Int) := h.2.1
  have h2 := hk y (by simp)
  refine ⟨by omega, jR2 ?_ fun x hx => hk x (by simp [hx])⟩
  have := h.2.2
  rwa [Int.toNat_natCast] at this
theorem jB6 : ∀ {fl : List O3}, (ql5 fl).Nodup → ∀ (i j : Nat) (u x : O3), fl[i]? = some u → fl[j]? = some x → u.w = true → x.w = true → u.v = x.v → i = j
 | [], _, i, j, u, x, hu, _, _, _, _ => by simp at hu
 | o :: fl, hn, i, j, u, x, hu, hx, hw, hw2, e => by
  have e1 : ql5 (o :: fl) = (if o.w then [o.v] else []) ++ ql5 fl := by obtain ⟨w, k, v⟩ := o; cases w <;> rfl
  rw [e1, List.nodup_append] at hn
  have hmem : ∀ (k : Nat) (y : O3), fl[k]? = some y → y.w = true → y.v ∈ ql5 fl := fun k y hy hyw => List.mem_filterMap.2 ⟨y, List.mem_of_getElem? hy, by rw [if_pos hyw]⟩
  cases i with
  | zero =>
   simp at hu
   subst hu
   cases j with
   | zero => rfl
   | succ j =>
    have := hn.2.2 o.v (by rw [if_pos hw]; simp) x.v (hmem j x (by simpa using hx) hw2)
    exact absurd e this
  | succ i =>
   cases j with
   | zero =>
    simp at hx
    subst hx
    have := hn.2.2 o.v (by rw [if_pos hw2]; simp) u.v (hmem i u (by simpa using hu) hw)
    exact absurd e.symm this
   | succ j => rw [jB6 hn.2.1 i j u x (by simpa using hu) (by simpa using hx) hw hw2 e]
theorem zb5 {fl : List O3} (hn : (ql5 fl).Nodup) {i : Nat} {u : O3} (hu : fl[i]? = some u) (hw : u.w = true) : fl.findIdx (fun x => x.w && decide (x.v = u.v)) = i := by
 obtain ⟨hil, rfl⟩ := List.getElem?_eq_some_iff.1 hu
 rw [List.findIdx_eq hil]
 refine ⟨by rw [hw]; simp, fun j hj => ?_⟩
 cases hwj : fl[j].w with
 | false => rfl
 | true =>
  have : fl[j].v ≠ fl[i].v := fun e => by
   have := jB6 hn i j _ _ (List.getElem?_eq_getElem hil) (List.getElem?_eq_getElem (by omega)) hw hwj e.symm
   omega
  rw [Bool.true_and]
  exact decide_eq_false this
structure Can (h : List T4) : Prop where
 ok : zW h = 0
 eq : jW h = h
variable {h : List T4}
theorem Can.may (c : Can h) : qy7 h := (qe5 c.ok).2.2
theorem Can.sorted (c : Can h) : h.Pairwise (fun x y => x.b ≤ y.b) := by
 have k := (qI4 h)
 have e := c.eq
 rw [qk6] at e
 rw [← e, List.pairwise_map]
 refine (qh5 h).imp_of_mem fun {a b} ha hb hab => ?_
 show (qj9 h).R a.b ≤ (qj9 h).R b.b
 exact (jG3 k.r (qd8 ha).1 (qd8 hb).1).2 hab
theorem Can.sort (c : Can h) : qc0 h = h :=
 qs5 (zM _) (qh5 _) c.sorted (fun x hx y hy e => qJ6 c.may x ((zM _).mem_iff.1 hx) y ((zM _).mem_iff.1 hy) e)
theorem jq4 {α : Type} {f : α → α} : ∀ {l : List α}, l.map f = l → ∀ x ∈ l, f x = x
 | y :: l, h, x, hx => by
  rw [List.map_cons, List.cons.injEq] at h
  rcases List.mem_cons.1 hx with rfl | hx
  ·exact h.1
  ·exact jq4 h.2 x hx
theorem Can.self (c : Can h) : ∀ t ∈ h, qm2 (qj9 h) t = t := by
 have e := c.eq
 rw [qk6, c.sort] at e
 exact jq4 e
theorem Can.zw5 (c : Can h) : qu1 0 (zI h) := by
 refine qS6 _ 0 fun x hx => ?_
 obtain ⟨t, ht, rfl⟩ := qi3.1 hx
 have e := congrArg T4.s (c.self t ht)
 unfold qm2 qj9 at e
 rw [c.sort] at e
 exact e
theorem Can.keys (c : Can h) : qu1 0 (jL h) := by
 refine qS6 _ 0 fun x hx => ?_
 obtain ⟨t, ht, o, ho, rfl⟩ := qq8.1 hx
 have e := congrArg T4.ops (c.self t ht)
 have e2 : qj8 (qj9 h) o = o := jq4 e o ho
 have e3 := congrArg O3.k e2
 unfold qj8 qj9 at e3
 rw [c.sort] at e3
 exact e3
theorem Can.at {i j : Nat} (c : Can h) (hij : i < j) {u t : T4} (hu : h[i]? = some u) (ht : h[j]? = some t) : qu9 u t ∧ u.b < t.b := by
 obtain ⟨hil, rfl⟩ := List.getElem?_eq_some_iff.1 hu
 obtain ⟨hjl, rfl⟩ := List.getElem?_eq_some_iff.1 ht
 have h1 := List.pairwise_iff_getElem.1 c.may.2.1 i j hil hjl hij
 have h2 := List.pairwise_iff_getElem.1 c.sorted i j hil hjl hij
 exact ⟨h1, by have := h1.1; omega⟩
theorem Can.right (c : Can h) {t : T4} (ht : t ∈ h) : 0 ≤ t.s ∧ 0 ≤ t.b ∧ t.b < t.c ∧ 1 ≤ t.ops.length ∧ ∀ o ∈ t.ops, 0 ≤ o.k ∧ 0 ≤ o.v ∧ (o.w = true → 0 < o.v) := by
 obtain ⟨a1, a2, a3, a4, a5, a6, a7, a8⟩ := (qh1 t).1 (c.may.1 t ht)
 exact ⟨a1, a3, a4, by omega, fun o ho => by obtain ⟨b1, b2, b3, b4, b5⟩ := (qi8 o).1 (a8 o ho); exact ⟨b1, b3, b5⟩⟩
def zOf (h : List T4) : List (Nat × Nat) := h.map fun t => (t.b.toNat, t.c.toNat)
theorem qx6 {i : Nat} {t : T4} (ht : h[i]? = some t) : bg (zOf h) i = t.b.toNat ∧ cm (zOf h) i = t.c.toNat :=
 qJ8 (z := zOf h) (i := i) (y := (t.b.toNat, t.c.toNat)) (by unfold zOf; rw [List.getElem?_map, ht]; rfl)
theorem get_some {i : Nat} (hi : i < h.length) : ∃ t, h[i]? = some t ∧ t ∈ h := ⟨_, List.getElem?_eq_getElem hi, List.getElem_mem hi⟩
theorem Can.stamps (c : Can h) : (j5 h).Perm (qa6 (2 * h.length)) := by
 have hnd : (j5 h).Nodup := qJ9 (fun t ht => by have := c.right ht; omega) c.may.2.1
 have hl : (j5 h).length = 2 * h.length := by rw [qp9]; omega
 have hr : (qa6 (2 * h.length)).Nodup := by
  unfold qa6 List.Nodup
  rw [List.pairwise_map]
  exact (List.nodup_range (n := 2 * h.length)).imp fun {a b} hab e => hab (by omega)
 have hlt : ∀ y ∈ j5 h, (qj9 h).R y < (2 * h.length : Int) ∧ 0 ≤ (qj9 h).R y := by
  intro y hy
  show qu4 h y < _ ∧ 0 ≤ qu4 h y
  unfold qu4
  have h1 := qU0 hy (show y < y + 1 by omega)
  have h2 := qU1 (j5 h) (y + 1)
  omega
 have hsub : j5 h ⊆ qa6 (2 * h.length) := by
  intro x hx
  rw [qh2]
  obtain ⟨t, ht, e⟩ := qt5.1 hx
  have e1 : (qj9 h).R t.b = t.b := congrArg T4.b (c.self t ht)
  have e2 : (qj9 h).R t.c = t.c := congrArg T4.c (c.self t ht)
  have h1 := hlt t.b (qd8 ht).1
  have h2 := hlt t.c (qd8 ht).2
  rw [e1] at h1
  rw [e2] at h2
  rcases e with e | e <;> omega
 rw [List.perm_iff_count]
 intro a
 rw [hnd.count, hr.count]
 by_cases ha : a ∈ j5 h
 ·rw [if_pos ha, if_pos (hsub ha)]
 ·rw [if_neg ha]
  by_cases hb : a ∈ qa6 (2 * h.length)
  ·have h1 : (a :: j5 h).Nodup := List.nodup_cons.2 ⟨ha, hnd⟩
   have h2 := h1.length_le_of_subset (l₂ := qa6 (2 * h.length)) (by intro x hx; rcases List.mem_cons.1 hx with rfl | hx; exact hb; exact hsub hx)
   rw [List.length_cons, qk7, hl] at h2
   omega
  ·rw [if_neg hb]
theorem Can.ext (c : Can h) : Ext h.length 0 [] [] (zOf h) where
 len := by simp [zOf]
 bgs := fun i hi => by simp at hi
 cms := fun i hi => by simp at hi
 ope := fun i hi => by simp at hi
 new := fun i _ hi => by
  obtain ⟨t, ht, hm⟩ := get_some hi
  obtain ⟨e1, e2⟩ := qx6 ht
  have := c.right hm
  rw [e1, e2]
  omega
 inc := fun i j _ hij hj => by
  obtain ⟨u, hu, hmu⟩ := get_some (h := h) (i := i) (by omega)
  obtain ⟨t, ht, hm⟩ := get_some hj
  have := (c.at hij hu ht).2
  have := c.right hmu
  rw [(qx6 hu).1, (qx6 ht).1]
  omega
 cov := fun u _ hu => by
  have hx : (u : Int) ∈ j5 h := c.stamps.mem_iff.2 (qh2.2 ⟨by omega, by omega⟩)
  obtain ⟨t, ht, e⟩ := qt5.1 hx
  obtain ⟨i, hi⟩ := List.mem_iff_getElem?.1 ht
  have hil := (List.getElem?_eq_some_iff.1 hi).1
  rcases e with e | e
  ·exact .inl ⟨i, Nat.zero_le _, hil, by rw [(qx6 hi).1]; omega⟩
  ·exact .inr ⟨i, .inr (Nat.zero_le _), hil, by rw [(qx6 hi).2]; omega⟩
 dbc := fun i j _ hi _ hj => by
  obtain ⟨u, hu, hmu⟩ := get_some hi
  obtain ⟨t, ht, hmt⟩ := get_some hj
  have r1 := c.right hmu
  have r2 := c.right hmt
  rw [(qx6 hu).1, (qx6 ht).2]
  rcases Nat.lt_trichotomy i j with hij | hij | hij
  ·have := (c.at hij hu ht).1.2.1; omega
  ·subst hij; rw [hu] at ht; cases ht; omega
  ·have := (c.at hij ht hu).1.2.2.1; omega
 dcc := fun i j _ hi _ hj hne => by
  obtain ⟨u, hu, hmu⟩ := get_some hi
  obtain ⟨t, ht, hmt⟩ := get_some hj
  have r1 := c.right hmu
  have r2 := c.right hmt
  rw [(qx6 hu).2, (qx6 ht).2]
  rcases Nat.lt_trichotomy i j with hij | hij | hij
  ·have := (c.at hij hu ht).1.2.2.2.1; omega
  ·exact absurd hij hne
  ·have := (c.at hij ht hu).1.2.2.2.1; omega
theorem Can.few (c : Can h) {S : Nat} (hS : ∀ t ∈ h, t.s < (S : Int)) : Few S h.length (zOf h) := by
 intro i hi l hnd hl
 have hmem : ∀ j ∈ i :: l, j < h.length := fun j hj => by
  rcases List.mem_cons.1 hj with rfl | hj
  ·exact hi
  ·have := (hl j hj).1; omega
 have hno : i ∉ l := fun hm => by have := (hl i hm).1; omega
 have hinj : ∀ j ∈ i :: l, ∀ k ∈ i :: l, j < k → (h.getD j default).s ≠ (h.getD k default).s := by
  intro j hj k hk hjk e
  obtain ⟨u, hu, hmu⟩ := get_some (hmem j hj)
  obtain ⟨t, ht, hmt⟩ := get_some (hmem k hk)
  obtain ⟨x, hx, hmx⟩ := get_some hi
  rw [List.getD_eq_getElem?_getD, List.getD_eq_getElem?_getD, hu, ht] at e
  have h1 := (c.at hjk hu ht).1.2.2.2.2 e
  have hji : j ∈ l := by
   rcases List.mem_cons.1 hj with rfl | hj
   ·rcases List.mem_cons.1 hk with rfl | hk
    ·omega
    ·have := (hl k hk).1; omega
   ·exact hj
  have h2 := (hl j hji).2
  rw [(qx6 hx).1, (qx6 hu).2] at h2
  have r1 := c.right hmu
  have r3 := c.right hmx
  rcases List.mem_cons.1 hk with rfl | hk
  ·rw [hx] at ht
   cases ht
   omega
  ·have := (c.at (hl k hk).1 ht hx).2
   omega
 have hnd2 : ((i :: l).map fun j => (h.getD j default).s.toNat).Nodup := by
  unfold List.Nodup
  rw [List.pairwise_map]
  have : (i :: l).Nodup := List.nodup_cons.2 ⟨hno, hnd⟩
  refine List.Pairwise.imp_of_mem (fun {a b} ha hb hab e => ?_) this
  have ra : 0 ≤ (h.getD a default).s := by
   obtain ⟨u, hu, hmu⟩ := get_some (hmem a ha)
   rw [List.getD_eq_getElem?_getD, hu]; exact (c.right hmu).1
  have rb : 0 ≤ (h.getD b default).s := by
   obtain ⟨u, hu, hmu⟩ := get_some (hmem b hb)
   rw [List.getD_eq_getElem?_getD, hu]; exact (c.right hmu).1
  rcases Nat.lt_or_gt_of_ne hab with h1 | h1
  ·exact hinj a ha b hb h1 (by omega)
  ·exact hinj b hb a ha h1 (by omega)
 have hle := hnd2.length_le_of_subset (l₂ := List.range S) (by
  intro x hx
  obtain ⟨j, hj, rfl⟩ := List.mem_map.1 hx
  obtain ⟨u, hu, hmu⟩ := get_some (hmem j hj)
  rw [List.mem_range]
  show (h.getD j default).s.toNat < S
  rw [List.getD_eq_getElem?_getD, hu]
  have h1 := hS u hmu
  have h2 := (c.right hmu).1
  show u.s.toNat < S
  omega)
 rw [List.length_map, List.length_cons, List.length_range] at hle
 omega
end Go.Proofs.Ytngkneknopenmaa.qe4
end
section
namespace Go.Proofs.Ytngkneknopenmaa.qe4
open Go.Proofs.Ytngkneknopenmaa.Hist Go.Proofs.Ytngkneknopenmaa.qb9
variable {h : List T4}
theorem Can.zZ4 (c : Can h) {S : Nat} (hS : ∀ t ∈ h, t.s < (S : Int)) : OkS S (zOf h) [] (h.map fun t => t.s.toNat) := by
 have hg : qu1 (qb4 []) ((h.map fun t => t.s.toNat).map fun s : Nat => (s : Int)) := by
  have e : ((h.map fun t => t.s.toNat).map fun s : Nat => (s : Int)) = zI h := by
   unfold zI
   rw [List.map_map]
   exact List.map_congr_left fun t ht => by have := (c.right ht).1; show ((t.s.toNat : Nat) : Int) = t.s; omega
  rw [e]
  exact c.zw5
 refine zw6 fun j s hs => ?_
 rw [List.getElem?_map] at hs
 obtain ⟨t, ht, rfl⟩ := Option.map_eq_some_iff.1 hs
 have hm := List.mem_of_getElem? ht
 have h1 := zj9 hg j t.s.toNat (by rw [List.getElem?_map, ht]; rfl)
 have h2 := hS t hm
 have h3 := (c.right hm).1
 refine ⟨by omega, ?_⟩
 rw [List.nil_append]
 have hjl : j < h.length := (List.getElem?_eq_some_iff.1 ht).1
 unfold qy6
 split
 ·rfl
 ·rename_i e he
  obtain ⟨i, hij, hi, rfl⟩ := zb4 (z := zOf h) (ss := h.map fun t => t.s.toNat) (by simp [zOf]) j (by simp; omega) _ _ he
  rw [List.getElem?_map] at hi
  obtain ⟨u, hu, e⟩ := Option.map_eq_some_iff.1 hi
  have hmu := List.mem_of_getElem? hu
  have h4 := (c.right hmu).1
  have h5 := (c.at hij hu ht).1.2.2.2.2 (by omega)
  have h6 : ((zOf h).getD ((h.map fun t => t.s.toNat).take j).length (0, 0)).1 = t.b.toNat := by
   rw [List.length_take, List.length_map, Nat.min_eq_left (by omega)]
   exact (qx6 ht).1
  rw [h6, (qx6 hu).2]
  exact decide_eq_true (by omega)
theorem Can.wnd (c : Can h) : (ql5 (flO h)).Nodup := by
 have := c.may.2.2.1
 rwa [qD6, qV7] at this
theorem Can.writer (c : Can h) {o : O3} (ho : o ∈ flO h) (hv : o.v ≠ 0) : ∃ (i : Nat) (u : O3), (flO h)[i]? = some u ∧ u.w = true ∧ u.k = o.k ∧ u.v = o.v ∧ (o.w = true → u = o) := by
 obtain ⟨t, ht, hot⟩ := qy0.1 ho
 cases hw : o.w with
 | true =>
  obtain ⟨i, hi⟩ := List.mem_iff_getElem?.1 ho
  exact ⟨i, o, hi, hw, rfl, rfl, fun _ => rfl⟩
 | false =>
  obtain ⟨t2, ht2, u, hu, h1, h2, h3⟩ := c.may.2.2.2 t ht o hot hw hv
  obtain ⟨i, hi⟩ := List.mem_iff_getElem?.1 (qy0.2 ⟨t2, ht2, hu⟩)
  exact ⟨i, u, hi, h1, h2, h3, fun h => by cases h⟩
theorem Can.plc (c : Can h) {i : Nat} {u : O3} (hu : (flO h)[i]? = some u) (hw : u.w = true) : plV (flO h) u.v = (i : Int) + 1 := by
 unfold plV
 rw [zb5 c.wnd hu hw]
 omega
theorem Can.ops (c : Can h) {o : O3} (ho : o ∈ flO h) : 0 ≤ o.k ∧ 0 ≤ o.v ∧ (o.w = true → 0 < o.v) := by
 obtain ⟨t, ht, hot⟩ := qy0.1 ho
 exact (c.right ht).2.2.2.2 o hot
theorem Can.ren (c : Can h) : jp6 (qD8 (plV (flO h))) h where
 s := fun x _ y _ e => e
 k := fun x _ y _ e => e
 v := fun x hx y hy e => by
  obtain ⟨t, ht, o, ho, hn, rfl⟩ := ql4.1 hx
  obtain ⟨t2, ht2, o2, ho2, hn2, rfl⟩ := ql4.1 hy
  obtain ⟨i, u, hi, hw, _, hv, _⟩ := c.writer (qy0.2 ⟨t, ht, ho⟩) hn
  obtain ⟨j, u2, hj, hw2, _, hv2, _⟩ := c.writer (qy0.2 ⟨t2, ht2, ho2⟩) hn2
  have e' : plV (flO h) o.v = plV (flO h) o2.v := e
  rw [← hv, ← hv2, c.plc hi hw, c.plc hj hw2] at e'
  have : i = j := by omega
  subst this
  rw [hi] at hj
  cases hj
  rw [← hv, hv2]
 z := fun x _ => by show plV (flO h) x ≠ 0; unfold plV; omega
 r := fun x _ y _ e => e
theorem Can.back (c : Can h) : jW (qt6 h) = h := by
 unfold qt6
 rw [jB4 c.ren]
 exact c.eq
def qV9 (h : List T4) : List (Bool × Nat) := (flO h).map fun o => (o.w, o.k.toNat)
def jR3 (h : List T4) : List Nat := (flO (qt6 h)).map fun o => o.v.toNat
theorem qK1 (h : List T4) : flO (qt6 h) = (flO h).map (qj8 (qD8 (plV (flO h)))) := jm4 _ _
theorem Can.raw (c : Can h) {K S : Nat} (hS : ∀ t ∈ h, t.s < (S : Int)) (hK : ∀ o ∈ flO h, o.k < (K : Int)) :
  qm3 h.length K (jG h) S (zOf h) (h.map fun t => t.s.toNat) (lnO h) (qV9 h) (jR3 h) ∧ qa7 (zOf h) (h.map fun t => t.s.toNat) (lnO h) (qV9 h) (jR3 h) = qt6 h := by
 have hks : ((qV9 h).map fun x => (x.2 : Int)) = jL h := by
  rw [qq2]
  unfold qV9
  rw [List.map_map]
  exact List.map_congr_left fun o ho => by have := (c.ops ho).1; show ((o.k.toNat : Nat) : Int) = o.k; omega
 have hgk : qu1 0 ((qV9 h).map fun x => (x.2 : Int)) := by rw [hks]; exact c.keys
 have hpv : ∀ o ∈ flO h, 0 ≤ (qj8 (qD8 (plV (flO h))) o).v := by
  intro o ho
  show 0 ≤ (if o.v = 0 then 0 else plV (flO h) o.v)
  split
  ·omega
  ·unfold plV; omega
 have hok : OkV (qV9 h) 0 (qV9 h) (jR3 h) := by
  refine jm0.2 ⟨by unfold jR3 qV9; rw [List.length_map, List.length_map, qK1, List.length_map], fun j x v hx hv => ?_⟩
  unfold qV9 at hx
  rw [List.getElem?_map] at hx
  obtain ⟨o, ho, rfl⟩ := Option.map_eq_some_iff.1 hx
  have hm := List.mem_of_getElem? ho
  unfold jR3 at hv
  rw [qK1, List.getElem?_map, List.getElem?_map, ho] at hv
  have hv' : (if o.v = 0 then 0 else plV (flO h) o.v).toNat = v := by simpa [qj8, qD8] using hv
  by_cases hw : o.w = true
  ·rw [if_pos hw]
   have hp := (c.ops hm).2.2 hw
   rw [if_neg (by omega), c.plc ho hw] at hv'
   omega
  ·rw [if_neg hw]
   unfold choices
   by_cases hz : o.v = 0
   ·rw [if_pos hz] at hv'
    rw [← hv']
    exact List.mem_cons_self
   ·rw [if_neg hz] at hv'
    obtain ⟨i, u, hi, hwu, hku, hvu, _⟩ := c.writer hm hz
    rw [← hvu, c.plc hi hwu] at hv'
    refine List.mem_cons_of_mem _ ((qB6 _ _ _ _).2 ⟨i, by omega, ?_⟩)
    unfold qV9
    rw [List.getElem?_map, hi]
    show some (u.w, u.k.toNat) = some (true, o.k.toNat)
    rw [hwu, hku]
 refine ⟨⟨c.ext, by rw [List.length_map], c.zZ4 hS, by simp [lnO], by rw [zj8, qk2], fun k hk => ?_, by unfold qV9; rw [List.length_map, qk2], jR2 hgk fun x hx => ?_, hok⟩, ?_⟩
 ·unfold lnO at hk
  obtain ⟨t, ht, rfl⟩ := List.mem_map.1 hk
  exact (c.right ht).2.2.2.1
 ·unfold qV9 at hx
  obtain ⟨o, ho, rfl⟩ := List.mem_map.1 hx
  have h1 := hK o ho
  have h2 := (c.ops ho).1
  show o.k.toNat < K
  omega
 ·have e1 : hds (zOf h) (h.map fun t => t.s.toNat) = (qt6 h).map hdT := by
   apply List.ext_getElem?
   intro i
   by_cases hi : i < h.length
   ·obtain ⟨t, ht, hm⟩ := get_some hi
    have h1 := c.right hm
    rw [jm3.2 ⟨t.s.toNat, (t.b.toNat, t.c.toNat), by rw [List.getElem?_map, ht]; rfl, by unfold zOf; rw [List.getElem?_map, ht]; rfl, rfl⟩]
    unfold qt6
    rw [List.map_map, List.getElem?_map, ht]
    show some (((t.s.toNat : Nat) : Int), ((t.b.toNat : Nat) : Int), ((t.c.toNat : Nat) : Int)) = some (t.s, t.b, t.c)
    rw [Int.toNat_of_nonneg h1.1, Int.toNat_of_nonneg h1.2.1, Int.toNat_of_nonneg (by omega)]
   ·rw [List.getElem?_eq_none (by unfold hds zOf; rw [List.length_zipWith, List.length_map, List.length_map]; omega), List.getElem?_eq_none (by unfold qt6; rw [List.length_map, List.length_map]; omega)]
  have e2 : lnO h = lnO (qt6 h) := (zI3 _ _).symm
  have e3 : jq3 (qV9 h) (jR3 h) = flO (qt6 h) := by
   apply List.ext_getElem?
   intro i
   by_cases hi : i < (flO h).length
   ·obtain ⟨o, ho⟩ : ∃ o, (flO h)[i]? = some o := ⟨_, List.getElem?_eq_getElem hi⟩
    have hm := List.mem_of_getElem? ho
    have h1 := (c.ops hm).1
    have h2 := hpv o hm
    have hp : (flO (qt6 h))[i]? = some (qj8 (qD8 (plV (flO h))) o) := by rw [qK1, List.getElem?_map, ho]; rfl
    rw [hp]
    refine qz0.2 ⟨(o.w, o.k.toNat), (qj8 (qD8 (plV (flO h))) o).v.toNat, by unfold qV9; rw [List.getElem?_map, ho]; rfl, by unfold jR3; rw [List.getElem?_map, hp]; rfl, ?_⟩
    unfold zw4
    rw [Int.toNat_of_nonneg h1, Int.toNat_of_nonneg h2]
    rfl
   ·rw [List.getElem?_eq_none (by unfold jq3 qV9 jR3; rw [List.length_zipWith, List.length_map, List.length_map]; omega), List.getElem?_eq_none (by rw [qK1, List.length_map]; omega)]
  unfold qa7
  rw [e1, e2, e3]
  exact jQ9 _
def Fits (n m S K : Nat) (h : List T4) : Prop := Can h ∧ h.length = n ∧ jG h = m ∧ (∀ t ∈ h, t.s < (S : Int)) ∧ ∀ o ∈ flO h, o.k < (K : Int)
theorem qm3.fits {n K m S : Nat} {z : List (Nat × Nat)} {ss cs : List Nat} {ks : List (Bool × Nat)} {vs : List Nat} (r : qm3 n K m S z ss cs ks vs) (hn : n ≤ 64) (hm : m ≤ 64) : Fits n m S K (jW (qa7 z ss cs ks vs)) := by
 have hfl : (flO (qa7 z ss cs ks vs)).length = m := by rw [r.spec.2.2, qz1 (by rw [r.vl, r.kl]), r.kl]
 refine ⟨⟨qy9 (r.check hn hm), jp8 (r.may hn hm)⟩, by rw [qx9, r.length], by rw [qC1, qk2, hfl], ?_, ?_⟩
 ·rw [r.canon]
  intro t ht
  obtain ⟨u, hu, rfl⟩ := List.mem_map.1 ht
  obtain ⟨i, hi⟩ := List.mem_iff_getElem?.1 hu
  obtain ⟨s, y, h1, _, e1, _⟩ := r.at hi
  have := (zb1 r.s (by simp [qb4]) s (List.mem_of_getElem? h1)).1
  show u.s < (S : Int)
  omega
 ·rw [r.canon, jm4]
  intro o ho
  obtain ⟨u, hu, rfl⟩ := List.mem_map.1 ho
  rw [r.spec.2.2] at hu
  obtain ⟨j, hj⟩ := List.mem_iff_getElem?.1 hu
  obtain ⟨x, v, h1, _, rfl⟩ := qz0.1 hj
  have := (jq1 r.k x (List.mem_of_getElem? h1)).1
  show (x.2 : Int) < (K : Int)
  omega
end Go.Proofs.Ytngkneknopenmaa.qe4
end
section
namespace Go.Proofs.Ytngkneknopenmaa.Hist
set_option linter.unusedSimpArgs false
open Go Go.RowKit Go.Proofs.Ytngkneknopenmaa.qb9 Go.Proofs.Ytngkneknopenmaa.qj7
theorem zr0 {α β : Type} {f : α → β} {m' m : List β} (h : m'.Perm m) : ∀ l : List α, l.map f = m → ∃ l' : List α, l'.Perm l ∧ m' = l'.map f := by
 induction h with
 | nil => intro l hl; exact ⟨[], by rw [List.map_eq_nil_iff.1 hl], rfl⟩
 | cons x p ih =>
  intro l hl
  cases l with
  | nil => cases hl
  | cons y l =>
   simp only [List.map_cons, List.cons.injEq] at hl
   obtain ⟨l', hp, e⟩ := ih l hl.2
   exact ⟨y :: l', hp.cons y, by rw [e, List.map_cons, hl.1]⟩
 | swap x y a =>
  intro l hl
  match l, hl with
  | u :: v :: l, hl =>
   simp only [List.map_cons, List.cons.injEq] at hl
   exact ⟨v :: u :: l, List.Perm.swap u v l, by simp [hl]⟩
 | trans p1 p2 ih1 ih2 =>
  intro l hl
  obtain ⟨l2, hp2, e2⟩ := ih2 l hl
  obtain ⟨l1, hp1, e1⟩ := ih1 l2 e2.symm
  exact ⟨l1, hp1.trans hp2, e1⟩
theorem qd1.perm {w : World} {base : Nat} {rows rows' : List TR} {h : List T4} (hs : qd1 w base rows h) (hp : rows'.Perm rows) : ∃ h' : List T4, h'.Perm h ∧ qd1 w base rows' h' := by
 have hz : (rows.zip h).map Prod.fst = rows := by rw [List.map_fst_zip]; rw [hs.1]; exact Nat.le_refl _
 have hz2 : (rows.zip h).map Prod.snd = h := by rw [List.map_snd_zip]; rw [hs.1]; exact Nat.le_refl _
 obtain ⟨z, hzp, e⟩ := zr0 hp (rows.zip h) hz
 refine ⟨z.map Prod.snd, by have := hzp.map Prod.snd; rw [hz2] at this; exact this, by rw [e]; simp, fun i r t hr ht => ?_, ?_⟩
 ·rw [e, List.getElem?_map] at hr
  rw [List.getElem?_map] at ht
  obtain ⟨x, hx, rfl⟩ := Option.map_eq_some_iff.1 hr
  rw [hx] at ht
  cases ht
  have hm : x ∈ rows.zip h := hzp.mem_iff.1 (List.mem_of_getElem? hx)
  obtain ⟨j, hj⟩ := List.mem_iff_getElem?.1 hm
  rw [List.getElem?_zip_eq_some] at hj
  exact hs.2.1 j x.1 x.2 hj.1 hj.2
 ·have := hp.map (·.g)
  rw [this.nodup_iff]
  exact hs.2.2
theorem zb6 {h : List T4} (hc : zW h = 0) : h.length ≤ 64 ∧ jG h ≤ 1024 ∧ qy7 h := by
 by_cases hb : h.length > 64 ∨ jG h > 1024
 ·unfold zW at hc
  rw [if_pos hb] at hc
  cases hc
 ·exact ⟨by omega, by omega, (qD3 h (by omega) (by omega)).1 hc⟩
def Lst (l : List T4) (i : Nat) : Nat → List Int := fun c => if c = 0 then names (zI (l.take i)) else if c = 1 then names (jL (l.take i)) else if c = 2 then names (zB (l.take i)) else []
def qd7 (h l : List T4) : T4 → T4 := qV4 (names (zI l)) (names (jL l)) (names (zB l)) (qv1 h)
def Fst : Nat → Int := fun c => if c = 2 then 1 else 0
def Pst (p0 p1 p2 : Nat) : Nat → Nat := fun c => if c = 0 then p0 else if c = 1 then p1 else p2
theorem zw7 (l : List T4) : Lst l 0 = fun _ => [] := by
 funext c
 unfold Lst
 simp [zI, jL, zB, names]
theorem zw8 (w : World) (o0 o1 o2 : Obj) : (((w.alloc o0).alloc o1).alloc o2).heap[w.heap.size]? = some o0 ∧ (((w.alloc o0).alloc o1).alloc o2).heap[w.heap.size + 1]? = some o1 ∧ (((w.alloc o0).alloc o1).alloc o2).heap[w.heap.size + 1 + 1]? = some o2 := by
 have e : (((w.alloc o0).alloc o1).alloc o2).heap = ((w.heap.push o0).push o1).push o2 := rfl
 rw [e]
 refine ⟨?_, ?_, ?_⟩
 ·rw [Array.getElem?_push, if_neg (by simp; omega), Array.getElem?_push, if_neg (by simp), Array.getElem?_push, if_pos rfl]
 ·rw [Array.getElem?_push, if_neg (by simp), Array.getElem?_push, if_pos (by simp)]
 ·rw [Array.getElem?_push, if_pos (by simp)]
theorem zk0 {α : Type} {l : List α} {C : α → α} {i : Nat} {t : α} (h : l[i]? = some t) : ((l.take i).map C ++ l.drop i)[i]? = some t := by
 have hi := (List.getElem?_eq_some_iff.1 h).1
 rw [List.getElem?_append_right (by simp; omega)]
 simp [h, Nat.min_eq_left (Nat.le_of_lt hi)]
theorem zk1 {α : Type} {l : List α} {C : α → α} {i : Nat} {t : α} (h : l[i]? = some t) : ((l.take i).map C ++ l.drop i).set i (C t) = (l.take (i + 1)).map C ++ l.drop (i + 1) := by
 have hi := (List.getElem?_eq_some_iff.1 h).1
 have e : i - ((l.take i).map C).length = 0 := by simp [Nat.min_eq_left (Nat.le_of_lt hi)]
 have e2 : (l.drop i).set 0 (C t) = C t :: l.drop (i + 1) := by rw [List.drop_eq_getElem_cons hi]; rfl
 rw [List.set_append_right _ _ (by simp; omega), List.take_add_one, h, e, e2]
 simp
def qb2 (l : List T4) (i : Nat) (t : T4) (j : Nat) : Nat → List Int := fun c => if c = 0 then names (zI (l.take (i + 1))) else if c = 1 then names (jL (l.take i) ++ qk1 (t.ops.take j)) else if c = 2 then names (zB (l.take i) ++ qf4 (t.ops.take j)) else []
theorem qi4 {α : Type} {l : List α} {i : Nat} {t : α} (h : l[i]? = some t) : l.take (i + 1) = l.take i ++ [t] := by rw [List.take_add_one, h]; rfl
theorem zU4 {l : List T4} {i : Nat} {t : T4} (h : l[i]? = some t) : (fun d => if d = 0 then zH (Lst l i 0) t.s else Lst l i d) = qb2 l i t 0 := by
 funext c
 unfold qb2 Lst
 by_cases h0 : c = 0
 ·simp only [h0, if_true]
  rw [qi4 h]
  have : zI (l.take i ++ [t]) = zI (l.take i) ++ [t.s] := by simp [zI]
  rw [this, qq1]
 ·simp [h0, qk1, qf4]
theorem zk2 {l : List T4} {i : Nat} {t : T4} (h : l[i]? = some t) : qb2 l i t t.ops.length = Lst l (i + 1) := by
 funext c
 unfold qb2 Lst
 have e1 : jL (l.take (i + 1)) = jL (l.take i) ++ qk1 t.ops := by rw [qi4 h]; simp [jL]
 have e2 : zB (l.take (i + 1)) = zB (l.take i) ++ qf4 t.ops := by rw [qi4 h]; simp [zB]
 rw [e1, e2, List.take_length]
theorem qK2 {ops : List O3} {j : Nat} {o : O3} (h : ops[j]? = some o) : qk1 (ops.take (j + 1)) = qk1 (ops.take j) ++ [o.k] := by rw [qi4 h]; simp [qk1]
theorem qW0 {ops : List O3} {j : Nat} {o : O3} (h : ops[j]? = some o) (hv : o.v ≠ 0) : qf4 (ops.take (j + 1)) = qf4 (ops.take j) ++ [o.v] := by rw [qi4 h]; simp [qf4, List.filter_append, hv]
theorem zb7 {ops : List O3} {j : Nat} {o : O3} (h : ops[j]? = some o) (hv : o.v = 0) : qf4 (ops.take (j + 1)) = qf4 (ops.take j) := by rw [qi4 h]; simp [qf4, List.filter_append, hv]
theorem zw9 {l : List T4} {i j : Nat} {t : T4} {o : O3} (h : t.ops[j]? = some o) (hv : o.v = 0) : (fun d => if d = 1 then zH (qb2 l i t j 1) o.k else qb2 l i t j d) = qb2 l i t (j + 1) := by
 funext c
 unfold qb2
 rw [qK2 h, zb7 h hv, ← List.append_assoc, qq1]
 by_cases h1 : c = 1
 ·simp [h1]
 ·simp [h1]
theorem zx0 {l : List T4} {i j : Nat} {t : T4} {o : O3} (h : t.ops[j]? = some o) (hv : o.v ≠ 0) : (fun d => if d = 2 then zH (qb2 l i t j 2) o.v else (if d = 1 then zH (qb2 l i t j 1) o.k else qb2 l i t j d)) = qb2 l i t (j + 1) := by
 funext c
 unfold qb2
 rw [qK2 h, qW0 h hv, ← List.append_assoc, qq1, ← List.append_assoc, qq1]
 by_cases h1 : c = 1
 ·subst h1
  simp
 ·by_cases h2 : c = 2
  ·subst h2
   simp
  ·by_cases h0 : c = 0
   ·subst h0
    simp
   ·simp [h0, h1, h2]
theorem zx1 {l : List T4} {i : Nat} {t : T4} (h : l[i]? = some t) : zU (zH (Lst l i 0) t.s) t.s = zU (names (zI l)) t.s := by
 have e : zI l = zI (l.take i ++ [t]) ++ zI (l.drop (i + 1)) := by rw [← qi4 h]; unfold zI; rw [← List.map_append, List.take_append_drop]
 have e2 : zI (l.take i ++ [t]) = zI (l.take i) ++ [t.s] := by simp [zI]
 rw [e, jh9 (by rw [e2]; simp), e2, qq1]
 rfl
theorem zx2 {l : List T4} {i j : Nat} {t : T4} {o : O3} (h : l[i]? = some t) (ho : t.ops[j]? = some o) : zU (zH (qb2 l i t j 1) o.k) o.k = zU (names (jL l)) o.k := by
 have e : jL l = (jL (l.take i) ++ qk1 (t.ops.take (j + 1))) ++ (qk1 (t.ops.drop (j + 1)) ++ jL (l.drop (i + 1))) := by
  have e1 : jL l = jL (l.take (i + 1)) ++ jL (l.drop (i + 1)) := by unfold jL; rw [← List.flatMap_append, List.take_append_drop]
  have e2 : jL (l.take (i + 1)) = jL (l.take i) ++ qk1 t.ops := by rw [qi4 h]; simp [jL]
  have e3 : qk1 t.ops = qk1 (t.ops.take (j + 1)) ++ qk1 (t.ops.drop (j + 1)) := by unfold qk1; rw [← List.map_append, List.take_append_drop]
  rw [e1, e2, e3]
  simp
 rw [e, jh9 (by rw [qK2 ho]; simp), qK2 ho, ← List.append_assoc, qq1]
 rfl
theorem zU5 {l : List T4} {i j : Nat} {t : T4} {o : O3} (h : l[i]? = some t) (ho : t.ops[j]? = some o) (hv : o.v ≠ 0) : zU (zH (qb2 l i t j 2) o.v) o.v = zU (names (zB l)) o.v := by
 have e : zB l = (zB (l.take i) ++ qf4 (t.ops.take (j + 1))) ++ (qf4 (t.ops.drop (j + 1)) ++ zB (l.drop (i + 1))) := by
  have e1 : zB l = zB (l.take (i + 1)) ++ zB (l.drop (i + 1)) := by unfold zB; rw [← List.flatMap_append, List.take_append_drop]
  have e2 : zB (l.take (i + 1)) = zB (l.take i) ++ qf4 t.ops := by rw [qi4 h]; simp [zB]
  have e3 : qf4 t.ops = qf4 (t.ops.take (j + 1)) ++ qf4 (t.ops.drop (j + 1)) := by unfold qf4; rw [← List.map_append, ← List.filter_append, List.take_append_drop]
  rw [e1, e2, e3]
  simp
 rw [e, jh9 (by rw [qW0 ho hv]; simp), qW0 ho hv, ← List.append_assoc, qq1]
 rfl
theorem CS.txn {w : World} {base B bR sR : Nat} {rest : List Value} {rows : List TR} {hs : List T4} {P : Nat → Nat} {M : Nat → Option Nat} {F : Nat → Int} {L : Nat → List Int} {fR : Int → Option Int} (h : CS w base B rest rows hs P M F L bR sR fR) {i : Nat} {r : TR} {t : T4} (hr : rows[i]? = some r) (ht : hs[i]? = some t) :
  w.cell? ⟨B, i * 4, none⟩ = some (.int .i64 t.s) ∧ w.cell? ⟨B, i * 4 + 1, none⟩ = some (.int .i64 t.b) ∧ w.cell? ⟨B, i * 4 + 2, none⟩ = some (.int .i64 t.c) ∧ w.cell? ⟨B, i * 4 + 3, none⟩ = some (.slice (some ⟨r.g, 0, none⟩) t.ops.length r.cp) ∧
   w.frozen? ⟨B, i * 4, none⟩ = false ∧ w.frozen? ⟨B, i * 4 + 1, none⟩ = false ∧ w.frozen? ⟨B, i * 4 + 2, none⟩ = false := by
 obtain ⟨a1, a2, a3, a4, a5, a6, a7⟩ := h.says.2.1 i r t hr ht
 obtain ⟨y0, y1, y2, y3⟩ := jh7 rows rest i r hr
 rw [a1] at y0
 rw [a2] at y1
 rw [a3] at y2
 rw [a4] at y3
 refine ⟨?_, ?_, ?_, ?_, Lib.frozen_of_heap h.row _, Lib.frozen_of_heap h.row _, Lib.frozen_of_heap h.row _⟩
 ·rw [Lib.cell_of_heap h.row, List.getElem?_toArray, y0]
 ·rw [Lib.cell_of_heap h.row, List.getElem?_toArray, y1]
 ·rw [Lib.cell_of_heap h.row, List.getElem?_toArray, y2]
 ·rw [Lib.cell_of_heap h.row, List.getElem?_toArray, y3]
theorem CS.op {w : World} {base B bR sR : Nat} {rest : List Value} {rows : List TR} {hs : List T4} {P : Nat → Nat} {M : Nat → Option Nat} {F : Nat → Int} {L : Nat → List Int} {fR : Int → Option Int} (h : CS w base B rest rows hs P M F L bR sR fR) {i j : Nat} {r : TR} {t : T4} {o : O3} (hr : rows[i]? = some r) (ht : hs[i]? = some t) (ho : t.ops[j]? = some o) :
  w.cell? ⟨r.g, j * 3 + 1, none⟩ = some (.int .i64 o.k) ∧ w.cell? ⟨r.g, j * 3 + 2, none⟩ = some (.int .i64 o.v) ∧ w.frozen? ⟨r.g, j * 3 + 1, none⟩ = false ∧ w.frozen? ⟨r.g, j * 3 + 2, none⟩ = false := by
 obtain ⟨_, _, _, _, _, _, rst, g, _⟩ := h.says.2.1 i r t hr ht
 obtain ⟨y0, y1, y2⟩ := g.cells j o ho
 exact ⟨y1, y2, g.free _, g.free _⟩
theorem zx3 (h : List T4) (x : Int) : (jF6 (qx5 h) x).getD (.int .i64 0) = .int .i64 (qv1 h x) := by
 unfold jF6 qv1
 cases qx5 h x <;> rfl
def RelO (h l : List T4) (w : World) (B p0 p1 p2 bR n : Nat) (rest : List Value) (v : Value) (wr : World) : Prop :=
 ∃ (i sR : Nat) (rows : List TR) (M : Nat → Option Nat), i ≤ n ∧ v = .int .i64 ((i : Nat) : Int) ∧ CS wr w.heap.size B rest rows ((l.take i).map (qd7 h l) ++ l.drop i) (Pst p0 p1 p2) M Fst (Lst l i) bR sR (qx5 h) ∧ Below w.heap.size w wr
theorem jR4 {l : List T4} {i : Nat} {t : T4} (h : l[i]? = some t) (j : Nat) : jL l = (jL (l.take i) ++ qk1 (t.ops.take j)) ++ (qk1 (t.ops.drop j) ++ jL (l.drop (i + 1))) := by
 have e1 : jL l = jL (l.take (i + 1)) ++ jL (l.drop (i + 1)) := by unfold jL; rw [← List.flatMap_append, List.take_append_drop]
 have e2 : jL (l.take (i + 1)) = jL (l.take i) ++ qk1 t.ops := by rw [qi4 h]; simp [jL]
 have e3 : qk1 t.ops = qk1 (t.ops.take j) ++ qk1 (t.ops.drop j) := by unfold qk1; rw [← List.map_append, List.take_append_drop]
 rw [e1, e2, e3]
 simp
theorem jR5 {l : List T4} {i : Nat} {t : T4} (h : l[i]? = some t) (j : Nat) : zB l = (zB (l.take i) ++ qf4 (t.ops.take j)) ++ (qf4 (t.ops.drop j) ++ zB (l.drop (i + 1))) := by
 have e1 : zB l = zB (l.take (i + 1)) ++ zB (l.drop (i + 1)) := by unfold zB; rw [← List.flatMap_append, List.take_append_drop]
 have e2 : zB (l.take (i + 1)) = zB (l.take i) ++ qf4 t.ops := by rw [qi4 h]; simp [zB]
 have e3 : qf4 t.ops = qf4 (t.ops.take j) ++ qf4 (t.ops.drop j) := by unfold qf4; rw [← List.map_append, ← List.filter_append, List.take_append_drop]
 rw [e1, e2, e3]
 simp
theorem qZ5 : ∀ l : List T4, (jL l).length = jG l
 | [] => rfl
 | t :: l => by
  have : jL (t :: l) = qk1 t.ops ++ jL l := rfl
  rw [this, List.length_append, qZ5 l, qq3]
  simp [qk1]
theorem qZ6 : ∀ l : List T4, (zB l).length ≤ jG l
 | [] => Nat.le_refl _
 | t :: l => by
  have : zB (t :: l) = qf4 t.ops ++ zB l := rfl
  have h1 := qZ6 l
  have h2 : (qf4 t.ops).length ≤ t.ops.length := by unfold qf4; rw [List.length_map]; exact List.length_filter_le _ _
  rw [this, List.length_append, qq3]
  omega
theorem jR6 {l h : List T4} (hp : l.Perm h) : jG l = jG h := by unfold jG; exact (hp.map _).sum_nat
theorem qZ7 {l : List T4} {i : Nat} {t : T4} (h : l[i]? = some t) (j : Nat) : (qb2 l i t j 1).length ≤ jG l := by
 have h1 := qg2 (jL (l.take i) ++ qk1 (t.ops.take j))
 have h2 := qZ5 l
 rw [jR4 h j, List.length_append] at h2
 show (names _).length ≤ _
 omega
theorem qK3 {l : List T4} {i : Nat} {t : T4} (h : l[i]? = some t) (j : Nat) : (qb2 l i t j 2).length ≤ jG l := by
 have h1 := qg2 (zB (l.take i) ++ qf4 (t.ops.take j))
 have h2 := qZ6 l
 rw [jR5 h j, List.length_append] at h2
 show (names _).length ≤ _
 omega
def qK4 (h l : List T4) (t : T4) (j : Nat) : T4 := { qd7 h l t with ops := (t.ops.take j).map (qC0 (names (jL l)) (names (zB l))) ++ t.ops.drop j }
theorem jB7 {h l : List T4} {t : T4} {j : Nat} {o : O3} (ho : t.ops[j]? = some o) : { qK4 h l t j with ops := (qK4 h l t j).ops.set j (qC0 (names (jL l)) (names (zB l)) o) } = qK4 h l t (j + 1) := by
 have := zk1 (C := qC0 (names (jL l)) (names (zB l))) ho
 unfold qK4
 dsimp only
 rw [this]
theorem zr1 (h l : List T4) (t : T4) : qK4 h l t 0 = { t with s := (qd7 h l t).s, b := (qd7 h l t).b, c := (qd7 h l t).c } := by simp [qK4, qd7, qV4]
theorem zx4 (h l : List T4) (t : T4) : qK4 h l t t.ops.length = qd7 h l t := by simp [qK4, qd7, qV4]
set_option maxHeartbeats 8000000 in
set_option maxRecDepth 100000 in
theorem zx5 (A : Option Addr) (cap : Nat) (h : List T4) (hcap : h.length ≤ cap) (hm : h.length ≤ 4611686018427387904) (hcnt : jG h ≤ 4611686018427387904) (w : World) (hr : RdT w A h) :
  Calls Try.prog 13 #[.slice A h.length cap] w fun e w' => Below w.heap.size w w' ∧ ((zW h ≠ 0 ∧ e = .returned (.slice none 0 0)) ∨ zW h = 0 ∧ ∃ v rows l, l.Perm h ∧ l.Pairwise (fun x y => x.b ≤ y.b) ∧ e = .returned v ∧ H2 w' w.heap.size v rows (qD5 (qv1 h) l)) := by
 have CC := jO7 A cap h hcap hm hcnt w hr
 obtain ⟨n, hn⟩ : ∃ n, h.length = n := ⟨_, rfl⟩
 have HN := Lib.hid hn
 rw [hn] at hm hcap CC ⊢
 have HCC := Lib.hid CC
 clear hn CC
 by_cases hck : zW h = 0
 ·obtain ⟨zZ5, hcn, zZ6⟩ := zb6 hck
  have hright := zZ6.1
  have CPC := fun (w' : World) (k : Below w.heap.size w w') => za3 A cap h zZ5 (fun t ht => by
   have := hright t ht
   unfold qd6 at this
   simp only [Bool.and_eq_true, decide_eq_true_eq] at this
   omega) w' (hr.below k)
  have RKC := fun (w' : World) (k : Below w.heap.size w w') => jP9 A cap h zZ5 (fun t ht => qJ4 (hright t ht)) w' (hr.below k)
  rw [HN.out] at zZ5 CPC RKC
  have HCPC := Lib.hid CPC
  have HRKC := Lib.hid RKC
  have zZ7 := Lib.hid zZ6
  have HCN := Lib.hid hcn
  have HCK := Lib.hid hck
  rw [hck] at HCC
  clear CPC RKC zZ6 hright hcn hck hr
  go_enter Try.func13, Try.ntmps13
  go_wp2_with (first
   | (go_at_call 32; (with_reducible refine HCC.out.mono ?_); rintro e w1 ⟨rfl, k1⟩)
   | (go_at_call 36; (with_reducible refine (HCPC.out _ k1).mono ?_); rintro e w2 ⟨v2, zJ, rfl, h2, hnn2, k2⟩))
  have hb2 : Below w.heap.size w w2 := k1.trans (k2.mono k1.size)
  obtain ⟨hown2, zk3⟩ := h2
  have hrl : zJ.length = n := by rw [zk3.1, HN.out]
  rcases hown2.2 with ⟨e, _⟩ | ⟨B, cp, cur2, rfl, hB2, hh2, hcp, _, _, _⟩
  ·exact absurd e hnn2
  have SC := jy0 B cp w1.heap.size zJ (by omega) w2 hown2
  rw [hrl] at SC ⊢
  with_reducible refine SC.mono ?_
  rintro e w3 ⟨rfl, qB2, hp3, zZ8, hown3, zZ9⟩
  have hB : w.heap.size ≤ B := by have := k1.size; omega
  obtain ⟨l, hlp, jB8⟩ := (zk3.grown zZ9 (fun r hr e => by
   have := zk3.zv5 hown2 r hr
   exact this e)).perm hp3
  have hb3 : Below w.heap.size w w3 := hb2.grown zZ9 hb2.size (fun j hj => by cases hj; exact hB)
  have hll : l.length = n := by rw [hlp.length_eq, HN.out]
  have hr3 : qB2.length = n := by rw [hp3.length_eq, hrl]
  have hpl : l.Pairwise (fun x y => x.b ≤ y.b) := by
   rw [List.pairwise_iff_getElem] at zZ8 ⊢
   intro i j hi hj hij
   have h1 := zZ8 i j (by omega) (by omega) hij
   obtain ⟨_, e1, _⟩ := jB8.2.1 i qB2[i] l[i] (List.getElem?_eq_getElem _) (List.getElem?_eq_getElem _)
   obtain ⟨_, e2, _⟩ := jB8.2.1 j qB2[j] l[j] (List.getElem?_eq_getElem _) (List.getElem?_eq_getElem _)
   rw [← e1, ← e2]
   exact h1
  obtain ⟨rest, hrow3, hrest, hcpm, hncp⟩ : ∃ rest, w3.heap[B]? = some (.cells (qj6 qB2 ++ rest).toArray 55 (0, 0)) ∧ n * 4 + rest.length = cp * 4 ∧ cp ≤ maxLen ∧ n ≤ cp := by
   rcases hown3.2 with ⟨e, _⟩ | ⟨g, c, cur, he, _, hh, h1, h2, h3, h4⟩
   ·cases e
   ·cases he
    refine ⟨cur.toList.drop (n * 4), ?_, by rw [List.length_drop, Array.length_toList, h3]; omega, h2, h1⟩
    rw [hh, ← hr3, ← (show cur.toList.take (qB2.length * 4) = qj6 qB2 by rw [hr3]; exact h4), List.take_append_drop]
  have jP4 := Lib.hid (show qd1 w3 w.heap.size qB2 l from ⟨jB8.1, fun i r t hr ht => by
   obtain ⟨a1, a2, a3, a4, a5, a6, a7⟩ := jB8.2.1 i r t hr ht
   exact ⟨a1, a2, a3, a4, a5, by have := k1.size; omega, a7⟩, jB8.2.2⟩)
  have zI4 := Lib.hid hrow3
  have HB3 := Lib.hid hb3
  have HPL := Lib.hid hpl
  have HLP := Lib.hid hlp
  have HLL := Lib.hid hll
  have zI5 := Lib.hid hown3
  clear hb2 hown2 zk3 hh2 hcp SC hp3 zZ8 hown3 zZ9 jB8 hb3 hpl hlp hll hrow3 k1 k2 hnn2 hB2 HCC HCPC
  go_wp2_with (go_at_call 40; (with_reducible refine (HRKC.out _ HB3.out).mono ?_); rintro e w4 ⟨bR, sR, rfl, himR, hloR, k4⟩)
  have hCS : CS (((w4.alloc (.cells #[.map none, .int .i64 0] 77)).alloc (.cells #[.map none, .int .i64 0] 77)).alloc (.cells #[.map none, .int .i64 1] 77)) w.heap.size B rest qB2 ((l.take 0).map (qd7 h l) ++ l.drop 0) (Pst w4.heap.size (w4.heap.size + 1) (w4.heap.size + 1 + 1)) (fun _ => none) Fst (Lst l 0) bR sR (qx5 h) := by
   obtain ⟨a0, a1, a2⟩ := zw8 w4 (.cells #[.map none, .int .i64 0] 77) (.cells #[.map none, .int .i64 0] 77) (.cells #[.map none, .int .i64 1] 77)
   have hb5 : Below w4.heap.size w4 (((w4.alloc (.cells #[.map none, .int .i64 0] 77)).alloc (.cells #[.map none, .int .i64 0] 77)).alloc (.cells #[.map none, .int .i64 1] 77)) := (((Below.refl _ _).alloc (Nat.le_refl _) _).alloc (by simp) _).alloc (by simp; omega) _
   have hB4 := k4.block B (Array.getElem?_eq_some_iff.1 zI4.out).1
   have hs3 := HB3.out.size
   have hs4 := k4.size
   rw [zw7]
   constructor
   ·exact (hb5.block B (by have := (Array.getElem?_eq_some_iff.1 zI4.out).1; omega)).trans (hB4.trans zI4.out)
   ·exact (jP4.out.below k4).below hb5
   ·intro c hc
    unfold Pst Fst
    match c, hc with
    | 0, _ => exact ⟨a0, fun _ => rfl, by simp⟩
    | 1, _ => exact ⟨a1, fun _ => rfl, by simp⟩
    | 2, _ => exact ⟨a2, fun _ => rfl, by simp⟩
   ·exact himR.below hb5
   ·exact hB
   ·intro c hc
    unfold Pst
    split
    ·omega
    ·split <;> omega
   ·simp
   ·intro c d hc hd hne
    unfold Pst
    match c, d, hc, hd with
    | 0, 0, _, _ => exact absurd rfl hne
    | 0, 1, _, _ => simp
    | 0, 2, _, _ => simp; omega
    | 1, 0, _, _ => simp
    | 1, 1, _, _ => exact absurd rfl hne
    | 1, 2, _, _ => simp
    | 2, 0, _, _ => simp; omega
    | 2, 1, _, _ => simp
    | 2, 2, _, _ => exact absurd rfl hne
   ·simp
   ·simp
  have hb5 : Below w.heap.size w (((w4.alloc (.cells #[.map none, .int .i64 0] 77)).alloc (.cells #[.map none, .int .i64 0] 77)).alloc (.cells #[.map none, .int .i64 1] 77)) := by
   have hb4 := HB3.out.trans (k4.mono HB3.out.size)
   exact ((hb4.alloc hb4.size _).alloc (by simp; have := hb4.size; omega) _).alloc (by simp; have := hb4.size; omega) _
  have HCS := Lib.hid hCS
  have HB5 := Lib.hid hb5
  clear hCS hb5 zI4 jP4 HB3 zI5 himR hloR k4 HRKC
  obtain ⟨W5, hW5⟩ : ∃ W5, (((w4.alloc (.cells #[.map none, .int .i64 0] 77)).alloc (.cells #[.map none, .int .i64 0] 77)).alloc (.cells #[.map none, .int .i64 1] 77)) = W5 := ⟨_, rfl⟩
  rw [hW5] at HCS HB5 ⊢
  clear hW5
  obtain ⟨p2, hp2⟩ : ∃ p2, w4.heap.size + 1 + 1 = p2 := ⟨_, rfl⟩
  rw [hp2] at HCS ⊢
  obtain ⟨p1, hp1⟩ : ∃ p1, w4.heap.size + 1 = p1 := ⟨_, rfl⟩
  rw [hp1] at HCS ⊢
  obtain ⟨p0, hp0⟩ : ∃ p0, w4.heap.size = p0 := ⟨_, rfl⟩
  rw [hp0] at HCS ⊢
  clear hp0 hp1 hp2
  go_loopw [26] (fun v wr => RelO h l w B p0 p1 p2 bR n rest v wr) (fun v _ => n - (intOf v).toNat)
  case atStart => exact ⟨0, sR, qB2, _, Nat.zero_le _, rfl, HCS.out, HB5.out⟩
  case round =>
   clear HCS HB5
   obtain ⟨i, sR, rows, M, hi, rfl, cs, hb⟩ := hrel
   by_cases hlt : i < n
   ·have hltz : (i : Int) < (n : Int) := by omega
    obtain ⟨t, ht⟩ : ∃ t, l[i]? = some t := ⟨_, List.getElem?_eq_getElem (by rw [HLL.out]; exact hlt)⟩
    have htm := zk0 (C := qd7 h l) ht
    obtain ⟨r, hrr⟩ : ∃ r, rows[i]? = some r := ⟨_, List.getElem?_eq_getElem (by rw [cs.says.1]; exact (List.getElem?_eq_some_iff.1 htm).1)⟩
    obtain ⟨c0, c1, c2, c3, f0, f1, f2⟩ := cs.txn hrr htm
    have hrt := zZ7.out.1 t (HLP.out.mem_iff.1 (List.mem_of_getElem? ht))
    obtain ⟨o1, o2, o3, o4, o5, o6⟩ := qJ4 hrt
    have NC := fun (W : World) (k : Below wr.heap.size wr W) => qV3 p0 (M 0) 0 (Lst l i 0) t.s (by omega) (by omega) (by
     have := qg2 (zI (l.take i))
     unfold Lst
     simp [zI] at this ⊢
     have := HLL.out
     omega) (fun e => by
      obtain ⟨es, cl, h2⟩ := qV5 ((cs.nm 0 (by omega)).2.2 p0 e)
      have h1 := (cs.nm 0 (by omega)).1
      rw [show Pst p0 p1 p2 0 = p0 from rfl, h2] at h1
      cases h1) W ((cs.nm 0 (by omega)).move (Trn.of_below (S := fun _ => False) k) id (fun _ _ => id))
    have LK := fun (W : World) (hR : IM Try.prog 3 W bR (jF6 (qx5 h)) sR) (x : Int) (hx : (Lit.int .i64 x).wf = true) => hR.look Try.underlying34 Try.underlying3 (z := .int .i64 0) (t := 34) (e := 3) (by kernel_rfl) false hx
    have WB := qY9 (x := t.b) (by omega) (by omega)
    have WC := qY9 (x := t.c) (by omega) (by omega)
    simp only [Bool.false_eq_true, if_false, zx3] at LK
    have lk1 := LK wr.drew (cs.rk.below ((Below.refl _ _).drew)) t.b WB
    have lk2 := LK wr.drew (cs.rk.below ((Below.refl _ _).drew)) t.c WC
    have HNC := Lib.hid (NC wr.drew ((Below.refl _ _).drew))
    have HLK := Lib.hid LK
    have HCS := Lib.hid cs
    have HB := Lib.hid hb
    have HW1 := Lib.hid WB
    have HW2 := Lib.hid WC
    have HT := Lib.hid ht
    have HTM := Lib.hid htm
    have HRR := Lib.hid hrr
    clear NC LK cs hb WB WC hrt o1 o2 o3 o4 o5 o6 ht htm hrr
    go_upto_region 11 with fail
    go_cut [26] from 26 to 94 (fun v26 wx => v26 = .int .i64 (i : Int) ∧ ∃ M' : Nat → Option Nat, CS wx w.heap.size B rest (rows.set i { r with s := (qd7 h l t).s, b := (qd7 h l t).b, c := (qd7 h l t).c }) (((l.take i).map (qd7 h l) ++ l.drop i).set i { t with s := (qd7 h l t).s, b := (qd7 h l t).b, c := (qd7 h l t).c }) (Pst p0 p1 p2) M' Fst (qb2 l i t 0) bR sR (qx5 h) ∧ Below w.heap.size w wx)
    case first =>
     have hA : ∀ W : World, CS W w.heap.size B rest rows ((l.take i).map (qd7 h l) ++ l.drop i) (Pst p0 p1 p2) M Fst (Lst l i) bR sR (qx5 h) → W.cell? ⟨B, i * 4, none⟩ = some (.int .i64 t.s) := fun W c => (c.txn HRR.out HTM.out).1
     refine qY.qu5 [20, 21, 22, 23, 24, 25, 26, 27, 28] (fun W => W.cell? ⟨B, i * 4, none⟩ = some (.int .i64 t.s) ∧ W.cell? ⟨B, i * 4 + 1, none⟩ = some (.int .i64 t.b) ∧ W.cell? ⟨B, i * 4 + 2, none⟩ = some (.int .i64 t.c) ∧ (Instr.lookup 34 (.map (some bR)) (.int .i64 t.b) false).run Try.prog W = .ok (.int .i64 (qv1 h t.b)) W ∧ (Instr.lookup 34 (.map (some bR)) (.int .i64 t.c) false).run Try.prog W = .ok (.int .i64 (qv1 h t.c)) W) (by kernel_rfl) ?_
     have hAA : (fun W : World => W.cell? ⟨B, i * 4, none⟩ = some (.int .i64 t.s) ∧ W.cell? ⟨B, i * 4 + 1, none⟩ = some (.int .i64 t.b) ∧ W.cell? ⟨B, i * 4 + 2, none⟩ = some (.int .i64 t.c) ∧ (Instr.lookup 34 (.map (some bR)) (.int .i64 t.b) false).run Try.prog W = .ok (.int .i64 (qv1 h t.b)) W ∧ (Instr.lookup 34 (.map (some bR)) (.int .i64 t.c) false).run Try.prog W = .ok (.int .i64 (qv1 h t.c)) W) wr.drew := ⟨c0, c1, c2, lk1, lk2⟩
     refine qY.zL (i := 0) (v := .pointer (some ⟨B, i * 4, none⟩)) rfl (by kernel_rfl) (by kernel_rfl) (by kernel_rfl) (fun _ _ _ h => h) (.inl ⟨rfl, fun W hW => ?_⟩) ?_
     ·(try obtain ⟨q0, q1, q2, q3, q4⟩ := hW); go_simp
     simp only [Act.put, List.setIfInBounds_toArray, List.set_cons_zero, List.set_cons_succ]
     refine qY.zL (i := 1) (v := .pointer (some ⟨B, i * 4, none⟩)) rfl (by kernel_rfl) (by kernel_rfl) (by kernel_rfl) (fun _ _ _ h => h) (.inl ⟨rfl, fun W hW => ?_⟩) ?_
     ·(try obtain ⟨q0, q1, q2, q3, q4⟩ := hW); go_simp
     simp only [Act.put, List.setIfInBounds_toArray, List.set_cons_zero, List.set_cons_succ]
     refine qY.zL (i := 2) (v := .pointer (some ⟨B, i * 4, none⟩)) rfl (by kernel_rfl) (by kernel_rfl) (by kernel_rfl) (fun _ _ _ h => h) (.inl ⟨rfl, fun W hW => ?_⟩) ?_
     ·(try obtain ⟨q0, q1, q2, q3, q4⟩ := hW); go_simp
     simp only [Act.put, List.setIfInBounds_toArray, List.set_cons_zero, List.set_cons_succ]
     refine qY.zL (i := 3) (v := .pointer (some ⟨B, i * 4, none⟩)) rfl (by kernel_rfl) (by kernel_rfl) (by kernel_rfl) (fun _ _ _ h => h) (.inl ⟨rfl, fun W hW => ?_⟩) ?_
     ·(try obtain ⟨q0, q1, q2, q3, q4⟩ := hW); go_simp
     simp only [Act.put, List.setIfInBounds_toArray, List.set_cons_zero, List.set_cons_succ]
     refine qY.zL (i := 4) (v := .pointer (some ⟨B, i * 4, none⟩)) rfl (by kernel_rfl) (by kernel_rfl) (by kernel_rfl) (fun _ _ _ h => h) (.inl ⟨rfl, fun W hW => ?_⟩) ?_
     ·(try obtain ⟨q0, q1, q2, q3, q4⟩ := hW); go_simp
     simp only [Act.put, List.setIfInBounds_toArray, List.set_cons_zero, List.set_cons_succ]
     refine qY.zL (i := 5) (v := .pointer (some ⟨B, i * 4, none⟩)) rfl (by kernel_rfl) (by kernel_rfl) (by kernel_rfl) (fun _ _ _ h => h) (.inl ⟨rfl, fun W hW => ?_⟩) ?_
     ·(try obtain ⟨q0, q1, q2, q3, q4⟩ := hW); go_simp
     simp only [Act.put, List.setIfInBounds_toArray, List.set_cons_zero, List.set_cons_succ]
     refine qY.qt9 (i := 6) (v := .int .i64 t.s) rfl (by kernel_rfl) (by kernel_rfl) (by kernel_rfl) (by kernel_rfl) (fun _ _ _ h => h) (.inl ⟨rfl, fun W hW => ?_⟩) hAA ?_
     ·(try obtain ⟨q0, q1, q2, q3, q4⟩ := hW); go_simp
     simp only [Act.put, List.setIfInBounds_toArray, List.set_cons_zero, List.set_cons_succ]
     refine qY.zL (i := 8) (v := .map (some bR)) rfl (by kernel_rfl) (by kernel_rfl) (by kernel_rfl) (fun _ _ _ h => h) (.inl ⟨rfl, fun W hW => ?_⟩) ?_
     ·(try obtain ⟨q0, q1, q2, q3, q4⟩ := hW); go_simp
     simp only [Act.put, List.setIfInBounds_toArray, List.set_cons_zero, List.set_cons_succ]
     refine qY.zL (i := 9) (v := .pointer (some ⟨B, i * 4, none⟩)) rfl (by kernel_rfl) (by kernel_rfl) (by kernel_rfl) (fun _ _ _ h => h) (.inl ⟨rfl, fun W hW => ?_⟩) ?_
     ·(try obtain ⟨q0, q1, q2, q3, q4⟩ := hW); go_simp
     simp only [Act.put, List.setIfInBounds_toArray, List.set_cons_zero, List.set_cons_succ]
     refine qY.zL (i := 10) (v := .pointer (some ⟨B, i * 4, none⟩)) rfl (by kernel_rfl) (by kernel_rfl) (by kernel_rfl) (fun _ _ _ h => h) (.inl ⟨rfl, fun W hW => ?_⟩) ?_
     ·(try obtain ⟨q0, q1, q2, q3, q4⟩ := hW); go_simp
     simp only [Act.put, List.setIfInBounds_toArray, List.set_cons_zero, List.set_cons_succ]
     refine qY.zL (i := 11) (v := .pointer (some ⟨B, i * 4 + 1, none⟩)) rfl (by kernel_rfl) (by kernel_rfl) (by kernel_rfl) (fun _ _ _ h => h) (.inl ⟨rfl, fun W hW => ?_⟩) ?_
     ·(try obtain ⟨q0, q1, q2, q3, q4⟩ := hW); go_simp
     simp only [Act.put, List.setIfInBounds_toArray, List.set_cons_zero, List.set_cons_succ]
     refine qY.qt9 (i := 12) (v := .int .i64 t.b) rfl (by kernel_rfl) (by kernel_rfl) (by kernel_rfl) (by kernel_rfl) (fun _ _ _ h => h) (.inl ⟨rfl, fun W hW => ?_⟩) hAA ?_
     ·(try obtain ⟨q0, q1, q2, q3, q4⟩ := hW); go_simp
     simp only [Act.put, List.setIfInBounds_toArray, List.set_cons_zero, List.set_cons_succ]
     refine qY.qt9 (i := 13) (v := .int .i64 (qv1 h t.b)) rfl (by kernel_rfl) (by kernel_rfl) (by kernel_rfl) (by kernel_rfl) (fun _ _ _ h => h) (.inl ⟨rfl, fun W hW => ?_⟩) hAA ?_
     ·(try obtain ⟨q0, q1, q2, q3, q4⟩ := hW); go_simp
     simp only [Act.put, List.setIfInBounds_toArray, List.set_cons_zero, List.set_cons_succ]
     refine qY.zL (i := 14) (v := .map (some bR)) rfl (by kernel_rfl) (by kernel_rfl) (by kernel_rfl) (fun _ _ _ h => h) (.inl ⟨rfl, fun W hW => ?_⟩) ?_
     ·(try obtain ⟨q0, q1, q2, q3, q4⟩ := hW); go_simp
     simp only [Act.put, List.setIfInBounds_toArray, List.set_cons_zero, List.set_cons_succ]
     refine qY.zL (i := 15) (v := .pointer (some ⟨B, i * 4, none⟩)) rfl (by kernel_rfl) (by kernel_rfl) (by kernel_rfl) (fun _ _ _ h => h) (.inl ⟨rfl, fun W hW => ?_⟩) ?_
     ·(try obtain ⟨q0, q1, q2, q3, q4⟩ := hW); go_simp
     simp only [Act.put, List.setIfInBounds_toArray, List.set_cons_zero, List.set_cons_succ]
     refine qY.zL (i := 16) (v := .pointer (some ⟨B, i * 4, none⟩)) rfl (by kernel_rfl) (by kernel_rfl) (by kernel_rfl) (fun _ _ _ h => h) (.inl ⟨rfl, fun W hW => ?_⟩) ?_
     ·(try obtain ⟨q0, q1, q2, q3, q4⟩ := hW); go_simp
     simp only [Act.put, List.setIfInBounds_toArray, List.set_cons_zero, List.set_cons_succ]
     refine qY.zL (i := 17) (v := .pointer (some ⟨B, i * 4 + 2, none⟩)) rfl (by kernel_rfl) (by kernel_rfl) (by kernel_rfl) (fun _ _ _ h => h) (.inl ⟨rfl, fun W hW => ?_⟩) ?_
     ·(try obtain ⟨q0, q1, q2, q3, q4⟩ := hW); go_simp
     simp only [Act.put, List.setIfInBounds_toArray, List.set_cons_zero, List.set_cons_succ]
     refine qY.qt9 (i := 18) (v := .int .i64 t.c) rfl (by kernel_rfl) (by kernel_rfl) (by kernel_rfl) (by kernel_rfl) (fun _ _ _ h => h) (.inl ⟨rfl, fun W hW => ?_⟩) hAA ?_
     ·(try obtain ⟨q0, q1, q2, q3, q4⟩ := hW); go_simp
     simp only [Act.put, List.setIfInBounds_toArray, List.set_cons_zero, List.set_cons_succ]
     refine qY.qt9 (i := 19) (v := .int .i64 (qv1 h t.c)) rfl (by kernel_rfl) (by kernel_rfl) (by kernel_rfl) (by kernel_rfl) (fun _ _ _ h => h) (.inl ⟨rfl, fun W hW => ?_⟩) hAA ?_
     ·(try obtain ⟨q0, q1, q2, q3, q4⟩ := hW); go_simp
     simp only [Act.put, List.setIfInBounds_toArray, List.set_cons_zero, List.set_cons_succ]
     refine qY.zT (i := 7) rfl (by kernel_rfl) rfl ?_
     intro K7 hK7
     have HK7 := Lib.hid hK7
     clear hK7
     simp only [List.getElem_toArray, List.getElem_cons_succ, List.getElem_cons_zero]
     unfold Oper.wp
     go_simp
     go_at_call 41
     refine HNC.out.mono ?_
     rintro e w6 ⟨rfl, m6, hn6, hm6, ht6⟩
     have cs6 := (HCS.out.below ((Below.refl _ _).drew)).name (by have := HB.out.size; simpa using this) 0 (by omega) t.s hn6 hm6 ht6
     obtain ⟨d0, d1, d2, d3, g0, g1, g2⟩ := cs6.txn HRR.out HTM.out
     have lk3 := HLK.out w6 cs6.rk t.b HW1.out
     have lk4 := HLK.out w6 cs6.rk t.c HW2.out
     have CS6 := Lib.hid cs6
     have HT6 := Lib.hid ht6
     refine HK7.out _ _ ⟨fun _ _ => ⟨d0, d1, d2, lk3, lk4⟩, ?_⟩
     clear cs6 ht6 hn6 hm6 lk1 lk2 lk3 lk4 c0 c1 c2 c3 f0 f1 f2 hAA hA HK7 K7
     refine qY.zT (i := 20) rfl (by kernel_rfl) rfl ?_
     intro K7 hK7
     have HK7 := Lib.hid hK7
     clear hK7
     (try simp only [List.getElem_toArray, List.getElem_cons_succ, List.getElem_cons_zero])
     unfold Oper.wp
     go_simp
     refine HK7.out _ _ ⟨fun h => (by simp at h), ?_⟩
     clear HK7 K7
     (try simp only [Act.put, List.setIfInBounds_toArray, List.set_cons_zero, List.set_cons_succ])
     refine qY.zT (i := 21) rfl (by kernel_rfl) rfl ?_
     intro K7 hK7
     have HK7 := Lib.hid hK7
     clear hK7
     (try simp only [List.getElem_toArray, List.getElem_cons_succ, List.getElem_cons_zero])
     unfold Oper.wp
     go_simp
     refine HK7.out _ _ ⟨fun h => (by simp at h), ?_⟩
     clear HK7 K7
     (try simp only [Act.put, List.setIfInBounds_toArray, List.set_cons_zero, List.set_cons_succ])
     refine qY.zT (i := 22) rfl (by kernel_rfl) rfl ?_
     intro K7 hK7
     have HK7 := Lib.hid hK7
     clear hK7
     (try simp only [List.getElem_toArray, List.getElem_cons_succ, List.getElem_cons_zero])
     unfold Oper.wp
     go_simp
     refine HK7.out _ _ ⟨fun h => (by simp at h), ?_⟩
     clear HK7 K7
     (try simp only [Act.put, List.setIfInBounds_toArray, List.set_cons_zero, List.set_cons_succ])
     refine qY.zT (i := 23) rfl (by kernel_rfl) rfl ?_
     intro K7 hK7
     have HK7 := Lib.hid hK7
     clear hK7
     (try simp only [List.getElem_toArray, List.getElem_cons_succ, List.getElem_cons_zero])
     unfold Oper.wp
     go_simp
     refine HK7.out _ _ ⟨fun h => (by simp at h), ?_⟩
     clear HK7 K7
     (try simp only [Act.put, List.setIfInBounds_toArray, List.set_cons_zero, List.set_cons_succ])
     refine qY.zT (i := 24) rfl (by kernel_rfl) rfl ?_
     intro K7 hK7
     have HK7 := Lib.hid hK7
     clear hK7
     (try simp only [List.getElem_toArray, List.getElem_cons_succ, List.getElem_cons_zero])
     unfold Oper.wp
     go_simp
     refine HK7.out _ _ ⟨fun h => (by simp at h), ?_⟩
     clear HK7 K7
     (try simp only [Act.put, List.setIfInBounds_toArray, List.set_cons_zero, List.set_cons_succ])
     refine qY.zT (i := 25) rfl (by kernel_rfl) rfl ?_
     intro K7 hK7
     have HK7 := Lib.hid hK7
     clear hK7
     (try simp only [List.getElem_toArray, List.getElem_cons_succ, List.getElem_cons_zero])
     unfold Oper.wp
     go_simp
     refine HK7.out _ _ ⟨fun h => (by simp at h), ?_⟩
     clear HK7 K7
     (try simp only [Act.put, List.setIfInBounds_toArray, List.set_cons_zero, List.set_cons_succ])
     refine qY.zT (i := 26) rfl (by kernel_rfl) rfl ?_
     intro K7 hK7
     have HK7 := Lib.hid hK7
     clear hK7
     (try simp only [List.getElem_toArray, List.getElem_cons_succ, List.getElem_cons_zero])
     unfold Oper.wp
     go_simp
     refine HK7.out _ _ ⟨fun h => (by simp at h), ?_⟩
     clear HK7 K7
     (try simp only [Act.put, List.setIfInBounds_toArray, List.set_cons_zero, List.set_cons_succ])
     refine qY.zT (i := 27) rfl (by kernel_rfl) rfl ?_
     intro K7 hK7
     have HK7 := Lib.hid hK7
     clear hK7
     (try simp only [List.getElem_toArray, List.getElem_cons_succ, List.getElem_cons_zero])
     unfold Oper.wp
     go_simp
     refine HK7.out _ _ ⟨fun h => (by simp at h), ?_⟩
     clear HK7 K7
     (try simp only [Act.put, List.setIfInBounds_toArray, List.set_cons_zero, List.set_cons_succ])
     refine qY.zT (i := 28) rfl (by kernel_rfl) rfl ?_
     intro K7 hK7
     have HK7 := Lib.hid hK7
     clear hK7
     (try simp only [List.getElem_toArray, List.getElem_cons_succ, List.getElem_cons_zero])
     unfold Oper.wp
     go_simp
     refine HK7.out _ _ ⟨fun h => (by simp at h), ?_⟩
     clear HK7 K7
     (try simp only [Act.put, List.setIfInBounds_toArray, List.set_cons_zero, List.set_cons_succ])
     refine qY.qy5 (by kernel_rfl) ?_ _
     have cs7 := CS6.out.zZ2 HRR.out HTM.out (zU (zH (Lst l i 0) t.s) t.s : Int) (qv1 h t.b) (qv1 h t.c)
     rw [zU4 HT.out, zx1 HT.out] at cs7
     rw [zx1 HT.out]
     have hlo := CS6.out.loB
     have hb6 : Below w.heap.size w w6 := Trn.below (HB.out.trans ((Below.refl _ _).drew.mono HB.out.size)) HT6.out (fun k hk => by
      rcases hk with rfl | hk
      ·exact HCS.out.loP 0 (by omega)
      ·exact HCS.out.loM 0 k (by omega) hk)
     have hb7 := hb6.grown (qZ1 w6 B i (zU (names (zI l)) t.s : Int) (qv1 h t.b) (qv1 h t.c)) hb6.size (fun j hj => by cases hj; exact hlo)
     have CS7 := Lib.hid cs7
     have HB7 := Lib.hid hb7
     clear cs7 hb7 hb6 d0 d1 d2 d3 g0 g1 g2
     go_wp2_with fail
     go_meet
     case rel => exact ⟨rfl, _, CS7.out, HB7.out⟩
    case rest =>
     clear HNC HLK HCS HB HW1 HW2 lk1 lk2 c0 c1 c2 c3 f0 f1 f2
     obtain ⟨rfl, M1, cs1, hb1⟩ := hcut
     rw [← zr1] at cs1
     have hr1 : (rows.set i { r with s := (qd7 h l t).s, b := (qd7 h l t).b, c := (qd7 h l t).c })[i]? = some { r with s := (qd7 h l t).s, b := (qd7 h l t).b, c := (qd7 h l t).c } := by
      rw [List.getElem?_set_self (List.getElem?_eq_some_iff.1 HRR.out).1]
     have hil := (List.getElem?_eq_some_iff.1 HTM.out).1
     have ht1 : ∀ x, (((l.take i).map (qd7 h l) ++ l.drop i).set i x)[i]? = some x := fun x => List.getElem?_set_self hil
     obtain ⟨m, hm1⟩ : ∃ m, t.ops.length = m := ⟨_, rfl⟩
     have HMM := Lib.hid hm1
     have hm64 : m ≤ 64 := by rw [← hm1]; exact (qu7 (zZ7.out.1 t (HLP.out.mem_iff.1 (List.mem_of_getElem? HT.out)))).1
     obtain ⟨_, _, _, c3, _, _, _⟩ := cs1.txn hr1 (ht1 _)
     rw [show (qK4 h l t 0).ops.length = m by rw [← hm1]; simp [qK4]] at c3
     dsimp only at c3
     have HCS1 := Lib.hid cs1
     have HB1 := Lib.hid hb1
     have HR1 := Lib.hid hr1
     have HT1 := Lib.hid ht1
     clear cs1 hb1 hr1 ht1 hm1 hil
     go_wp2_with fail
     go_loopw [63] (fun v wr => ∃ (j : Nat) (M' : Nat → Option Nat), j ≤ m ∧ v = .int .i64 ((j : Nat) : Int) ∧ CS wr w.heap.size B rest (rows.set i { r with s := (qd7 h l t).s, b := (qd7 h l t).b, c := (qd7 h l t).c }) (((l.take i).map (qd7 h l) ++ l.drop i).set i (qK4 h l t j)) (Pst p0 p1 p2) M' Fst (qb2 l i t j) bR sR (qx5 h) ∧ Below w.heap.size w wr) (fun v _ => m - (intOf v).toNat)
     case atStart => exact ⟨0, M1, Nat.zero_le _, rfl, HCS1.out, HB1.out⟩
     case round =>
      clear HCS1 HB1 c3
      obtain ⟨j, M2, hj, rfl, cs, hb⟩ := hrel
      by_cases hjm : j < m
      ·have hjz : (j : Int) < (m : Int) := by omega
       obtain ⟨o, ho⟩ : ∃ o, t.ops[j]? = some o := ⟨_, List.getElem?_eq_getElem (by rw [HMM.out]; exact hjm)⟩
       have za2 : (qK4 h l t j).ops[j]? = some o := zk0 ho
       obtain ⟨_, _, _, c3, _, _, _⟩ := cs.txn HR1.out (HT1.out _)
       rw [show (qK4 h l t j).ops.length = m by rw [← HMM.out]; simp [qK4]; omega] at c3
       obtain ⟨k1, v1, fk1, fv1⟩ := cs.op HR1.out (HT1.out _) za2
       dsimp only at c3 k1 v1 fk1 fv1
       have hoo := (qu7 (zZ7.out.1 t (HLP.out.mem_iff.1 (List.mem_of_getElem? HT.out)))).2 o (List.mem_of_getElem? ho)
       obtain ⟨hk0, hk1, hv0, hv1⟩ := hoo
       have hcl : jG l ≤ 1024 := by rw [jR6 HLP.out]; exact HCN.out
       have N1 := qV3 p1 (M2 1) 0 (qb2 l i t j 1) o.k (by omega) (by omega) (by have := qZ7 HT.out j; omega) (fun e => by
        obtain ⟨es, cl, h2⟩ := qV5 ((cs.nm 1 (by omega)).2.2 p1 e)
        have h1 := (cs.nm 1 (by omega)).1
        rw [show Pst p0 p1 p2 1 = p1 from rfl, h2] at h1
        cases h1) wr (cs.nm 1 (by omega))
       have HN1 := Lib.hid N1
       have jR7 := Lib.hid cs
       have HB2 := Lib.hid hb
       have HO := Lib.hid ho
       have zx6 := Lib.hid za2
       have hgB : w.heap.size ≤ r.g := by
        have := (cs.says.lt { r with s := (qd7 h l t).s, b := (qd7 h l t).b, c := (qd7 h l t).c } (List.mem_of_getElem? HR1.out)).1
        exact this
       clear N1 cs hb ho za2
       by_cases hvz : o.v = 0
       ·go_wp2_with (go_at_call 41; (with_reducible refine HN1.out.mono ?_); rintro e w6 ⟨rfl, m6, hn6, hm6, ht6⟩; have cs6 := jR7.out.name HB2.out.size 1 (by omega) o.k hn6 hm6 ht6; obtain ⟨k6, v6, fk6, fv6⟩ := cs6.op HR1.out (HT1.out _) zx6.out; dsimp only at k6 v6 fk6 fv6; have HC6 := Lib.hid cs6; have HT6 := Lib.hid ht6; clear cs6 ht6 hn6 hm6)
        have hb6 : Below w.heap.size w w6 := Trn.below HB2.out HT6.out (fun k hk => by
         rcases hk with rfl | hk
         ·exact jR7.out.loP 1 (by omega)
         ·exact jR7.out.loM 1 k (by omega) hk)
        have cs7 := HC6.out.jQ0 HR1.out (HT1.out _) (ops' := (qK4 h l t j).ops.set j { o with k := (zU (zH (qb2 l i t j 1) o.k) o.k : Int) }) (by simp) (fun rst => jA7 _ rst j o _ zx6.out)
        have e1 : ({ o with k := (zU (zH (qb2 l i t j 1) o.k) o.k : Int) } : O3) = qC0 (names (jL l)) (names (zB l)) o := by
         rw [zx2 HT.out HO.out]
         unfold qC0
         rw [if_pos hvz, ← hvz]
        rw [e1, List.set_set, jB7 HO.out, zw9 HO.out hvz] at cs7
        have hb7 := hb6.grown (zV w6 r.g (j * 3 + 1) (.int .i64 (zU (zH (qb2 l i t j 1) o.k) o.k : Int))) hb6.size (fun q hq => by cases hq; exact hgB)
        go_roundw
        case rel => exact ⟨j + 1, _, by omega, by go_num, cs7, hb7⟩
        case measure => (simp [intOf]; try omega)
       ·have hvb : (o.v != 0) = true := by simp [hvz]
        have hjl : j < (qK4 h l t j).ops.length := (List.getElem?_eq_some_iff.1 zx6.out).1
        have HJL := Lib.hid hjl
        clear hjl
        go_wp2_with (first
         | (go_at_call 41; (with_reducible refine HN1.out.mono ?_); rintro e w6 ⟨rfl, m6, hn6, hm6, ht6⟩; have cs6 := jR7.out.name HB2.out.size 1 (by omega) o.k hn6 hm6 ht6; obtain ⟨k6, v6, fk6, fv6⟩ := cs6.op HR1.out (HT1.out _) zx6.out; dsimp only at k6 v6 fk6 fv6; have hb6 : Below w.heap.size w w6 := Trn.below HB2.out ht6 (fun k hk => by
           rcases hk with rfl | hk
           ·exact jR7.out.loP 1 (by omega)
           ·exact jR7.out.loM 1 k (by omega) hk); have cs7 := cs6.jQ0 HR1.out (HT1.out _) (ops' := (qK4 h l t j).ops.set j { o with k := (zU (zH (qb2 l i t j 1) o.k) o.k : Int) }) (by simp) (fun rst => jA7 _ rst j o _ zx6.out); rw [List.set_set] at cs7; have hb7 := hb6.grown (zV w6 r.g (j * 3 + 1) (.int .i64 (zU (zH (qb2 l i t j 1) o.k) o.k : Int))) hb6.size (fun q hq => by cases hq; exact hgB); have hset : ((qK4 h l t j).ops.set j { o with k := (zU (zH (qb2 l i t j 1) o.k) o.k : Int) })[j]? = some { o with k := (zU (zH (qb2 l i t j 1) o.k) o.k : Int) } := List.getElem?_set_self HJL.out; obtain ⟨k7, v7, fk7, fv7⟩ := cs7.op HR1.out (HT1.out _) hset; dsimp only at k7 v7 fk7 fv7; have N2 := qV3 p2 (M2 2) 1 (qb2 l i t j 2) o.v (by omega) (by omega) (by have := qK3 HT.out j; omega) (fun e => by
            obtain ⟨es, cl, h2⟩ := qV5 ((jR7.out.nm 2 (by omega)).2.2 p2 e)
            have h1 := (jR7.out.nm 2 (by omega)).1
            rw [show Pst p0 p1 p2 2 = p2 from rfl, h2] at h1
            cases h1) _ (cs7.nm 2 (by omega)); have HN2 := Lib.hid N2; have HC7 := Lib.hid cs7; have HB7 := Lib.hid hb7; have HSET := Lib.hid hset; clear cs6 cs7 ht6 hn6 hm6 hb6 hb7 N2 k7 fk7 hset)
         | (go_at_call 41; (with_reducible refine HN2.out.mono ?_); rintro e w8 ⟨rfl, m8, hn8, hm8, ht8⟩; have cs8 := HC7.out.name HB7.out.size 2 (by omega) o.v hn8 hm8 ht8; obtain ⟨k8, v8, fk8, fv8⟩ := cs8.op HR1.out (HT1.out _) HSET.out; dsimp only at k8 v8 fk8 fv8; have HC8 := Lib.hid cs8; have HT8 := Lib.hid ht8; clear cs8 hn8 hm8 ht8))
        have hb8 : Below w.heap.size w w8 := Trn.below HB7.out HT8.out (fun k hk => by
         rcases hk with rfl | hk
         ·exact HC7.out.loP 2 (by omega)
         ·exact HC7.out.loM 2 k (by omega) hk)
        have cs9 := HC8.out.jQ0 HR1.out (HT1.out _) (ops' := ((qK4 h l t j).ops.set j { o with k := (zU (zH (qb2 l i t j 1) o.k) o.k : Int) }).set j { ({ o with k := (zU (zH (qb2 l i t j 1) o.k) o.k : Int) } : O3) with v := 1 + (zU (zH (qb2 l i t j 2) o.v) o.v : Int) }) (by simp) (fun rst => jA8 _ rst j _ _ HSET.out)
        have e1 : ({ ({ o with k := (zU (zH (qb2 l i t j 1) o.k) o.k : Int) } : O3) with v := 1 + (zU (zH (qb2 l i t j 2) o.v) o.v : Int) } : O3) = qC0 (names (jL l)) (names (zB l)) o := by
         rw [zx2 HT.out HO.out, zU5 HT.out HO.out hvz]
         unfold qC0
         rw [if_neg hvz]
        rw [e1, List.set_set, List.set_set] at cs9
        have e2 := jB7 (h := h) (l := l) HO.out
        have hL := zx0 (l := l) (i := i) HO.out hvz
        have hb9 := hb8.grown (zV w8 r.g (j * 3 + 2) (.int .i64 (1 + (zU (zH (qb2 l i t j 2) o.v) o.v : Int)))) hb8.size (fun q hq => by cases hq; exact hgB)
        go_roundw
        case rel => exact ⟨j + 1, _, by omega, by go_num, by rw [← hL, ← e2]; exact cs9, hb9⟩
        case measure => (simp [intOf]; try omega)
      ·have zu8 : j = m := by omega
       subst zu8
       have cs5 := cs
       rw [← HMM.out, zx4, zk1 HT.out, zk2 HT.out] at cs5
       have HC5 := Lib.hid cs5
       have HB5 := Lib.hid hb
       clear cs cs5 hb
       go_wp2_with fail
       go_roundw
       case rel => exact ⟨i + 1, sR, _, M2, by omega, by go_num, HC5.out, HB5.out⟩
       case measure => (simp [intOf]; try omega)
   ·have hin : i = n := by omega
    subst hin
    have hcl : (l.take i).map (qd7 h l) ++ l.drop i = qD5 (qv1 h) l := by
     rw [List.take_of_length_le (by rw [HLL.out]; exact Nat.le_refl _), List.drop_of_length_le (by rw [HLL.out]; exact Nat.le_refl _), List.append_nil]
     rfl
    rw [hcl] at cs
    have hrl2 : rows.length = i := by rw [cs.says.1]; simp [qD5, HLL.out]
    have hown : wr.ownsRow w.heap.size 55 4 (.slice (some ⟨B, 0, none⟩) i cp) rows.length (qj6 rows) := by
     rw [hrl2]
     refine ⟨by rw [qv0, hrl2], .inr ⟨B, cp, _, rfl, hB, cs.row, hncp, hcpm, by simp [qv0, hrl2]; omega, ?_⟩⟩
     rw [← hrl2, ← qv0 rows]
     simp
    have HH := Lib.hid (show H2 wr w.heap.size (.slice (some ⟨B, 0, none⟩) i cp) rows (qD5 (qv1 h) l) from ⟨hown, cs.says⟩)
    have HB := Lib.hid hb
    clear cs hown hb
    go_wp2_with fail
    go_ret
    exact ⟨HB.out, .inr ⟨HCK.out, _, rows, l, HLP.out, HPL.out, rfl, HH.out⟩⟩
 ·have HCK := Lib.hid hck
  have hcz : (zW h != 0) = true := by simp [hck]
  clear hr hcnt
  obtain ⟨q, hq⟩ : ∃ q, zW h = q := ⟨_, rfl⟩
  rw [hq] at HCC HCK hcz hck ⊢
  clear hq
  go_enter Try.func13, Try.ntmps13
  go_wp2_with (go_at_call 32; (with_reducible refine HCC.out.mono ?_); rintro e w1 ⟨rfl, k1⟩)
  go_ret
  exact ⟨k1, .inl ⟨HCK.out, rfl⟩⟩
end Go.Proofs.Ytngkneknopenmaa.Hist
end
section
namespace Go.Proofs.Ytngkneknopenmaa.Hist
set_option linter.unusedSimpArgs false
open Go.qY (pu ta sa sz ss)
open Go Go.RowKit Go.Proofs.Ytngkneknopenmaa.qb9 Go.Proofs.Ytngkneknopenmaa.qj7
def zb8 (w : World) (q : Nat) (s b c : Int) (v : Value) : World := (((w.setCell ⟨q, 0, none⟩ (.int .i64 s)).setCell ⟨q, 1, none⟩ (.int .i64 b)).setCell ⟨q, 2, none⟩ (.int .i64 c)).setCell ⟨q, 3, none⟩ v
theorem jq5 (w : World) (q : Nat) (s b c : Int) (v : Value) : w.grownBy (zb8 w q s b c v) (some q) :=
 World.grownBy.trans (World.grownBy.trans (World.grownBy.trans (zV _ _ _ _) (zV _ _ _ _)) (zV _ _ _ _)) (zV _ _ _ _)
end Go.Proofs.Ytngkneknopenmaa.Hist
end
section
namespace Go.Proofs.Ytngkneknopenmaa.T
open Go.Proofs.Ytngkneknopenmaa Go.Proofs.Ytngkneknopenmaa.za6 Go.Proofs.Ytngkneknopenmaa.K
open Go.RowKit Go.Proofs.YtngkneknopenmaaW.PrintWords Go.Proofs.YtngkneknopenmaaW.qi5 Go.Proofs.YtngkneknopenmaaW.ql6
attribute [local go_sem] qs6 qs7 qy1 qy2 qo3 qo4 qs8 qs9   -- for this text's walks alone
set_option linter.unusedVariables false
set_option linter.unusedSimpArgs false
theorem zx7 : (Try.prog.info? 51).map (fun i => (i.zero, i.size, i.bytes)) = some (some (.agg #[(.bool false), (.int .i64 0), (.int .i64 0)]), 3, 24) := by kernel_rfl
end Go.Proofs.Ytngkneknopenmaa.T
end
section
namespace Go.Proofs.Ytngkneknopenmaa.T
open Go.Proofs.Ytngkneknopenmaa Go.Proofs.Ytngkneknopenmaa.za6 Go.Proofs.Ytngkneknopenmaa.K
open Go.RowKit Go.Proofs.YtngkneknopenmaaW.PrintWords Go.Proofs.YtngkneknopenmaaW.qi5 Go.Proofs.YtngkneknopenmaaW.ql6
attribute [local go_sem] qs6 qs7 qy1 qy2 qo3 qo4 qs8 qs9   -- for this text's walks alone
set_option linter.unusedVariables false
set_option linter.unusedSimpArgs false
mutual
def qF.l0 : Nat → List (S55) → List (S55) → Option ((List (S55)))
 | 0, _, _ => none
 | k + 1, x3, x4 => if (x4.length : Int) > 0 then (qF.l1 k x3 x4 0 0) else (some x3)
def qF.l1 : Nat → List (S55) → List (S55) → Int → Int → Option ((List (S55)))
 | 0, _, _, _, _ => none
 | k + 1, x3, x4, x5, x6 => if x6 < (x4.length : Int) then (if 0 ≤ x6 then (if 0 ≤ x5 then (if x5 < (x4.length : Int) then (if ((qD x4 x6).f1) < ((qD x4 x5).f1) then (qF.l1 k x3 x4 x6 (wrap64 (x6 + 1))) else (qF.l1 k x3 x4 x5 (wrap64 (x6 + 1)))) else (none)) else (none)) else (none)) else (if 0 ≤ x5 then (if x5 < (x4.length : Int) then (if x3.length < 2932031007402 then ((some (([] : List (S55)) : List (S55))).bind fun y165 => (if x5 ≤ (x4.length : Int) then ((some (x4.take (x5 : Int).toNat : List (S55))).bind fun y168 => (if y165.length + y168.length < 2932031007402 then ((some (y165 ++ y168 : List (S55))).bind fun y173 => (if 0 ≤ (wrap64 (x5 + 1)) then (if (wrap64 (x5 + 1)) ≤ (x4.length : Int) then ((some (x4.drop ((wrap64 (x5 + 1)) : Int).toNat : List (S55))).bind fun y176 => (if y173.length + y176.length < 2932031007402 then (qF.l0 k (x3 ++ [(⟨(qD x4 x5).f0, (qD x4 x5).f1, (qD x4 x5).f2, (qD x4 x5).f3⟩ : S55)]) (y173 ++ y176)) else (none))) else (none)) else (none))) else (none))) else (none))) else (none)) else (none)) else (none))
end
def qF.f (k : Nat) (l0 : List (S55)) : Option ((List (S55))) := (some (([] : List (S55)) : List (S55))).bind fun y153 => (if y153.length + l0.length < 2932031007402 then (qF.l0 k (([] : List (S55))) (y153 ++ l0)) else (none))
def qF.T8 : Bool × List (List Nat × List Nat) := (true, [([], []), ([], []), ([0, 1], [0, 1]), ([2], [2]), ([3], [3]), ([], []), ([], []), ([5, 6], [5, 6]), ([7], [7]), ([8], [8]), ([4, 9], [4, 9])])
def qF.B8 : List Nat := [0, 0, 3, 7, 15, 0, 0, 96, 224, 480, 1023]
theorem qF.tab8 : qC2 .any (opsOf Try.f43 8) = qF.T8 := by kernel_rfl
theorem qF.zU6 : qK5 qF.T8.2 qF.B8 = true := by kernel_rfl
def qF.T11 : Bool × List (List Nat × List Nat) := (true, [([], []), ([], []), ([], []), ([1, 2], [1, 2]), ([0, 3], [0, 3]), ([], []), ([], []), ([6], [6]), ([5, 7], [5, 7]), ([4, 8, 4], [4, 8]), ([9, 9, 0, 1, 2, 3, 4, 5, 6, 7, 8, 9], [1, 5, 9])])
def qF.B11 : List Nat := [0, 0, 0, 6, 15, 0, 0, 64, 224, 511, 1023]
theorem qF.Qk2 : qC2 .any (opsOf Try.f43 11) = qF.T11 := by kernel_rfl
theorem qF.Qa0 : qK5 qF.T11.2 qF.B11 = true := by kernel_rfl
set_option maxHeartbeats 8000000 in
set_option maxRecDepth 100000 in
theorem qF.calls (k : Nat) (P0_ : Nat → Prop) (A0 : Option Addr) (c0 : Nat) (l0 : List (S55)) (r : List (S55)) (w : World) (hs0 : Kd.V k55 55 w w.heap.size (fun k_ => P0_ k_) (.slice A0 l0.length c0) l0) (h : qF.f k l0 = some r) :
  Calls Try.prog 43 #[.slice A0 l0.length c0] w fun e w' => ∃ v0_ : Value, e = .returned (v0_) ∧ Kd.N k55 55 w' w.heap.size (fun k_ => (P0_ k_ ∨ w.heap.size ≤ k_)) v0_ r ∧ Below w.heap.size w w' := by
 have zI6 := Try.underlying55
 have HO0 := q8.mk (show Kd.V k55 55 w w.heap.size (fun k_ => (P0_ k_ ∨ w.heap.size ≤ k_)) (.slice A0 l0.length c0) l0 from Kd.zO hs0 (fun k_ hk => .inl hk))
 have HB := q8.mk (Below.refl w.heap.size w)
 have H : ((some (([] : List (S55)) : List (S55))).bind fun y153 => (if y153.length + l0.length < 2932031007402 then (qF.l0 k (([] : List (S55))) (y153 ++ l0)) else (none))) = some r := h
 clear h
 obtain ⟨y150, hy150⟩ : ∃ y_ : List (S55), y_ = (([] : List (S55))) := ⟨_, rfl⟩
 replace H : ((some (([] : List (S55)) : List (S55))).bind fun y153 => (if y153.length + l0.length < 2932031007402 then (qF.l0 k y150 (y153 ++ l0)) else (none))) = some r := by first | (rw [hy150]; with_reducible exact H) | (have H2_ := (Option.bind_some _ _).symm.trans H; rw [hy150]; with_reducible exact H2_) | (have H2_ := (Option.bind_some _ _).symm.trans H; with_reducible exact H2_) | with_reducible exact H | (rw [hy150]; exact H) | exact H
 have zU7 := q8.mk hy150
 clear hy150
 obtain ⟨y153, hy153⟩ : ∃ y_ : List (S55), y_ = (([] : List (S55))) := ⟨_, rfl⟩
 replace H : (if y153.length + l0.length < 2932031007402 then (qF.l0 k y150 (y153 ++ l0)) else (none)) = some r := by first | (rw [hy153]; with_reducible exact H) | (have H2_ := (Option.bind_some _ _).symm.trans H; rw [hy153]; with_reducible exact H2_) | (have H2_ := (Option.bind_some _ _).symm.trans H; with_reducible exact H2_) | with_reducible exact H | (rw [hy153]; exact H) | exact H
 have zU8 := q8.mk hy153
 clear hy153
 by_cases c2 : y153.length + l0.length < 2932031007402
 ·rw [if_pos c2] at H
  have LMc2 := q8.mk c2
  clear c2
  obtain ⟨y156, jR8⟩ : ∃ y_ : List (S55), y_ = (y153 ++ l0) := ⟨_, rfl⟩
  replace H : (qF.l0 k y150 y156) = some r := by first | (rw [jR8]; with_reducible exact H) | (have H2_ := (Option.bind_some _ _).symm.trans H; rw [jR8]; with_reducible exact H2_) | (have H2_ := (Option.bind_some _ _).symm.trans H; with_reducible exact H2_) | with_reducible exact H | (rw [jR8]; exact H) | exact H
  have Qk3 := q8.mk jR8
  clear jR8
  have H' := q8.mk H
  clear H
  go_enter Try.func43, Try.ntmps43
  go_wp2_with (first | ((with_reducible refine qa1 (N := 7) rfl ?_); refine Kd.zx8 k55 _ 55 ?hg (N' := 7) ?hd (xs := ([] : List (S55))) (inner := []) (ok := (fun k_ => (P0_ k_ ∨ w.heap.size ≤ k_))) (okp := (fun k_ => (P0_ k_ ∨ w.heap.size ≤ k_))) ?hr ?hp (fun _ hk => hk) ((show ∀ k_, w.heap.size ≤ k_ → (fun k_ => (P0_ k_ ∨ w.heap.size ≤ k_)) k_ from fun k_ hk => (.inr (Nat.le_trans (qM (by repeat (first | (with_reducible first | exact HB.out | apply qA | apply q9 | apply qB) | exact HB.out))) hk))) _ (Nat.le_refl _)) (Below.refl _ _) (Nat.le_refl _) (by simp) ?_; (case hd => rfl); (case hg => rfl); (case hr => first | (go_simp; done) | (go_simp; rfl)); (case hp => exact (qc7.none _ _)); intro v151 w3 ho4 hb hg_ qD9; clear hg_ qD9; (first | rw [← zU7.out] at ho4 | (simp only [Int.reduceToNat] at ho4; rw [← zU7.out] at ho4)); have n0_ := q8.mk (Kd.qt0 (by (with_reducible repeat (first | apply Kd.jP | apply Kd.jQ | apply Kd.zC)); exact HO0.out) (Kd.qE0 ho4) hb); have n1_ := q8.mk (Kd.qZ8 ho4 (qM (by repeat (first | (with_reducible first | exact HB.out | apply qA | apply q9 | apply qB) | exact HB.out)))); have n2_ := q8.mk (jM (by repeat (first | (with_reducible first | exact HB.out | apply qA | apply q9 | apply qB) | exact HB.out)) hb); clear HO0; clear HB; have HO0 := n0_; have qZ9 := n1_; have HB := n2_; clear n0_ n1_ n2_; clear hb ho4) | ((with_reducible refine qa1 (N := 8) rfl ?_); refine Kd.zx8 k55 _ 55 ?hg (N' := 8) ?hd (xs := ([] : List (S55))) (inner := []) (ok := (fun k_ => (P0_ k_ ∨ w.heap.size ≤ k_) ∧ some k_ ≠ (v151 : Value).ownBlock)) (okp := (fun k_ => (P0_ k_ ∨ w.heap.size ≤ k_) ∧ some k_ ≠ (v151 : Value).ownBlock)) ?hr ?hp (fun _ hk => hk) ((show ∀ k_, w3.heap.size ≤ k_ → (fun k_ => (P0_ k_ ∨ w.heap.size ≤ k_) ∧ some k_ ≠ (v151 : Value).ownBlock) k_ from fun k_ hk => ⟨(.inr (Nat.le_trans (qM (by repeat (first | (with_reducible first | exact HB.out | apply qA | apply q9 | apply qB) | exact HB.out))) hk)), Kd.fresh' (Kd.jy3 (by (with_reducible repeat (first | apply Kd.jD | apply Kd.jE | apply Kd.jH)); exact qZ9.out)) k_ hk⟩) _ (Nat.le_refl _)) (Below.refl _ _) (Nat.le_refl _) (by simp) ?_; (case hd => rfl); (case hg => rfl); (case hr => first | (go_simp; done) | (go_simp; rfl)); (case hp => exact (qc7.none _ _)); intro v154 w5 ho6 hb hg_ qD9; clear hg_ qD9; (first | rw [← zU8.out] at ho6 | (simp only [Int.reduceToNat] at ho6; rw [← zU8.out] at ho6)); have n0_ := q8.mk (Kd.qt0 (by (with_reducible repeat (first | apply Kd.jP | apply Kd.jQ | apply Kd.zC)); exact HO0.out) (Kd.qE0 ho6) hb); have n1_ := q8.mk (Kd.qt1 (by (with_reducible repeat (first | apply Kd.jD | apply Kd.jE | apply Kd.jH)); exact qZ9.out) (Kd.qE0 ho6) hb); have n2_ := q8.mk (Kd.qZ8 ho6 (qM (by repeat (first | (with_reducible first | exact HB.out | apply qA | apply q9 | apply qB) | exact HB.out)))); have n3_ := q8.mk (jM (by repeat (first | (with_reducible first | exact HB.out | apply qA | apply q9 | apply qB) | exact HB.out)) hb); clear HO0; clear qZ9; clear HB; have HO0 := n0_; have qZ9 := n1_; have zU9 := n2_; have HB := n3_; clear n0_ n1_ n2_ n3_; clear hb ho6) | ((with_reducible refine qm4 (b := .append) (xs := #[.tmp 8, .tmp 9]) rfl ?_); at_builtin; refine Kd.jy4 k55 (w0 := w) w.heap.size rfl (.tmp 8) (.tmp 9) 22 55 (.agg #[(.int .i64 0), (.int .i64 0), (.int .i64 0), (.slice none 0 0)]) 48 rfl Try.underlying22 qW1 rfl (by decide) (by omega) v154 y153 l0 _ _ _ (fun k_ => (P0_ k_ ∨ w.heap.size ≤ k_) ∧ some k_ ≠ (v151 : Value).ownBlock) (fun k_ => ((fun k_ => (P0_ k_ ∨ w.heap.size ≤ k_) ∧ some k_ ≠ (v151 : Value).ownBlock)) k_ ∧ some k_ ≠ (v154 : Value).ownBlock) rfl rfl ?aO ?aR (fun _ hk => hk) ?aF ?aB ?aS ?aL ?_; (case aR => exact (by skip; exact Kd.V_F (Kd.zO (ok' := (fun k_ => ((fun k_ => (P0_ k_ ∨ w.heap.size ≤ k_) ∧ some k_ ≠ (v151 : Value).ownBlock)) k_ ∧ some k_ ≠ (v154 : Value).ownBlock)) (HO0.out) (fun k_ hk => ⟨⟨hk.1.1, hk.1.2⟩, hk.2⟩)))); (case aB => exact (by repeat (first | (with_reducible first | exact HB.out | apply qA | apply q9 | apply qB) | exact HB.out))); (case aF => exact (fun k_ hk => ⟨(.inr (Nat.le_trans (qM (by repeat (first | (with_reducible first | exact HB.out | apply qA | apply q9 | apply qB) | exact HB.out))) hk)), Kd.fresh' (Kd.jy3 (by (with_reducible repeat (first | apply Kd.jD | apply Kd.jE | apply Kd.jH)); exact qZ9.out)) k_ hk⟩)); (case aO => exact (by (with_reducible repeat (first | apply Kd.jD | apply Kd.jE | apply Kd.jH)); exact zU9.out)); (case aS => exact (qM (by repeat (first | (with_reducible first | exact HB.out | apply qA | apply q9 | apply qB) | exact HB.out)))); (case aL => have := LMc2.out; omega); intro v157 w7 ho hb hg hat; rw [← Qk3.out] at ho; have n0_ := q8.mk (Kd.qn9 (ok := (fun k_ => (P0_ k_ ∨ w.heap.size ≤ k_) ∧ some k_ ≠ (v151 : Value).ownBlock)) (by (with_reducible repeat (first | apply Kd.jP | apply Kd.jQ | apply Kd.zC)); exact HO0.out) hg hat); have n1_ := q8.mk (Kd.qq4 (ok := (fun k_ => (P0_ k_ ∨ w.heap.size ≤ k_))) (by (with_reducible repeat (first | apply Kd.jD | apply Kd.jE | apply Kd.jH)); exact qZ9.out) hg hat); have n2_ := q8.mk (hb); have n3_ := q8.mk (ho); clear HO0; clear qZ9; clear HB; clear zU9; have HO0 := n0_; have qZ9 := n1_; have HB := n2_; have Qk4 := n3_; clear n0_ n1_ n2_ n3_; clear ho hb hg hat))
  go_loopg [3, 4] k (fun kq v3 v4 w' => ∃ (ql7 : List (S55)) (zF : List (S55)), q8 (qF.l0 kq ql7 zF = some r) ∧ q8 (kq ≤ k) ∧ q8 (Kd.N k55 55 w' w.heap.size (fun k_ => (P0_ k_ ∨ w.heap.size ≤ k_) ∧ some k_ ≠ (v4 : Value).ownBlock) v3 ql7) ∧ q8 (Kd.N k55 55 w' w.heap.size (fun k_ => (P0_ k_ ∨ w.heap.size ≤ k_) ∧ some k_ ≠ (v3 : Value).ownBlock) v4 zF) ∧ q8 (Below w.heap.size w w'))
  case atStart => exact ⟨(y150), (y156), H', ⟨Nat.le_refl _⟩, ⟨by (with_reducible repeat (first | apply Kd.jD | apply Kd.jE | apply Kd.jH)); exact qZ9.out⟩, ⟨by (with_reducible repeat (first | apply Kd.jD | apply Kd.jE | apply Kd.jH)); exact Qk4.out⟩, ⟨by repeat (first | (with_reducible first | exact HB.out | apply qA | apply q9 | apply qB) | exact HB.out)⟩⟩
  case round =>
   clear H'
   try clear c2
   try clear p2
   try clear c4
   obtain ⟨ql7, zF, HA, HK1, qa8, qU, HB⟩ := hrel
   cases gk with
   | zero => exact absurd HA.out (by simp [qF.l0])
   | succ k1 =>
    have H := HA.out
    clear HA
    simp only [qF.l0] at H
    by_cases c8 : (zF.length : Int) > 0
    ·rw [if_pos c8] at H
     have qW2 : decide (0 < (zF.length : Int)) = true := decide_eq_true c8
     have c8b1 : decide (0 < zF.length) = true := decide_eq_true (by omega)
     clear c8
     have H' := q8.mk H
     clear H
     obtain ⟨Ao9, co9, eo9⟩ := Kd.qS7 qU.out
     subst eo9
     go_wp2
     go_loopg [5, 6] k1 (fun kq v5 v6 w' => ∃ (zR : Int) (qe6 : Int), v5 = .int .i64 zR ∧ v6 = .int .i64 qe6 ∧ q8 (qF.l1 kq ql7 zF zR qe6 = some r) ∧ q8 (kq ≤ k1) ∧ q8 (Kd.N k55 55 w' w.heap.size (fun k_ => (P0_ k_ ∨ w.heap.size ≤ k_) ∧ some k_ ≠ ((.slice Ao9 zF.length co9) : Value).ownBlock) u3 ql7) ∧ q8 (Kd.N k55 55 w' w.heap.size (fun k_ => (P0_ k_ ∨ w.heap.size ≤ k_) ∧ some k_ ≠ (u3 : Value).ownBlock) (.slice Ao9 zF.length co9) zF) ∧ q8 (Below w.heap.size w w'))
     case atStart => exact ⟨(0), (0), (by first | rfl | (simp; done) | (simp [*]; done)), (by first | rfl | (simp; done) | (simp [*]; done)), H', ⟨Nat.le_refl _⟩, ⟨by (with_reducible repeat (first | apply Kd.jD | apply Kd.jE | apply Kd.jH)); exact qa8.out⟩, ⟨by (with_reducible repeat (first | apply Kd.jD | apply Kd.jE | apply Kd.jH)); exact qU.out⟩, ⟨by repeat (first | (with_reducible first | exact HB.out | apply qA | apply q9 | apply qB) | exact HB.out)⟩⟩
     case round =>
      clear H'
      try clear c2
      try clear p2
      try clear c4
      try clear c8
      try clear qW2
      try clear c8b1
      try clear p2
      obtain ⟨zR, qe6, rfl, rfl, HA, HK2, qa8, qU, HB⟩ := hrel
      cases gk with
      | zero => exact absurd HA.out (by simp [qF.l1])
      | succ k2 =>
       have H := HA.out
       clear HA
       simp only [qF.l1] at H
       by_cases c10 : qe6 < (zF.length : Int)
       ·rw [if_pos c10] at H
        have qQ0 : decide (qe6 < (zF.length : Int)) = true := decide_eq_true c10
        clear c10
        by_cases c11 : 0 ≤ qe6
        ·rw [if_pos c11] at H
         have jB9 : decide (0 ≤ qe6) = true := decide_eq_true c11
         clear c11
         by_cases c12 : 0 ≤ zR
         ·rw [if_pos c12] at H
          have qI5 : decide (0 ≤ zR) = true := decide_eq_true c12
          clear c12
          by_cases c13 : zR < (zF.length : Int)
          ·rw [if_pos c13] at H
           have zV0 : decide (zR < (zF.length : Int)) = true := decide_eq_true c13
           clear c13
           by_cases c14 : ((qD zF qe6).f1) < ((qD zF zR).f1)
           ·rw [if_pos c14] at H
            have ja0 : decide (((qD zF qe6).f1) < ((qD zF zR).f1)) = true := decide_eq_true c14
            clear c14
            have H' := q8.mk H
            clear H
            try go_wp2
            have n0_ := q8.mk (Kd.jH qa8.out)
            have n1_ := q8.mk (Kd.jH qU.out)
            have n2_ := q8.mk (qB HB.out)
            clear qa8
            clear qU
            clear HB
            have qa8 := n0_
            have qU := n1_
            have HB := n2_
            clear n0_ n1_ n2_
            have jG7 : 0 ≤ (qe6 : Int) := of_decide_eq_true (by first | (with_reducible assumption) | assumption)
            have jG8 : qe6 < (zF.length : Int) := of_decide_eq_true (by first | (with_reducible assumption) | assumption)
            obtain ⟨qi9, zb9, zc0, Qa1, ja1, ja2, ja3, qK6, ja4, ja5⟩ := qa9 (Kd.zY qU.out).2.2 qe6 jG7 jG8
            cases Qa1
            obtain ⟨Qk5, zc1, zc2, jq6⟩ := Kd.qI6 qU.out z55 qe6 jG7 (by first | exact jG8 | exact of_decide_eq_true (by first | (with_reducible assumption) | assumption) | (have e_ := (Kd.zY qU.out).1; omega))
            obtain ⟨zI7, zI8, rfl, qK7, qK8⟩ := qi6 zc2
            have qC3 := jq6 3 _ rfl
            rw [zS _ _ 3 (by omega)] at qC3
            replace qC3 := Option.some.inj (qC3.symm.trans qK6)
            injection qC3 with qo0 qA3 qo1
            rw [qo0] at qK8
            rw [qo1] at qK7
            have jG9 := q8.mk (show Kd.V k51 51 _ w.heap.size _ _ ((qD zF qe6).f3) from Kd.qT7 qK7 qK8)
            clear qo0 qA3 qo1 qK8 qK7
            clear jq6 zc1
            have jH0 := q8.mk ja5
            have zI9 := q8.mk ja4
            clear ja5 ja4
            replace jG7 := eq_true jG7
            replace jG8 := eq_true jG8
            have jH1 : 0 ≤ (zR : Int) := of_decide_eq_true (by first | (with_reducible assumption) | assumption)
            have jH2 : zR < (zF.length : Int) := of_decide_eq_true (by first | (with_reducible assumption) | assumption)
            obtain ⟨zx9, zc3, zc4, Qa2, ja6, ja7, ja8, qK9, ja9, jb0⟩ := qa9 (Kd.zY qU.out).2.2 zR jH1 jH2
            obtain rfl : qi9 = zx9 := (by injection Qa2)
            obtain ⟨Qk6, zc5, zc6, jq7⟩ := Kd.qI6 qU.out z55 zR jH1 (by first | exact jH2 | exact of_decide_eq_true (by first | (with_reducible assumption) | assumption) | (have e_ := (Kd.zY qU.out).1; omega))
            obtain ⟨zJ0, zJ1, rfl, qL0, qL1⟩ := qi6 zc6
            have qC4 := jq7 3 _ rfl
            rw [zS _ _ 3 (by omega)] at qC4
            replace qC4 := Option.some.inj (qC4.symm.trans qK9)
            injection qC4 with qo0 qA3 qo1
            rw [qo0] at qL1
            rw [qo1] at qL0
            have jH3 := q8.mk (show Kd.V k51 51 _ w.heap.size _ _ ((qD zF zR).f3) from Kd.qT7 qL0 qL1)
            clear qo0 qA3 qo1 qL1 qL0
            clear jq7 zc5
            have jH4 := q8.mk jb0
            have zJ2 := q8.mk ja9
            clear jb0 ja9
            replace jH1 := eq_true jH1
            replace jH2 := eq_true jH2
            refine jH5 (n := 11) (S := fun w' => w'.cell? (qi9.add ((qe6).toNat * 4)) = some (.int .i64 ((qD zF qe6).f0)) ∧ w'.cell? ⟨(qi9.add ((qe6).toNat * 4)).block, (qi9.add ((qe6).toNat * 4)).off + 1, none⟩ = some (.int .i64 ((qD zF qe6).f1)) ∧ w'.cell? ⟨(qi9.add ((qe6).toNat * 4)).block, (qi9.add ((qe6).toNat * 4)).off + 2, none⟩ = some (.int .i64 ((qD zF qe6).f2)) ∧ w'.cell? ⟨(qi9.add ((qe6).toNat * 4)).block, (qi9.add ((qe6).toNat * 4)).off + 3, none⟩ = some (.slice zb9 ((qD zF qe6).f3).length zc0) ∧ w'.cell? (qi9.add ((zR).toNat * 4)) = some (.int .i64 ((qD zF zR).f0)) ∧ w'.cell? ⟨(qi9.add ((zR).toNat * 4)).block, (qi9.add ((zR).toNat * 4)).off + 1, none⟩ = some (.int .i64 ((qD zF zR).f1)) ∧ w'.cell? ⟨(qi9.add ((zR).toNat * 4)).block, (qi9.add ((zR).toNat * 4)).off + 2, none⟩ = some (.int .i64 ((qD zF zR).f2)) ∧ w'.cell? ⟨(qi9.add ((zR).toNat * 4)).block, (qi9.add ((zR).toNat * 4)).off + 3, none⟩ = some (.slice zc3 ((qD zF zR).f3).length zc4)) (ds := []) #[false, false, false, false, false, false, false, false, false, false, false] (by kernel_rfl) rfl rfl ⟨ja1, ja2, ja3, qK6, ja6, ja7, ja8, qK9⟩ (fun hHeld => ?_); refine qS8 qF.tab8 qF.zU6 (fun HT_ HW_ => ?_)
            generalize wr.drew = w15 at qa8 qU HB jG9 jH3 jH0 jH4 ja1 ja2 ja3 qK6 ja6 ja7 ja8 qK9 hHeld ⊢
            refine qf5 (i := 0) (N := some 20) (v := ?_) (a' := ?_) #[true, false, false, false, false, false, false, false, false, false, false] rfl rfl (qb5 HT_.out (by kernel_rfl)) (fun _ _ _ h => h) (Or.inl ⟨by rfl, ?_⟩) ?_ ?_
            rotate_left
            ·intro w'
             go_simp
             with_reducible rfl
            rotate_left
            ·simp only [Act.put, List.setIfInBounds_toArray, List.set_cons_zero, List.set_cons_succ, qa2, qa3]
             rfl
            refine qf5 (i := 1) (N := some 21) (v := ?_) (a' := ?_) #[true, true, false, false, false, false, false, false, false, false, false] rfl rfl (qb5 HT_.out (by kernel_rfl)) (fun _ _ _ h => h) (Or.inl ⟨by rfl, ?_⟩) ?_ ?_
            rotate_left
            ·intro w'
             go_simp
             with_reducible rfl
            rotate_left
            ·simp only [Act.put, List.setIfInBounds_toArray, List.set_cons_zero, List.set_cons_succ, qa2, qa3]
             rfl
            refine qf5 (i := 2) (N := some 22) (v := ?_) (a' := ?_) #[true, true, true, false, false, false, false, false, false, false, false] rfl rfl (qb5 HT_.out (by kernel_rfl)) (fun _ _ _ h => h) (Or.inl ⟨by rfl, ?_⟩) ?_ ?_
            rotate_left
            ·intro w'
             go_simp
             with_reducible rfl
            rotate_left
            ·simp only [Act.put, List.setIfInBounds_toArray, List.set_cons_zero, List.set_cons_succ, qa2, qa3]
             rfl
            refine qf5 (i := 3) (N := some 23) (v := ?_) (a' := ?_) #[true, true, true, true, false, false, false, false, false, false, false] rfl rfl (qb5 HT_.out (by kernel_rfl)) (fun _ _ _ h => h) (Or.inl ⟨by rfl, ?_⟩) ?_ ?_
            rotate_left
            ·intro w'
             go_simp
             with_reducible rfl
            rotate_left
            ·simp only [Act.put, List.setIfInBounds_toArray, List.set_cons_zero, List.set_cons_succ, qa2, qa3]
             rfl
            refine qf5 (i := 5) (N := some 25) (v := ?_) (a' := ?_) #[true, true, true, true, false, true, false, false, false, false, false] rfl rfl (qb5 HT_.out (by kernel_rfl)) (fun _ _ _ h => h) (Or.inl ⟨by rfl, ?_⟩) ?_ ?_
            rotate_left
            ·intro w'
             go_simp
             with_reducible rfl
            rotate_left
            ·simp only [Act.put, List.setIfInBounds_toArray, List.set_cons_zero, List.set_cons_succ, qa2, qa3]
             rfl
            refine qf5 (i := 6) (N := some 26) (v := ?_) (a' := ?_) #[true, true, true, true, false, true, true, false, false, false, false] rfl rfl (qb5 HT_.out (by kernel_rfl)) (fun _ _ _ h => h) (Or.inl ⟨by rfl, ?_⟩) ?_ ?_
            rotate_left
            ·intro w'
             go_simp
             with_reducible rfl
            rotate_left
            ·simp only [Act.put, List.setIfInBounds_toArray, List.set_cons_zero, List.set_cons_succ, qa2, qa3]
             rfl
            refine qf5 (i := 7) (N := some 27) (v := ?_) (a' := ?_) #[true, true, true, true, false, true, true, true, false, false, false] rfl rfl (qb5 HT_.out (by kernel_rfl)) (fun _ _ _ h => h) (Or.inl ⟨by rfl, ?_⟩) ?_ ?_
            rotate_left
            ·intro w'
             go_simp
             with_reducible rfl
            rotate_left
            ·simp only [Act.put, List.setIfInBounds_toArray, List.set_cons_zero, List.set_cons_succ, qa2, qa3]
             rfl
            refine qf5 (i := 8) (N := some 28) (v := ?_) (a' := ?_) #[true, true, true, true, false, true, true, true, true, false, false] rfl rfl (qb5 HT_.out (by kernel_rfl)) (fun _ _ _ h => h) (Or.inl ⟨by rfl, ?_⟩) ?_ ?_
            rotate_left
            ·intro w'
             go_simp
             with_reducible rfl
            rotate_left
            ·simp only [Act.put, List.setIfInBounds_toArray, List.set_cons_zero, List.set_cons_succ, qa2, qa3]
             rfl
            refine jC0 (i := 4) (N := some 24) (v := ?_) (a' := ?_) #[true, true, true, true, true, true, true, true, true, false, false] rfl rfl (qI7 HT_.out HW_.out (by kernel_rfl)) (fun _ _ _ h => h) (Or.inl ⟨by rfl, ?_⟩) hHeld ?_ ?_
            rotate_left
            ·rintro w' ⟨s0, s1, s2, s3, s4, s5, s6, s7⟩
             go_simp
             with_reducible rfl
            rotate_left
            ·simp only [Act.put, List.setIfInBounds_toArray, List.set_cons_zero, List.set_cons_succ, qa2, qa3]
             rfl
            refine jC0 (i := 9) (N := some 29) (v := ?_) (a' := ?_) #[true, true, true, true, true, true, true, true, true, true, false] rfl rfl (qI7 HT_.out HW_.out (by kernel_rfl)) (fun _ _ _ h => h) (Or.inl ⟨by rfl, ?_⟩) hHeld ?_ ?_
            rotate_left
            ·rintro w' ⟨s0, s1, s2, s3, s4, s5, s6, s7⟩
             go_simp
             with_reducible rfl
            rotate_left
            ·simp only [Act.put, List.setIfInBounds_toArray, List.set_cons_zero, List.set_cons_succ, qa2, qa3]
             rfl
            refine qf5 (i := 10) (N := some 30) (v := ?_) (a' := ?_) #[true, true, true, true, true, true, true, true, true, true, true] rfl rfl (qb5 HT_.out (by kernel_rfl)) (fun _ _ _ h => h) (Or.inl ⟨by rfl, ?_⟩) ?_ ?_
            rotate_left
            ·intro w'
             go_simp
             with_reducible rfl
            rotate_left
            ·simp only [Act.put, List.setIfInBounds_toArray, List.set_cons_zero, List.set_cons_succ, qa2, qa3]
             rfl
            refine zk4 (jm5 HT_.out (by kernel_rfl)) ?_
            try go_wp2
            go_roundg k2
            case measure => have := HK1.out; have := HK2.out; omega
            case rel => exact ⟨(qe6), (wrap64 (qe6 + 1)), (by first | rfl | (simp; done) | (simp [*]; done)), (by first | rfl | (simp; done) | (simp [*]; done)), H', ⟨by have := HK1.out; have := HK2.out; omega⟩, ⟨by (with_reducible repeat (first | apply Kd.jD | apply Kd.jE | apply Kd.jH)); exact qa8.out⟩, ⟨by (with_reducible repeat (first | apply Kd.jD | apply Kd.jE | apply Kd.jH)); exact qU.out⟩, ⟨by repeat (first | (with_reducible first | exact HB.out | apply qA | apply q9 | apply qB) | exact HB.out)⟩⟩
           ·rw [if_neg c14] at H
            have ja0 : decide (((qD zF qe6).f1) < ((qD zF zR).f1)) = false := decide_eq_false c14
            clear c14
            have H' := q8.mk H
            clear H
            try go_wp2
            have n0_ := q8.mk (Kd.jH qa8.out)
            have n1_ := q8.mk (Kd.jH qU.out)
            have n2_ := q8.mk (qB HB.out)
            clear qa8
            clear qU
            clear HB
            have qa8 := n0_
            have qU := n1_
            have HB := n2_
            clear n0_ n1_ n2_
            have jG7 : 0 ≤ (qe6 : Int) := of_decide_eq_true (by first | (with_reducible assumption) | assumption)
            have jG8 : qe6 < (zF.length : Int) := of_decide_eq_true (by first | (with_reducible assumption) | assumption)
            obtain ⟨qi9, zb9, zc0, Qa1, ja1, ja2, ja3, qK6, ja4, ja5⟩ := qa9 (Kd.zY qU.out).2.2 qe6 jG7 jG8
            cases Qa1
            obtain ⟨Qk5, zc1, zc2, jq6⟩ := Kd.qI6 qU.out z55 qe6 jG7 (by first | exact jG8 | exact of_decide_eq_true (by first | (with_reducible assumption) | assumption) | (have e_ := (Kd.zY qU.out).1; omega))
            obtain ⟨zI7, zI8, rfl, qK7, qK8⟩ := qi6 zc2
            have qC3 := jq6 3 _ rfl
            rw [zS _ _ 3 (by omega)] at qC3
            replace qC3 := Option.some.inj (qC3.symm.trans qK6)
            injection qC3 with qo0 qA3 qo1
            rw [qo0] at qK8
            rw [qo1] at qK7
            have jG9 := q8.mk (show Kd.V k51 51 _ w.heap.size _ _ ((qD zF qe6).f3) from Kd.qT7 qK7 qK8)
            clear qo0 qA3 qo1 qK8 qK7
            clear jq6 zc1
            have jH0 := q8.mk ja5
            have zI9 := q8.mk ja4
            clear ja5 ja4
            replace jG7 := eq_true jG7
            replace jG8 := eq_true jG8
            have jH1 : 0 ≤ (zR : Int) := of_decide_eq_true (by first | (with_reducible assumption) | assumption)
            have jH2 : zR < (zF.length : Int) := of_decide_eq_true (by first | (with_reducible assumption) | assumption)
            obtain ⟨zx9, zc3, zc4, Qa2, ja6, ja7, ja8, qK9, ja9, jb0⟩ := qa9 (Kd.zY qU.out).2.2 zR jH1 jH2
            obtain rfl : qi9 = zx9 := (by injection Qa2)
            obtain ⟨Qk6, zc5, zc6, jq7⟩ := Kd.qI6 qU.out z55 zR jH1 (by first | exact jH2 | exact of_decide_eq_true (by first | (with_reducible assumption) | assumption) | (have e_ := (Kd.zY qU.out).1; omega))
            obtain ⟨zJ0, zJ1, rfl, qL0, qL1⟩ := qi6 zc6
            have qC4 := jq7 3 _ rfl
            rw [zS _ _ 3 (by omega)] at qC4
            replace qC4 := Option.some.inj (qC4.symm.trans qK9)
            injection qC4 with qo0 qA3 qo1
            rw [qo0] at qL1
            rw [qo1] at qL0
            have jH3 := q8.mk (show Kd.V k51 51 _ w.heap.size _ _ ((qD zF zR).f3) from Kd.qT7 qL0 qL1)
            clear qo0 qA3 qo1 qL1 qL0
            clear jq7 zc5
            have jH4 := q8.mk jb0
            have zJ2 := q8.mk ja9
            clear jb0 ja9
            replace jH1 := eq_true jH1
            replace jH2 := eq_true jH2
            refine jH5 (n := 11) (S := fun w' => w'.cell? (qi9.add ((qe6).toNat * 4)) = some (.int .i64 ((qD zF qe6).f0)) ∧ w'.cell? ⟨(qi9.add ((qe6).toNat * 4)).block, (qi9.add ((qe6).toNat * 4)).off + 1, none⟩ = some (.int .i64 ((qD zF qe6).f1)) ∧ w'.cell? ⟨(qi9.add ((qe6).toNat * 4)).block, (qi9.add ((qe6).toNat * 4)).off + 2, none⟩ = some (.int .i64 ((qD zF qe6).f2)) ∧ w'.cell? ⟨(qi9.add ((qe6).toNat * 4)).block, (qi9.add ((qe6).toNat * 4)).off + 3, none⟩ = some (.slice zb9 ((qD zF qe6).f3).length zc0) ∧ w'.cell? (qi9.add ((zR).toNat * 4)) = some (.int .i64 ((qD zF zR).f0)) ∧ w'.cell? ⟨(qi9.add ((zR).toNat * 4)).block, (qi9.add ((zR).toNat * 4)).off + 1, none⟩ = some (.int .i64 ((qD zF zR).f1)) ∧ w'.cell? ⟨(qi9.add ((zR).toNat * 4)).block, (qi9.add ((zR).toNat * 4)).off + 2, none⟩ = some (.int .i64 ((qD zF zR).f2)) ∧ w'.cell? ⟨(qi9.add ((zR).toNat * 4)).block, (qi9.add ((zR).toNat * 4)).off + 3, none⟩ = some (.slice zc3 ((qD zF zR).f3).length zc4)) (ds := []) #[false, false, false, false, false, false, false, false, false, false, false] (by kernel_rfl) rfl rfl ⟨ja1, ja2, ja3, qK6, ja6, ja7, ja8, qK9⟩ (fun hHeld => ?_); refine qS8 qF.tab8 qF.zU6 (fun HT_ HW_ => ?_)
            generalize wr.drew = w16 at qa8 qU HB jG9 jH3 jH0 jH4 ja1 ja2 ja3 qK6 ja6 ja7 ja8 qK9 hHeld ⊢
            refine qf5 (i := 0) (N := some 20) (v := ?_) (a' := ?_) #[true, false, false, false, false, false, false, false, false, false, false] rfl rfl (qb5 HT_.out (by kernel_rfl)) (fun _ _ _ h => h) (Or.inl ⟨by rfl, ?_⟩) ?_ ?_
            rotate_left
            ·intro w'
             go_simp
             with_reducible rfl
            rotate_left
            ·simp only [Act.put, List.setIfInBounds_toArray, List.set_cons_zero, List.set_cons_succ, qa2, qa3]
             rfl
            refine qf5 (i := 1) (N := some 21) (v := ?_) (a' := ?_) #[true, true, false, false, false, false, false, false, false, false, false] rfl rfl (qb5 HT_.out (by kernel_rfl)) (fun _ _ _ h => h) (Or.inl ⟨by rfl, ?_⟩) ?_ ?_
            rotate_left
            ·intro w'
             go_simp
             with_reducible rfl
            rotate_left
            ·simp only [Act.put, List.setIfInBounds_toArray, List.set_cons_zero, List.set_cons_succ, qa2, qa3]
             rfl
            refine qf5 (i := 2) (N := some 22) (v := ?_) (a' := ?_) #[true, true, true, false, false, false, false, false, false, false, false] rfl rfl (qb5 HT_.out (by kernel_rfl)) (fun _ _ _ h => h) (Or.inl ⟨by rfl, ?_⟩) ?_ ?_
            rotate_left
            ·intro w'
             go_simp
             with_reducible rfl
            rotate_left
            ·simp only [Act.put, List.setIfInBounds_toArray, List.set_cons_zero, List.set_cons_succ, qa2, qa3]
             rfl
            refine qf5 (i := 3) (N := some 23) (v := ?_) (a' := ?_) #[true, true, true, true, false, false, false, false, false, false, false] rfl rfl (qb5 HT_.out (by kernel_rfl)) (fun _ _ _ h => h) (Or.inl ⟨by rfl, ?_⟩) ?_ ?_
            rotate_left
            ·intro w'
             go_simp
             with_reducible rfl
            rotate_left
            ·simp only [Act.put, List.setIfInBounds_toArray, List.set_cons_zero, List.set_cons_succ, qa2, qa3]
             rfl
            refine qf5 (i := 5) (N := some 25) (v := ?_) (a' := ?_) #[true, true, true, true, false, true, false, false, false, false, false] rfl rfl (qb5 HT_.out (by kernel_rfl)) (fun _ _ _ h => h) (Or.inl ⟨by rfl, ?_⟩) ?_ ?_
            rotate_left
            ·intro w'
             go_simp
             with_reducible rfl
            rotate_left
            ·simp only [Act.put, List.setIfInBounds_toArray, List.set_cons_zero, List.set_cons_succ, qa2, qa3]
             rfl
            refine qf5 (i := 6) (N := some 26) (v := ?_) (a' := ?_) #[true, true, true, true, false, true, true, false, false, false, false] rfl rfl (qb5 HT_.out (by kernel_rfl)) (fun _ _ _ h => h) (Or.inl ⟨by rfl, ?_⟩) ?_ ?_
            rotate_left
            ·intro w'
             go_simp
             with_reducible rfl
            rotate_left
            ·simp only [Act.put, List.setIfInBounds_toArray, List.set_cons_zero, List.set_cons_succ, qa2, qa3]
             rfl
            refine qf5 (i := 7) (N := some 27) (v := ?_) (a' := ?_) #[true, true, true, true, false, true, true, true, false, false, false] rfl rfl (qb5 HT_.out (by kernel_rfl)) (fun _ _ _ h => h) (Or.inl ⟨by rfl, ?_⟩) ?_ ?_
            rotate_left
            ·intro w'
             go_simp
             with_reducible rfl
            rotate_left
            ·simp only [Act.put, List.setIfInBounds_toArray, List.set_cons_zero, List.set_cons_succ, qa2, qa3]
             rfl
            refine qf5 (i := 8) (N := some 28) (v := ?_) (a' := ?_) #[true, true, true, true, false, true, true, true, true, false, false] rfl rfl (qb5 HT_.out (by kernel_rfl)) (fun _ _ _ h => h) (Or.inl ⟨by rfl, ?_⟩) ?_ ?_
            rotate_left
            ·intro w'
             go_simp
             with_reducible rfl
            rotate_left
            ·simp only [Act.put, List.setIfInBounds_toArray, List.set_cons_zero, List.set_cons_succ, qa2, qa3]
             rfl
            refine jC0 (i := 4) (N := some 24) (v := ?_) (a' := ?_) #[true, true, true, true, true, true, true, true, true, false, false] rfl rfl (qI7 HT_.out HW_.out (by kernel_rfl)) (fun _ _ _ h => h) (Or.inl ⟨by rfl, ?_⟩) hHeld ?_ ?_
            rotate_left
            ·rintro w' ⟨s0, s1, s2, s3, s4, s5, s6, s7⟩
             go_simp
             with_reducible rfl
            rotate_left
            ·simp only [Act.put, List.setIfInBounds_toArray, List.set_cons_zero, List.set_cons_succ, qa2, qa3]
             rfl
            refine jC0 (i := 9) (N := some 29) (v := ?_) (a' := ?_) #[true, true, true, true, true, true, true, true, true, true, false] rfl rfl (qI7 HT_.out HW_.out (by kernel_rfl)) (fun _ _ _ h => h) (Or.inl ⟨by rfl, ?_⟩) hHeld ?_ ?_
            rotate_left
            ·rintro w' ⟨s0, s1, s2, s3, s4, s5, s6, s7⟩
             go_simp
             with_reducible rfl
            rotate_left
            ·simp only [Act.put, List.setIfInBounds_toArray, List.set_cons_zero, List.set_cons_succ, qa2, qa3]
             rfl
            refine qf5 (i := 10) (N := some 30) (v := ?_) (a' := ?_) #[true, true, true, true, true, true, true, true, true, true, true] rfl rfl (qb5 HT_.out (by kernel_rfl)) (fun _ _ _ h => h) (Or.inl ⟨by rfl, ?_⟩) ?_ ?_
            rotate_left
            ·intro w'
             go_simp
             with_reducible rfl
            rotate_left
            ·simp only [Act.put, List.setIfInBounds_toArray, List.set_cons_zero, List.set_cons_succ, qa2, qa3]
             rfl
            refine zk4 (jm5 HT_.out (by kernel_rfl)) ?_
            try go_wp2
            go_roundg k2
            case measure => have := HK1.out; have := HK2.out; omega
            case rel => exact ⟨(zR), (wrap64 (qe6 + 1)), (by first | rfl | (simp; done) | (simp [*]; done)), (by first | rfl | (simp; done) | (simp [*]; done)), H', ⟨by have := HK1.out; have := HK2.out; omega⟩, ⟨by (with_reducible repeat (first | apply Kd.jD | apply Kd.jE | apply Kd.jH)); exact qa8.out⟩, ⟨by (with_reducible repeat (first | apply Kd.jD | apply Kd.jE | apply Kd.jH)); exact qU.out⟩, ⟨by repeat (first | (with_reducible first | exact HB.out | apply qA | apply q9 | apply qB) | exact HB.out)⟩⟩
          ·rw [if_neg c13] at H
           exact absurd H (by simp)
         ·rw [if_neg c12] at H
          exact absurd H (by simp)
        ·rw [if_neg c11] at H
         exact absurd H (by simp)
       ·rw [if_neg c10] at H
        have qQ0 : decide (qe6 < (zF.length : Int)) = false := decide_eq_false c10
        clear c10
        by_cases c17 : 0 ≤ zR
        ·rw [if_pos c17] at H
         have c17b0 : decide (0 ≤ zR) = true := decide_eq_true c17
         clear c17
         by_cases c18 : zR < (zF.length : Int)
         ·rw [if_pos c18] at H
          have zV1 : decide (zR < (zF.length : Int)) = true := decide_eq_true c18
          clear c18
          by_cases c19 : ql7.length < 2932031007402
          ·rw [if_pos c19] at H
           have Qk7 := q8.mk c19
           clear c19
           obtain ⟨y162, jR9⟩ : ∃ y_ : List (S55), y_ = (ql7 ++ [(⟨(qD zF zR).f0, (qD zF zR).f1, (qD zF zR).f2, (qD zF zR).f3⟩ : S55)]) := ⟨_, rfl⟩
           replace H : ((some (([] : List (S55)) : List (S55))).bind fun y165 => (if zR ≤ (zF.length : Int) then ((some (zF.take (zR : Int).toNat : List (S55))).bind fun y168 => (if y165.length + y168.length < 2932031007402 then ((some (y165 ++ y168 : List (S55))).bind fun y173 => (if 0 ≤ (wrap64 (zR + 1)) then (if (wrap64 (zR + 1)) ≤ (zF.length : Int) then ((some (zF.drop ((wrap64 (zR + 1)) : Int).toNat : List (S55))).bind fun y176 => (if y173.length + y176.length < 2932031007402 then (qF.l0 k2 y162 (y173 ++ y176)) else (none))) else (none)) else (none))) else (none))) else (none))) = some r := by first | (rw [jR9]; with_reducible exact H) | (have H2_ := (Option.bind_some _ _).symm.trans H; rw [jR9]; with_reducible exact H2_) | (have H2_ := (Option.bind_some _ _).symm.trans H; with_reducible exact H2_) | with_reducible exact H | (rw [jR9]; exact H) | exact H
           have Qk8 := q8.mk jR9
           clear jR9
           obtain ⟨y165, jS0⟩ : ∃ y_ : List (S55), y_ = (([] : List (S55))) := ⟨_, rfl⟩
           replace H : (if zR ≤ (zF.length : Int) then ((some (zF.take (zR : Int).toNat : List (S55))).bind fun y168 => (if y165.length + y168.length < 2932031007402 then ((some (y165 ++ y168 : List (S55))).bind fun y173 => (if 0 ≤ (wrap64 (zR + 1)) then (if (wrap64 (zR + 1)) ≤ (zF.length : Int) then ((some (zF.drop ((wrap64 (zR + 1)) : Int).toNat : List (S55))).bind fun y176 => (if y173.length + y176.length < 2932031007402 then (qF.l0 k2 y162 (y173 ++ y176)) else (none))) else (none)) else (none))) else (none))) else (none)) = some r := by first | (rw [jS0]; with_reducible exact H) | (have H2_ := (Option.bind_some _ _).symm.trans H; rw [jS0]; with_reducible exact H2_) | (have H2_ := (Option.bind_some _ _).symm.trans H; with_reducible exact H2_) | with_reducible exact H | (rw [jS0]; exact H) | exact H
           have zV2 := q8.mk jS0
           clear jS0
           have Qk9 := eq_true (of_decide_eq_true (by first | (with_reducible assumption) | assumption) : 0 ≤ zR)
           by_cases c21 : zR ≤ (zF.length : Int)
           ·rw [if_pos c21] at H
            have Ql0 := eq_true c21
            have c21b1 : decide (zR ≤ (zF.length : Int)) = true := decide_eq_true c21
            clear c21
            obtain ⟨y168, hy168⟩ : ∃ y_ : List (S55), y_ = (zF.take (zR : Int).toNat) := ⟨_, rfl⟩
            replace H : (if y165.length + y168.length < 2932031007402 then ((some (y165 ++ y168 : List (S55))).bind fun y173 => (if 0 ≤ (wrap64 (zR + 1)) then (if (wrap64 (zR + 1)) ≤ (zF.length : Int) then ((some (zF.drop ((wrap64 (zR + 1)) : Int).toNat : List (S55))).bind fun y176 => (if y173.length + y176.length < 2932031007402 then (qF.l0 k2 y162 (y173 ++ y176)) else (none))) else (none)) else (none))) else (none)) = some r := by first | (rw [hy168]; with_reducible exact H) | (have H2_ := (Option.bind_some _ _).symm.trans H; rw [hy168]; with_reducible exact H2_) | (have H2_ := (Option.bind_some _ _).symm.trans H; with_reducible exact H2_) | with_reducible exact H | (rw [hy168]; exact H) | exact H
            have zV3 := q8.mk hy168
            clear hy168
            by_cases c22 : y165.length + y168.length < 2932031007402
            ·rw [if_pos c22] at H
             have Ql1 := q8.mk c22
             clear c22
             obtain ⟨y173, jS1⟩ : ∃ y_ : List (S55), y_ = (y165 ++ y168) := ⟨_, rfl⟩
             replace H : (if 0 ≤ (wrap64 (zR + 1)) then (if (wrap64 (zR + 1)) ≤ (zF.length : Int) then ((some (zF.drop ((wrap64 (zR + 1)) : Int).toNat : List (S55))).bind fun y176 => (if y173.length + y176.length < 2932031007402 then (qF.l0 k2 y162 (y173 ++ y176)) else (none))) else (none)) else (none)) = some r := by first | (rw [jS1]; with_reducible exact H) | (have H2_ := (Option.bind_some _ _).symm.trans H; rw [jS1]; with_reducible exact H2_) | (have H2_ := (Option.bind_some _ _).symm.trans H; with_reducible exact H2_) | with_reducible exact H | (rw [jS1]; exact H) | exact H
             have Ql2 := q8.mk jS1
             clear jS1
             obtain ⟨qO8, zy0⟩ : ∃ j_ : Int, (wrap64 (zR + 1)) = j_ := ⟨_, rfl⟩
             replace H : (if 0 ≤ (qO8) then (if (qO8) ≤ (zF.length : Int) then ((some (zF.drop ((qO8) : Int).toNat : List (S55))).bind fun y176 => (if y173.length + y176.length < 2932031007402 then (qF.l0 k2 y162 (y173 ++ y176)) else (none))) else (none)) else (none)) = some r := by first | (rw [zy0] at H; exact H) | (simp only [zy0] at H ⊢; exact H)
             have hji23w : (IntKind.i64.wrap (zR + 1)) = qO8 := (qa2 _).trans zy0
             by_cases c24 : 0 ≤ (qO8)
             ·rw [if_pos c24] at H
              have c24b0 := eq_true c24
              have c24b1 : decide (0 ≤ (qO8)) = true := decide_eq_true c24
              clear c24
              by_cases c25 : (qO8) ≤ (zF.length : Int)
              ·rw [if_pos c25] at H
               have c25b0 := eq_true c25
               have c25b1 : decide ((qO8) ≤ (zF.length : Int)) = true := decide_eq_true c25
               clear c25
               obtain ⟨y176, jS2⟩ : ∃ y_ : List (S55), y_ = (zF.drop ((qO8) : Int).toNat) := ⟨_, rfl⟩
               replace H : (if y173.length + y176.length < 2932031007402 then (qF.l0 k2 y162 (y173 ++ y176)) else (none)) = some r := by first | (rw [jS2]; with_reducible exact H) | (have H2_ := (Option.bind_some _ _).symm.trans H; rw [jS2]; with_reducible exact H2_) | (have H2_ := (Option.bind_some _ _).symm.trans H; with_reducible exact H2_) | with_reducible exact H | (rw [jS2]; exact H) | exact H
               have zV4 := q8.mk jS2
               clear jS2
               by_cases c26 : y173.length + y176.length < 2932031007402
               ·rw [if_pos c26] at H
                have Ql3 := q8.mk c26
                clear c26
                obtain ⟨y181, jS3⟩ : ∃ y_ : List (S55), y_ = (y173 ++ y176) := ⟨_, rfl⟩
                replace H : (qF.l0 k2 y162 y181) = some r := by first | (rw [jS3]; with_reducible exact H) | (have H2_ := (Option.bind_some _ _).symm.trans H; rw [jS3]; with_reducible exact H2_) | (have H2_ := (Option.bind_some _ _).symm.trans H; with_reducible exact H2_) | with_reducible exact H | (rw [jS3]; exact H) | exact H
                have Ql4 := q8.mk jS3
                clear jS3
                have H' := q8.mk H
                clear H
                have zJ3 : 0 ≤ (zR : Int) := of_decide_eq_true (by first | (with_reducible assumption) | assumption)
                have zJ4 : zR < (zF.length : Int) := of_decide_eq_true (by first | (with_reducible assumption) | assumption)
                obtain ⟨qv2, Qa3, Qa4, e161, Qr9, Qs0, Qs1, zJ5, zk5, zk6⟩ := qa9 (Kd.zY qU.out).2.2 zR zJ3 zJ4
                cases e161
                obtain ⟨ce161, Qa5, Qa6, zy1⟩ := Kd.qI6 qU.out z55 zR zJ3 (by first | exact zJ4 | exact of_decide_eq_true (by first | (with_reducible assumption) | assumption) | (have e_ := (Kd.zY qU.out).1; omega))
                obtain ⟨Qs2, Qs3, rfl, jH6, jH7⟩ := qi6 Qa6
                have jm6 := zy1 3 _ rfl
                rw [zS _ _ 3 (by omega)] at jm6
                replace jm6 := Option.some.inj (jm6.symm.trans zJ5)
                injection jm6 with qo0 qA3 qo1
                rw [qo0] at jH7
                rw [qo1] at jH6
                have qj1 := q8.mk (show Kd.V k51 51 _ w.heap.size _ _ ((qD zF zR).f3) from Kd.qT7 jH6 jH7)
                clear qo0 qA3 qo1 jH7 jH6
                clear zy1 Qa5
                have Qs4 := q8.mk zk6
                have Qs5 := q8.mk zk5
                clear zk6 zk5
                replace zJ3 := eq_true zJ3
                replace zJ4 := eq_true zJ4
                try go_wp2_with (first | ((with_reducible refine qm4 (b := .append) (xs := #[.tmp 32, .tmp 37]) rfl ?_); at_builtin; refine Kd.jS4 k55 (w0 := w) w.heap.size rfl (.tmp 32) (.tmp 37) 22 55 (.agg #[(.int .i64 0), (.int .i64 0), (.int .i64 0), (.slice none 0 0)]) 48 rfl Try.underlying22 qW1 rfl (by decide) (by omega) u3 ql7 (⟨(qD zF zR).f0, (qD zF zR).f1, (qD zF zR).f2, (qD zF zR).f3⟩ : S55) [.int .i64 ((qD zF zR).f0), .int .i64 ((qD zF zR).f1), .int .i64 ((qD zF zR).f2), .slice Qa3 ((qD zF zR).f3).length Qa4] (fun k_ => (P0_ k_ ∨ w.heap.size ≤ k_) ∧ some k_ ≠ (.slice (some qv2) zF.length co9 : Value).ownBlock) (fun k_ => ((fun k_ => (P0_ k_ ∨ w.heap.size ≤ k_) ∧ some k_ ≠ (.slice (some qv2) zF.length co9 : Value).ownBlock)) k_ ∧ some k_ ≠ (u3 : Value).ownBlock) rfl rfl ?aP (fun _ hk => hk) ?aF ?aO ?aB ?aS ?aL ?_; (case aP => exact (zk7 _ _ (⟨(qD zF zR).f0, (qD zF zR).f1, (qD zF zR).f2, (qD zF zR).f3⟩ : S55) (Kd.qq5 (Kd.zO (ok' := (fun k_ => ((fun k_ => (P0_ k_ ∨ w.heap.size ≤ k_) ∧ some k_ ≠ (.slice (some qv2) zF.length co9 : Value).ownBlock)) k_ ∧ some k_ ≠ (u3 : Value).ownBlock)) (qj1.out) (fun k_ hk => ⟨⟨hk.1.1, hk.2⟩, hk.1.2⟩))).2.1 (Kd.V_F (Kd.zO (ok' := (fun k_ => ((fun k_ => (P0_ k_ ∨ w.heap.size ≤ k_) ∧ some k_ ≠ (.slice (some qv2) zF.length co9 : Value).ownBlock)) k_ ∧ some k_ ≠ (u3 : Value).ownBlock)) (qj1.out) (fun k_ hk => ⟨⟨hk.1.1, hk.2⟩, hk.1.2⟩))))); (case aB => exact (by repeat (first | (with_reducible first | exact HB.out | apply qA | apply q9 | apply qB) | exact HB.out))); (case aF => exact (fun k_ hk => ⟨(.inr (Nat.le_trans (qM (by repeat (first | (with_reducible first | exact HB.out | apply qA | apply q9 | apply qB) | exact HB.out))) hk)), Kd.fresh' (Kd.jy3 (by (with_reducible repeat (first | apply Kd.jD | apply Kd.jE | apply Kd.jH)); exact qU.out)) k_ hk⟩)); (case aO => exact (by (with_reducible repeat (first | apply Kd.jD | apply Kd.jE | apply Kd.jH)); exact qa8.out)); (case aS => exact (qM (by repeat (first | (with_reducible first | exact HB.out | apply qA | apply q9 | apply qB) | exact HB.out)))); (case aL => have := Qk7.out; omega); intro v163 w27 ho hb hg hat; rw [← Qk8.out] at ho; have n0_ := q8.mk (Kd.qq4 (ok := (fun k_ => (P0_ k_ ∨ w.heap.size ≤ k_))) (by (with_reducible repeat (first | apply Kd.jD | apply Kd.jE | apply Kd.jH)); exact qU.out) hg hat); have n1_ := q8.mk (Kd.qn9 (ok := (fun k_ => (P0_ k_ ∨ w.heap.size ≤ k_) ∧ some k_ ≠ (.slice (some qv2) zF.length co9 : Value).ownBlock)) (by (with_reducible repeat (first | apply Kd.jP | apply Kd.jQ | apply Kd.zC)); exact Kd.zO qj1.out (fun _ hk => ⟨⟨hk.1.1, hk.2⟩, hk.1.2⟩)) hg hat); have n2_ := q8.mk (hb); have n3_ := q8.mk (ho); clear qU; clear qj1; clear HB; clear qa8; have qU := n0_; have qj1 := n1_; have HB := n2_; have qz2 := n3_; clear n0_ n1_ n2_ n3_; clear ho hb hg hat))
                have n0_ := q8.mk (Kd.jH qU.out)
                have n1_ := q8.mk (Kd.zC qj1.out)
                have n2_ := q8.mk (Kd.jH qz2.out)
                have n3_ := q8.mk (qB HB.out)
                clear qU
                clear qj1
                clear qz2
                clear HB
                have qU := n0_
                have qj1 := n1_
                have qz2 := n2_
                have HB := n3_
                clear n0_ n1_ n2_ n3_
                have q29 : (zR : Int) ≤ ((zF.length : Int) : Int) := of_decide_eq_true (by first | (with_reducible assumption) | assumption)
                obtain ⟨i029, zV5, _, Ql5, _⟩ := info_parts qW1
                have zk8 : zF.length ≤ co9 := (Kd.zY qU.out).2.1
                have hC29 : Kd.F k55 _ _ (some qv2) zF.length zF := (Kd.zr2 (base := w.heap.size) (Kd.N_V qU.out)).2.2
                have Qa7 := Qa8 (P := Try.prog) 22 55 .i64 Try.underlying22 zV5 (some qv2) zF.length co9 zR (of_decide_eq_true (by first | (with_reducible assumption) | assumption)) q29 zk8
                have Qa9 := Kd.Qb0 (m := (zR : Int).toNat) hC29 (by omega)
                have hy29 : y168.length = (zR : Int).toNat := (by rw [zV3.out, List.length_take]; omega)
                rw [← zV3.out] at Qa9
                rw [← hy29] at Qa7
                have qQ1 := q8.mk (show Kd.V k55 55 _ w.heap.size _ (.slice (some qv2) y168.length co9) y168 from Kd.qT7 (by omega) Qa9)
                have HC172 := q8.mk (show y168.length ≤ co9 from by omega)
                clear Qa9 hC29 zk8 zV5 Ql5
                have KY29 := q8.mk hy29
                clear hy29
                replace q29 := eq_true q29
                have q30 : ((qO8) : Int) ≤ ((zF.length : Int) : Int) := of_decide_eq_true (by first | (with_reducible assumption) | assumption)
                obtain ⟨i030, zV6, _, zV7, _⟩ := info_parts qW1
                have jm7 : zF.length ≤ co9 := (Kd.zY qU.out).2.1
                have hC30 : Kd.F k55 _ _ (some qv2) zF.length zF := (Kd.zr2 (base := w.heap.size) (Kd.N_V qU.out)).2.2
                have q030 : (0 : Int) ≤ ((qO8) : Int) := of_decide_eq_true (by first | (with_reducible assumption) | assumption)
                have Qb1 := zy2 (P := Try.prog) 22 55 .i64 Try.underlying22 zV6 4 zV7 (some qv2) zF.length co9 (qO8) q030 q30
                have zy3 := Kd.Ql6 (m := ((qO8) : Int).toNat) (c := co9) hC30 (by omega) jm7
                obtain ⟨A30, zJ6⟩ : ∃ A1, A1 = (if co9 = ((qO8) : Int).toNat then (some qv2) else ((some qv2) : Option Addr).map (·.add (((qO8) : Int).toNat * 4))) := ⟨_, rfl⟩
                obtain ⟨c30, zJ7⟩ : ∃ c1, c1 = co9 - ((qO8) : Int).toNat := ⟨_, rfl⟩
                have zy4 : y176.length = zF.length - ((qO8) : Int).toNat := (by rw [zV4.out, List.length_drop] <;> omega)
                rw [show (zF).drop ((qO8) : Int).toNat = y176 from zV4.out.symm] at zy3
                replace zy3 : Kd.F k55 _ _ A30 y176.length y176 := (by rw [zJ6]; exact zy3)
                rw [← zy4, ← zJ6, ← zJ7] at Qb1
                have qQ2 := q8.mk (show Kd.V k55 55 _ w.heap.size _ (.slice A30 y176.length c30) y176 from Kd.qT7 (by rw [zy4, zJ7]; exact Nat.sub_le_sub_right jm7 _) zy3)
                have HC180 := q8.mk (show y176.length ≤ c30 from by rw [zy4, zJ7]; exact Nat.sub_le_sub_right jm7 _)
                clear zy3 hC30 jm7 zV6 zV7 zJ7
                have KY30 := q8.mk zy4
                have KA30 := q8.mk zJ6
                clear zy4 zJ6
                replace q30 := eq_true q30
                refine jH5 (n := 11) (S := fun w' => True) (ds := []) #[false, false, false, false, false, false, false, false, false, false, false] (by kernel_rfl) rfl rfl trivial (fun hHeld => ?_); refine qS8 qF.Qk2 qF.Qa0 (fun HT_ HW_ => ?_)
                generalize w27.drew = w28 at qU qj1 qz2 HB qQ1 qQ2 hHeld ⊢
                refine qf5 (i := 1) (N := some 40) (v := ?_) (a' := ?_) #[false, true, false, false, false, false, false, false, false, false, false] rfl rfl (qb5 HT_.out (by kernel_rfl)) (fun _ _ _ h => h) (Or.inl ⟨by rfl, ?_⟩) ?_ ?_
                rotate_left
                ·intro w'
                 go_simp
                 with_reducible rfl
                rotate_left
                ·simp only [Act.put, List.setIfInBounds_toArray, List.set_cons_zero, List.set_cons_succ, qa2, qa3]
                 rfl
                refine qf5 (i := 2) (N := some 41) (v := ?_) (a' := ?_) #[false, true, true, false, false, false, false, false, false, false, false] rfl rfl (qb5 HT_.out (by kernel_rfl)) (fun _ _ _ h => h) (Or.inl ⟨by rfl, ?_⟩) ?_ ?_
                rotate_left
                ·intro w'
                 go_simp
                 with_reducible rfl
                rotate_left
                ·simp only [Act.put, List.setIfInBounds_toArray, List.set_cons_zero, List.set_cons_succ, qa2, qa3]
                 rfl
                refine qf5 (i := 3) (N := some 42) (v := ?_) (a' := ?_) #[false, true, true, true, false, false, false, false, false, false, false] rfl rfl (qb5 HT_.out (by kernel_rfl)) (fun _ _ _ h => h) (Or.inl ⟨by rfl, ?_⟩) ?_ ?_
                rotate_left
                ·intro w'
                 go_simp
                 with_reducible rfl
                rotate_left
                ·simp only [Act.put, List.setIfInBounds_toArray, List.set_cons_zero, List.set_cons_succ, qa2, qa3]
                 rfl
                refine qf5 (i := 5) (N := some 44) (v := ?_) (a' := ?_) #[false, true, true, true, false, true, false, false, false, false, false] rfl rfl (qb5 HT_.out (by kernel_rfl)) (fun _ _ _ h => h) (Or.inl ⟨by rfl, ?_⟩) ?_ ?_
                rotate_left
                ·intro w'
                 go_simp
                 with_reducible rfl
                rotate_left
                ·simp only [Act.put, List.setIfInBounds_toArray, List.set_cons_zero, List.set_cons_succ, qa2, qa3]
                 rfl
                refine qf5 (i := 6) (N := some 45) (v := ?_) (a' := ?_) #[false, true, true, true, false, true, true, false, false, false, false] rfl rfl (qb5 HT_.out (by kernel_rfl)) (fun _ _ _ h => h) (Or.inl ⟨by rfl, ?_⟩) ?_ ?_
                rotate_left
                ·intro w'
                 go_simp
                 with_reducible rfl
                rotate_left
                ·simp only [Act.put, List.setIfInBounds_toArray, List.set_cons_zero, List.set_cons_succ, qa2, qa3]
                 rfl
                refine qf5 (i := 7) (N := some 46) (v := ?_) (a' := ?_) #[false, true, true, true, false, true, true, true, false, false, false] rfl rfl (qb5 HT_.out (by kernel_rfl)) (fun _ _ _ h => h) (Or.inl ⟨by rfl, ?_⟩) ?_ ?_
                rotate_left
                ·intro w'
                 go_simp
                 with_reducible rfl
                rotate_left
                ·simp only [Act.put, List.setIfInBounds_toArray, List.set_cons_zero, List.set_cons_succ, qa2, qa3]
                 rfl
                refine qf5 (i := 8) (N := some 47) (v := ?_) (a' := ?_) #[false, true, true, true, false, true, true, true, true, false, false] rfl rfl (qb5 HT_.out (by kernel_rfl)) (fun _ _ _ h => h) (Or.inl ⟨by rfl, ?_⟩) ?_ ?_
                rotate_left
                ·intro w'
                 go_simp
                 with_reducible rfl
                rotate_left
                ·simp only [Act.put, List.setIfInBounds_toArray, List.set_cons_zero, List.set_cons_succ, qa2, qa3]
                 rfl
                refine jS5 (i := 0) (N := some 39) #[true, true, true, true, false, true, true, true, true, false, false] rfl rfl (qQ3 HT_.out (by kernel_rfl)) (by decide) (fun K hK => ?_)
                refine Kd.zc7 k55 _ 55 ?hg (N' := 39) ?hd (xs := ([] : List (S55))) (inner := []) (ok := (fun k_ => (P0_ k_ ∨ w.heap.size ≤ k_) ∧ some k_ ≠ (.slice (some qv2) zF.length co9 : Value).ownBlock ∧ some k_ ≠ (v163 : Value).ownBlock)) (okp := (fun k_ => (P0_ k_ ∨ w.heap.size ≤ k_) ∧ some k_ ≠ (.slice (some qv2) zF.length co9 : Value).ownBlock ∧ some k_ ≠ (v163 : Value).ownBlock)) ?hr ?hp (fun _ hk => hk) ((show ∀ k_, w28.heap.size ≤ k_ → (fun k_ => (P0_ k_ ∨ w.heap.size ≤ k_) ∧ some k_ ≠ (.slice (some qv2) zF.length co9 : Value).ownBlock ∧ some k_ ≠ (v163 : Value).ownBlock) k_ from fun k_ hk => ⟨(.inr (Nat.le_trans (qM (by repeat (first | (with_reducible first | exact HB.out | apply qA | apply q9 | apply qB) | exact HB.out))) hk)), Kd.fresh' (Kd.jy3 (by (with_reducible repeat (first | apply Kd.jD | apply Kd.jE | apply Kd.jH)); exact qU.out)) k_ hk, Kd.fresh' (Kd.jy3 (by (with_reducible repeat (first | apply Kd.jD | apply Kd.jE | apply Kd.jH)); exact qz2.out)) k_ hk⟩) _ (Nat.le_refl _)) (Below.refl _ _) (Nat.le_refl _) (by simp) ?_; (case hd => rfl); (case hg => rfl); (case hr => first | (go_simp; done) | (go_simp; rfl)); (case hp => exact (qc7.none _ _))
                intro v166 w31 jy5 hb hg_ qD9
                clear hg_ qD9
                (first | rw [← zV2.out] at jy5 | (simp only [Int.reduceToNat] at jy5; rw [← zV2.out] at jy5))
                have n0_ := q8.mk (Kd.qt1 (by (with_reducible repeat (first | apply Kd.jD | apply Kd.jE | apply Kd.jH)); exact qU.out) (Kd.qE0 jy5) hb)
                have n1_ := q8.mk (Kd.qt0 (by (with_reducible repeat (first | apply Kd.jP | apply Kd.jQ | apply Kd.zC)); exact qj1.out) (Kd.qE0 jy5) hb)
                have n2_ := q8.mk (Kd.qt1 (by (with_reducible repeat (first | apply Kd.jD | apply Kd.jE | apply Kd.jH)); exact qz2.out) (Kd.qE0 jy5) hb)
                have n3_ := q8.mk (Kd.qt0 (by (with_reducible repeat (first | apply Kd.jP | apply Kd.jQ | apply Kd.zC)); exact qQ1.out) (Kd.qE0 jy5) hb)
                have n4_ := q8.mk (Kd.qt0 (by (with_reducible repeat (first | apply Kd.jP | apply Kd.jQ | apply Kd.zC)); exact qQ2.out) (Kd.qE0 jy5) hb)
                have n5_ := q8.mk (Kd.qZ8 jy5 (qM (by repeat (first | (with_reducible first | exact HB.out | apply qA | apply q9 | apply qB) | exact HB.out))))
                have n6_ := q8.mk (jM (by repeat (first | (with_reducible first | exact HB.out | apply qA | apply q9 | apply qB) | exact HB.out)) hb)
                clear qU
                clear qj1
                clear qz2
                clear qQ1
                clear qQ2
                clear HB
                have qU := n0_
                have qj1 := n1_
                have qz2 := n2_
                have qQ1 := n3_
                have qQ2 := n4_
                have zV8 := n5_
                have HB := n6_
                clear n0_ n1_ n2_ n3_ n4_ n5_ n6_
                clear hb jy5
                refine hK.out _ _ trivial (fun hHeld => ?_)
                clear hK K
                refine qE1 (a' := ?_) ?_ ?_
                rotate_left
                ·show Act.put _ (some 39) _ = _
                 simp only [Act.put, List.setIfInBounds_toArray, List.set_cons_zero, List.set_cons_succ, qa2, qa3]
                 rfl
                refine jS5 (i := 4) (N := some 43) #[true, true, true, true, true, true, true, true, true, false, false] rfl rfl (qQ3 HT_.out (by kernel_rfl)) (by decide) (fun K hK => ?_)
                refine Kd.qE2 k55 (w0 := w) w.heap.size (by rfl) (.tmp 39) (.tmp 42) 22 55 (.agg #[(.int .i64 0), (.int .i64 0), (.int .i64 0), (.slice none 0 0)]) 48 rfl Try.underlying22 qW1 rfl (by decide) (by omega) v166 y165 y168 _ _ _ (fun k_ => (P0_ k_ ∨ w.heap.size ≤ k_) ∧ some k_ ≠ (v163 : Value).ownBlock) (fun k_ => ((fun k_ => (P0_ k_ ∨ w.heap.size ≤ k_) ∧ some k_ ≠ (v163 : Value).ownBlock)) k_ ∧ some k_ ≠ (v166 : Value).ownBlock) rfl rfl ?aO ?aR (fun _ hk => hk) ?aF ?aB ?aS ?aL ?_
                (case aR => exact (by skip; exact Kd.V_F (Kd.zO (ok' := (fun k_ => ((fun k_ => (P0_ k_ ∨ w.heap.size ≤ k_) ∧ some k_ ≠ (v163 : Value).ownBlock)) k_ ∧ some k_ ≠ (v166 : Value).ownBlock)) (qQ1.out) (fun k_ hk => ⟨⟨hk.1.1, hk.1.2⟩, hk.2⟩))))
                (case aB => exact (by repeat (first | (with_reducible first | exact HB.out | apply qA | apply q9 | apply qB) | exact HB.out)))
                (case aF => exact (fun k_ hk => ⟨(.inr (Nat.le_trans (qM (by repeat (first | (with_reducible first | exact HB.out | apply qA | apply q9 | apply qB) | exact HB.out))) hk)), Kd.fresh' (Kd.jy3 (by (with_reducible repeat (first | apply Kd.jD | apply Kd.jE | apply Kd.jH)); exact qz2.out)) k_ hk⟩))
                (case aO => exact (by (with_reducible repeat (first | apply Kd.jD | apply Kd.jE | apply Kd.jH)); exact Kd.zA zV8.out (fun _ hk => ⟨hk.1, hk.2.2⟩)))
                (case aS => exact (qM (by repeat (first | (with_reducible first | exact HB.out | apply qA | apply q9 | apply qB) | exact HB.out))))
                (case aL => have := Ql1.out; omega)
                intro v174 w33 ho hb hg hat
                rw [← Ql2.out] at ho
                have n0_ := q8.mk (Kd.qq4 (ok := (fun k_ => (P0_ k_ ∨ w.heap.size ≤ k_) ∧ some k_ ≠ (v163 : Value).ownBlock)) (by (with_reducible repeat (first | apply Kd.jD | apply Kd.jE | apply Kd.jH)); exact qU.out) hg hat)
                have n1_ := q8.mk (Kd.qn9 (ok := (fun k_ => (P0_ k_ ∨ w.heap.size ≤ k_) ∧ some k_ ≠ (.slice (some qv2) zF.length co9 : Value).ownBlock ∧ some k_ ≠ (v163 : Value).ownBlock)) (by (with_reducible repeat (first | apply Kd.jP | apply Kd.jQ | apply Kd.zC)); exact Kd.zO qj1.out (fun _ hk => ⟨⟨hk.1.1.1, ⟨hk.1.1.2, hk.1.2⟩⟩, hk.2⟩)) hg hat)
                have n2_ := q8.mk (Kd.qq4 (ok := (fun k_ => (P0_ k_ ∨ w.heap.size ≤ k_) ∧ some k_ ≠ (.slice (some qv2) zF.length co9 : Value).ownBlock)) (by (with_reducible repeat (first | apply Kd.jD | apply Kd.jE | apply Kd.jH)); exact qz2.out) hg hat)
                have n3_ := q8.mk (Kd.qn9 (ok := (fun k_ => (P0_ k_ ∨ w.heap.size ≤ k_) ∧ some k_ ≠ (v163 : Value).ownBlock)) (by (with_reducible repeat (first | apply Kd.jP | apply Kd.jQ | apply Kd.zC)); exact qQ1.out) hg hat)
                have n4_ := q8.mk (Kd.qn9 (ok := (fun k_ => (P0_ k_ ∨ w.heap.size ≤ k_) ∧ some k_ ≠ (v163 : Value).ownBlock)) (by (with_reducible repeat (first | apply Kd.jP | apply Kd.jQ | apply Kd.zC)); exact qQ2.out) hg hat)
                have n5_ := q8.mk (hb)
                have n6_ := q8.mk (ho)
                clear qU
                clear qj1
                clear qz2
                clear qQ1
                clear qQ2
                clear HB
                clear zV8
                have qU := n0_
                have qj1 := n1_
                have qz2 := n2_
                have qQ1 := n3_
                have qQ2 := n4_
                have HB := n5_
                have zV9 := n6_
                clear n0_ n1_ n2_ n3_ n4_ n5_ n6_
                clear ho hb hg hat
                refine hK.out _ _ trivial (fun hHeld => ?_)
                clear hK K
                refine qE1 (a' := ?_) ?_ ?_
                rotate_left
                ·show Act.put _ (some 43) _ = _
                 simp only [Act.put, List.setIfInBounds_toArray, List.set_cons_zero, List.set_cons_succ, qa2, qa3]
                 rfl
                refine jS5 (i := 9) (N := some 48) #[true, true, true, true, true, true, true, true, true, true, false] rfl rfl (qQ3 HT_.out (by kernel_rfl)) (by decide) (fun K hK => ?_)
                refine Kd.qE2 k55 (w0 := w) w.heap.size (by rfl) (.tmp 43) (.tmp 47) 22 55 (.agg #[(.int .i64 0), (.int .i64 0), (.int .i64 0), (.slice none 0 0)]) 48 rfl Try.underlying22 qW1 rfl (by decide) (by omega) v174 y173 y176 _ _ _ (fun k_ => (P0_ k_ ∨ w.heap.size ≤ k_) ∧ some k_ ≠ (v163 : Value).ownBlock) (fun k_ => ((fun k_ => (P0_ k_ ∨ w.heap.size ≤ k_) ∧ some k_ ≠ (v163 : Value).ownBlock)) k_ ∧ some k_ ≠ (v174 : Value).ownBlock) rfl rfl ?aO ?aR (fun _ hk => hk) ?aF ?aB ?aS ?aL ?_
                (case aR => exact (by skip; exact Kd.V_F (Kd.zO (ok' := (fun k_ => ((fun k_ => (P0_ k_ ∨ w.heap.size ≤ k_) ∧ some k_ ≠ (v163 : Value).ownBlock)) k_ ∧ some k_ ≠ (v174 : Value).ownBlock)) (qQ2.out) (fun k_ hk => ⟨⟨hk.1.1, hk.1.2⟩, hk.2⟩))))
                (case aB => exact (by repeat (first | (with_reducible first | exact HB.out | apply qA | apply q9 | apply qB) | exact HB.out)))
                (case aF => exact (fun k_ hk => ⟨(.inr (Nat.le_trans (qM (by repeat (first | (with_reducible first | exact HB.out | apply qA | apply q9 | apply qB) | exact HB.out))) hk)), Kd.fresh' (Kd.jy3 (by (with_reducible repeat (first | apply Kd.jD | apply Kd.jE | apply Kd.jH)); exact qz2.out)) k_ hk⟩))
                (case aO => exact (by (with_reducible repeat (first | apply Kd.jD | apply Kd.jE | apply Kd.jH)); exact zV9.out))
                (case aS => exact (qM (by repeat (first | (with_reducible first | exact HB.out | apply qA | apply q9 | apply qB) | exact HB.out))))
                (case aL => have := Ql3.out; omega)
                intro v182 w34 ho hb hg hat
                rw [← Ql4.out] at ho
                have n0_ := q8.mk (Kd.qq4 (ok := (fun k_ => (P0_ k_ ∨ w.heap.size ≤ k_) ∧ some k_ ≠ (v163 : Value).ownBlock)) (by (with_reducible repeat (first | apply Kd.jD | apply Kd.jE | apply Kd.jH)); exact qU.out) hg hat)
                have n1_ := q8.mk (Kd.qn9 (ok := (fun k_ => (P0_ k_ ∨ w.heap.size ≤ k_) ∧ some k_ ≠ (.slice (some qv2) zF.length co9 : Value).ownBlock ∧ some k_ ≠ (v163 : Value).ownBlock)) (by (with_reducible repeat (first | apply Kd.jP | apply Kd.jQ | apply Kd.zC)); exact qj1.out) hg hat)
                have n2_ := q8.mk (Kd.qq4 (ok := (fun k_ => (P0_ k_ ∨ w.heap.size ≤ k_) ∧ some k_ ≠ (.slice (some qv2) zF.length co9 : Value).ownBlock)) (by (with_reducible repeat (first | apply Kd.jD | apply Kd.jE | apply Kd.jH)); exact qz2.out) hg hat)
                have n3_ := q8.mk (Kd.qn9 (ok := (fun k_ => (P0_ k_ ∨ w.heap.size ≤ k_) ∧ some k_ ≠ (v163 : Value).ownBlock)) (by (with_reducible repeat (first | apply Kd.jP | apply Kd.jQ | apply Kd.zC)); exact qQ1.out) hg hat)
                have n4_ := q8.mk (Kd.qn9 (ok := (fun k_ => (P0_ k_ ∨ w.heap.size ≤ k_) ∧ some k_ ≠ (v163 : Value).ownBlock)) (by (with_reducible repeat (first | apply Kd.jP | apply Kd.jQ | apply Kd.zC)); exact qQ2.out) hg hat)
                have n5_ := q8.mk (hb)
                have n6_ := q8.mk (ho)
                clear qU
                clear qj1
                clear qz2
                clear qQ1
                clear qQ2
                clear HB
                clear zV9
                have qU := n0_
                have qj1 := n1_
                have qz2 := n2_
                have qQ1 := n3_
                have qQ2 := n4_
                have HB := n5_
                have Ql7 := n6_
                clear n0_ n1_ n2_ n3_ n4_ n5_ n6_
                clear ho hb hg hat
                refine hK.out _ _ trivial (fun hHeld => ?_)
                clear hK K
                refine qE1 (a' := ?_) ?_ ?_
                rotate_left
                ·show Act.put _ (some 48) _ = _
                 simp only [Act.put, List.setIfInBounds_toArray, List.set_cons_zero, List.set_cons_succ, qa2, qa3]
                 rfl
                refine qf5 (i := 10) (N := some 4) (v := ?_) (a' := ?_) #[true, true, true, true, true, true, true, true, true, true, true] rfl rfl (qb5 HT_.out (by kernel_rfl)) (fun _ _ _ h => h) (Or.inl ⟨by rfl, ?_⟩) ?_ ?_
                rotate_left
                ·intro w'
                 go_simp
                 with_reducible rfl
                rotate_left
                ·simp only [Act.put, List.setIfInBounds_toArray, List.set_cons_zero, List.set_cons_succ, qa2, qa3]
                 rfl
                refine zk4 (jm5 HT_.out (by kernel_rfl)) ?_
                try go_wp2
                go_roundg k2
                case measure => have := HK1.out; have := HK2.out; omega
                case rel => exact ⟨(y162), (y181), H', ⟨by have := HK1.out; have := HK2.out; omega⟩, ⟨by (with_reducible repeat (first | apply Kd.jD | apply Kd.jE | apply Kd.jH)); exact Kd.zA qz2.out (fun _ hk => ⟨hk.1.1, hk.2⟩)⟩, ⟨by (with_reducible repeat (first | apply Kd.jD | apply Kd.jE | apply Kd.jH)); exact Ql7.out⟩, ⟨by repeat (first | (with_reducible first | exact HB.out | apply qA | apply q9 | apply qB) | exact HB.out)⟩⟩
               ·rw [if_neg c26] at H
                exact absurd H (by simp)
              ·rw [if_neg c25] at H
               exact absurd H (by simp)
             ·rw [if_neg c24] at H
              exact absurd H (by simp)
            ·rw [if_neg c22] at H
             exact absurd H (by simp)
           ·rw [if_neg c21] at H
            exact absurd H (by simp)
          ·rw [if_neg c19] at H
           exact absurd H (by simp)
         ·rw [if_neg c18] at H
          exact absurd H (by simp)
        ·rw [if_neg c17] at H
         exact absurd H (by simp)
    ·rw [if_neg c8] at H
     have qW2 : decide (0 < (zF.length : Int)) = false := decide_eq_false c8
     have c8b1 : decide (0 < zF.length) = false := decide_eq_false (by omega)
     clear c8
     obtain rfl := Option.some.inj H
     obtain ⟨Ao35, co35, eo35⟩ := Kd.qS7 qU.out
     subst eo35
     go_wp2
     go_ret
     exact ⟨_, by first | rfl | (simp [jI, jJ] <;> rfl) | (simp [*, jI, jJ] <;> rfl), by (with_reducible repeat (first | apply Kd.jD | apply Kd.jE | apply Kd.jH)); exact Kd.zA qa8.out (fun _ hk => hk.1), by repeat (first | (with_reducible first | exact HB.out | apply qA | apply q9 | apply qB) | exact HB.out)⟩
 ·rw [if_neg c2] at H
  exact absurd H (by simp)
end Go.Proofs.Ytngkneknopenmaa.T
end
