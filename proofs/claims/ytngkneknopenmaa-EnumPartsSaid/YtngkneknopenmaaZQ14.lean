/- qq5 of this claim, joined by a program of this session: the zO that its theorem uses. -/
import Derived.Test.YtngkneknopenmaaZQ0
import Derived.Test.YtngkneknopenmaaZQ1
import Derived.Test.YtngkneknopenmaaZQ2
import Derived.Test.YtngkneknopenmaaZQ5
import Derived.Test.YtngkneknopenmaaZQ7
import Derived.Test.YtngkneknopenmaaZQ12
import Derived.Test.YtngkneknopenmaaZQ13
import Derived.Sort.OwnSortedInts
import Derived.Deep.DeepCutAuto
import Derived.Deep.RegionWith
import Derived.Test.YtngkneknopenmaaProg
import Derived.Below
import Derived.Deep.Draws
import Derived.Deep.AppendLies
import Derived.Maps.AppendAt
import Derived.OwnWalk
import Derived.Laws.BytesArg
import Derived.Laws.MakeOwn
import Derived.Laws.OwnMore
import Derived.Deep.OwnRows
import Derived.Tactics
import Derived.Lib.ConvBytes
import Derived.Laws.Slices
import Derived.WalkKit
import Derived.KernelRfl
import Derived.RowKit3
import Derived.Deep.LoopGhost
import Derived.Deep.QuietTactic
import Derived.BigQuiet
import Derived.WideLaws
import Derived.Deep.CutBlock
import Derived.Deep.RegionHeld3
import Derived.Laws.Rows
import Derived.Lib.AppendStr
import Derived.ArgAppend
import Derived.Laws.IdiomCopy
import Derived.OrdersHeld
import Derived.Laws.BitsLemmas
import Derived.RowKit
set_option linter.unusedVariables false
set_option linter.unusedSimpArgs false
namespace Go.Proofs.Ytngkneknopenmaa.jZ5
end Go.Proofs.Ytngkneknopenmaa.jZ5
section
namespace Go.Proofs.Ytngkneknopenmaa.Hist
open Go Go.RowKit Go.Proofs.Ytngkneknopenmaa.qb8 Go.Sort Go.Shelf
instance : Inhabited TR := ⟨⟨0, 0, 0, 0, 0, 0⟩⟩
theorem jE3 (r : TR) : (TR.cells r).length = 4 := rfl
theorem cells_one (r : TR) : ∀ v ∈ TR.cells r, v.oneCell' = true := by
 intro v hv
 simp [TR.cells] at hv
 rcases hv with rfl | rfl | rfl | rfl <;> rfl
theorem jo7 (rows : Array TR) : (flatK TR.cells 4 rows).toList = qg1 rows.toList := by
 apply List.ext_getElem (by simp [ql3])
 intro t h1 h2
 have ht : t < rows.size * 4 := by simpa using h1
 have hd : t / 4 < rows.size := by omega
 have e1 : (flatK TR.cells 4 rows).toList[t] = (TR.cells rows[t / 4]!)[t % 4]! := by
  rw [← get_flatK _ _ _ _ ht, Array.getElem_toList, getElem!_pos]
 rw [e1, getElem!_pos rows _ hd]
 obtain ⟨a, b, c, d⟩ := qB1 rows.toList [] (t / 4) rows[t / 4] (by rw [Array.getElem?_toList, Array.getElem?_eq_getElem hd])
 rw [List.append_nil] at a b c d
 obtain ⟨r, hr⟩ : ∃ r, rows[t / 4] = r := ⟨_, rfl⟩
 rw [hr] at a b c d ⊢
 have h4 : t % 4 < 4 := Nat.mod_lt _ (by omega)
 have htm : t = t / 4 * 4 + t % 4 := by omega
 have key : (qg1 rows.toList)[t]? = some (TR.cells r)[t % 4]! := by
  obtain ⟨m, hm⟩ : ∃ m, t % 4 = m := ⟨_, rfl⟩
  rw [hm] at htm h4 ⊢
  match m, h4 with
  | 0, _ => rw [htm, Nat.add_zero, a]; rfl
  | 1, _ => rw [htm, b]; rfl
  | 2, _ => rw [htm, c]; rfl
  | 3, _ => rw [htm, d]; rfl
 rw [List.getElem?_eq_getElem h2] at key
 exact (Option.some.inj key).symm
theorem jO7 {w : World} {g : Nat} {cur : Array Value} {e : TypeId} {D : Array Value} (hb : w.heap[g]? = some (.cells cur e (0, 0))) (ht : cur.toList.take D.size = D.toList) : Holds id w g 0 D := by
 intro j hj
 refine ⟨?_, by simp [World.frozen?, hb]⟩
 have h1 : (cur.toList.take D.size)[j]? = D.toList[j]? := by rw [ht]
 rw [List.getElem?_take_of_lt hj] at h1
 simp only [World.cell?, hb, Nat.zero_add]
 simp only [Option.isSome_none, Bool.false_eq_true, if_false]
 rw [← Array.getElem?_toList, h1]
 simp [hj]
theorem heap_put {w : World} {g n : Nat} {os : Array Obj} {cur : Array Value} {e : TypeId} {fr : Nat × Nat} (D : Array Value) (hb : w.heap[g]? = some (.cells cur e fr)) :
  (grow (putRow id (Sort.ahead w n) g 0 D) os).heap[g]? = some (.cells (putCells id 0 D cur) e fr) := by
 have hg : g < w.heap.size := (Array.getElem?_eq_some_iff.1 hb).1
 rw [heap_grow_old _ _ (by simpa using hg)]
 simp [putRow, mapBlock, Sort.ahead, Array.getElem?_modify, hb, onCells]
theorem zp2 {w : World} {g n : Nat} {os : Array Obj} (D : Array Value) : w.grownBy (grow (putRow id (Sort.ahead w n) g 0 D) os) (some g) := by
 refine ⟨rfl, rfl, rfl, by simp, fun k hk hne => ?_⟩
 rw [heap_grow_old _ _ (by simpa using hk)]
 have : g ≠ k := fun e => hne (by rw [e])
 simp [putRow, mapBlock, Sort.ahead, Array.getElem?_modify, this]
theorem zv3 (cur D : Array Value) (h : D.size ≤ cur.size) : (putCells id 0 D cur).toList.take D.size = D.toList := by
 apply List.ext_getElem?
 intro j
 by_cases hj : j < D.size
 ·rw [List.getElem?_take_of_lt hj, Array.getElem?_toList]
  simp [putCells, hj, show j < cur.size by omega]
 ·rw [List.getElem?_take_eq_none (by omega), List.getElem?_eq_none (by simp; omega)]
theorem ltB (x y : TR) : ltOf (fun x y : TR => Lib.compareInt x.b y.b) x y = decide (x.b < y.b) := by
 unfold ltOf Lib.compareInt
 by_cases h1 : x.b < y.b
 ·simp [h1]
 ·by_cases h2 : y.b < x.b <;> simp [h1, h2]
theorem swoB : SWO (ltOf fun x y : TR => Lib.compareInt x.b y.b) where
 irrefl x := by rw [ltB]; simp
 trans x y z h1 h2 := by rw [ltB] at *; simp at *; omega
 ntrans x y z h1 h2 := by rw [ltB] at *; simp at *; omega
set_option maxHeartbeats 1000000 in
theorem jw7 (x y : TR) (W : World) : Calls Try.prog 38 #[.agg x.cells.toArray, .agg y.cells.toArray] W fun e w' => e = .returned (.int .i64 (Lib.compareInt x.b y.b)) ∧ ∃ q os', w' = grow (W.drewN q) os' := by
 have hcon := fun W' => Try.cmp_Compare_int x.b y.b W'
 generalize Lib.compareInt x.b y.b = r at hcon ⊢
 have e1 : x.cells.toArray = #[.int .i64 x.s, .int .i64 x.b, .int .i64 x.c, .slice (some ⟨x.g, 0, none⟩) x.n x.cp] := rfl
 have e2 : y.cells.toArray = #[.int .i64 y.s, .int .i64 y.b, .int .i64 y.c, .slice (some ⟨y.g, 0, none⟩) y.n y.cp] := rfl
 rw [e1, e2]
 clear e1 e2
 go_enter Try.func38, Try.ntmps38
 go_wp2_with (go_at_call 39; refine (hcon _).mono ?_; rintro e w' ⟨rfl, rfl⟩)
 go_ret
 exact ⟨rfl, 0, _, by rw [alloc_eq_grow, alloc_eq_grow, grow_grow]; rfl⟩
theorem zH2 (w : World) : (isAgg 55).run Try.prog w = .ok true w := by kernel_rfl
theorem zv4 (w : World) : (Go.sizeOf 55).run Try.prog w = .ok 4 w := by kernel_rfl
set_option maxHeartbeats 1000000 in
theorem jw8 (g cap : Nat) (base : Nat) (rows : List TR) (hlen : rows.length ≤ 4611686018427387903) (w : World) (hown : w.ownsRow base 55 4 (.slice (some ⟨g, 0, none⟩) rows.length cap) rows.length (qg1 rows)) :
  Calls Try.prog 37 #[.slice (some ⟨g, 0, none⟩) rows.length cap, .func (.func 38) #[] #[]] w fun e w' =>
   e = .returned (.tuple #[]) ∧ ∃ rows' : List TR, rows'.Perm rows ∧ rows'.Pairwise (fun x y => x.b ≤ y.b) ∧ w'.ownsRow base 55 4 (.slice (some ⟨g, 0, none⟩) rows.length cap) rows.length (qg1 rows') ∧ w.grownBy w' (some g) := by
 by_cases h0 : rows.length = 0
 ·have hn := AnyF.slices_SortFunc_none Try.zi4 (some ⟨g, 0, none⟩) cap (.func (.func 38) #[] #[]) w
  rw [h0]
  refine hn.mono ?_
  rintro e w' ⟨rfl, rfl⟩
  exact ⟨rfl, rows, List.Perm.refl _, by rw [List.eq_nil_of_length_eq_zero h0]; exact .nil, by rw [h0] at hown; exact hown, below_grown (Below.refl _ _)⟩
 ·rcases hown.2 with ⟨h, _⟩ | ⟨g', cp, cur, he, hg, hh, h1, h2, h3, h4⟩
  ·cases h
  ·cases he
   have Qi8 : (flatK TR.cells 4 rows.toArray).toList = qg1 rows := jo7 rows.toArray
   have hsz : (flatK TR.cells 4 rows.toArray).size = rows.length * 4 := by simp
   have hH : HoldsK TR.cells 4 w g 0 rows.toArray := jO7 hh (by rw [hsz, h4, Qi8])
   have eg : ∀ args w, (callFunc 38 args).run Try.prog w = .ok (.enter 38 args) w := enters_of Try.func38 (by kernel_rfl) rfl
   have hcon := AnyQ.slices_SortFunc Try.zi4 4 zH2 zv4 TR.cells jE3 cells_one (fun x y => Lib.compareInt x.b y.b) swoB 38 #[] g 0 cap rows.toArray w eg (fun _ _ _ _ x y => jw7 x y _) hH (Array.getElem?_eq_some_iff.1 hh).1 (by simp; omega)
   have Qi9 : Calls Try.prog 37 #[.slice (some ⟨g, 0, none⟩) rows.length cap, .func (.func 38) #[] #[]] w _ := hcon
   refine Qi9.mono ?_
   rintro e w' ⟨rfl, d', n, os, hp, hs, rfl⟩
   obtain ⟨hp1, _, hp3⟩ := hp
   have hpl : d'.toList.Perm rows := by
    have e1 : d'.extract 0 rows.toArray.size = d' := by rw [← hp1]; simp
    have e2 : rows.toArray.extract 0 rows.toArray.size = rows.toArray := by simp
    rw [e1, e2] at hp3
    exact hp3
   have hfl' : (flatK TR.cells 4 d').toList = qg1 d'.toList := jo7 d'
   have hds : d'.size = rows.length := by rw [hp1]; simp
   have hsz' : (flatK TR.cells 4 d').size = rows.length * 4 := by simp [hds]
   refine ⟨rfl, d'.toList, hpl, ?_, ⟨by rw [ql3]; simp [hds], .inr ⟨g, cap, _, rfl, hg, heap_put _ hh, h1, h2, by simp [putCells, h3], ?_⟩⟩, zp2 _⟩
   ·rw [List.pairwise_iff_getElem]
    intro i j hi hj hij
    have hij2 := hs i j (Nat.zero_le _) hij (by rw [← hp1]; simpa using hj)
    rw [ltB, decide_eq_false_iff_not] at hij2
    have hi' : i < d'.size := by simpa using hi
    have hj' : j < d'.size := by simpa using hj
    rw [getElem!_pos d' i hi', getElem!_pos d' j hj'] at hij2
    simpa using hij2
   ·rw [← hfl', ← hsz']
    exact zv3 _ _ (by rw [hsz', h3]; exact Nat.mul_le_mul_right _ h1)
end Go.Proofs.Ytngkneknopenmaa.Hist
end
section
namespace Go.Proofs.Ytngkneknopenmaa.Hist
open Go Go.RowKit Go.Proofs.Ytngkneknopenmaa.qb8 Go.Proofs.Ytngkneknopenmaa.qj8 Go.Proofs.YtngkneknopenmaaW.PrintWords
def j4 (h : List T4) : List Int := h.flatMap fun t => [t.b, t.c]
theorem jE4 (h : List T4) (t : T4) : j4 (h ++ [t]) = j4 h ++ [t.b, t.c] := by simp [j4, List.flatMap_append]
theorem qo6 (h : List T4) : (j4 h).length = h.length * 2 := by
 induction h with
 | nil => rfl
 | cons t h ih =>
  have : j4 (t :: h) = [t.b, t.c] ++ j4 h := rfl
  rw [this, List.length_append, ih]
  simp
  omega
def qB7 (l : List Int) : List Int := l.mergeSort fun x y => decide (x ≤ y)
def qo7 : Nat → List Int → (Int → Option Int) → Int → Option Int
 | _, [], f => f
 | i, x :: l, f => qo7 (i + 1) l fun y => if y = x then some (i : Int) else f y
def places (l : List Int) : Int → Option Int := qo7 0 l fun _ => none
def qw2 (h : List T4) : Int → Option Int := places (qB7 (j4 h))
def jE5 (f : Int → Option Int) : Int → Option Value := fun x => (f x).map (Value.int .i64)
theorem zv5 (f : Int → Option Int) (x i : Int) : jE5 (fun y => if y = x then some i else f y) = upd (jE5 f) x (.int .i64 i) := by
 funext y
 unfold jE5 upd
 by_cases h : y = x <;> simp [h]
theorem jl4 : (Try.prog.info? 3).map (fun i => (i.zero, i.size, i.bytes)) = some (some (.int .i64 0), 1, 8) := by kernel_rfl
def Qj0 (h : List T4) (w : World) (x v : Value) (wr : World) : Prop :=
 ∃ i : Nat, i ≤ h.length ∧ v = .int .i64 ((i : Nat) : Int) ∧ wr.ownsRow w.heap.size 3 1 x (i * 2) ((j4 (h.take i)).map (Value.int .i64)) ∧ Below w.heap.size w wr
set_option maxHeartbeats 8000000 in
set_option maxRecDepth 100000 in
theorem jO8 (A : Option Addr) (cap : Nat) (h : List T4) (hlen : h.length ≤ 64) (hok : ∀ t ∈ h, OkS t) (w : World) (hr : RdT w A h) :
  Calls Try.prog 40 #[.slice A h.length cap] w fun e w' => ∃ b s, e = .returned (.map (some b)) ∧ IM Try.prog 3 w' b (jE5 (qw2 h)) s ∧ w.heap.size ≤ b ∧ Below w.heap.size w w' := by
 obtain ⟨n, hn⟩ : ∃ n, h.length = n := ⟨_, rfl⟩
 have HN := Lib.hid hn
 rw [hn] at hlen ⊢
 have HR := Lib.hid hr
 have HOK := Lib.hid hok
 clear hn hr hok
 have hmm := @run_makeMap Try.prog
 obtain ⟨i0, hii, hz0, hz1, hz2⟩ := info_parts jl4
 go_enter Try.func40, Try.ntmps40
 go_wp2_with fail
 go_loopw [3, 11] (fun x v wr => Qj0 h w x v wr) (fun _ v _ => n - (intOf v).toNat)
 case atStart => exact ⟨0, Nat.zero_le _, rfl, World.ownsRow_nil _ _ _ _, Below.refl _ _⟩
 case round =>
  obtain ⟨i, hi, rfl, hown, hb⟩ := hrel
  rw [HN.out] at hi
  by_cases hlt : i < n
  ·have hltz : (i : Int) < (n : Int) := by omega
   have hil : i < h.length := by rw [HN.out]; exact hlt
   obtain ⟨ad, rfl, hc⟩ := HR.out (by omega)
   obtain ⟨t, ht⟩ : ∃ t, h[i]? = some t := ⟨_, List.getElem?_eq_getElem hil⟩
   obtain ⟨A3, c3, t0, t1, t2, t3, hl3, hro⟩ := hc i t ht
   have hto : j4 (h.take (i + 1)) = j4 (h.take i) ++ [t.b, t.c] := by rw [List.take_add_one, ht]; exact jE4 _ _
   replace t0 := cell_below hb t0
   replace t1 := cell_below hb t1
   replace t2 := cell_below hb t2
   replace t3 := cell_below hb t3
   have HTO := Lib.hid hto
   have HB := Lib.hid hb
   have HOWN := Lib.hid hown
   have hbz := hb.size
   obtain ⟨m, hm⟩ : ∃ m, t.ops.length = m := ⟨_, rfl⟩
   rw [hm] at t3
   clear hc ht hro hil hm hto hb hown hl3
   have hsl : (j4 (h.take i)).length = i * 2 := by rw [qo6, List.length_take, HN.out]; omega
   go_wp2_with (at_builtin; refine wpList_append_own_at _ rfl _ _ 29 rfl w.heap.size 3 i0 (.int .i64 0) 1 8 Try.underlying29 hii hz0 hz1 hz2 rfl (by decide) _ (i * 2) ((j4 (h.take i)).map (Value.int .i64)) rfl ((HOWN.out.alloc _).alloc _) ⟨wr.heap.size + 1, 0, none⟩ 2 2 [.int .i64 t.b, .int .i64 t.c] rfl rfl ?c1 ?c2 (by unfold maxLen; omega) (by omega) (by simp; omega) ?_)
   case c1 =>
    intro j u hj
    have h := alloc_at (wr.alloc (.cells #[.int .i64 t.s, .int .i64 t.b, .int .i64 t.c, .slice A3 m c3] 55)) (.cells #[.int .i64 t.b, .int .i64 t.c] 3)
    rw [show (wr.alloc (.cells #[.int .i64 t.s, .int .i64 t.b, .int .i64 t.c, .slice A3 m c3] 55)).heap.size = wr.heap.size + 1 by simp] at h
    rw [add_zero, Lib.cell_of_heap h]
    simpa using hj
   case c2 =>
    intro u hu
    simp at hu
    rcases hu with rfl | rfl <;> rfl
   intro v8 w8 zi2 jZ4 zi3 zY0
   have hb8 : Below w.heap.size w w8 := ((HB.out.alloc HB.out.size _).alloc (HB.out.alloc HB.out.size _).size _).grown jZ4 ((HB.out.alloc HB.out.size _).alloc (HB.out.alloc HB.out.size _).size _).size (fun j hj => (HOWN.out.lt j hj).1)
   clear jZ4 zi3 zY0 t0 t1 t2 t3
   go_wp2_with fail
   go_roundw
   case rel => exact ⟨i + 1, by rw [HN.out]; omega, by go_num, by rw [HTO.out, List.map_append, Nat.add_mul]; exact zi2, hb8⟩
   case measure => (simp [intOf]; try omega)
  ·have hin : i = n := by omega
   subst hin
   rw [List.take_of_length_le (by rw [HN.out]; exact Nat.le_refl _)] at hown
   have hsl : (j4 h).length = i * 2 := by rw [qo6, HN.out]
   have hLl : (qB7 (j4 h)).length = i * 2 := by unfold qB7; rw [List.length_mergeSort, hsl]
   have hLm : ∀ x ∈ qB7 (j4 h), 0 ≤ x ∧ x ≤ 2147483647 := by
    intro x hx
    unfold qB7 at hx
    rw [List.mem_mergeSort] at hx
    unfold j4 at hx
    rw [List.mem_flatMap] at hx
    obtain ⟨t, ht, hx⟩ := hx
    obtain ⟨o1, o2, o3, o4, o5, o6⟩ := HOK.out t ht
    simp at hx
    rcases hx with rfl | rfl
    ·exact ⟨o3, o4⟩
    ·exact ⟨o5, o6⟩
   have hsort : Calls Try.prog 63 #[u3] wr fun e w' => e = .returned (.tuple #[]) ∧ w'.ownsRow w.heap.size 3 1 u3 (i * 2) ((qB7 (j4 h)).map (Value.int .i64)) ∧ wr.grownBy w' u3.ownBlock := by
    rcases hown.2 with ⟨rfl, h0⟩ | ⟨g, cp, cur, rfl, hg, hh, h1, h2, h3, h4⟩
    ·refine (Try.slices_Sort_int_none none 0 wr).mono ?_
     rintro e w' ⟨rfl, rfl⟩
     have hnil : j4 h = [] := List.eq_nil_of_length_eq_zero (by omega)
     refine ⟨rfl, ?_, below_grown (Below.refl _ _)⟩
     have hsn : qB7 [] = [] := by simp [qB7]
     rw [hnil] at hown ⊢
     rw [hsn]
     exact hown
    ·have hH := holds_of_blockI (ss := j4 h) hh (by rw [hsl]; simpa using h4)
     have hcon := Try.slices_Sort_int g 0 cp (j4 h) wr hH (Array.getElem?_eq_some_iff.1 hh).1 (by omega)
     rw [hsl] at hcon
     refine hcon.mono ?_
     rintro e w' ⟨rfl, k, os, rfl⟩
     refine ⟨rfl, ?_, grownBy_sortedI _⟩
     have := ownsRow_sortedI (os := os) (n := k) (ss := j4 h) (ts := qB7 (j4 h)) (by rw [hLl, hsl]) hg hh (by omega) h2 h3
     rw [hsl] at this
     exact this
   have hlow : ∀ j, u3.ownBlock = some j → w.heap.size ≤ j := fun j hj => (hown.lt j hj).1
   obtain ⟨A9, cp9, rfl, hA9⟩ : ∃ A9 cp9, u3 = .slice A9 (i * 2) cp9 ∧ (0 < i * 2 → ∃ g, A9 = some ⟨g, 0, none⟩) := by
    rcases hown.2 with ⟨rfl, h0⟩ | ⟨g, cp, cur, rfl, _⟩
    ·exact ⟨none, 0, by rw [h0], by omega⟩
    ·exact ⟨_, _, rfl, fun _ => ⟨g, rfl⟩⟩
   have HL := Lib.hid hLm
   have HLL := Lib.hid hLl
   have HS := Lib.hid hsort
   have HB := Lib.hid hb
   have HRF := Lib.hid (show qw2 h = places (qB7 (j4 h)) from rfl)
   clear hown hLm hLl hsort hb hsl hz0 hz1 hz2 hii
   generalize qB7 (j4 h) = L at HL HLL HS HRF
   go_wp2_with (go_at_call 63; (with_reducible refine HS.out.mono ?_); rintro e w5 ⟨rfl, hown5, hgr5⟩)
   have hb5 := HB.out.grown hgr5 HB.out.size hlow
   have qr0 := IM.made w5 Try.prog 3
   have hown6 := hown5.alloc (.map #[] 0)
   have hb6 := hb5.alloc hb5.size (.map #[] 0)
   have HBB := Lib.hid hb5.size
   clear hown5 hb5 hgr5 hmm HS HB hlow
   obtain ⟨b, hbb⟩ : ∃ b, w5.heap.size = b := ⟨_, rfl⟩
   rw [hbb] at qr0 HBB ⊢
   clear hbb
   go_loopw [28] (fun v wr => ∃ (j s : Nat) (f : Int → Option Int), j ≤ L.length ∧ v = .int .i64 ((j : Nat) : Int) ∧ s ≤ j ∧ IM Try.prog 3 wr b (jE5 f) s ∧ Below w.heap.size w wr ∧ wr.ownsRow w.heap.size 3 1 (.slice A9 (i * 2) cp9) (i * 2) (L.map (Value.int .i64)) ∧ qo7 j (L.drop j) f = places L) (fun v _ => i * 2 - (intOf v).toNat)
   case atStart => exact ⟨0, 0, fun _ => none, Nat.zero_le _, rfl, Nat.zero_le _, qr0, hb6, hown6, rfl⟩
   case round =>
    clear qr0 hb6 hown6
    obtain ⟨j, s, f, hj, rfl, hs, him, hb, hown, hpl⟩ := hrel
    rw [HLL.out] at hj
    have HIM := Lib.hid him
    clear him
    by_cases hlt : j < i * 2
    ·have hltz : (j : Int) < (i : Int) * 2 := by omega
     obtain ⟨g, rfl⟩ := hA9 (by omega)
     obtain ⟨x, hx⟩ : ∃ x, L[j]? = some x := ⟨_, List.getElem?_eq_getElem (by rw [HLL.out]; exact hlt)⟩
     have hcell : wr.cell? ⟨g, j, none⟩ = some (.int .i64 x) := by
      rw [hown.cellAt j (by omega)]
      simp [hx]
     have hxb := HL.out x (List.mem_of_getElem? hx)
     have HW := Lib.hid (qX8 (x := x) (by omega) (by omega))
     have hdr : L.drop j = x :: L.drop (j + 1) := by
      rw [List.drop_eq_getElem_cons (by rw [HLL.out]; exact hlt)]
      congr 1
      exact Option.some.inj ((List.getElem?_eq_getElem (by rw [HLL.out]; exact hlt)).symm.trans hx)
     rw [hdr] at hpl
     have HPL := Lib.hid (show qo7 (j + 1) (L.drop (j + 1)) (fun y => if y = x then some (j : Int) else f y) = places L from hpl)
     have zY1 : g ≠ b := by
      rintro rfl
      have hh := HIM.out
      rcases hown.2 with ⟨h, _⟩ | ⟨g', cp, cur, he, hg, hh2, _⟩
      ·cases h
      ·cases he
       obtain ⟨D, ⟨es, clock, hb', _⟩, _⟩ := hh
       rw [hb'] at hh2
       cases hh2
     have HOWN := Lib.hid hown
     have HB := Lib.hid hb
     clear hx hdr hpl hown hb hxb
     go_wp2_with (at_mapUpdate; refine qf0 HIM.out rfl _ _ _ 34 3 rfl Try.underlying34 Try.underlying3 (by unfold maxLen; omega) rfl x (.int .i64 (j : Int)) rfl rfl HW.out ?_; intro w7 jo2 hg7)
     rw [← zv5] at jo2
     have hb7 := HB.out.grown hg7 HB.out.size (fun k hk => by cases hk; exact HBB.out)
     have jo0 := HOWN.out.kept hg7 (.inr (by simp [Value.ownBlock]; exact zY1))
     clear hg7 hcell HIM
     go_wp2_with fail
     go_roundw
     case rel => exact ⟨j + 1, _, _, by rw [HLL.out]; omega, by go_num, by split <;> omega, jo2, hb7, jo0, HPL.out⟩
     case measure => (simp [intOf]; try omega)
    ·have hji : j = i * 2 := by omega
     subst hji
     rw [List.drop_of_length_le (by rw [HLL.out]; exact Nat.le_refl _)] at hpl
     have HPL := Lib.hid hpl
     clear hpl
     go_wp2_with fail
     go_ret
     exact ⟨b, s, rfl, by rw [HRF.out, ← HPL.out]; exact HIM.out, HBB.out, hb⟩
end Go.Proofs.Ytngkneknopenmaa.Hist
end
section
namespace Go.Proofs.Ytngkneknopenmaa.Hist
open Go Go.RowKit Go.Proofs.Ytngkneknopenmaa.qb8 Go.Proofs.Ytngkneknopenmaa.qj8
def zU (l : List Int) (x : Int) : Nat := l.findIdx (· == x)
def zG (l : List Int) (x : Int) : List Int := if x ∈ l then l else l ++ [x]
theorem qR3 {l : List Int} {x : Int} (h : x ∈ l) : zU l x < l.length := List.findIdx_lt_length_of_exists ⟨x, h, by simp⟩
theorem qO7 {l : List Int} {x : Int} (h : x ∉ l) : zU (l ++ [x]) x = l.length := by
 unfold zU
 rw [List.findIdx_append]
 have : ¬ l.findIdx (· == x) < l.length := fun hh => by
  have := List.findIdx_getElem (w := hh)
  simp at this
  exact h (this ▸ List.getElem_mem hh)
 rw [if_neg this]
 simp
theorem qX9 {l : List Int} {x y : Int} (h : x ∈ l) : zU (l ++ [y]) x = zU l x := by
 have hh := qR3 h
 unfold zU at hh ⊢
 rw [List.findIdx_append, if_pos hh]
def qm4 (first : Int) (l : List Int) : Int → Option Value := fun x => if x ∈ l then some (.int .i64 (first + (zU l x : Int))) else none
theorem jg9 (first : Int) (l : List Int) (x : Int) (h : x ∉ l) : qm4 first (l ++ [x]) = upd (qm4 first l) x (.int .i64 (first + (l.length : Int))) := by
 funext y
 unfold qm4 upd
 by_cases hy : y = x
 ·subst hy
  rw [if_pos (by simp), if_pos rfl, qO7 h]
 ·rw [if_neg hy]
  show _ = if y ∈ l then _ else none
  by_cases hl : y ∈ l
  ·rw [if_pos (by simp [hl]), if_pos hl, qX9 hl]
  ·rw [if_neg (by simp [hl, hy]), if_neg hl]
def NM (w : World) (p : Nat) (m : Option Nat) (first : Int) (l : List Int) : Prop :=
 w.heap[p]? = some (.cells #[.map m, .int .i64 first] 77 (0, 0)) ∧ (m = none → l = []) ∧ ∀ b, m = some b → IM Try.prog 3 w b (qm4 first l) l.length
def Trn (w w' : World) (S : Nat → Prop) : Prop := w'.os = w.os ∧ w'.tape = w.tape ∧ w'.output = w.output ∧ w.heap.size ≤ w'.heap.size ∧ ∀ k, k < w.heap.size → ¬ S k → w'.heap[k]? = w.heap[k]?
theorem Trn.qx4 {w w' : World} {row : Option Nat} (h : w.grownBy w' row) : Trn w w' (fun k => row = some k) :=
 ⟨h.os, h.tape, h.output, h.size, fun k hk hn => h.block k hk (fun e => hn e.symm)⟩
theorem Trn.of_below {w w' : World} {S : Nat → Prop} (h : Below w.heap.size w w') : Trn w w' S := ⟨h.os, h.tape, h.output, h.size, fun k hk _ => h.block k hk⟩
theorem Trn.trans {a b c : World} {S T : Nat → Prop} (h : Trn a b S) (k : Trn b c T) : Trn a c (fun x => S x ∨ T x) :=
 ⟨k.1.trans h.1, k.2.1.trans h.2.1, k.2.2.1.trans h.2.2.1, Nat.le_trans h.2.2.2.1 k.2.2.2.1, fun x hx hn => (k.2.2.2.2 x (by have := h.2.2.2.1; omega) (fun e => hn (.inr e))).trans (h.2.2.2.2 x hx (fun e => hn (.inl e)))⟩
theorem Trn.mono {a b : World} {S T : Nat → Prop} (h : Trn a b S) (k : ∀ x, x < a.heap.size → S x → T x) : Trn a b T :=
 ⟨h.1, h.2.1, h.2.2.1, h.2.2.2.1, fun x hx hn => h.2.2.2.2 x hx (fun e => hn (k x hx e))⟩
theorem Trn.size {a b : World} {S : Nat → Prop} (h : Trn a b S) : a.heap.size ≤ b.heap.size := h.2.2.2.1
theorem Trn.block {a b : World} {S : Nat → Prop} (h : Trn a b S) {k : Nat} (hk : k < a.heap.size) (hn : ¬ S k) : b.heap[k]? = a.heap[k]? := h.2.2.2.2 k hk hn
theorem Trn.below {w a b : World} {S : Nat → Prop} (hb : Below w.heap.size w a) (h : Trn a b S) (hS : ∀ k, S k → w.heap.size ≤ k) : Below w.heap.size w b := by
 refine ⟨h.1.trans hb.os, h.2.1.trans hb.tape, h.2.2.1.trans hb.output, Nat.le_trans hb.size h.size, fun k hk => (h.block (by have := hb.size; omega) (fun e => ?_)).trans (hb.block k hk)⟩
 have := hS k e
 omega
theorem look_nil (w : World) (x : Int) : (Instr.lookup 34 (.map none) (.int .i64 x) true).run Try.prog w = .ok (.tuple #[.int .i64 0, .bool false]) w := by
 have h1 : Instr.findNow (.int .i64) (.int .i64 x) ([] : List MapEntry) 0 = some none := rfl
 have hz : (zeroValue 3).run Try.prog w = .ok (.int .i64 0) w := by kernel_rfl
 have hk : MapKept.IsKey (.int .i64) (.int .i64 x) := by simp [MapKept.IsKey]
 simp [Instr.lookup, run_underlying Try.underlying34, MapKept.run_checkKey Try.underlying3 hk, MapKept.run_findKey Try.underlying3 h1, hz, Result.andThen]
theorem eq_nil (w : World) : (binOp BinOp.eql 34 (.map none) (.map none)).run Try.prog w = .ok (.bool true) w := by kernel_rfl
theorem zH3 (w : World) (b : Nat) : (binOp BinOp.eql 34 (.map (some b)) (.map none)).run Try.prog w = .ok (.bool false) w := by kernel_rfl
set_option maxHeartbeats 8000000 in
set_option maxRecDepth 100000 in
theorem qU2 (p : Nat) (m : Option Nat) (first : Int) (l : List Int) (x : Int) (hx : 0 ≤ x ∧ x ≤ 2147483647) (hf : 0 ≤ first ∧ first ≤ 1) (hl : l.length ≤ 5000) (hmp : m ≠ some p) (w : World) (hn : NM w p m first l) :
  Calls Try.prog 41 #[.pointer (some ⟨p, 0, none⟩), .int .i64 x] w fun e w' => e = .returned (.int .i64 (first + (zU (zG l x) x : Int))) ∧
   ∃ m', NM w' p m' first (zG l x) ∧ (m' = m ∨ ∃ b, m' = some b ∧ w.heap.size ≤ b) ∧ Trn w w' (fun k => k = p ∨ m = some k) := by
 obtain ⟨hp, hm0, hm1⟩ := hn
 have hmm := @run_makeMap Try.prog
 have c0 := Lib.cell_of_heap hp 0
 have c1 := Lib.cell_of_heap hp 1
 have f0 := Lib.frozen_of_heap hp 0
 simp only [List.getElem?_toArray, List.getElem?_cons_zero, List.getElem?_cons_succ] at c0 c1
 have HW := Lib.hid (qX8 (x := x) (by omega) (by omega))
 cases m with
 | none =>
  obtain rfl := hm0 rfl
  clear hm0 hm1
  have hpl := (Array.getElem?_eq_some_iff.1 hp).1
  have hln := look_nil w x
  have heq := eq_nil w
  go_enter Try.func41, Try.ntmps41
  go_wp2_with fail
  obtain ⟨b, hb⟩ : ∃ b, w.heap.size = b := ⟨_, rfl⟩
  have hpb : p < b := by omega
  have hsz4 : (w.setCell ⟨p, 0, none⟩ (.map (some b))).heap.size = b := by simp [hb]
  have hp4 := qb9 w p 0 _ _ _ (.map (some b)) hp
  simp only [List.setIfInBounds_toArray, List.set_cons_zero] at hp4
  have hbe := (Below.refl (w.setCell ⟨p, 0, none⟩ (.map (some b))).heap.size (w.setCell ⟨p, 0, none⟩ (.map (some b)))).alloc (Nat.le_refl _) (.map #[] 0)
  have hp5 := (hbe.block p (by rw [hsz4]; exact hpb)).trans hp4
  have qr0 : IM Try.prog 3 ((w.setCell ⟨p, 0, none⟩ (.map (some b))).alloc (.map #[] 0)) b (qm4 first []) 0 := by
   have := IM.made (w.setCell ⟨p, 0, none⟩ (.map (some b))) Try.prog 3
   rw [hsz4] at this
   exact this
  have ht5 := (Trn.qx4 (zV w p 0 (.map (some b)))).trans (Trn.of_below (S := fun _ => False) hbe)
  rw [hb]
  clear hmm hln heq c0 c1 f0 hbe hp4
  obtain ⟨W, hW⟩ : ∃ W, (w.setCell ⟨p, 0, none⟩ (.map (some b))).alloc (.map #[] 0) = W := ⟨_, rfl⟩
  rw [hW] at hp5 qr0 ht5 ⊢
  clear hW
  have c0 := Lib.cell_of_heap hp5 0
  have c1 := Lib.cell_of_heap hp5 1
  simp only [List.getElem?_toArray, List.getElem?_cons_zero, List.getElem?_cons_succ] at c0 c1
  have qG6 : IM Try.prog 3 W.drew b (qm4 first []) 0 := qr0.below ((Below.refl _ _).drew)
  have hln := qG6.len Try.underlying34
  obtain ⟨w6, hrun, jo2, hg7⟩ := qG6.store Try.underlying34 Try.underlying3 (by unfold maxLen; omega) HW.out (.int .i64 first)
  have hp7 := (hg7.block p (by rw [World.size_drew]; exact (Array.getElem?_eq_some_iff.1 hp5).1) (by intro e; injection e; omega)).trans hp5
  have ht7 := (ht5.trans (Trn.of_below (S := fun _ => False) (Below.refl _ W).drew)).trans (Trn.qx4 hg7)
  have zv6 : IM Try.prog 3 w6 b (qm4 first [x]) 1 := by
   have := jg9 first [] x (by simp)
   rw [List.nil_append] at this
   rw [this]
   simpa [qm4] using jo2
  go_region
  clear hrun hln qr0 qG6 jo2 hg7 ht5 c0 c1
  have c0 := Lib.cell_of_heap hp7 0
  simp only [List.getElem?_toArray, List.getElem?_cons_zero] at c0
  go_wp2_with (at_lookup; refine zB zv6 rfl _ _ 34 3 false rfl Try.underlying34 Try.underlying3 (.int .i64 0) (fun _ => by kernel_rfl) rfl x rfl HW.out (.int .i64 first) (by simp [qm4, zU]) ?_)
  go_ret
  have e1 : zG [] x = [x] := by simp [zG]
  have e2 : zU [x] x = 0 := by simp [zU]
  refine ⟨by rw [e1, e2]; simp, some b, ⟨hp7, by simp, fun c hc => by cases hc; rw [e1]; exact zv6⟩, .inr ⟨b, rfl, by omega⟩, ht7.mono ?_⟩
  rintro k hk (((e | e) | e) | e)
  ·injection e with e; exact .inl e.symm
  ·exact e.elim
  ·exact e.elim
  ·injection e with e; omega
 | some b =>
  have him := hm1 b rfl
  have HIM := Lib.hid him
  have hbp : b ≠ p := fun e => hmp (by rw [e])
  have heq := zH3 w b
  have hpl := (Array.getElem?_eq_some_iff.1 hp).1
  clear hm0 hm1 him
  by_cases hxl : x ∈ l
  ·have HV := Lib.hid (show (if true = true then (.tuple #[(qm4 first l x).getD (.int .i64 0), .bool (qm4 first l x).isSome] : Value) else (qm4 first l x).getD (.int .i64 0)) = .tuple #[.int .i64 (first + (zU l x : Int)), .bool true] by simp [qm4, hxl])
   have HV2 := Lib.hid (show (if false = true then (.tuple #[(qm4 first l x).getD (.int .i64 0), .bool (qm4 first l x).isSome] : Value) else (qm4 first l x).getD (.int .i64 0)) = .int .i64 (first + (zU l x : Int)) by simp [qm4, hxl])
   go_enter Try.func41, Try.ntmps41
   go_wp2_with (first
    | (at_lookup; refine zB HIM.out rfl _ _ 34 3 true rfl Try.underlying34 Try.underlying3 (.int .i64 0) (fun _ => by kernel_rfl) rfl x rfl HW.out _ HV.out ?_)
    | (at_lookup; refine zB HIM.out rfl _ _ 34 3 false rfl Try.underlying34 Try.underlying3 (.int .i64 0) (fun _ => by kernel_rfl) rfl x rfl HW.out _ HV2.out ?_))
   go_ret
   have e1 : zG l x = l := by simp [zG, hxl]
   exact ⟨by rw [e1]; rfl, some b, ⟨hp, by simp, fun c hc => by cases hc; rw [e1]; exact HIM.out⟩, .inl rfl, Trn.of_below (Below.refl _ _)⟩
  ·have HV := Lib.hid (show (if true = true then (.tuple #[(qm4 first l x).getD (.int .i64 0), .bool (qm4 first l x).isSome] : Value) else (qm4 first l x).getD (.int .i64 0)) = .tuple #[.int .i64 0, .bool false] by simp [qm4, hxl])
   have qG6 : IM Try.prog 3 w.drew b (qm4 first l) l.length := HIM.out.below ((Below.refl _ _).drew)
   have hln := qG6.len Try.underlying34
   obtain ⟨n, hnl⟩ : ∃ n, l.length = n := ⟨_, rfl⟩
   have HNL := Lib.hid hnl
   rw [hnl] at hln hl qG6
   obtain ⟨w6, hrun, jo2, hg7⟩ := qG6.store Try.underlying34 Try.underlying3 (by unfold maxLen; omega) HW.out (.int .i64 (first + (n : Int)))
   have hp7 := (hg7.block p (by rw [World.size_drew]; exact hpl) (by intro e; injection e; omega)).trans hp
   have ht7 := (Trn.of_below (S := fun _ => False) (Below.refl _ w).drew).trans (Trn.qx4 hg7)
   have e1 : zG l x = l ++ [x] := by simp [zG, hxl]
   have zv6 : IM Try.prog 3 w6 b (qm4 first (l ++ [x])) (l.length + 1) := by
    rw [jg9 first l x hxl, hnl]
    simpa [qm4, hxl] using jo2
   have hnv : qm4 first (l ++ [x]) x = some (.int .i64 (first + (n : Int))) := by
    rw [jg9 first l x hxl, hnl]
    unfold upd
    rw [if_pos rfl]
   have HIM8 := Lib.hid zv6
   have HNV := Lib.hid hnv
   clear qG6 jo2 zv6 hnl hnv
   go_enter Try.func41, Try.ntmps41
   go_wp2_with (at_lookup; refine zB HIM.out rfl _ _ 34 3 true rfl Try.underlying34 Try.underlying3 (.int .i64 0) (fun _ => by kernel_rfl) rfl x rfl HW.out _ HV.out ?_)
   go_region
   clear hrun hln c0 c1 hg7
   have c0 := Lib.cell_of_heap hp7 0
   simp only [List.getElem?_toArray, List.getElem?_cons_zero] at c0
   go_wp2_with (at_lookup; refine zB HIM8.out rfl _ _ 34 3 false rfl Try.underlying34 Try.underlying3 (.int .i64 0) (fun _ => by kernel_rfl) rfl x rfl HW.out (.int .i64 (first + (n : Int))) (by rw [HNV.out]; rfl) ?_)
   go_ret
   refine ⟨by rw [e1, qO7 hxl, HNL.out]; rfl, some b, ⟨hp7, by simp, fun c hc => by cases hc; rw [e1, List.length_append]; exact HIM8.out⟩, .inl rfl, ht7.mono ?_⟩
   rintro k hk (e | e)
   ·exact e.elim
   ·exact .inr e
end Go.Proofs.Ytngkneknopenmaa.Hist
end
section
namespace Go.Proofs.Ytngkneknopenmaa.Hist
open Go Go.RowKit Go.Proofs.Ytngkneknopenmaa.qb8 Go.Proofs.Ytngkneknopenmaa.qj8
def names (l : List Int) : List Int := l.foldl zG []
theorem qo8 (l : List Int) (x : Int) : names (l ++ [x]) = zG (names l) x := by simp [names, List.foldl_append]
theorem qG7 {l : List Int} {x y : Int} : y ∈ zG l x ↔ y ∈ l ∨ y = x := by
 unfold zG
 split
 ·rename_i h
  exact ⟨.inl, fun e => e.elim id (fun e => e ▸ h)⟩
 ·simp
theorem zp3 {l : List Int} : ∀ {acc : List Int} {y : Int}, y ∈ l.foldl zG acc ↔ y ∈ acc ∨ y ∈ l := by
 induction l with
 | nil => simp
 | cons x l ih =>
  intro acc y
  rw [List.foldl_cons, ih, qG7, List.mem_cons, or_assoc]
theorem qf9 {l : List Int} {y : Int} : y ∈ names l ↔ y ∈ l := by unfold names; rw [zp3]; simp
theorem zp4 {l : List Int} {x y : Int} (h : y ∈ l) : zU (zG l x) y = zU l y := by
 unfold zG
 split
 ·rfl
 ·exact qX9 h
theorem qR4 {r : List Int} : ∀ {l : List Int} {y : Int}, y ∈ l → zU (r.foldl zG l) y = zU l y := by
 induction r with
 | nil => intro l y _; rfl
 | cons x r ih =>
  intro l y h
  rw [List.foldl_cons, ih (qG7.2 (.inl h)), zp4 h]
theorem jh0 {l r : List Int} {y : Int} (h : y ∈ l) : zU (names (l ++ r)) y = zU (names l) y := by
 have := qR4 (r := r) (l := names l) (qf9.2 h)
 unfold names at this ⊢
 rw [List.foldl_append]
 exact this
theorem jE6 (l : List Int) (x : Int) : (zG l x).length ≤ l.length + 1 := by unfold zG; split <;> simp
theorem jE7 {l : List Int} : ∀ acc : List Int, (l.foldl zG acc).length ≤ acc.length + l.length := by
 induction l with
 | nil => intro acc; simp
 | cons x l ih =>
  intro acc
  have := ih (zG acc x)
  have := jE6 acc x
  simp only [List.foldl_cons, List.length_cons]
  omega
theorem qj5 (l : List Int) : (names l).length ≤ l.length := by have := jE7 (l := l) []; simpa [names] using this
def qk1 (ops : List O3) : List Int := ops.map (·.k)
def qf2 (ops : List O3) : List Int := (ops.filter fun o => decide (o.v ≠ 0)).map (·.v)
def jV (l : List T4) : List Int := l.flatMap fun t => qk1 t.ops
def zH (l : List T4) : List Int := l.flatMap fun t => qf2 t.ops
def zT (l : List T4) : List Int := l.map (·.s)
def qA5 (KK VV : List Int) (o : O3) : O3 := ⟨o.w, (zU KK o.k : Int), if o.v = 0 then 0 else 1 + (zU VV o.v : Int)⟩
def qU3 (SS KK VV : List Int) (R : Int → Int) (t : T4) : T4 := ⟨(zU SS t.s : Int), R t.b, R t.c, t.ops.map (qA5 KK VV)⟩
def qB8 (R : Int → Int) (l : List T4) : List T4 := l.map (qU3 (names (zT l)) (names (jV l)) (names (zH l)) R)
theorem jz9 (xs : List O3) (rest : List Value) : ∀ (i : Nat) (o : O3) (k : Int), xs[i]? = some o → (flat xs ++ rest).set (i * 3 + 1) (.int .i64 k) = flat (xs.set i { o with k := k }) ++ rest := by
 induction xs with
 | nil => intro i o k h; simp at h
 | cons x xs ih =>
  intro i o k h
  have e : flat (x :: xs) ++ rest = .bool x.w :: .int .i64 x.k :: .int .i64 x.v :: (flat xs ++ rest) := rfl
  rw [e]
  cases i with
  | zero => simp at h; subst h; rfl
  | succ i =>
   have e1 : (i + 1) * 3 + 1 = i * 3 + 1 + 1 + 1 + 1 := by omega
   rw [e1]
   simp only [List.set_cons_succ]
   rw [ih i o k (by simpa using h)]
   rfl
theorem jA0 (xs : List O3) (rest : List Value) : ∀ (i : Nat) (o : O3) (v : Int), xs[i]? = some o → (flat xs ++ rest).set (i * 3 + 2) (.int .i64 v) = flat (xs.set i { o with v := v }) ++ rest := by
 induction xs with
 | nil => intro i o k h; simp at h
 | cons x xs ih =>
  intro i o v h
  have e : flat (x :: xs) ++ rest = .bool x.w :: .int .i64 x.k :: .int .i64 x.v :: (flat xs ++ rest) := rfl
  rw [e]
  cases i with
  | zero => simp at h; subst h; rfl
  | succ i =>
   have e1 : (i + 1) * 3 + 2 = i * 3 + 2 + 1 + 1 + 1 := by omega
   rw [e1]
   simp only [List.set_cons_succ]
   rw [ih i o v (by simpa using h)]
   rfl
structure CS (w : World) (base B : Nat) (rest : List Value) (rows : List TR) (hs : List T4) (P : Nat → Nat) (M : Nat → Option Nat) (F : Nat → Int) (L : Nat → List Int) (bR sR : Nat) (fR : Int → Option Int) : Prop where
 row : w.heap[B]? = some (.cells (qg1 rows ++ rest).toArray 55 (0, 0))
 says : qd0 w base rows hs
 nm : ∀ c, c < 3 → NM w (P c) (M c) (F c) (L c)
 rk : IM Try.prog 3 w bR (jE5 fR) sR
 loB : base ≤ B
 loP : ∀ c, c < 3 → base ≤ P c
 loM : ∀ c k, c < 3 → M c = some k → base ≤ k
 apP : ∀ c d, c < 3 → d < 3 → c ≠ d → P c ≠ P d
 apM : ∀ c d k, c < 3 → d < 3 → c ≠ d → M c = some k → M d ≠ some k
 apR : ∀ c, c < 3 → M c ≠ some bR
variable {w w' : World} {base B bR sR : Nat} {rest : List Value} {rows : List TR} {hs : List T4} {P : Nat → Nat} {M : Nat → Option Nat} {F : Nat → Int} {L : Nat → List Int} {fR : Int → Option Int}
theorem qU4 {b s : Nat} {f : Int → Option Value} (h : IM Try.prog 3 w b f s) : ∃ es clock, w.heap[b]? = some (.map es clock) := by
 obtain ⟨D, ⟨es, clock, hb, _⟩, _⟩ := h
 exact ⟨es, clock, hb⟩
theorem NM.move {p : Nat} {m : Option Nat} {first : Int} {l : List Int} {S : Nat → Prop} (h : NM w p m first l) (ht : Trn w w' S) (hp : ¬ S p) (hm : ∀ k, m = some k → ¬ S k) : NM w' p m first l :=
 ⟨(ht.block (Array.getElem?_eq_some_iff.1 h.1).1 hp).trans h.1, h.2.1, fun b e => (h.2.2 b e).move (ht.block (h.2.2 b e).lt (hm b e))⟩
theorem qd0.trn {S : Nat → Prop} (hs' : qd0 w base rows hs) (ht : Trn w w' S) (hne : ∀ r ∈ rows, ¬ S r.g) : qd0 w' base rows hs :=
 ⟨hs'.1, fun i r t hr ht' => (hs'.2.1 i r t hr ht').move (ht.block (by obtain ⟨_, _, _, _, _, _, h⟩ := hs'.2.1 i r t hr ht'; exact h.lt) (hne r (List.mem_of_getElem? hr))), hs'.2.2⟩
theorem CS.jo8 (h : CS w base B rest rows hs P M F L bR sR fR) {r : TR} (hr : r ∈ rows) : ∃ cs, w.heap[r.g]? = some (.cells cs 51 (0, 0)) := by
 obtain ⟨i, hi⟩ := List.mem_iff_getElem?.1 hr
 have hil := (List.getElem?_eq_some_iff.1 hi).1
 obtain ⟨_, _, _, _, _, _, rst, g, _⟩ := h.says.2.1 i r _ hi (List.getElem?_eq_getElem (by rw [← h.says.1]; exact hil))
 exact ⟨_, g⟩
theorem CS.move {S : Nat → Prop} (h : CS w base B rest rows hs P M F L bR sR fR) (ht : Trn w w' S) (hB : ¬ S B) (hg : ∀ r ∈ rows, ¬ S r.g) (hp : ∀ c, c < 3 → ¬ S (P c) ∧ ∀ k, M c = some k → ¬ S k) (hR : ¬ S bR) : CS w' base B rest rows hs P M F L bR sR fR where
 row := (ht.block (Array.getElem?_eq_some_iff.1 h.row).1 hB).trans h.row
 says := h.says.trn ht hg
 nm := fun c hc => (h.nm c hc).move ht (hp c hc).1 (hp c hc).2
 rk := h.rk.move (ht.block h.rk.lt hR)
 loB := h.loB
 loP := h.loP
 loM := h.loM
 apP := h.apP
 apM := h.apM
 apR := h.apR
theorem CS.below (h : CS w base B rest rows hs P M F L bR sR fR) (hb : Below w.heap.size w w') : CS w' base B rest rows hs P M F L bR sR fR :=
 h.move (Trn.of_below (S := fun _ => False) hb) id (fun _ _ => id) (fun _ _ => ⟨id, fun _ _ => id⟩) id
theorem CS.name (h : CS w base B rest rows hs P M F L bR sR fR) (hb : base ≤ w.heap.size) (c : Nat) (hc : c < 3) (x : Int) {m' : Option Nat} (hn : NM w' (P c) m' (F c) (zG (L c) x)) (hm : m' = M c ∨ ∃ b, m' = some b ∧ w.heap.size ≤ b) (ht : Trn w w' (fun k => k = P c ∨ M c = some k)) :
  CS w' base B rest rows hs P (fun d => if d = c then m' else M d) F (fun d => if d = c then zG (L c) x else L d) bR sR fR := by
 obtain ⟨esR, clR, hR⟩ := qU4 h.rk
 have hmap : ∀ d k, d < 3 → M d = some k → ∃ es clock, w.heap[k]? = some (.map es clock) := fun d k hd e => qU4 ((h.nm d hd).2.2 k e)
 have hmlt : ∀ d k, d < 3 → M d = some k → k < w.heap.size := fun d k hd e => ((h.nm d hd).2.2 k e).lt
 have hB : ¬ (B = P c ∨ M c = some B) := by
  rintro (e | e)
  ·have h1 := h.row
   rw [e, (h.nm c hc).1] at h1
   simp at h1
  ·obtain ⟨es, cl, h2⟩ := hmap c B hc e
   have h1 := h.row
   rw [h2] at h1
   cases h1
 have hg : ∀ r ∈ rows, ¬ (r.g = P c ∨ M c = some r.g) := by
  intro r hr
  obtain ⟨cs, h1⟩ := h.jo8 hr
  rintro (e | e)
  ·rw [e, (h.nm c hc).1] at h1
   simp at h1
  ·obtain ⟨es, cl, h2⟩ := hmap c _ hc e
   rw [h2] at h1
   cases h1
 have hR2 : ¬ (bR = P c ∨ M c = some bR) := by
  rintro (e | e)
  ·rw [e, (h.nm c hc).1] at hR
   cases hR
  ·exact h.apR c hc e
 have hpm : ∀ d k, d < 3 → M d = some k → k ≠ P c := by
  intro d k hd e e2
  obtain ⟨es, cl, h2⟩ := hmap d k hd e
  rw [e2, (h.nm c hc).1] at h2
  cases h2
 constructor
 ·exact (ht.block (Array.getElem?_eq_some_iff.1 h.row).1 hB).trans h.row
 ·exact h.says.trn ht hg
 ·intro d hd
  by_cases e : d = c
  ·subst e
   simpa using hn
  ·simp only [if_neg e]
   refine (h.nm d hd).move ht ?_ ?_
   ·rintro (e2 | e2)
    ·exact h.apP d c hd hc e e2
    ·exact hpm c _ hc e2 (by
      obtain ⟨es, cl, h2⟩ := hmap c _ hc e2
      rw [(h.nm d hd).1] at h2
      cases h2)
   ·rintro k hk (e2 | e2)
    ·exact hpm d k hd hk e2
    ·exact h.apM d c k hd hc e hk e2
 ·exact h.rk.move (ht.block h.rk.lt hR2)
 ·exact h.loB
 ·exact h.loP
 ·intro d k hd e
  by_cases e2 : d = c
  ·simp only [if_pos e2] at e
   rcases hm with hm | ⟨b, hm, hlo⟩
   ·exact h.loM c k hc (by rw [← hm]; exact e)
   ·rw [hm] at e
    cases e
    omega
  ·simp only [if_neg e2] at e
   exact h.loM d k hd e
 ·exact h.apP
 ·intro d e k hd he hne
  by_cases h1 : d = c
  ·have h2 : e ≠ c := fun h2 => hne (h1.trans h2.symm)
   simp only [if_pos h1, if_neg h2]
   intro hk hk2
   rcases hm with hm | ⟨b, hm, hlo⟩
   ·rw [hm] at hk
    exact h.apM e c k he hc h2 hk2 hk
   ·rw [hm] at hk
    cases hk
    have := hmlt e _ he hk2
    omega
  ·simp only [if_neg h1]
   by_cases h2 : e = c
   ·simp only [if_pos h2]
    intro hk hk2
    rcases hm with hm | ⟨b, hm, hlo⟩
    ·rw [hm] at hk2
     exact h.apM d c k hd hc h1 hk hk2
    ·rw [hm] at hk2
     cases hk2
     have := hmlt d _ hd hk
     omega
   ·simp only [if_neg h2]
    exact h.apM d e k hd he hne
 ·intro d hd
  by_cases e2 : d = c
  ·simp only [if_pos e2]
   rcases hm with hm | ⟨b, hm, hlo⟩
   ·rw [hm]; exact h.apR c hc
   ·rw [hm]
    intro e
    cases e
    have := h.rk.lt
    omega
  ·simp only [if_neg e2]
   exact h.apR d hd
theorem CS.sep (h : CS w base B rest rows hs P M F L bR sR fR) : (∀ r ∈ rows, r.g ≠ B) ∧ (∀ c, c < 3 → P c ≠ B ∧ ∀ k, M c = some k → k ≠ B) ∧ bR ≠ B ∧ ∀ r ∈ rows, (∀ c, c < 3 → P c ≠ r.g ∧ ∀ k, M c = some k → k ≠ r.g) ∧ bR ≠ r.g := by
 have hmap : ∀ d k, d < 3 → M d = some k → ∃ es clock, w.heap[k]? = some (.map es clock) := fun d k hd e => qU4 ((h.nm d hd).2.2 k e)
 obtain ⟨esR, clR, hR⟩ := qU4 h.rk
 have hrow := h.row
 refine ⟨fun r hr e => ?_, fun c hc => ⟨fun e => ?_, fun k hk e => ?_⟩, fun e => ?_, fun r hr => ⟨fun c hc => ⟨fun e => ?_, fun k hk e => ?_⟩, fun e => ?_⟩⟩
 ·obtain ⟨cs, h1⟩ := h.jo8 hr
  rw [e, hrow] at h1
  simp at h1
 ·have h1 := (h.nm c hc).1
  rw [e, hrow] at h1
  simp at h1
 ·obtain ⟨es, cl, h1⟩ := hmap c k hc hk
  rw [e, hrow] at h1
  cases h1
 ·rw [e, hrow] at hR
  cases hR
 ·obtain ⟨cs, h1⟩ := h.jo8 hr
  have h2 := (h.nm c hc).1
  rw [e, h1] at h2
  simp at h2
 ·obtain ⟨cs, h1⟩ := h.jo8 hr
  obtain ⟨es, cl, h2⟩ := hmap c k hc hk
  rw [e, h1] at h2
  cases h2
 ·obtain ⟨cs, h1⟩ := h.jo8 hr
  rw [e, h1] at hR
  cases hR
theorem zp5 {l : List TR} {i : Nat} {r r' : TR} (h : l[i]? = some r) (e : r'.g = r.g) : (l.set i r').map (·.g) = l.map (·.g) := by
 rw [List.map_set, e]
 refine List.ext_getElem? fun j => ?_
 rw [List.getElem?_set]
 split
 ·rename_i hj
  subst hj
  obtain ⟨hi, hl⟩ := List.getElem?_eq_some_iff.1 h
  simp [hi, hl]
 ·rfl
def jE8 (w : World) (B i : Nat) (s b c : Int) : World := ((w.setCell ⟨B, i * 4, none⟩ (.int .i64 s)).setCell ⟨B, i * 4 + 1, none⟩ (.int .i64 b)).setCell ⟨B, i * 4 + 2, none⟩ (.int .i64 c)
theorem qY0 (w : World) (B i : Nat) (s b c : Int) : w.grownBy (jE8 w B i s b c) (some B) :=
 World.grownBy.trans (World.grownBy.trans (zV _ _ _ _) (zV _ _ _ _)) (zV _ _ _ _)
theorem CS.zY2 (h : CS w base B rest rows hs P M F L bR sR fR) {i : Nat} {r : TR} {t : T4} (hr : rows[i]? = some r) (ht : hs[i]? = some t) (s b c : Int) :
  CS (jE8 w B i s b c) base B rest (rows.set i { r with s := s, b := b, c := c }) (hs.set i { t with s := s, b := b, c := c }) P M F L bR sR fR := by
 have hg := Trn.qx4 (qY0 w B i s b c)
 obtain ⟨a1, a2, a3, a4⟩ := h.sep
 have ho : CS (jE8 w B i s b c) base B rest rows hs P M F L bR sR fR ∨ True := .inr trivial
 constructor
 ·unfold jE8
  rw [qb9 _ _ _ _ _ _ _ (qb9 _ _ _ _ _ _ _ (qb9 _ _ _ _ _ _ _ h.row)), ← jz8 rows rest i r s b c hr]
  simp
 ·have hs1 := h.says.trn hg (fun x hx e => a1 x hx (by injection e with e; exact e.symm))
  refine ⟨by simp [hs1.1], fun j x y hx hy => ?_, by rw [zp5 (r' := { r with s := s, b := b, c := c }) hr rfl]; exact hs1.2.2⟩
  rw [List.getElem?_set] at hx hy
  by_cases hj : i = j
  ·subst hj
   rw [if_pos rfl, if_pos (List.getElem?_eq_some_iff.1 hr).1] at hx
   rw [if_pos rfl, if_pos (List.getElem?_eq_some_iff.1 ht).1] at hy
   cases hx
   cases hy
   obtain ⟨b1, b2, b3, b4, b5, b6, b7⟩ := hs1.2.1 i r t hr ht
   exact ⟨rfl, rfl, rfl, b4, b5, b6, b7⟩
  ·rw [if_neg hj] at hx hy
   exact hs1.2.1 j x y hx hy
 ·exact fun c hc => (h.nm c hc).move hg (fun e => (a2 c hc).1 (by injection e with e; exact e.symm)) (fun k hk e => (a2 c hc).2 k hk (by injection e with e; exact e.symm))
 ·exact h.rk.move (hg.block h.rk.lt (fun e => a3 (by injection e with e; exact e.symm)))
 ·exact h.loB
 ·exact h.loP
 ·exact h.loM
 ·exact h.apP
 ·exact h.apM
 ·exact h.apR
theorem CS.jO9 (h : CS w base B rest rows hs P M F L bR sR fR) {i a : Nat} {v : Value} {r : TR} {t : T4} {ops' : List O3} (hr : rows[i]? = some r) (ht : hs[i]? = some t) (hl : ops'.length = t.ops.length)
  (hf : ∀ rst, (flat t.ops ++ rst).set a v = flat ops' ++ rst) : CS (w.setCell ⟨r.g, a, none⟩ v) base B rest rows (hs.set i { t with ops := ops' }) P M F L bR sR fR := by
 have hg := Trn.qx4 (zV w r.g a v)
 have hrm := List.mem_of_getElem? hr
 obtain ⟨a1, a2, a3, a4⟩ := h.sep
 obtain ⟨c1, c2⟩ := a4 r hrm
 constructor
 ·exact (hg.block (Array.getElem?_eq_some_iff.1 h.row).1 (fun e => a1 r hrm (by injection e))).trans h.row
 ·refine ⟨by simp [h.says.1], fun k x y hx hy => ?_, h.says.2.2⟩
  rw [List.getElem?_set] at hy
  by_cases hk : i = k
  ·subst hk
   rw [if_pos rfl, if_pos (List.getElem?_eq_some_iff.1 ht).1] at hy
   cases hy
   rw [hr] at hx
   cases hx
   obtain ⟨b1, b2, b3, b4, b5, b6, rst, b7, b8, b9⟩ := h.says.2.1 i r t hr ht
   refine ⟨b1, b2, b3, by rw [b4]; exact hl.symm, b5, b6, rst, ?_, by rw [← hf rst, List.length_set]; exact b8, b9⟩
   have h7 : w.heap[r.g]? = some (.cells (flat t.ops ++ rst).toArray 51 (0, 0)) := b7
   unfold RW
   rw [qb9 _ _ _ _ _ _ _ h7, ← hf rst]
   simp
  ·rw [if_neg hk] at hy
   have hne : x.g ≠ r.g := by
    intro e
    have hnd := List.pairwise_iff_getElem.1 h.says.2.2
    obtain ⟨hkl, hkx⟩ := List.getElem?_eq_some_iff.1 hx
    obtain ⟨hil, hir⟩ := List.getElem?_eq_some_iff.1 hr
    rcases Nat.lt_or_gt_of_ne hk with hlt | hlt
    ·exact hnd i k (by simpa using hil) (by simpa using hkl) hlt (by simp [hkx, hir, e])
    ·exact hnd k i (by simpa using hkl) (by simpa using hil) hlt (by simp [hkx, hir, e])
   exact (h.says.2.1 k x y hx hy).move (hg.block (by obtain ⟨_, _, _, _, _, _, g⟩ := h.says.2.1 k x y hx hy; exact g.lt) (fun e => hne (by injection e with e; exact e.symm)))
 ·exact fun c hc => (h.nm c hc).move hg (fun e => (c1 c hc).1 (by injection e with e; exact e.symm)) (fun k hk e => (c1 c hc).2 k hk (by injection e with e; exact e.symm))
 ·exact h.rk.move (hg.block h.rk.lt (fun e => c2 (by injection e with e; exact e.symm)))
 ·exact h.loB
 ·exact h.loP
 ·exact h.loM
 ·exact h.apP
 ·exact h.apM
 ·exact h.apR
end Go.Proofs.Ytngkneknopenmaa.Hist
end
section
namespace Go.Proofs.Ytngkneknopenmaa.Hist
open Go Go.RowKit Go.Proofs.Ytngkneknopenmaa.qb8
def jN (l : List Int) (x : Int) : Nat := l.countP fun y => decide (y < x)
theorem qO8 : ∀ (l : List Int) (i : Nat) (f : Int → Option Int) (x : Int), x ∉ l → qo7 i l f x = f x
 | [], _, _, _, _ => rfl
 | y :: l, i, f, x, h => by
  simp only [List.mem_cons, not_or] at h
  unfold qo7
  rw [qO8 l (i + 1) _ x h.2, if_neg h.1]
theorem qD5 : ∀ (l : List Int) (i : Nat) (f : Int → Option Int) (x : Int), l.Pairwise (· < ·) → x ∈ l → qo7 i l f x = some ((i + jN l x : Nat) : Int)
 | [], _, _, _, _, h => by cases h
 | y :: l, i, f, x, hp, h => by
  obtain ⟨h1, h2⟩ := List.pairwise_cons.1 hp
  unfold qo7
  by_cases hx : x ∈ l
  ·rw [qD5 l (i + 1) _ x h2 hx]
   have := h1 x hx
   unfold jN
   rw [List.countP_cons, if_pos (by simpa using this)]
   congr 1
   omega
  ·have hxy : x = y := by
    rcases List.mem_cons.1 h with e | e
    ·exact e
    ·exact absurd e hx
   subst hxy
   rw [qO8 l _ _ x hx, if_pos rfl]
   have h0 : jN (x :: l) x = 0 := by
    unfold jN
    rw [List.countP_eq_zero]
    intro z hz
    simp only [decide_eq_true_eq]
    rcases List.mem_cons.1 hz with e | e
    ·omega
    ·have := h1 z e
     omega
   rw [h0]
   rfl
theorem jE9 (l : List Int) (hn : l.Nodup) : (qB7 l).Pairwise (· < ·) := by
 have hs : (qB7 l).Pairwise fun x y => decide (x ≤ y) = true := List.pairwise_mergeSort (fun a b c h1 h2 => by simp at *; omega) (fun a b => by simp; omega) l
 have hn2 : (qB7 l).Nodup := (List.mergeSort_perm l _).nodup_iff.2 hn
 have := hs.and hn2
 exact this.imp fun ⟨h1, h2⟩ => by simp at h1; omega
theorem jP0 {h : List T4} (hn : (j4 h).Nodup) {x : Int} (hx : x ∈ j4 h) : qw2 h x = some (jN (j4 h) x : Int) := by
 unfold qw2 places
 rw [qD5 _ 0 _ x (jE9 _ hn) ((List.mergeSort_perm _ _).mem_iff.2 hx), Nat.zero_add]
 have := (List.mergeSort_perm (j4 h) fun x y => decide (x ≤ y)).countP_eq (fun y => decide (y < x))
 unfold jN qB7
 rw [this]
theorem jo9 : ∀ {h : List T4}, (∀ t ∈ h, qd7 t = true) → h.Pairwise qt5 → (j4 h).Nodup
 | [], _, _ => by simp [j4]
 | t :: h, hr, hp => by
  obtain ⟨h1, h2⟩ := List.pairwise_cons.1 hp
  have e : j4 (t :: h) = [t.b, t.c] ++ j4 h := rfl
  have ih := jo9 (fun u hu => hr u (by simp [hu])) h2
  have hlt := jo3 (hr t (by simp))
  rw [e, List.nodup_append]
  refine ⟨by simp; omega, ih, fun a ha b hb => ?_⟩
  unfold j4 at hb
  rw [List.mem_flatMap] at hb
  obtain ⟨u, hu, hb⟩ := hb
  have hpu := h1 u hu
  simp at ha hb
  rcases ha with rfl | rfl <;> rcases hb with rfl | rfl
  ·exact hpu.1
  ·exact hpu.2.1
  ·exact hpu.2.2.1
  ·exact hpu.2.2.2.1
theorem qd9 {h : List T4} {t : T4} (ht : t ∈ h) : t.b ∈ j4 h ∧ t.c ∈ j4 h := by
 unfold j4
 rw [List.mem_flatMap, List.mem_flatMap]
 exact ⟨⟨t, ht, by simp⟩, ⟨t, ht, by simp⟩⟩
theorem qr2 {l l' : List T4} (hp : l.Perm l') (h1 : l.Pairwise fun x y => x.b ≤ y.b) (h2 : l'.Pairwise fun x y => x.b ≤ y.b) (hd : ∀ x ∈ l, ∀ y ∈ l, x.b = y.b → x = y) : l = l' :=
 List.Perm.eq_of_pairwise (fun a b ha hb h1 h2 => hd a ha b (hp.mem_iff.2 hb) (by omega)) h1 h2 hp
def jw9 (t : T4) : List T4 → List T4
 | [] => [t]
 | u :: r => if t.b ≤ u.b then t :: u :: r else u :: jw9 t r
def qc0 : List T4 → List T4
 | [] => []
 | t :: r => jw9 t (qc0 r)
theorem jh1 (t : T4) : ∀ l, (jw9 t l).Perm (t :: l)
 | [] => List.Perm.refl _
 | u :: r => by
  unfold jw9
  split
  ·exact List.Perm.refl _
  ·exact ((jh1 t r).cons u).trans (List.Perm.swap t u r)
theorem zP : ∀ l, (qc0 l).Perm l
 | [] => List.Perm.refl _
 | t :: r => (jh1 t (qc0 r)).trans ((zP r).cons t)
theorem jj3 (t : T4) : ∀ l : List T4, l.Pairwise (fun x y => x.b ≤ y.b) → (jw9 t l).Pairwise (fun x y => x.b ≤ y.b)
 | [], _ => by simp [jw9]
 | u :: r, h => by
  obtain ⟨h1, h2⟩ := List.pairwise_cons.1 h
  unfold jw9
  split
  ·rename_i hle
   rw [List.pairwise_cons]
   refine ⟨fun x hx => ?_, h⟩
   rcases List.mem_cons.1 hx with rfl | hx
   ·exact hle
   ·exact Int.le_trans hle (h1 x hx)
  ·rename_i hle
   rw [List.pairwise_cons]
   refine ⟨fun x hx => ?_, jj3 t r h2⟩
   rcases List.mem_cons.1 ((jh1 t r).mem_iff.1 hx) with rfl | hx
   ·omega
   ·exact h1 x hx
theorem qh1 : ∀ l : List T4, (qc0 l).Pairwise (fun x y => x.b ≤ y.b)
 | [] => by simp [qc0]
 | t :: r => jj3 t _ (qh1 r)
theorem qI4 {h : List T4} (hm : qy8 h) : ∀ x ∈ h, ∀ y ∈ h, x.b = y.b → x = y := by
 intro x hx y hy e
 obtain ⟨i, hi⟩ := List.mem_iff_getElem?.1 hx
 obtain ⟨j, hj⟩ := List.mem_iff_getElem?.1 hy
 obtain ⟨hil, rfl⟩ := List.getElem?_eq_some_iff.1 hi
 obtain ⟨hjl, rfl⟩ := List.getElem?_eq_some_iff.1 hj
 have hp := List.pairwise_iff_getElem.1 hm.2.1
 rcases Nat.lt_trichotomy i j with hlt | heq | hgt
 ·exact absurd e (hp i j hil hjl hlt).1
 ·subst heq; rfl
 ·exact absurd e.symm (hp j i hjl hil hgt).1
def qt0 (h : List T4) : Int → Int := fun x => (jN (j4 h) x : Int)
def zJ (h : List T4) : List T4 := qB8 (qt0 h) (qc0 h)
def qt6 (h : List T4) : Int → Int := fun x => (qw2 h x).getD 0
theorem jP1 {h : List T4} (hm : qy8 h) {x : Int} (hx : x ∈ j4 h) : qt6 h x = qt0 h x := by
 unfold qt6 qt0
 rw [jP0 (jo9 hm.1 hm.2.1) hx]
 rfl
theorem jF0 {h l : List T4} (hm : qy8 h) (hp : l.Perm h) (hs : l.Pairwise fun x y => x.b ≤ y.b) : qB8 (qt6 h) l = zJ h := by
 have hl : l = qc0 h := qr2 (hp.trans (zP h).symm) hs (qh1 h) (fun x hx y hy e => qI4 hm x (hp.mem_iff.1 hx) y (hp.mem_iff.1 hy) e)
 subst hl
 unfold zJ qB8
 refine List.map_congr_left fun t ht => ?_
 have ht2 := (zP h).mem_iff.1 ht
 obtain ⟨m1, m2⟩ := qd9 ht2
 unfold qU3
 rw [jP1 hm m1, jP1 hm m2]
end Go.Proofs.Ytngkneknopenmaa.Hist
end
section
namespace Go.Proofs.Ytngkneknopenmaa.Hist
open Go Go.RowKit Go.Proofs.Ytngkneknopenmaa.qb8
structure Ren where
 S : Int → Int
 K : Int → Int
 V : Int → Int
 R : Int → Int
def qr3 (ρ : Ren) (o : O3) : O3 := ⟨o.w, ρ.K o.k, if o.v = 0 then 0 else ρ.V o.v⟩
def qm5 (ρ : Ren) (t : T4) : T4 := ⟨ρ.S t.s, ρ.R t.b, ρ.R t.c, t.ops.map (qr3 ρ)⟩
def jP2 (f : Int → Int) (l : List Int) : Prop := ∀ x ∈ l, ∀ y ∈ l, f x = f y → x = y
structure jp0 (ρ : Ren) (h : List T4) : Prop where
 s : jP2 ρ.S (zT h)
 k : jP2 ρ.K (jV h)
 v : jP2 ρ.V (zH h)
 z : ∀ x ∈ zH h, ρ.V x ≠ 0
 r : ∀ x ∈ j4 h, ∀ y ∈ j4 h, x < y → ρ.R x < ρ.R y
theorem qm9 {h : List T4} {x : Int} : x ∈ zT h ↔ ∃ t ∈ h, t.s = x := by unfold zT; rw [List.mem_map]
theorem qw3 {h : List T4} {x : Int} : x ∈ jV h ↔ ∃ t ∈ h, ∃ o ∈ t.ops, o.k = x := by
 unfold jV qk1
 rw [List.mem_flatMap]
 constructor
 ·rintro ⟨t, ht, hx⟩; obtain ⟨o, ho, e⟩ := List.mem_map.1 hx; exact ⟨t, ht, o, ho, e⟩
 ·rintro ⟨t, ht, o, ho, e⟩; exact ⟨t, ht, List.mem_map.2 ⟨o, ho, e⟩⟩
theorem qG8 {ops : List O3} {x : Int} : x ∈ qf2 ops ↔ ∃ o ∈ ops, o.v ≠ 0 ∧ o.v = x := by
 unfold qf2
 rw [List.mem_map]
 constructor
 ·rintro ⟨o, ho, e⟩
  rw [List.mem_filter] at ho
  exact ⟨o, ho.1, of_decide_eq_true ho.2, e⟩
 ·rintro ⟨o, ho, hn, e⟩; exact ⟨o, List.mem_filter.2 ⟨ho, decide_eq_true hn⟩, e⟩
theorem qn0 {h : List T4} {x : Int} : x ∈ zH h ↔ ∃ t ∈ h, ∃ o ∈ t.ops, o.v ≠ 0 ∧ o.v = x := by
 unfold zH
 rw [List.mem_flatMap]
 constructor
 ·rintro ⟨t, ht, hx⟩; exact ⟨t, ht, qG8.1 hx⟩
 ·rintro ⟨t, ht, hx⟩; exact ⟨t, ht, qG8.2 hx⟩
theorem qs4 {h : List T4} {x : Int} : x ∈ j4 h ↔ ∃ t ∈ h, t.b = x ∨ t.c = x := by
 unfold j4
 rw [List.mem_flatMap]
 constructor
 ·rintro ⟨t, ht, hx⟩
  simp at hx
  exact ⟨t, ht, hx.imp Eq.symm Eq.symm⟩
 ·rintro ⟨t, ht, hx⟩
  exact ⟨t, ht, by simp; exact hx.imp Eq.symm Eq.symm⟩
theorem jp0.perm {ρ : Ren} {h h' : List T4} (k : jp0 ρ h) (hp : h'.Perm h) : jp0 ρ h' := by
 have e1 : ∀ x, x ∈ zT h' → x ∈ zT h := fun x hx => by
  obtain ⟨t, ht, e⟩ := qm9.1 hx; exact qm9.2 ⟨t, hp.mem_iff.1 ht, e⟩
 have e2 : ∀ x, x ∈ jV h' → x ∈ jV h := fun x hx => by
  obtain ⟨t, ht, e⟩ := qw3.1 hx; exact qw3.2 ⟨t, hp.mem_iff.1 ht, e⟩
 have e3 : ∀ x, x ∈ zH h' → x ∈ zH h := fun x hx => by
  obtain ⟨t, ht, e⟩ := qn0.1 hx; exact qn0.2 ⟨t, hp.mem_iff.1 ht, e⟩
 have e4 : ∀ x, x ∈ j4 h' → x ∈ j4 h := fun x hx => by
  obtain ⟨t, ht, e⟩ := qs4.1 hx; exact qs4.2 ⟨t, hp.mem_iff.1 ht, e⟩
 exact ⟨fun x hx y hy => k.s x (e1 x hx) y (e1 y hy), fun x hx y hy => k.k x (e2 x hx) y (e2 y hy), fun x hx y hy => k.v x (e3 x hx) y (e3 y hy), fun x hx => k.z x (e3 x hx), fun x hx y hy => k.r x (e4 x hx) y (e4 y hy)⟩
theorem zp6 (ρ : Ren) (h : List T4) : zT (h.map (qm5 ρ)) = (zT h).map ρ.S := by
 unfold zT; rw [List.map_map, List.map_map]; rfl
theorem zp7 (ρ : Ren) (h : List T4) : jV (h.map (qm5 ρ)) = (jV h).map ρ.K := by
 unfold jV
 rw [List.flatMap_map, List.map_flatMap]
 congr 1
 funext t
 show qk1 (t.ops.map (qr3 ρ)) = _
 unfold qk1
 rw [List.map_map, List.map_map]; rfl
theorem jA1 (ρ : Ren) : ∀ ops : List O3, (∀ x ∈ qf2 ops, ρ.V x ≠ 0) → qf2 (ops.map (qr3 ρ)) = (qf2 ops).map ρ.V
 | [], _ => rfl
 | o :: ops, hz => by
  have ih := jA1 ρ ops (fun x hx => hz x (by
   obtain ⟨u, hu, a, b⟩ := qG8.1 hx; exact qG8.2 ⟨u, List.mem_cons_of_mem _ hu, a, b⟩))
  unfold qf2 at ih ⊢
  by_cases h0 : o.v = 0
  ·have : (qr3 ρ o).v = 0 := by simp [qr3, h0]
   rw [List.map_cons, List.filter_cons_of_neg (by simp [this]), List.filter_cons_of_neg (by simp [h0]), ih]
  ·have e : (qr3 ρ o).v = ρ.V o.v := by simp [qr3, h0]
   have hn : ρ.V o.v ≠ 0 := hz o.v (qG8.2 ⟨o, List.mem_cons_self, h0, rfl⟩)
   rw [List.map_cons, List.filter_cons_of_pos (by simp [e, hn]), List.filter_cons_of_pos (by simp [h0]), List.map_cons, List.map_cons, List.map_cons, ih, e]
theorem jA2 (ρ : Ren) : ∀ h : List T4, (∀ x ∈ zH h, ρ.V x ≠ 0) → zH (h.map (qm5 ρ)) = (zH h).map ρ.V
 | [], _ => rfl
 | t :: h, hz => by
  have ih := jA2 ρ h (fun x hx => hz x (by
   obtain ⟨u, hu, a⟩ := qn0.1 hx; exact qn0.2 ⟨u, List.mem_cons_of_mem _ hu, a⟩))
  have e1 : zH ((t :: h).map (qm5 ρ)) = qf2 (t.ops.map (qr3 ρ)) ++ zH (h.map (qm5 ρ)) := rfl
  have e2 : zH (t :: h) = qf2 t.ops ++ zH h := rfl
  rw [e1, e2, ih, List.map_append, jA1 ρ t.ops (fun x hx => hz x (by rw [e2]; exact List.mem_append_left _ hx))]
theorem jP3 (ρ : Ren) (h : List T4) : j4 (h.map (qm5 ρ)) = (j4 h).map ρ.R := by
 unfold j4
 rw [List.flatMap_map, List.map_flatMap]
 rfl
theorem zp8 {f : Int → Int} {l : List Int} {x : Int} (hi : ∀ y ∈ l, f y = f x → y = x) : zG (l.map f) (f x) = (zG l x).map f := by
 unfold zG
 by_cases h : x ∈ l
 ·rw [if_pos h, if_pos (List.mem_map.2 ⟨x, h, rfl⟩)]
 ·rw [if_neg h, if_neg (fun hm => by
   obtain ⟨y, hy, e⟩ := List.mem_map.1 hm
   exact h (hi y hy e ▸ hy)), List.map_append]
  rfl
theorem foldl_map {f : Int → Int} : ∀ (l acc : List Int), jP2 f (acc ++ l) → (l.map f).foldl zG (acc.map f) = (l.foldl zG acc).map f
 | [], _, _ => rfl
 | x :: l, acc, hi => by
  rw [List.map_cons, List.foldl_cons, List.foldl_cons, zp8 (fun y hy e => hi y (by simp [hy]) x (by simp) e)]
  refine foldl_map l (zG acc x) (fun y hy z hz e => hi y ?_ z ?_ e)
  ·rcases List.mem_append.1 hy with h | h
   ·rcases qG7.1 h with h | rfl <;> simp [*]
   ·simp [h]
  ·rcases List.mem_append.1 hz with h | h
   ·rcases qG7.1 h with h | rfl <;> simp [*]
   ·simp [h]
theorem zp9 {f : Int → Int} {l : List Int} (hi : jP2 f l) : names (l.map f) = (names l).map f := by
 have := foldl_map (f := f) l [] (by simpa using hi)
 exact this
theorem jP4 {f : Int → Int} {x : Int} : ∀ l : List Int, (∀ y ∈ l, f y = f x → y = x) → zU (l.map f) (f x) = zU l x
 | [], _ => rfl
 | y :: l, hi => by
  have ih := jP4 (f := f) (x := x) l (fun z hz => hi z (by simp [hz]))
  unfold zU at ih ⊢
  rw [List.map_cons, List.findIdx_cons, List.findIdx_cons, ih]
  by_cases e : y = x
  ·subst e; simp
  ·have : ¬ f y = f x := fun h => e (hi y (by simp) h)
   have a : (f y == f x) = false := by simpa using this
   have b : (y == x) = false := by simpa using e
   rw [a, b]
theorem jF1 {f : Int → Int} {l : List Int} (hi : jP2 f l) {x : Int} (hx : x ∈ l) : zU (names (l.map f)) (f x) = zU (names l) x := by
 rw [zp9 hi]
 exact jP4 _ (fun y hy e => hi y (qf9.1 hy) x hx e)
theorem jP5 {R : Int → Int} {l : List Int} (hr : ∀ x ∈ l, ∀ y ∈ l, x < y → R x < R y) {x y : Int} (hx : x ∈ l) (hy : y ∈ l) : R x < R y ↔ x < y := by
 constructor
 ·intro h
  rcases Int.lt_trichotomy x y with k | k | k
  ·exact k
  ·subst k; omega
  ·have := hr y hy x hx k; omega
 ·exact hr x hx y hy
theorem jF2 {R : Int → Int} {l : List Int} (hr : ∀ x ∈ l, ∀ y ∈ l, x < y → R x < R y) {x y : Int} (hx : x ∈ l) (hy : y ∈ l) : R x ≤ R y ↔ x ≤ y := by
 have := jP5 hr hy hx
 omega
theorem jp1 {R : Int → Int} {l : List Int} (hr : ∀ x ∈ l, ∀ y ∈ l, x < y → R x < R y) {x : Int} (hx : x ∈ l) : jN (l.map R) (R x) = jN l x := by
 unfold jN
 rw [List.countP_map]
 refine List.countP_congr fun y hy => ?_
 simp only [Function.comp, decide_eq_true_eq]
 exact jP5 hr hy hx
theorem jP6 {ρ : Ren} {t : T4} : ∀ l : List T4, (∀ u ∈ l, ρ.R t.b ≤ ρ.R u.b ↔ t.b ≤ u.b) → jw9 (qm5 ρ t) (l.map (qm5 ρ)) = (jw9 t l).map (qm5 ρ)
 | [], _ => rfl
 | u :: l, h => by
  have ih := jP6 (ρ := ρ) (t := t) l (fun v hv => h v (by simp [hv]))
  rw [List.map_cons]
  unfold jw9
  by_cases k : t.b ≤ u.b
  ·rw [if_pos k, if_pos (show (qm5 ρ t).b ≤ (qm5 ρ u).b from (h u (by simp)).2 k)]; rfl
  ·rw [if_neg k, if_neg (show ¬ (qm5 ρ t).b ≤ (qm5 ρ u).b from fun e => k ((h u (by simp)).1 e)), ih]; rfl
theorem jA3 {ρ : Ren} : ∀ l : List T4, (∀ t ∈ l, ∀ u ∈ l, ρ.R t.b ≤ ρ.R u.b ↔ t.b ≤ u.b) → qc0 (l.map (qm5 ρ)) = (qc0 l).map (qm5 ρ)
 | [], _ => rfl
 | t :: l, h => by
  have ih := jA3 (ρ := ρ) l (fun a ha b hb => h a (by simp [ha]) b (by simp [hb]))
  rw [List.map_cons]
  unfold qc0
  rw [ih]
  exact jP6 _ (fun u hu => h t (by simp) u (by simp [(zP l).mem_iff.1 hu]))
theorem jA4 {ρ : Ren} {h : List T4} (k : jp0 ρ h) : zJ (h.map (qm5 ρ)) = zJ h := by
 have k2 := k.perm (zP h)
 have hs : qc0 (h.map (qm5 ρ)) = (qc0 h).map (qm5 ρ) :=
  jA3 h fun t ht u hu => jF2 k.r (qd9 ht).1 (qd9 hu).1
 unfold zJ
 rw [hs]
 unfold qB8
 rw [List.map_map]
 refine List.map_congr_left fun t ht => ?_
 have ht2 := (zP h).mem_iff.1 ht
 obtain ⟨m1, m2⟩ := qd9 ht2
 have hc : ∀ x ∈ j4 h, qt0 (h.map (qm5 ρ)) (ρ.R x) = qt0 h x := fun x hx => by
  unfold qt0; rw [jP3, jp1 k.r hx]
 show qU3 _ _ _ _ (qm5 ρ t) = qU3 _ _ _ _ t
 rw [zp6, zp7, jA2 ρ _ k2.z]
 have e1 : ∀ SS KK VV R, qU3 SS KK VV R (qm5 ρ t) = ⟨(zU SS (ρ.S t.s) : Int), R (ρ.R t.b), R (ρ.R t.c), (t.ops.map (qr3 ρ)).map (qA5 KK VV)⟩ := fun _ _ _ _ => rfl
 rw [e1]
 unfold qU3
 rw [jF1 k2.s (qm9.2 ⟨t, ht, rfl⟩), hc _ m1, hc _ m2, List.map_map]
 congr 1
 refine List.map_congr_left fun o ho => ?_
 show qA5 _ _ (qr3 ρ o) = qA5 _ _ o
 unfold qA5 qr3
 dsimp only
 rw [jF1 k2.k (qw3.2 ⟨t, ht, o, ho, rfl⟩)]
 by_cases h0 : o.v = 0
 ·simp [h0]
 ·have hm : o.v ∈ zH (qc0 h) := qn0.2 ⟨t, ht, o, ho, h0, rfl⟩
  have hn := k2.z _ hm
  simp only [if_neg h0, if_neg hn]
  rw [jF1 k2.v hm]
theorem jZ6 {h h' : List T4} (hm : qy8 h) (hp : h'.Perm h) : zJ h' = zJ h := by
 have hs : qc0 h' = qc0 h := qr2 ((zP h').trans (hp.trans (zP h).symm)) (qh1 h') (qh1 h) (fun x hx y hy e => qI4 hm x (hp.mem_iff.1 ((zP h').mem_iff.1 hx)) y (hp.mem_iff.1 ((zP h').mem_iff.1 hy)) e)
 have hc : qt0 h' = qt0 h := by
  funext x
  unfold qt0 jN
  have : (j4 h').Perm (j4 h) := hp.flatMap_right _
  rw [this.countP_eq]
 unfold zJ
 rw [hs, hc]
def qk6 (ops : List O3) : List Int := ops.filterMap fun o => if o.w then some o.v else none
theorem zq0 (i : Nat) (ops : List O3) : (wrs i ops).map (·.1) = qk6 ops := by
 unfold wrs qk6
 rw [List.map_filterMap]
 congr 1
 funext o
 cases o.w <;> rfl
theorem qB9 : ∀ (h : List T4) (i : Nat), (qI3 i h).map (·.1) = h.flatMap fun t => qk6 t.ops
 | [], _ => rfl
 | t :: h, i => by
  have e : qI3 i (t :: h) = wrs i t.ops ++ qI3 (i + 1) h := rfl
  rw [e, List.map_append, zq0, qB9 h (i + 1)]
  rfl
theorem qy8.sort {h : List T4} (hm : qy8 h) : qy8 (qc0 h) := by
 have hp := zP h
 obtain ⟨h1, h2, h3, h4⟩ := hm
 refine ⟨fun t ht => h1 t (hp.mem_iff.1 ht), ?_, ?_, fun t ht o ho hw hv => ?_⟩
 ·have key : ∀ x ∈ h, ∀ y ∈ h, x ≠ y → qt5 x y ∨ qt5 y x := by
   intro x hx y hy hne
   obtain ⟨i, hi⟩ := List.mem_iff_getElem?.1 hx
   obtain ⟨j, hj⟩ := List.mem_iff_getElem?.1 hy
   obtain ⟨hil, rfl⟩ := List.getElem?_eq_some_iff.1 hi
   obtain ⟨hjl, rfl⟩ := List.getElem?_eq_some_iff.1 hj
   have hpw := List.pairwise_iff_getElem.1 h2
   rcases Nat.lt_trichotomy i j with hlt | heq | hgt
   ·exact .inl (hpw i j hil hjl hlt)
   ·subst heq; exact absurd rfl hne
   ·exact .inr (hpw j i hjl hil hgt)
  have hnd : (qc0 h).Pairwise (· ≠ ·) := by
   have : h.Pairwise (· ≠ ·) := h2.imp fun {a b} k e => by subst e; exact k.1 rfl
   exact (hp.nodup_iff (α := T4)).2 this
  have := (qh1 h).and hnd
  refine this.imp_of_mem fun {x y} hx hy ⟨hle, hne⟩ => ?_
  have hx2 := hp.mem_iff.1 hx
  have hy2 := hp.mem_iff.1 hy
  rcases key x hx2 y hy2 hne with k | k
  ·exact k
  ·have := jo3 (h1 y hy2)
   exact ⟨fun e => k.1 e.symm, fun e => k.2.2.1 e.symm, fun e => k.2.1 e.symm, fun e => k.2.2.2.1 e.symm, fun e => by have := k.2.2.2.2 e.symm; omega⟩
 ·rw [qB9] at h3 ⊢
  exact (hp.flatMap_right _).nodup_iff.2 h3
 ·obtain ⟨u, hu, k⟩ := h4 t (hp.mem_iff.1 ht) o ho hw hv
  exact ⟨u, hp.mem_iff.2 hu, k⟩
structure zv7 (ρ : Ren) (h : List T4) : Prop where
 s : ∀ x ∈ zT h, 0 ≤ ρ.S x ∧ ρ.S x < 64
 k : ∀ x ∈ jV h, 0 ≤ ρ.K x ∧ ρ.K x < 64
 v : ∀ x ∈ zH h, 0 < ρ.V x ∧ ρ.V x ≤ 2147483647
 r : ∀ x ∈ j4 h, 0 ≤ ρ.R x ∧ ρ.R x ≤ 2147483647
theorem qi5 (t : T4) : qd7 t = true ↔ 0 ≤ t.s ∧ t.s < 64 ∧ 0 ≤ t.b ∧ t.b < t.c ∧ t.c ≤ 2147483647 ∧ 1 ≤ t.ops.length ∧ t.ops.length ≤ 64 ∧ ∀ o ∈ t.ops, qo5 o = true := by
 unfold qd7
 simp only [Bool.and_eq_true, decide_eq_true_eq, List.all_eq_true]
 constructor
 ·rintro ⟨⟨⟨⟨⟨⟨⟨a, b⟩, c⟩, d⟩, e⟩, f⟩, g⟩, i⟩; exact ⟨a, b, c, d, e, f, g, i⟩
 ·rintro ⟨a, b, c, d, e, f, g, i⟩; exact ⟨⟨⟨⟨⟨⟨⟨a, b⟩, c⟩, d⟩, e⟩, f⟩, g⟩, i⟩
theorem qj9 (o : O3) : qo5 o = true ↔ 0 ≤ o.k ∧ o.k < 64 ∧ 0 ≤ o.v ∧ o.v ≤ 2147483647 ∧ (o.w = true → 0 < o.v) := by
 unfold qo5
 simp only [Bool.and_eq_true, decide_eq_true_eq, Bool.or_eq_true, Bool.not_eq_true']
 constructor
 ·rintro ⟨⟨⟨⟨a, b⟩, c⟩, d⟩, e⟩; exact ⟨a, b, c, d, fun h => by rcases e with e | e; (rw [h] at e; cases e); exact e⟩
 ·rintro ⟨a, b, c, d, e⟩; refine ⟨⟨⟨⟨a, b⟩, c⟩, d⟩, ?_⟩; cases hw : o.w; exact .inl rfl; exact .inr (e hw)
theorem qO9 {α β : Type} {f g : α → Option β} : ∀ l : List α, (∀ x ∈ l, f x = g x) → l.filterMap f = l.filterMap g
 | [], _ => rfl
 | x :: l, h => by
  rw [List.filterMap_cons, List.filterMap_cons, h x (by simp), qO9 l fun y hy => h y (by simp [hy])]
theorem jx0 {f : Int → Int} {l : List Int} (hi : jP2 f l) (hn : l.Nodup) : (l.map f).Nodup := by
 rw [List.Nodup, List.pairwise_map]
 exact hn.imp_of_mem fun {a b} ha hb hne e => hne (hi a ha b hb e)
theorem zH4 {ρ : Ren} {h : List T4} (hm : qy8 h) (k : jp0 ρ h) (b : zv7 ρ h) : qy8 (h.map (qm5 ρ)) := by
 obtain ⟨h1, h2, h3, h4⟩ := hm
 refine ⟨fun t ht => ?_, ?_, ?_, fun t ht o ho hw hv => ?_⟩
 ·obtain ⟨u, hu, rfl⟩ := List.mem_map.1 ht
  obtain ⟨a1, a2, a3, a4, a5, a6, a7, a8⟩ := (qi5 u).1 (h1 u hu)
  obtain ⟨m1, m2⟩ := qd9 hu
  refine (qi5 _).2 ⟨(b.s _ (qm9.2 ⟨u, hu, rfl⟩)).1, (b.s _ (qm9.2 ⟨u, hu, rfl⟩)).2, (b.r _ m1).1, k.r _ m1 _ m2 a4, (b.r _ m2).2, by simpa [qm5] using a6, by simpa [qm5] using a7, fun o ho => ?_⟩
  obtain ⟨x, hx, rfl⟩ := List.mem_map.1 ho
  obtain ⟨c1, c2, c3, c4, c5⟩ := (qj9 x).1 (a8 x hx)
  have hk := b.k _ (qw3.2 ⟨u, hu, x, hx, rfl⟩)
  by_cases h0 : x.v = 0
  ·exact (qj9 _).2 ⟨hk.1, hk.2, by simp [qr3, h0], by simp [qr3, h0], fun hw => by have := c5 hw; omega⟩
  ·have hv := b.v _ (qn0.2 ⟨u, hu, x, hx, h0, rfl⟩)
   exact (qj9 _).2 ⟨hk.1, hk.2, by simp [qr3, h0]; omega, by simp [qr3, h0]; omega, fun _ => by simp [qr3, h0]; omega⟩
 ·rw [List.pairwise_map]
  refine h2.imp_of_mem fun {x y} hx hy p => ?_
  obtain ⟨x1, x2⟩ := qd9 hx
  obtain ⟨y1, y2⟩ := qd9 hy
  have inj : ∀ a ∈ j4 h, ∀ c ∈ j4 h, a ≠ c → ρ.R a ≠ ρ.R c := fun a ha c hc hne e => by
   rcases Int.lt_trichotomy a c with q | q | q
   ·have := k.r a ha c hc q; omega
   ·exact hne q
   ·have := k.r c hc a ha q; omega
  exact ⟨inj _ x1 _ y1 p.1, inj _ x1 _ y2 p.2.1, inj _ x2 _ y1 p.2.2.1, inj _ x2 _ y2 p.2.2.2.1, fun e => (jF2 k.r x2 y1).2 (p.2.2.2.2 (k.s _ (qm9.2 ⟨x, hx, rfl⟩) _ (qm9.2 ⟨y, hy, rfl⟩) e))⟩
 ·rw [qB9] at h3 ⊢
  have hv : ∀ (l : List T4), (∀ t ∈ l, qd7 t = true) → (l.map (qm5 ρ)).flatMap (fun t => qk6 t.ops) = (l.flatMap fun t => qk6 t.ops).map ρ.V := by
   intro l hl
   rw [List.flatMap_map, List.map_flatMap]
   have : ∀ t ∈ l, qk6 (qm5 ρ t).ops = (qk6 t.ops).map ρ.V := fun t ht => by
    have ho := ((qi5 t).1 (hl t ht)).2.2.2.2.2.2.2
    show qk6 (t.ops.map (qr3 ρ)) = _
    unfold qk6
    rw [List.filterMap_map, List.map_filterMap]
    refine qO9 _ fun o hoo => ?_
    have := ((qj9 o).1 (ho o hoo)).2.2.2.2
    cases hw : o.w with
    | false => simp [Function.comp, qr3, hw]
    | true =>
     have := this hw
     have h0 : o.v ≠ 0 := by omega
     simp [Function.comp, qr3, hw, h0]
   clear hl
   induction l with
   | nil => rfl
   | cons t l ih =>
    rw [List.flatMap_cons, List.flatMap_cons, this t (by simp), ih (fun u hu => this u (by simp [hu]))]
  rw [hv h h1]
  refine jx0 (fun x hx y hy e => k.v x ?_ y ?_ e) h3
  ·obtain ⟨t, ht, q⟩ := List.mem_flatMap.1 hx
   obtain ⟨o, ho, q⟩ := List.mem_filterMap.1 q
   cases hw : o.w with
   | false => rw [hw] at q; cases q
   | true =>
    rw [hw] at q; cases q
    have := ((qj9 o).1 (((qi5 t).1 (h1 t ht)).2.2.2.2.2.2.2 o ho)).2.2.2.2 hw
    exact qn0.2 ⟨t, ht, o, ho, by omega, rfl⟩
  ·obtain ⟨t, ht, q⟩ := List.mem_flatMap.1 hy
   obtain ⟨o, ho, q⟩ := List.mem_filterMap.1 q
   cases hw : o.w with
   | false => rw [hw] at q; cases q
   | true =>
    rw [hw] at q; cases q
    have := ((qj9 o).1 (((qi5 t).1 (h1 t ht)).2.2.2.2.2.2.2 o ho)).2.2.2.2 hw
    exact qn0.2 ⟨t, ht, o, ho, by omega, rfl⟩
 ·obtain ⟨u, hu, rfl⟩ := List.mem_map.1 ht
  obtain ⟨x, hx, rfl⟩ := List.mem_map.1 ho
  have h0 : x.v ≠ 0 := fun e => hv (by simp [qr3, e])
  obtain ⟨u2, hu2, y, hy, e1, e2, e3⟩ := h4 u hu x hx hw h0
  refine ⟨qm5 ρ u2, List.mem_map.2 ⟨u2, hu2, rfl⟩, qr3 ρ y, List.mem_map.2 ⟨y, hy, rfl⟩, e1, ?_, ?_⟩
  ·show ρ.K y.k = ρ.K x.k
   rw [e2]
  ·show (if y.v = 0 then 0 else ρ.V y.v) = if x.v = 0 then 0 else ρ.V x.v
   rw [e3]
def qj3 (h : List T4) : Ren := ⟨fun x => (zU (names (zT (qc0 h))) x : Int), fun x => (zU (names (jV (qc0 h))) x : Int), fun x => 1 + (zU (names (zH (qc0 h))) x : Int), qt0 h⟩
theorem qo9 (h : List T4) : zJ h = (qc0 h).map (qm5 (qj3 h)) := by
 unfold zJ qB8
 refine List.map_congr_left fun t _ => ?_
 rfl
theorem jp2 {l : List Int} {x y : Int} (hx : x ∈ l) (hy : y ∈ l) (e : zU l x = zU l y) : x = y := by
 have h1 := qR3 hx
 have h2 := qR3 hy
 have a := List.findIdx_getElem (p := (· == x)) (xs := l) (w := h1)
 have b := List.findIdx_getElem (p := (· == y)) (xs := l) (w := h2)
 simp only [beq_iff_eq] at a b
 unfold zU at e
 rw [← a, ← b]
 congr 1
theorem qS9 {l : List Int} {x y : Int} (hx : x ∈ l) (h : x < y) : jN l x < jN l y := by
 unfold jN
 induction l with
 | nil => cases hx
 | cons z l ih =>
  have hmono : ∀ l : List Int, l.countP (fun y => decide (y < x)) ≤ l.countP (fun z => decide (z < y)) := fun l => by
   refine List.countP_mono_left fun a _ ha => ?_
   simp only [decide_eq_true_eq] at ha ⊢
   omega
  rw [List.countP_cons, List.countP_cons]
  rcases List.mem_cons.1 hx with rfl | hx
  ·have := hmono l
   simp only [decide_eq_true_eq]
   rw [if_neg (by omega), if_pos h]
   omega
  ·have := ih hx
   simp only [decide_eq_true_eq]
   by_cases a : z < x
   ·rw [if_pos a, if_pos (by omega)]; omega
   ·rw [if_neg a]; split <;> omega
theorem qT0 (l : List Int) (x : Int) : jN l x ≤ l.length := List.countP_le_length
theorem jh2 (h : List T4) : jp0 (qj3 h) (qc0 h) where
 s x hx y hy e := jp2 (qf9.2 hx) (qf9.2 hy) (by have : ((zU (names (zT (qc0 h))) x : Nat) : Int) = (zU (names (zT (qc0 h))) y : Nat) := e; omega)
 k x hx y hy e := jp2 (qf9.2 hx) (qf9.2 hy) (by have : ((zU (names (jV (qc0 h))) x : Nat) : Int) = (zU (names (jV (qc0 h))) y : Nat) := e; omega)
 v x hx y hy e := jp2 (qf9.2 hx) (qf9.2 hy) (by have : 1 + ((zU (names (zH (qc0 h))) x : Nat) : Int) = 1 + (zU (names (zH (qc0 h))) y : Nat) := e; omega)
 z x _ := by show 1 + ((zU (names (zH (qc0 h))) x : Nat) : Int) ≠ 0; omega
 r x hx y _ hlt := by
  have hp : (j4 (qc0 h)).Perm (j4 h) := (zP h).flatMap_right _
  have := qS9 (hp.mem_iff.1 hx) hlt
  show ((jN (j4 h) x : Nat) : Int) < (jN (j4 h) y : Nat)
  omega
theorem jZ7 {h : List T4} (hm : qy8 h) : zJ (zJ h) = zJ h := by
 rw [qo9 h, jA4 (jh2 h), jZ6 hm (zP h)]
 exact qo9 h
theorem jP7 (l : List Int) : (names l).Nodup := by
 have h : ∀ (l acc : List Int), acc.Nodup → (l.foldl zG acc).Nodup := by
  intro l
  induction l with
  | nil => exact fun _ h => h
  | cons x l ih =>
   intro acc hn
   refine ih _ ?_
   unfold zG
   split
   ·exact hn
   ·rename_i hx
    rw [List.nodup_append]
    refine ⟨hn, by simp, fun a ha b hb => ?_⟩
    simp at hb
    subst hb
    exact fun e => hx (e ▸ ha)
 exact h l [] List.nodup_nil
theorem jF3 {l : List Int} {n : Nat} (hn : l.Nodup) (hb : ∀ x ∈ l, 0 ≤ x ∧ x < n) : l.length ≤ n := by
 induction n generalizing l with
 | zero =>
  cases l with
  | nil => simp
  | cons x l => have := hb x (by simp); omega
 | succ n ih =>
  have h1 := ih (l := l.filter fun x => decide (x ≠ (n : Int))) (hn.sublist List.filter_sublist) (fun x hx => by
   rw [List.mem_filter] at hx
   have := hb x hx.1
   have := of_decide_eq_true hx.2
   omega)
  have h2 : (l.filter fun x => decide (x = (n : Int))).length ≤ 1 := by
   have hf : (l.filter fun x => decide (x = (n : Int))).Nodup := hn.sublist List.filter_sublist
   cases e : l.filter fun x => decide (x = (n : Int)) with
   | nil => simp
   | cons a r =>
    cases r with
    | nil => simp
    | cons b r =>
     rw [e] at hf
     have ha : a ∈ l.filter fun x => decide (x = (n : Int)) := by rw [e]; simp
     have hb2 : b ∈ l.filter fun x => decide (x = (n : Int)) := by rw [e]; simp
     rw [List.mem_filter] at ha hb2
     have h1 := of_decide_eq_true ha.2
     have h2 := of_decide_eq_true hb2.2
     simp [h1, h2] at hf
  have h3 : l.length = (l.filter fun x => decide (x = (n : Int))).length + (l.filter fun x => decide (x ≠ (n : Int))).length := by
   have := List.length_eq_countP_add_countP (l := l) (fun x => decide (x = (n : Int)))
   rw [this, List.countP_eq_length_filter, List.countP_eq_length_filter]
   congr 2
   refine List.filter_congr fun x _ => ?_
   by_cases q : x = (n : Int) <;> simp [q]
  omega
theorem jZ8 (ρ : Ren) (h : List T4) : jI (h.map (qm5 ρ)) = jI h := by
 unfold jI
 rw [List.map_map]
 congr 1
 refine List.map_congr_left fun t _ => ?_
 simp [qm5]
theorem zv8 (ops : List O3) : (qf2 ops).length ≤ ops.length := by unfold qf2; rw [List.length_map]; exact List.length_filter_le _ _
theorem jP8 : ∀ h : List T4, (zH h).length ≤ jI h
 | [] => by simp [zH]
 | t :: h => by
  have e : zH (t :: h) = qf2 t.ops ++ zH h := rfl
  rw [e, List.length_append]
  have := jP8 h
  have := zv8 t.ops
  have e2 : jI (t :: h) = t.ops.length + jI h := by simp [jI]
  omega
theorem qU5 {l h : List T4} (hp : l.Perm h) : jI l = jI h := by unfold jI; exact (hp.map _).sum_nat
theorem jZ9 {h : List T4} (hm : qy8 h) (h1 : h.length ≤ 64) (h2 : jI h ≤ 1024) : zv7 (qj3 h) (qc0 h) where
 s x hx := by
  have := qR3 (qf9.2 hx)
  have hl := qj5 (zT (qc0 h))
  have : (zT (qc0 h)).length ≤ 64 := by unfold zT; rw [List.length_map, (zP h).length_eq]; exact h1
  show (0 : Int) ≤ ((zU (names (zT (qc0 h))) x : Nat) : Int) ∧ ((zU (names (zT (qc0 h))) x : Nat) : Int) < 64
  omega
 k x hx := by
  have := qR3 (qf9.2 hx)
  have hb := jF3 (n := 64) (jP7 (jV (qc0 h))) (fun y hy => by
   obtain ⟨t, ht, o, ho, rfl⟩ := qw3.1 (qf9.1 hy)
   have := (qj9 o).1 (((qi5 t).1 (hm.1 t ((zP h).mem_iff.1 ht))).2.2.2.2.2.2.2 o ho)
   exact ⟨this.1, this.2.1⟩)
  show (0 : Int) ≤ ((zU (names (jV (qc0 h))) x : Nat) : Int) ∧ ((zU (names (jV (qc0 h))) x : Nat) : Int) < 64
  omega
 v x hx := by
  have := qR3 (qf9.2 hx)
  have hl := qj5 (zH (qc0 h))
  have := jP8 (qc0 h)
  rw [qU5 (zP h)] at this
  show (0 : Int) < 1 + ((zU (names (zH (qc0 h))) x : Nat) : Int) ∧ 1 + ((zU (names (zH (qc0 h))) x : Nat) : Int) ≤ 2147483647
  omega
 r x _ := by
  have := qT0 (j4 h) x
  rw [qo6] at this
  show (0 : Int) ≤ ((jN (j4 h) x : Nat) : Int) ∧ ((jN (j4 h) x : Nat) : Int) ≤ 2147483647
  omega
theorem qG0 (h : List T4) : (zJ h).length = h.length := by rw [qo9, List.length_map, (zP h).length_eq]
theorem qY1 (h : List T4) : jI (zJ h) = jI h := by rw [qo9, jZ8, qU5 (zP h)]
theorem zq1 {h : List T4} (hm : qy8 h) (h1 : h.length ≤ 64) (h2 : jI h ≤ 1024) : qy8 (zJ h) := by
 rw [qo9]
 exact zH4 hm.sort (jh2 h) (jZ9 hm h1 h2)
theorem qi0 {h : List T4} (hc : zY h = 0) : h.length ≤ 64 ∧ jI h ≤ 1024 ∧ qy8 h := by
 by_cases hb : h.length > 64 ∨ jI h > 1024
 ·unfold zY at hc
  rw [if_pos hb] at hc
  cases hc
 ·exact ⟨by omega, by omega, (qB6 h (by omega) (by omega)).1 hc⟩
theorem jj4 {h : List T4} (hc : zY h = 0) : zY (zJ h) = 0 := by
 obtain ⟨h1, h2, hm⟩ := qi0 hc
 exact (qB6 _ (by rw [qG0]; exact h1) (by rw [qY1]; exact h2)).2 (zq1 hm h1 h2)
end Go.Proofs.Ytngkneknopenmaa.Hist
end
section
namespace Go.Proofs.Ytngkneknopenmaa.qd6
open Go Go.Proofs.Ytngkneknopenmaa Go.Proofs.Ytngkneknopenmaa.Hist Go.Proofs.Ytngkneknopenmaa.qb8
def qv8 : Nat → List Int → Prop
 | _, [] => True
 | k, x :: r => 0 ≤ x ∧ x ≤ (k : Int) ∧ qv8 (max k (x.toNat + 1)) r
def qa8 (k : Nat) : List Int := (List.range k).map fun n : Nat => (n : Int)
theorem qg9 {k : Nat} {x : Int} : x ∈ qa8 k ↔ 0 ≤ x ∧ x < (k : Int) := by
 unfold qa8
 rw [List.mem_map]
 constructor
 ·rintro ⟨n, hn, rfl⟩
  rw [List.mem_range] at hn
  omega
 ·rintro ⟨h1, h2⟩
  exact ⟨x.toNat, List.mem_range.2 (by omega), by omega⟩
theorem qD6 (k : Nat) : qa8 (k + 1) = qa8 k ++ [(k : Int)] := by unfold qa8; rw [List.range_succ, List.map_append]; rfl
theorem qn1 (k : Nat) : (qa8 k).length = k := by simp [qa8]
theorem jp3 : ∀ (k : Nat) (x : Int), 0 ≤ x → x < (k : Int) → (zU (qa8 k) x : Int) = x
 | 0, x, h1, h2 => by omega
 | k + 1, x, h1, h2 => by
  rw [qD6]
  by_cases h : x < (k : Int)
  ·rw [qX9 (qg9.2 ⟨h1, h⟩)]
   exact jp3 k x h1 h
  ·obtain rfl : x = (k : Int) := by omega
   rw [qO7 (fun hm => by have := qg9.1 hm; omega), qn1]
def qG1 (k : Nat) (l : List Int) : Nat := l.foldl (fun k x => max k (x.toNat + 1)) k
theorem qI5 : ∀ (l : List Int) (k : Nat), qv8 k l → l.foldl zG (qa8 k) = qa8 (qG1 k l)
 | [], k, _ => rfl
 | x :: l, k, h => by
  obtain ⟨h1, h2, h3⟩ := h
  rw [List.foldl_cons]
  by_cases hx : x < (k : Int)
  ·have e : zG (qa8 k) x = qa8 k := by unfold zG; rw [if_pos (qg9.2 ⟨h1, hx⟩)]
   have em : max k (x.toNat + 1) = k := by omega
   rw [em] at h3
   rw [e, qI5 l k h3]
   unfold qG1
   rw [List.foldl_cons, em]
  ·have e : zG (qa8 k) x = qa8 (k + 1) := by
    unfold zG
    rw [if_neg (fun hm => hx (qg9.1 hm).2), qD6, show x = (k : Int) by omega]
   have em : max k (x.toNat + 1) = k + 1 := by omega
   rw [em] at h3
   rw [e, qI5 l (k + 1) h3]
   unfold qG1
   rw [List.foldl_cons, em]
theorem jF4 : ∀ (l : List Int) (k : Nat), qv8 k l → (∀ x ∈ l, 0 ≤ x ∧ x < (qG1 k l : Int)) ∧ k ≤ qG1 k l
 | [], k, _ => ⟨fun x h => by simp at h, Nat.le_refl _⟩
 | x :: l, k, h => by
  obtain ⟨h1, h2, h3⟩ := h
  obtain ⟨i1, i2⟩ := jF4 l _ h3
  have e : qG1 k (x :: l) = qG1 (max k (x.toNat + 1)) l := rfl
  rw [e]
  refine ⟨fun y hy => ?_, by omega⟩
  rcases List.mem_cons.1 hy with rfl | hy
  ·omega
  ·exact i1 y hy
theorem jA5 {l : List Int} (h : qv8 0 l) : ∀ x ∈ l, (zU (names l) x : Int) = x := by
 intro x hx
 have e := qI5 l 0 h
 obtain ⟨h1, h2⟩ := (jF4 l 0 h).1 x hx
 unfold names
 rw [show ([] : List Int) = qa8 0 from rfl, e]
 exact jp3 _ x h1 h2
theorem qR4 : ∀ (l acc : List Int) (x : Int), x ∈ acc → zU (l.foldl zG acc) x = zU acc x
 | [], _, _, _ => rfl
 | y :: l, acc, x, hx => by
  rw [List.foldl_cons]
  have hm : x ∈ zG acc y := qG7.2 (.inl hx)
  rw [qR4 l _ x hm]
  unfold zG
  split
  ·rfl
  ·exact qX9 hx
theorem qR5 : ∀ (l : List Int) (k : Nat), (∀ x ∈ l, (zU (l.foldl zG (qa8 k)) x : Int) = x) → qv8 k l
 | [], _, _ => trivial
 | x :: l, k, h => by
  have hx := h x (by simp)
  rw [List.foldl_cons] at hx h
  by_cases hm : x ∈ qa8 k
  ·obtain ⟨h1, h2⟩ := qg9.1 hm
   have e : zG (qa8 k) x = qa8 k := by unfold zG; rw [if_pos hm]
   rw [e] at h
   have em : max k (x.toNat + 1) = k := by omega
   exact ⟨h1, by omega, by rw [em]; exact qR5 l k (fun y hy => h y (by simp [hy]))⟩
  ·have e : zG (qa8 k) x = qa8 k ++ [x] := by unfold zG; rw [if_neg hm]
   rw [e, qR4 _ _ _ (by simp), qO7 hm, qn1] at hx
   have e2 : zG (qa8 k) x = qa8 (k + 1) := by rw [e, qD6, hx]
   rw [e2] at h
   have em : max k (x.toNat + 1) = k + 1 := by omega
   exact ⟨by omega, by omega, by rw [em]; exact qR5 l (k + 1) (fun y hy => h y (by simp [hy]))⟩
end Go.Proofs.Ytngkneknopenmaa.qd6
end
section
namespace Go.Proofs.Ytngkneknopenmaa.qd6
open Go.Proofs.Ytngkneknopenmaa.Hist Go.Proofs.Ytngkneknopenmaa.qb8
def hdT (t : T4) : Int × Int × Int := (t.s, t.b, t.c)
def flO (p : List T4) : List O3 := p.flatMap (·.ops)
def lnO (p : List T4) : List Nat := p.map fun t => t.ops.length
def qY2 : List (Int × Int × Int) → List Nat → List O3 → List T4
 | x :: hd, k :: cs, fl => ⟨x.1, x.2.1, x.2.2, fl.take k⟩ :: qY2 hd cs (fl.drop k)
 | _, _, _ => []
theorem jP9 : ∀ p : List T4, qY2 (p.map hdT) (lnO p) (flO p) = p
 | [] => rfl
 | t :: p => by
  have ih := jP9 p
  show (⟨t.s, t.b, t.c, (t.ops ++ flO p).take t.ops.length⟩ : T4) :: qY2 (p.map hdT) (lnO p) ((t.ops ++ flO p).drop t.ops.length) = t :: p
  rw [List.take_left, List.drop_left, ih]
theorem jQ0 : ∀ (hd : List (Int × Int × Int)) (cs : List Nat) (fl : List O3), hd.length = cs.length → cs.sum = fl.length → (qY2 hd cs fl).map hdT = hd ∧ lnO (qY2 hd cs fl) = cs ∧ flO (qY2 hd cs fl) = fl
 | [], [], fl, _, h => by
  simp at h
  have : fl = [] := List.eq_nil_of_length_eq_zero h.symm
  subst this
  exact ⟨rfl, rfl, rfl⟩
 | x :: hd, k :: cs, fl, h1, h2 => by
  have h3 : k + cs.sum = fl.length := by simpa using h2
  obtain ⟨a, b, c⟩ := jQ0 hd cs (fl.drop k) (by simpa using h1) (by rw [List.length_drop]; omega)
  refine ⟨?_, ?_, ?_⟩
  ·show (x.1, x.2.1, x.2.2) :: (qY2 hd cs (fl.drop k)).map hdT = x :: hd
   rw [a]
  ·show (fl.take k).length :: lnO (qY2 hd cs (fl.drop k)) = k :: cs
   rw [b, List.length_take, Nat.min_eq_left (by omega)]
  ·show fl.take k ++ flO (qY2 hd cs (fl.drop k)) = fl
   rw [c, List.take_append_drop]
theorem qP0 (t : T4) (p : List T4) : flO (t :: p) = t.ops ++ flO p := rfl
theorem qp0 : ∀ p : List T4, jI p = (flO p).length
 | [] => rfl
 | t :: p => by
  rw [qP0, List.length_append, ← qp0 p]
  simp [jI]
theorem zi5 (p : List T4) : (lnO p).sum = (flO p).length := by rw [← qp0]; rfl
theorem qD7 {p : List T4} {o : O3} : o ∈ flO p ↔ ∃ t ∈ p, o ∈ t.ops := by unfold flO; rw [List.mem_flatMap]
theorem jF5 (a b : List O3) : qk6 (a ++ b) = qk6 a ++ qk6 b := by simp [qk6]
theorem qU6 : ∀ p : List T4, (p.flatMap fun t => qk6 t.ops) = qk6 (flO p)
 | [] => rfl
 | t :: p => by rw [List.flatMap_cons, qU6 p, qP0, jF5]
theorem qC0 : ∀ p : List T4, jV p = (flO p).map (·.k)
 | [] => rfl
 | t :: p => by
  have : jV (t :: p) = t.ops.map (·.k) ++ jV p := rfl
  rw [this, qC0 p, qP0, List.map_append]
def qU7 (fl : List O3) : Prop := ∀ (j : Nat) (o : O3), fl[j]? = some o → (o.w = true → o.v = (j : Int) + 1) ∧ (o.w = false → o.v = 0 ∨ ∃ (i : Nat) (u : O3), fl[i]? = some u ∧ u.w = true ∧ u.k = o.k ∧ o.v = (i : Int) + 1)
theorem qY3 : ∀ (fl : List O3) (k : Int), (∀ (j : Nat) (o : O3), fl[j]? = some o → o.w = true → o.v = k + (j : Int) + 1) → (qk6 fl).Pairwise (· < ·) ∧ ∀ x ∈ qk6 fl, k < x
 | [], k, _ => by simp [qk6]
 | o :: fl, k, h => by
  obtain ⟨a, b⟩ := qY3 fl (k + 1) (fun j u hu hw => by
   have := h (j + 1) u (by simpa using hu) hw
   omega)
  have e : qk6 (o :: fl) = (if o.w then [o.v] else []) ++ qk6 fl := by obtain ⟨w, k, v⟩ := o; cases w <;> rfl
  rw [e]
  cases hw : o.w with
  | false =>
   simp only [Bool.false_eq_true, if_false, List.nil_append]
   exact ⟨a, fun x hx => by have := b x hx; omega⟩
  | true =>
   have h0 := h 0 o rfl hw
   simp only [if_true, List.cons_append, List.nil_append, List.pairwise_cons, List.mem_cons]
   refine ⟨⟨fun x hx => by have := b x hx; omega, a⟩, ?_⟩
   rintro x (rfl | hx)
   ·omega
   ·have := b x hx; omega
theorem qU7.nodup {fl : List O3} (h : qU7 fl) : (qk6 fl).Nodup := by
 have := (qY3 fl 0 (fun j o ho hw => by have := (h j o ho).1 hw; omega)).1
 exact this.imp fun {a b} hab e => by omega
theorem qU7.le {fl : List O3} (h : qU7 fl) {o : O3} (ho : o ∈ fl) : 0 ≤ o.v ∧ o.v ≤ (fl.length : Int) ∧ (o.w = true → 0 < o.v) := by
 obtain ⟨j, hj⟩ := List.mem_iff_getElem?.1 ho
 have hjl := (List.getElem?_eq_some_iff.1 hj).1
 obtain ⟨a, b⟩ := h j o hj
 cases hw : o.w with
 | true => have := a hw; exact ⟨by omega, by omega, fun _ => by omega⟩
 | false =>
  rcases b hw with e | ⟨i, u, hu, _, _, e⟩
  ·exact ⟨by omega, by omega, fun h => by cases h⟩
  ·have := (List.getElem?_eq_some_iff.1 hu).1
   exact ⟨by omega, by omega, fun h => by cases h⟩
theorem jp4 : ∀ {l : List Nat} {x : Nat}, x ∈ l → x ≤ l.sum
 | y :: l, x, h => by
  rw [List.sum_cons]
  rcases List.mem_cons.1 h with rfl | h
  ·omega
  ·have := jp4 h; omega
theorem zY3 {p : List T4} (h64 : (flO p).length ≤ 64) (hp : p.length ≤ 64) (hl : ∀ k ∈ lnO p, 1 ≤ k) (hs : ∀ t ∈ p, 0 ≤ t.s ∧ t.s < 64 ∧ 0 ≤ t.b ∧ t.b < t.c ∧ t.c ≤ 2147483647) (hk : ∀ o ∈ flO p, 0 ≤ o.k ∧ o.k < 64) (hpw : p.Pairwise qt5) (hpl : qU7 (flO p)) : qy8 p := by
 have hlen : ∀ t ∈ p, t.ops.length ≤ (flO p).length := by
  intro t ht
  rw [← zi5]
  exact jp4 (List.mem_map.2 ⟨t, ht, rfl⟩)
 refine ⟨fun t ht => (qi5 t).2 ⟨(hs t ht).1, (hs t ht).2.1, (hs t ht).2.2.1, (hs t ht).2.2.2.1, (hs t ht).2.2.2.2, hl _ (List.mem_map.2 ⟨t, ht, rfl⟩), by have := hlen t ht; omega, fun o ho => ?_⟩, hpw, ?_, fun t ht o ho hw hv => ?_⟩
 ·have hm : o ∈ flO p := qD7.2 ⟨t, ht, ho⟩
  have h1 := hk o hm
  have h2 := hpl.le hm
  exact (qj9 o).2 ⟨h1.1, h1.2, h2.1, by omega, h2.2.2⟩
 ·rw [qB9, qU6]; exact hpl.nodup
 ·obtain ⟨j, hj⟩ := List.mem_iff_getElem?.1 (qD7.2 ⟨t, ht, ho⟩)
  rcases (hpl j o hj).2 hw with e | ⟨i, u, hu, h1, h2, h3⟩
  ·exact absurd e hv
  ·obtain ⟨t2, ht2, hu2⟩ := qD7.1 (List.mem_of_getElem? hu)
   exact ⟨t2, ht2, u, hu2, h1, h2, by rw [h3, (hpl i u hu).1 h1]⟩
end Go.Proofs.Ytngkneknopenmaa.qd6
end
section
namespace Go.Proofs.Ytngkneknopenmaa.qd6
open Go.Proofs.Ytngkneknopenmaa.Hist Go.Proofs.Ytngkneknopenmaa.qb8
theorem jj5 (z : List (Nat × Nat)) (ss : List Nat) (s x : Nat) (h : ss.length < z.length) : qG3 z (ss ++ [s]) x = if s = x then some (cm z ss.length) else qG3 z ss x := by
 unfold qG3
 have hz : z = z.take ss.length ++ z.drop ss.length := (List.take_append_drop _ _).symm
 have hd : z.drop ss.length = z[ss.length] :: z.drop (ss.length + 1) := List.drop_eq_getElem_cons h
 have e1 : (ss ++ [s]).zip z = ss.zip z ++ [(s, z[ss.length])] := by
  conv => lhs; rw [hz, hd]
  rw [List.zip_append (by rw [List.length_take]; omega)]
  have : ss.zip (z.take ss.length) = ss.zip z := by
   conv => rhs; rw [hz]
   conv => rhs; rw [show ss = ss ++ [] by simp]
   rw [List.zip_append (by rw [List.length_take]; simp; omega)]
   simp
  rw [this]
  simp only [List.zip_cons_cons, List.zip_nil_left]
 rw [e1, List.foldl_append]
 simp only [List.foldl_cons, List.foldl_nil]
 have : cm z ss.length = z[ss.length].2 := by unfold cm; rw [List.getD_eq_getElem?_getD, List.getElem?_eq_getElem h]; rfl
 rw [this]
theorem qs8 (ss : List Nat) (s : Nat) : qb5 (ss ++ [s]) = max (qb5 ss) (s + 1) := by simp [qb5, List.foldl_append]
theorem za0 {S : Nat} {d : List (Nat × Nat)} : ∀ {r ss : List Nat}, OkS S d ss r → ∀ (j s : Nat), r[j]? = some s → s < min (qb5 (ss ++ r.take j) + 1) S ∧ qx3 d (ss ++ r.take j) s = true
 | x :: r, ss, h, 0, s, hs => by
  simp at hs
  subst hs
  simp only [List.take_zero, List.append_nil]
  exact ⟨h.1, h.2.1⟩
 | x :: r, ss, h, j + 1, s, hs => by
  have := za0 h.2.2 j s (by simpa using hs)
  simp only [List.take_succ_cons]
  rwa [List.append_assoc, List.singleton_append] at this
theorem jQ1 {S : Nat} {d : List (Nat × Nat)} : ∀ {r ss : List Nat}, OkS S d ss r → qv8 (qb5 ss) (r.map fun s : Nat => (s : Int))
 | [], ss, _ => trivial
 | x :: r, ss, h => by
  have h1 := h.1
  refine ⟨Int.natCast_nonneg _, by show (x : Int) ≤ _; omega, ?_⟩
  have ih := jQ1 h.2.2
  rw [qs8] at ih
  rw [Int.toNat_natCast]
  exact ih
theorem za1 {S : Nat} {d : List (Nat × Nat)} : ∀ {r ss : List Nat}, OkS S d ss r → qb5 ss ≤ ss.length → ∀ s ∈ r, s < S ∧ s < ss.length + r.length
 | x :: r, ss, h, hk, s, hs => by
  have h1 := h.1
  rcases List.mem_cons.1 hs with rfl | hs
  ·simp; omega
  ·have := za1 h.2.2 (by rw [qs8, List.length_append, List.length_singleton]; omega) s hs
   simp at this ⊢
   omega
theorem za2 {S : Nat} {z : List (Nat × Nat)} {ss : List Nat} (h : OkS S z [] ss) (hl : ss.length ≤ z.length) (hbc : ∀ i, i < z.length → bg z i < cm z i) : ∀ (i j : Nat) (s : Nat), i < j → ss[i]? = some s → ss[j]? = some s → cm z i ≤ bg z j := by
 have key : ∀ (j : Nat), j ≤ ss.length → ∀ i s, i < j → ss[i]? = some s → ∃ e, qG3 z (ss.take j) s = some e ∧ cm z i ≤ e := by
  intro j
  induction j with
  | zero => intro _ i s hi; omega
  | succ j ih =>
   intro hj i s hi hs
   obtain ⟨x, hx⟩ : ∃ x, ss[j]? = some x := ⟨_, List.getElem?_eq_getElem (by omega)⟩
   have e : ss.take (j + 1) = ss.take j ++ [x] := by rw [List.take_add_one, hx]; rfl
   have hjl : (ss.take j).length = j := by rw [List.length_take]; omega
   rw [e, jj5 z _ _ _ (by omega), hjl]
   by_cases hij : i = j
   ·subst hij
    rw [hs] at hx
    cases hx
    exact ⟨cm z i, by rw [if_pos rfl], Nat.le_refl _⟩
   ·obtain ⟨e2, h1, h2⟩ := ih (by omega) i s (by omega) hs
    by_cases hxs : x = s
    ·subst hxs
     refine ⟨cm z j, by rw [if_pos rfl], ?_⟩
     have hf := (za0 h j x hx).2
     rw [List.nil_append] at hf
     unfold qx3 at hf
     rw [h1, hjl] at hf
     have hf' := of_decide_eq_true hf
     have := hbc j (by omega)
     unfold bg at this
     omega
    ·rw [if_neg hxs]
     exact ⟨e2, h1, h2⟩
 intro i j s hij hi hj
 have hjl := (List.getElem?_eq_some_iff.1 hj).1
 obtain ⟨e, h1, h2⟩ := key j (by omega) i s hij hi
 have hf := (za0 h j s hj).2
 rw [List.nil_append] at hf
 unfold qx3 at hf
 rw [h1, List.length_take, Nat.min_eq_left (by omega)] at hf
 have hf' := of_decide_eq_true hf
 unfold bg
 omega
theorem jp5 {K : Nat} : ∀ {ks : List (Bool × Nat)} {kn : Nat}, jy8 K kn ks → ∀ x ∈ ks, x.2 < K ∧ x.2 < kn + ks.length
 | y :: ks, kn, h, x, hx => by
  rcases List.mem_cons.1 hx with rfl | hx
  ·have := h.1; simp; omega
  ·have := jp5 h.2 x hx
   have := h.1
   simp
   omega
theorem jp6 {K : Nat} : ∀ {ks : List (Bool × Nat)} {kn : Nat}, jy8 K kn ks → qv8 kn (ks.map fun x => (x.2 : Int))
 | [], _, _ => trivial
 | y :: ks, kn, h => by
  have := h.1
  refine ⟨Int.natCast_nonneg _, by show (y.2 : Int) ≤ _; omega, ?_⟩
  rw [Int.toNat_natCast]
  exact jp6 h.2
def zH5 (x : Bool × Nat) (v : Nat) : O3 := ⟨x.1, (x.2 : Int), (v : Int)⟩
def jF6 (ks : List (Bool × Nat)) (vs : List Nat) : List O3 := List.zipWith zH5 ks vs
theorem qG9 {ks : List (Bool × Nat)} {vs : List Nat} {j : Nat} {o : O3} : (jF6 ks vs)[j]? = some o ↔ ∃ x v, ks[j]? = some x ∧ vs[j]? = some v ∧ o = zH5 x v := by
 unfold jF6
 rw [List.getElem?_zipWith]
 constructor
 ·intro h
  split at h
  ·rename_i x v h1 h2
   cases h
   exact ⟨x, v, h1, h2, rfl⟩
  ·cases h
 ·rintro ⟨x, v, h1, h2, rfl⟩
  rw [h1, h2]
theorem qx5 {ks : List (Bool × Nat)} {vs : List Nat} (h : vs.length = ks.length) : (jF6 ks vs).length = ks.length := by unfold jF6; rw [List.length_zipWith]; omega
theorem zq2 {ks : List (Bool × Nat)} {vs : List Nat} (h : OkV ks 0 ks vs) : qU7 (jF6 ks vs) := by
 obtain ⟨hl, ha⟩ := jl2.1 h
 intro j o ho
 obtain ⟨x, v, h1, h2, rfl⟩ := qG9.1 ho
 have hx := ha j x v h1 h2
 refine ⟨fun hw => ?_, fun hw => ?_⟩
 ·have hw' : x.1 = true := hw
  rw [if_pos hw'] at hx
  show (v : Int) = (j : Int) + 1
  omega
 ·have hw' : x.1 = false := hw
  rw [if_neg (by rw [hw']; simp)] at hx
  unfold choices at hx
  rcases List.mem_cons.1 hx with rfl | hx
  ·exact .inl rfl
  ·right
   obtain ⟨i, rfl, hi⟩ := (qH9 x.2 ks 1 v).1 hx
   obtain ⟨u, hu⟩ : ∃ u, vs[i]? = some u := ⟨_, List.getElem?_eq_getElem (by rw [hl]; exact (List.getElem?_eq_some_iff.1 hi).1)⟩
   exact ⟨i, zH5 (true, x.2) u, qG9.2 ⟨_, _, hi, hu, rfl⟩, rfl, rfl, by show ((1 + i : Nat) : Int) = (i : Int) + 1; omega⟩
def hds (z : List (Nat × Nat)) (ss : List Nat) : List (Int × Int × Int) := List.zipWith (fun (s : Nat) (x : Nat × Nat) => ((s : Int), (x.1 : Int), (x.2 : Int))) ss z
theorem zi6 {z : List (Nat × Nat)} {ss : List Nat} {i : Nat} {x : Int × Int × Int} : (hds z ss)[i]? = some x ↔ ∃ s y, ss[i]? = some s ∧ z[i]? = some y ∧ x = ((s : Int), (y.1 : Int), (y.2 : Int)) := by
 unfold hds
 rw [List.getElem?_zipWith]
 constructor
 ·intro h
  split at h
  ·rename_i s y h1 h2
   cases h
   exact ⟨s, y, h1, h2, rfl⟩
  ·cases h
 ·rintro ⟨s, y, h1, h2, rfl⟩
  rw [h1, h2]
theorem qI6 {z : List (Nat × Nat)} {i : Nat} {y : Nat × Nat} (h : z[i]? = some y) : bg z i = y.1 ∧ cm z i = y.2 := by
 unfold bg cm
 rw [List.getD_eq_getElem?_getD, h]
 exact ⟨rfl, rfl⟩
structure qp1 (n K m S : Nat) (z : List (Nat × Nat)) (ss cs : List Nat) (ks : List (Bool × Nat)) (vs : List Nat) : Prop where
 ze : Ext n 0 [] [] z
 sl : ss.length = n
 s : OkS S z [] ss
 cl : cs.length = n
 c : cs.sum = m
 c1 : ∀ k ∈ cs, 1 ≤ k
 kl : ks.length = m
 k : jy8 K 0 ks
 v : OkV ks 0 ks vs
variable {n K m S : Nat} {z : List (Nat × Nat)} {ss cs : List Nat} {ks : List (Bool × Nat)} {vs : List Nat}
def qd1 (z : List (Nat × Nat)) (ss cs : List Nat) (ks : List (Bool × Nat)) (vs : List Nat) : List T4 := qY2 (hds z ss) cs (jF6 ks vs)
theorem qp1.vl (r : qp1 n K m S z ss cs ks vs) : vs.length = m := by rw [(jl2.1 r.v).1, r.kl]
theorem qp1.spec (r : qp1 n K m S z ss cs ks vs) : (qd1 z ss cs ks vs).map hdT = hds z ss ∧ lnO (qd1 z ss cs ks vs) = cs ∧ flO (qd1 z ss cs ks vs) = jF6 ks vs :=
 jQ0 _ _ _ (by unfold hds; rw [List.length_zipWith, r.sl, r.ze.len, r.cl]; omega) (by rw [qx5 (by rw [r.vl, r.kl]), r.kl, r.c])
theorem qp1.length (r : qp1 n K m S z ss cs ks vs) : (qd1 z ss cs ks vs).length = n := by
 have := congrArg List.length r.spec.1
 rw [List.length_map] at this
 rw [this]
 unfold hds
 rw [List.length_zipWith, r.sl, r.ze.len]
 omega
theorem qp1.at (r : qp1 n K m S z ss cs ks vs) {i : Nat} {t : T4} (ht : (qd1 z ss cs ks vs)[i]? = some t) : ∃ s y, ss[i]? = some s ∧ z[i]? = some y ∧ t.s = (s : Int) ∧ t.b = (y.1 : Int) ∧ t.c = (y.2 : Int) := by
 have h : ((qd1 z ss cs ks vs).map hdT)[i]? = some (hdT t) := by rw [List.getElem?_map, ht]; rfl
 rw [r.spec.1] at h
 obtain ⟨s, y, h1, h2, e⟩ := zi6.1 h
 unfold hdT at e
 simp only [Prod.mk.injEq] at e
 exact ⟨s, y, h1, h2, e.1, e.2.1, e.2.2⟩
theorem qp1.bc (r : qp1 n K m S z ss cs ks vs) : ∀ i, i < z.length → bg z i < cm z i := fun i hi => (r.ze.new i (Nat.zero_le _) (by rw [← r.ze.len]; exact hi)).2
theorem qp1.pairs (r : qp1 n K m S z ss cs ks vs) : (qd1 z ss cs ks vs).Pairwise fun u t => qt5 u t ∧ u.b < t.b := by
 rw [List.pairwise_iff_getElem]
 intro i j hi hj hij
 have hn := r.length
 obtain ⟨s, y, h1, h2, e1, e2, e3⟩ := r.at (List.getElem?_eq_getElem hi)
 obtain ⟨s', y', g1, g2, f1, f2, f3⟩ := r.at (List.getElem?_eq_getElem hj)
 obtain ⟨b1, c1⟩ := qI6 h2
 obtain ⟨b2, c2⟩ := qI6 g2
 have k1 := r.ze.inc i j (Nat.zero_le _) hij (by omega)
 have k2 := r.ze.dbc i j (Nat.zero_le _) (by omega) (.inr (Nat.zero_le _)) (by omega)
 have k3 := r.ze.dbc j i (Nat.zero_le _) (by omega) (.inr (Nat.zero_le _)) (by omega)
 have k4 := r.ze.dcc i j (.inr (Nat.zero_le _)) (by omega) (.inr (Nat.zero_le _)) (by omega) (by omega)
 refine ⟨⟨by rw [e2, f2]; omega, by rw [e2, f3]; omega, by rw [e3, f2]; omega, by rw [e3, f3]; omega, fun e => ?_⟩, by rw [e2, f2]; omega⟩
 have hs : s = s' := by rw [e1, f1] at e; omega
 subst hs
 have := za2 r.s (by rw [r.sl, r.ze.len]; exact Nat.le_refl _) r.bc i j s hij h1 g1
 rw [e3, f2]
 omega
theorem qp1.zH6 (r : qp1 n K m S z ss cs ks vs) : zT (qd1 z ss cs ks vs) = ss.map fun s : Nat => (s : Int) := by
 apply List.ext_getElem?
 intro i
 unfold zT
 rw [List.getElem?_map, List.getElem?_map]
 by_cases hi : i < n
 ·obtain ⟨s, y, h1, h2, e1, _⟩ := r.at (List.getElem?_eq_getElem (by rw [r.length]; exact hi))
  rw [List.getElem?_eq_getElem (by rw [r.length]; exact hi), h1]
  exact congrArg some e1
 ·rw [List.getElem?_eq_none (by rw [r.length]; omega), List.getElem?_eq_none (by rw [r.sl]; omega)]; rfl
theorem qp1.keys (r : qp1 n K m S z ss cs ks vs) : jV (qd1 z ss cs ks vs) = ks.map fun x => (x.2 : Int) := by
 rw [qC0, r.spec.2.2]
 have hl : vs.length = ks.length := by rw [r.vl, r.kl]
 apply List.ext_getElem?
 intro i
 rw [List.getElem?_map, List.getElem?_map]
 by_cases hi : i < ks.length
 ·rw [qG9.2 ⟨_, _, List.getElem?_eq_getElem hi, List.getElem?_eq_getElem (by rw [hl]; exact hi), rfl⟩, List.getElem?_eq_getElem hi]
  rfl
 ·rw [List.getElem?_eq_none (by rw [qx5 hl]; omega), List.getElem?_eq_none (by omega)]; rfl
theorem qp1.placed (r : qp1 n K m S z ss cs ks vs) : qU7 (flO (qd1 z ss cs ks vs)) := by rw [r.spec.2.2]; exact zq2 r.v
theorem qp1.stamps (r : qp1 n K m S z ss cs ks vs) (hnd : (j4 (qd1 z ss cs ks vs)).Nodup) : (j4 (qd1 z ss cs ks vs)).Perm (qa8 (2 * n)) := by
 have hl : (j4 (qd1 z ss cs ks vs)).length = 2 * n := by rw [qo6, r.length]; omega
 have hr : (qa8 (2 * n)).Nodup := by
  unfold qa8 List.Nodup
  rw [List.pairwise_map]
  exact (List.nodup_range (n := 2 * n)).imp fun {a b} hab e => hab (by omega)
 have hsub : qa8 (2 * n) ⊆ j4 (qd1 z ss cs ks vs) := by
  intro x hx
  obtain ⟨h0, h1⟩ := qg9.1 hx
  obtain ⟨u, rfl⟩ : ∃ u : Nat, x = (u : Int) := ⟨x.toNat, by omega⟩
  rw [qs4]
  rcases r.ze.cov u (Nat.zero_le _) (by omega) with ⟨i, _, hi, e⟩ | ⟨i, _, hi, e⟩
  ·obtain ⟨t, ht⟩ : ∃ t, (qd1 z ss cs ks vs)[i]? = some t := ⟨_, List.getElem?_eq_getElem (by rw [r.length]; exact hi)⟩
   obtain ⟨s, y, _, h2, _, e2, _⟩ := r.at ht
   exact ⟨t, List.mem_of_getElem? ht, .inl (by rw [e2, ← (qI6 h2).1, e])⟩
  ·obtain ⟨t, ht⟩ : ∃ t, (qd1 z ss cs ks vs)[i]? = some t := ⟨_, List.getElem?_eq_getElem (by rw [r.length]; exact hi)⟩
   obtain ⟨s, y, _, h2, _, _, e3⟩ := r.at ht
   exact ⟨t, List.mem_of_getElem? ht, .inr (by rw [e3, ← (qI6 h2).2, e])⟩
 rw [List.perm_iff_count]
 intro a
 rw [hnd.count, hr.count]
 by_cases ha : a ∈ qa8 (2 * n)
 ·rw [if_pos ha, if_pos (hsub ha)]
 ·rw [if_neg ha]
  by_cases hb : a ∈ j4 (qd1 z ss cs ks vs)
  ·have h1 : (a :: qa8 (2 * n)).Nodup := List.nodup_cons.2 ⟨ha, hr⟩
   have h2 := h1.length_le_of_subset (l₂ := j4 (qd1 z ss cs ks vs)) (by intro x hx; rcases List.mem_cons.1 hx with rfl | hx; exact hb; exact hsub hx)
   rw [List.length_cons, qn1, hl] at h2
   omega
  ·rw [if_neg hb]
end Go.Proofs.Ytngkneknopenmaa.qd6
end
section
namespace Go.Proofs.Ytngkneknopenmaa.qd6
open Go.Proofs.Ytngkneknopenmaa.Hist Go.Proofs.Ytngkneknopenmaa.qb8
theorem qI7 : ∀ {p : List T4}, (∀ t ∈ p, t.b ≠ t.c) → p.Pairwise qt5 → (j4 p).Nodup
 | [], _, _ => by simp [j4]
 | t :: p, h, hp => by
  obtain ⟨h1, h2⟩ := List.pairwise_cons.1 hp
  have ih := qI7 (fun u hu => h u (by simp [hu])) h2
  have e : j4 (t :: p) = t.b :: t.c :: j4 p := rfl
  rw [e, List.nodup_cons, List.nodup_cons]
  refine ⟨fun hm => ?_, fun hm => ?_, ih⟩
  ·rcases List.mem_cons.1 hm with hm | hm
   ·exact h t (by simp) hm
   ·obtain ⟨u, hu, e | e⟩ := qs4.1 hm
    ·exact (h1 u hu).1 e.symm
    ·exact (h1 u hu).2.1 e.symm
  ·obtain ⟨u, hu, e | e⟩ := qs4.1 hm
   ·exact (h1 u hu).2.2.1 e.symm
   ·exact (h1 u hu).2.2.2.1 e.symm
theorem qI8 : ∀ (N : Nat) (x : Int), 0 ≤ x → x ≤ (N : Int) → (jN (qa8 N) x : Int) = x
 | 0, x, h0, h1 => by
  have : x = 0 := by omega
  subst this
  rfl
 | N + 1, x, h0, h1 => by
  rw [qD6]
  unfold jN
  rw [List.countP_append]
  by_cases h : x ≤ (N : Int)
  ·have ih := qI8 N x h0 h
   unfold jN at ih
   have e : List.countP (fun y => decide (y < x)) [(N : Int)] = 0 := by simp; omega
   rw [e]
   omega
  ·have hx : x = (N : Int) + 1 := by omega
   have ih := qI8 N N (by omega) (by omega)
   unfold jN at ih
   have e : List.countP (fun y => decide (y < x)) [(N : Int)] = 1 := by simp; omega
   have e2 : List.countP (fun y => decide (y < x)) (qa8 N) = N := by
    have : List.countP (fun y => decide (y < x)) (qa8 N) = (qa8 N).length := by
     rw [List.countP_eq_length]
     intro a ha
     have := qg9.1 ha
     simp
     omega
    rw [this, qn1]
   rw [e, e2]
   omega
def jF7 (V : Int → Int) : Ren := ⟨id, id, V, id⟩
theorem jF8 (ρ : Ren) : ∀ p : List T4, flO (p.map (qm5 ρ)) = (flO p).map (qr3 ρ)
 | [] => rfl
 | t :: p => by
  rw [List.map_cons, qP0, qP0, List.map_append, jF8 ρ p]
  rfl
theorem zH7 (ρ : Ren) (p : List T4) : lnO (p.map (qm5 ρ)) = lnO p := by
 unfold lnO
 rw [List.map_map]
 exact List.map_congr_left fun t _ => by simp [qm5]
variable {n K m S : Nat} {z : List (Nat × Nat)} {ss cs : List Nat} {ks : List (Bool × Nat)} {vs : List Nat}
theorem qp1.zT2 (r : qp1 n K m S z ss cs ks vs) : (j4 (qd1 z ss cs ks vs)).Nodup := by
 refine qI7 (fun t ht => ?_) (r.pairs.imp And.left)
 obtain ⟨i, hi⟩ := List.mem_iff_getElem?.1 ht
 obtain ⟨s, y, _, h2, _, e2, e3⟩ := r.at hi
 have := r.bc i (List.getElem?_eq_some_iff.1 h2).1
 rw [(qI6 h2).1, (qI6 h2).2] at this
 rw [e2, e3]
 omega
theorem qp1.may (r : qp1 n K m S z ss cs ks vs) (hn : n ≤ 64) (hm : m ≤ 64) : qy8 (qd1 z ss cs ks vs) := by
 have hfl : (flO (qd1 z ss cs ks vs)).length = m := by rw [r.spec.2.2, qx5 (by rw [r.vl, r.kl]), r.kl]
 refine zY3 (by rw [hfl]; exact hm) (by rw [r.length]; exact hn) (by rw [r.spec.2.1]; exact r.c1) (fun t ht => ?_) (fun o ho => ?_) (r.pairs.imp And.left) r.placed
 ·obtain ⟨i, hi⟩ := List.mem_iff_getElem?.1 ht
  obtain ⟨s, y, h1, h2, e1, e2, e3⟩ := r.at hi
  have hs := (za1 r.s (by simp [qb5]) s (List.mem_of_getElem? h1)).2
  rw [List.length_nil, r.sl] at hs
  have hbc := r.bc i (List.getElem?_eq_some_iff.1 h2).1
  rw [(qI6 h2).1, (qI6 h2).2] at hbc
  have hc := (qg9.1 ((r.stamps r.zT2).mem_iff.1 (qd9 ht).2)).2
  rw [e1, e2, e3]
  rw [e3] at hc
  exact ⟨by omega, by omega, by omega, by omega, by omega⟩
 ·rw [r.spec.2.2] at ho
  obtain ⟨j, hj⟩ := List.mem_iff_getElem?.1 ho
  obtain ⟨x, v, h1, _, rfl⟩ := qG9.1 hj
  have := (jp5 r.k x (List.mem_of_getElem? h1)).2
  rw [r.kl] at this
  show 0 ≤ (x.2 : Int) ∧ (x.2 : Int) < 64
  omega
theorem qp1.check (r : qp1 n K m S z ss cs ks vs) (hn : n ≤ 64) (hm : m ≤ 64) : zY (qd1 z ss cs ks vs) = 0 := by
 have hfl : (flO (qd1 z ss cs ks vs)).length = m := by rw [r.spec.2.2, qx5 (by rw [r.vl, r.kl]), r.kl]
 exact (qB6 _ (by rw [r.length]; exact hn) (by rw [qp0, hfl]; omega)).2 (r.may hn hm)
theorem qp1.sorted (r : qp1 n K m S z ss cs ks vs) : qc0 (qd1 z ss cs ks vs) = qd1 z ss cs ks vs := by
 refine qr2 (zP _) (qh1 _) (r.pairs.imp fun {a b} h => by have := h.2; omega) (fun x hx y hy e => ?_)
 have hx := (zP _).mem_iff.1 hx
 have hy := (zP _).mem_iff.1 hy
 obtain ⟨i, hi⟩ := List.mem_iff_getElem?.1 hx
 obtain ⟨j, hj⟩ := List.mem_iff_getElem?.1 hy
 obtain ⟨hil, rfl⟩ := List.getElem?_eq_some_iff.1 hi
 obtain ⟨hjl, rfl⟩ := List.getElem?_eq_some_iff.1 hj
 have hpw := List.pairwise_iff_getElem.1 r.pairs
 rcases Nat.lt_trichotomy i j with h | h | h
 ·have := (hpw i j hil hjl h).2; omega
 ·subst h; rfl
 ·have := (hpw j i hjl hil h).2; omega
def zH8 (p : List T4) (x : Int) : Int := 1 + (zU (names (zH p)) x : Int)
theorem qp1.canon (r : qp1 n K m S z ss cs ks vs) : zJ (qd1 z ss cs ks vs) = (qd1 z ss cs ks vs).map (qm5 (jF7 (zH8 (qd1 z ss cs ks vs)))) := by
 rw [qo9, r.sorted]
 refine List.map_congr_left fun t ht => ?_
 have hS : qv8 0 (zT (qd1 z ss cs ks vs)) := by rw [r.zH6]; exact jQ1 r.s
 have hK : qv8 0 (jV (qd1 z ss cs ks vs)) := by rw [r.keys]; exact jp6 r.k
 have hR : ∀ x ∈ j4 (qd1 z ss cs ks vs), qt0 (qd1 z ss cs ks vs) x = x := by
  intro x hx
  have hp := r.stamps r.zT2
  have h1 := qg9.1 (hp.mem_iff.1 hx)
  unfold qt0
  have e : jN (j4 (qd1 z ss cs ks vs)) x = jN (qa8 (2 * n)) x := hp.countP_eq _
  rw [e]
  exact qI8 _ x h1.1 (by omega)
 have e1 : (qj3 (qd1 z ss cs ks vs)).S t.s = t.s := by
  unfold qj3
  rw [r.sorted]
  exact jA5 hS t.s (qm9.2 ⟨t, ht, rfl⟩)
 have e2 : (qj3 (qd1 z ss cs ks vs)).R t.b = t.b := hR t.b (qd9 ht).1
 have e3 : (qj3 (qd1 z ss cs ks vs)).R t.c = t.c := hR t.c (qd9 ht).2
 have e4 : t.ops.map (qr3 (qj3 (qd1 z ss cs ks vs))) = t.ops.map (qr3 (jF7 (zH8 (qd1 z ss cs ks vs)))) := by
  refine List.map_congr_left fun o ho => ?_
  have k1 : (qj3 (qd1 z ss cs ks vs)).K o.k = o.k := by
   unfold qj3
   rw [r.sorted]
   exact jA5 hK o.k (qw3.2 ⟨t, ht, o, ho, rfl⟩)
  have k2 : (qj3 (qd1 z ss cs ks vs)).V = zH8 (qd1 z ss cs ks vs) := by
   unfold qj3 zH8
   rw [r.sorted]
  unfold qr3
  rw [k1, k2]
  rfl
 unfold qm5
 rw [e1, e2, e3, e4]
 rfl
def plV (fl : List O3) (v : Int) : Int := 1 + (fl.findIdx fun u => u.w && decide (u.v = v) : Nat)
def qy9 (p : List T4) : List T4 := p.map (qm5 (jF7 (plV (flO p))))
end Go.Proofs.Ytngkneknopenmaa.qd6
end
section
namespace Go.Proofs.Ytngkneknopenmaa.qd6
open Go.Proofs.Ytngkneknopenmaa.Hist Go.Proofs.Ytngkneknopenmaa.qb8
theorem zv9 {S : Nat} {d : List (Nat × Nat)} : ∀ {r ss : List Nat}, (∀ (j s : Nat), r[j]? = some s → s < min (qb5 (ss ++ r.take j) + 1) S ∧ qx3 d (ss ++ r.take j) s = true) → OkS S d ss r
 | [], _, _ => trivial
 | x :: r, ss, h => by
  have h0 := h 0 x rfl
  rw [List.take_zero, List.append_nil] at h0
  refine ⟨h0.1, h0.2, zv9 fun j s hs => ?_⟩
  have := h (j + 1) s (by simpa using hs)
  rw [List.take_succ_cons] at this
  rwa [List.append_assoc, List.singleton_append]
theorem zi7 : ∀ {r ss : List Nat}, qv8 (qb5 ss) (r.map fun s : Nat => (s : Int)) → ∀ (j s : Nat), r[j]? = some s → s ≤ qb5 (ss ++ r.take j)
 | x :: r, ss, h, 0, s, hs => by
  simp at hs
  subst hs
  have := h.2.1
  rw [List.take_zero, List.append_nil]
  have h2 : (x : Int) ≤ (qb5 ss : Int) := this
  omega
 | x :: r, ss, h, j + 1, s, hs => by
  have h3 : qv8 (qb5 (ss ++ [x])) (r.map fun s : Nat => (s : Int)) := by
   rw [qs8]
   have := h.2.2
   rwa [Int.toNat_natCast] at this
  have := zi7 h3 j s (by simpa using hs)
  rwa [List.append_assoc, List.singleton_append, ← List.take_succ_cons] at this
theorem za3 {z : List (Nat × Nat)} {ss : List Nat} (hl : ss.length ≤ z.length) : ∀ (j : Nat), j ≤ ss.length → ∀ (s e : Nat), qG3 z (ss.take j) s = some e → ∃ i, i < j ∧ ss[i]? = some s ∧ e = cm z i := by
 intro j
 induction j with
 | zero => intro _ s e h; simp [qG3] at h
 | succ j ih =>
  intro hj s e h
  obtain ⟨x, hx⟩ : ∃ x, ss[j]? = some x := ⟨_, List.getElem?_eq_getElem (by omega)⟩
  rw [show ss.take (j + 1) = ss.take j ++ [x] by rw [List.take_add_one, hx]; rfl, jj5 z _ _ _ (by rw [List.length_take]; omega), List.length_take, Nat.min_eq_left (by omega)] at h
  by_cases hxs : x = s
  ·subst hxs
   rw [if_pos rfl] at h
   cases h
   exact ⟨j, by omega, hx, rfl⟩
  ·rw [if_neg hxs] at h
   obtain ⟨i, h1, h2, h3⟩ := ih (by omega) s e h
   exact ⟨i, by omega, h2, h3⟩
theorem jQ2 {K : Nat} : ∀ {ks : List (Bool × Nat)} {kn : Nat}, qv8 kn (ks.map fun x => (x.2 : Int)) → (∀ x ∈ ks, x.2 < K) → jy8 K kn ks
 | [], _, _, _ => trivial
 | y :: ks, kn, h, hk => by
  have h1 : (y.2 : Int) ≤ (kn : Int) := h.2.1
  have h2 := hk y (by simp)
  refine ⟨by omega, jQ2 ?_ fun x hx => hk x (by simp [hx])⟩
  have := h.2.2
  rwa [Int.toNat_natCast] at this
theorem jA6 : ∀ {fl : List O3}, (qk6 fl).Nodup → ∀ (i j : Nat) (u x : O3), fl[i]? = some u → fl[j]? = some x → u.w = true → x.w = true → u.v = x.v → i = j
 | [], _, i, j, u, x, hu, _, _, _, _ => by simp at hu
 | o :: fl, hn, i, j, u, x, hu, hx, hw, hw2, e => by
  have e1 : qk6 (o :: fl) = (if o.w then [o.v] else []) ++ qk6 fl := by obtain ⟨w, k, v⟩ := o; cases w <;> rfl
  rw [e1, List.nodup_append] at hn
  have hmem : ∀ (k : Nat) (y : O3), fl[k]? = some y → y.w = true → y.v ∈ qk6 fl := fun k y hy hyw => List.mem_filterMap.2 ⟨y, List.mem_of_getElem? hy, by rw [if_pos hyw]⟩
  cases i with
  | zero =>
   simp at hu
   subst hu
   cases j with
   | zero => rfl
   | succ j =>
    have := hn.2.2 o.v (by rw [if_pos hw]; simp) x.v (hmem j x (by simpa using hx) hw2)
    exact absurd e this
  | succ i =>
   cases j with
   | zero =>
    simp at hx
    subst hx
    have := hn.2.2 o.v (by rw [if_pos hw2]; simp) u.v (hmem i u (by simpa using hu) hw)
    exact absurd e.symm this
   | succ j => rw [jA6 hn.2.1 i j u x (by simpa using hu) (by simpa using hx) hw hw2 e]
theorem za4 {fl : List O3} (hn : (qk6 fl).Nodup) {i : Nat} {u : O3} (hu : fl[i]? = some u) (hw : u.w = true) : fl.findIdx (fun x => x.w && decide (x.v = u.v)) = i := by
 obtain ⟨hil, rfl⟩ := List.getElem?_eq_some_iff.1 hu
 rw [List.findIdx_eq hil]
 refine ⟨by rw [hw]; simp, fun j hj => ?_⟩
 cases hwj : fl[j].w with
 | false => rfl
 | true =>
  have : fl[j].v ≠ fl[i].v := fun e => by
   have := jA6 hn i j _ _ (List.getElem?_eq_getElem hil) (List.getElem?_eq_getElem (by omega)) hw hwj e.symm
   omega
  rw [Bool.true_and]
  exact decide_eq_false this
structure Can (h : List T4) : Prop where
 ok : zY h = 0
 eq : zJ h = h
variable {h : List T4}
theorem Can.may (c : Can h) : qy8 h := (qi0 c.ok).2.2
theorem Can.sorted (c : Can h) : h.Pairwise (fun x y => x.b ≤ y.b) := by
 have k := (jh2 h)
 have e := c.eq
 rw [qo9] at e
 rw [← e, List.pairwise_map]
 refine (qh1 h).imp_of_mem fun {a b} ha hb hab => ?_
 show (qj3 h).R a.b ≤ (qj3 h).R b.b
 exact (jF2 k.r (qd9 ha).1 (qd9 hb).1).2 hab
theorem Can.sort (c : Can h) : qc0 h = h :=
 qr2 (zP _) (qh1 _) c.sorted (fun x hx y hy e => qI4 c.may x ((zP _).mem_iff.1 hx) y ((zP _).mem_iff.1 hy) e)
theorem jp7 {α : Type} {f : α → α} : ∀ {l : List α}, l.map f = l → ∀ x ∈ l, f x = x
 | y :: l, h, x, hx => by
  rw [List.map_cons, List.cons.injEq] at h
  rcases List.mem_cons.1 hx with rfl | hx
  ·exact h.1
  ·exact jp7 h.2 x hx
theorem Can.self (c : Can h) : ∀ t ∈ h, qm5 (qj3 h) t = t := by
 have e := c.eq
 rw [qo9, c.sort] at e
 exact jp7 e
theorem Can.zH6 (c : Can h) : qv8 0 (zT h) := by
 refine qR5 _ 0 fun x hx => ?_
 obtain ⟨t, ht, rfl⟩ := qm9.1 hx
 have e := congrArg T4.s (c.self t ht)
 unfold qm5 qj3 at e
 rw [c.sort] at e
 exact e
theorem Can.keys (c : Can h) : qv8 0 (jV h) := by
 refine qR5 _ 0 fun x hx => ?_
 obtain ⟨t, ht, o, ho, rfl⟩ := qw3.1 hx
 have e := congrArg T4.ops (c.self t ht)
 have e2 : qr3 (qj3 h) o = o := jp7 e o ho
 have e3 := congrArg O3.k e2
 unfold qr3 qj3 at e3
 rw [c.sort] at e3
 exact e3
theorem Can.at {i j : Nat} (c : Can h) (hij : i < j) {u t : T4} (hu : h[i]? = some u) (ht : h[j]? = some t) : qt5 u t ∧ u.b < t.b := by
 obtain ⟨hil, rfl⟩ := List.getElem?_eq_some_iff.1 hu
 obtain ⟨hjl, rfl⟩ := List.getElem?_eq_some_iff.1 ht
 have h1 := List.pairwise_iff_getElem.1 c.may.2.1 i j hil hjl hij
 have h2 := List.pairwise_iff_getElem.1 c.sorted i j hil hjl hij
 exact ⟨h1, by have := h1.1; omega⟩
theorem Can.right (c : Can h) {t : T4} (ht : t ∈ h) : 0 ≤ t.s ∧ 0 ≤ t.b ∧ t.b < t.c ∧ 1 ≤ t.ops.length ∧ ∀ o ∈ t.ops, 0 ≤ o.k ∧ 0 ≤ o.v ∧ (o.w = true → 0 < o.v) := by
 obtain ⟨a1, a2, a3, a4, a5, a6, a7, a8⟩ := (qi5 t).1 (c.may.1 t ht)
 exact ⟨a1, a3, a4, by omega, fun o ho => by obtain ⟨b1, b2, b3, b4, b5⟩ := (qj9 o).1 (a8 o ho); exact ⟨b1, b3, b5⟩⟩
def zOf (h : List T4) : List (Nat × Nat) := h.map fun t => (t.b.toNat, t.c.toNat)
theorem qw4 {i : Nat} {t : T4} (ht : h[i]? = some t) : bg (zOf h) i = t.b.toNat ∧ cm (zOf h) i = t.c.toNat :=
 qI6 (z := zOf h) (i := i) (y := (t.b.toNat, t.c.toNat)) (by unfold zOf; rw [List.getElem?_map, ht]; rfl)
theorem get_some {i : Nat} (hi : i < h.length) : ∃ t, h[i]? = some t ∧ t ∈ h := ⟨_, List.getElem?_eq_getElem hi, List.getElem_mem hi⟩
theorem Can.stamps (c : Can h) : (j4 h).Perm (qa8 (2 * h.length)) := by
 have hnd : (j4 h).Nodup := qI7 (fun t ht => by have := c.right ht; omega) c.may.2.1
 have hl : (j4 h).length = 2 * h.length := by rw [qo6]; omega
 have hr : (qa8 (2 * h.length)).Nodup := by
  unfold qa8 List.Nodup
  rw [List.pairwise_map]
  exact (List.nodup_range (n := 2 * h.length)).imp fun {a b} hab e => hab (by omega)
 have hlt : ∀ y ∈ j4 h, (qj3 h).R y < (2 * h.length : Int) ∧ 0 ≤ (qj3 h).R y := by
  intro y hy
  show qt0 h y < _ ∧ 0 ≤ qt0 h y
  unfold qt0
  have h1 := qS9 hy (show y < y + 1 by omega)
  have h2 := qT0 (j4 h) (y + 1)
  omega
 have hsub : j4 h ⊆ qa8 (2 * h.length) := by
  intro x hx
  rw [qg9]
  obtain ⟨t, ht, e⟩ := qs4.1 hx
  have e1 : (qj3 h).R t.b = t.b := congrArg T4.b (c.self t ht)
  have e2 : (qj3 h).R t.c = t.c := congrArg T4.c (c.self t ht)
  have h1 := hlt t.b (qd9 ht).1
  have h2 := hlt t.c (qd9 ht).2
  rw [e1] at h1
  rw [e2] at h2
  rcases e with e | e <;> omega
 rw [List.perm_iff_count]
 intro a
 rw [hnd.count, hr.count]
 by_cases ha : a ∈ j4 h
 ·rw [if_pos ha, if_pos (hsub ha)]
 ·rw [if_neg ha]
  by_cases hb : a ∈ qa8 (2 * h.length)
  ·have h1 : (a :: j4 h).Nodup := List.nodup_cons.2 ⟨ha, hnd⟩
   have h2 := h1.length_le_of_subset (l₂ := qa8 (2 * h.length)) (by intro x hx; rcases List.mem_cons.1 hx with rfl | hx; exact hb; exact hsub hx)
   rw [List.length_cons, qn1, hl] at h2
   omega
  ·rw [if_neg hb]
theorem Can.ext (c : Can h) : Ext h.length 0 [] [] (zOf h) where
 len := by simp [zOf]
 bgs := fun i hi => by simp at hi
 cms := fun i hi => by simp at hi
 ope := fun i hi => by simp at hi
 new := fun i _ hi => by
  obtain ⟨t, ht, hm⟩ := get_some hi
  obtain ⟨e1, e2⟩ := qw4 ht
  have := c.right hm
  rw [e1, e2]
  omega
 inc := fun i j _ hij hj => by
  obtain ⟨u, hu, hmu⟩ := get_some (h := h) (i := i) (by omega)
  obtain ⟨t, ht, hm⟩ := get_some hj
  have := (c.at hij hu ht).2
  have := c.right hmu
  rw [(qw4 hu).1, (qw4 ht).1]
  omega
 cov := fun u _ hu => by
  have hx : (u : Int) ∈ j4 h := c.stamps.mem_iff.2 (qg9.2 ⟨by omega, by omega⟩)
  obtain ⟨t, ht, e⟩ := qs4.1 hx
  obtain ⟨i, hi⟩ := List.mem_iff_getElem?.1 ht
  have hil := (List.getElem?_eq_some_iff.1 hi).1
  rcases e with e | e
  ·exact .inl ⟨i, Nat.zero_le _, hil, by rw [(qw4 hi).1]; omega⟩
  ·exact .inr ⟨i, .inr (Nat.zero_le _), hil, by rw [(qw4 hi).2]; omega⟩
 dbc := fun i j _ hi _ hj => by
  obtain ⟨u, hu, hmu⟩ := get_some hi
  obtain ⟨t, ht, hmt⟩ := get_some hj
  have r1 := c.right hmu
  have r2 := c.right hmt
  rw [(qw4 hu).1, (qw4 ht).2]
  rcases Nat.lt_trichotomy i j with hij | hij | hij
  ·have := (c.at hij hu ht).1.2.1; omega
  ·subst hij; rw [hu] at ht; cases ht; omega
  ·have := (c.at hij ht hu).1.2.2.1; omega
 dcc := fun i j _ hi _ hj hne => by
  obtain ⟨u, hu, hmu⟩ := get_some hi
  obtain ⟨t, ht, hmt⟩ := get_some hj
  have r1 := c.right hmu
  have r2 := c.right hmt
  rw [(qw4 hu).2, (qw4 ht).2]
  rcases Nat.lt_trichotomy i j with hij | hij | hij
  ·have := (c.at hij hu ht).1.2.2.2.1; omega
  ·exact absurd hij hne
  ·have := (c.at hij ht hu).1.2.2.2.1; omega
theorem Can.few (c : Can h) {S : Nat} (hS : ∀ t ∈ h, t.s < (S : Int)) : Few S h.length (zOf h) := by
 intro i hi l hnd hl
 have hmem : ∀ j ∈ i :: l, j < h.length := fun j hj => by
  rcases List.mem_cons.1 hj with rfl | hj
  ·exact hi
  ·have := (hl j hj).1; omega
 have hno : i ∉ l := fun hm => by have := (hl i hm).1; omega
 have hinj : ∀ j ∈ i :: l, ∀ k ∈ i :: l, j < k → (h.getD j default).s ≠ (h.getD k default).s := by
  intro j hj k hk hjk e
  obtain ⟨u, hu, hmu⟩ := get_some (hmem j hj)
  obtain ⟨t, ht, hmt⟩ := get_some (hmem k hk)
  obtain ⟨x, hx, hmx⟩ := get_some hi
  rw [List.getD_eq_getElem?_getD, List.getD_eq_getElem?_getD, hu, ht] at e
  have h1 := (c.at hjk hu ht).1.2.2.2.2 e
  have hji : j ∈ l := by
   rcases List.mem_cons.1 hj with rfl | hj
   ·rcases List.mem_cons.1 hk with rfl | hk
    ·omega
    ·have := (hl k hk).1; omega
   ·exact hj
  have h2 := (hl j hji).2
  rw [(qw4 hx).1, (qw4 hu).2] at h2
  have r1 := c.right hmu
  have r3 := c.right hmx
  rcases List.mem_cons.1 hk with rfl | hk
  ·rw [hx] at ht
   cases ht
   omega
  ·have := (c.at (hl k hk).1 ht hx).2
   omega
 have hnd2 : ((i :: l).map fun j => (h.getD j default).s.toNat).Nodup := by
  unfold List.Nodup
  rw [List.pairwise_map]
  have : (i :: l).Nodup := List.nodup_cons.2 ⟨hno, hnd⟩
  refine List.Pairwise.imp_of_mem (fun {a b} ha hb hab e => ?_) this
  have ra : 0 ≤ (h.getD a default).s := by
   obtain ⟨u, hu, hmu⟩ := get_some (hmem a ha)
   rw [List.getD_eq_getElem?_getD, hu]; exact (c.right hmu).1
  have rb : 0 ≤ (h.getD b default).s := by
   obtain ⟨u, hu, hmu⟩ := get_some (hmem b hb)
   rw [List.getD_eq_getElem?_getD, hu]; exact (c.right hmu).1
  rcases Nat.lt_or_gt_of_ne hab with h1 | h1
  ·exact hinj a ha b hb h1 (by omega)
  ·exact hinj b hb a ha h1 (by omega)
 have hle := hnd2.length_le_of_subset (l₂ := List.range S) (by
  intro x hx
  obtain ⟨j, hj, rfl⟩ := List.mem_map.1 hx
  obtain ⟨u, hu, hmu⟩ := get_some (hmem j hj)
  rw [List.mem_range]
  show (h.getD j default).s.toNat < S
  rw [List.getD_eq_getElem?_getD, hu]
  have h1 := hS u hmu
  have h2 := (c.right hmu).1
  show u.s.toNat < S
  omega)
 rw [List.length_map, List.length_cons, List.length_range] at hle
 omega
end Go.Proofs.Ytngkneknopenmaa.qd6
end
section
namespace Go.Proofs.Ytngkneknopenmaa.qd6
open Go.Proofs.Ytngkneknopenmaa.Hist Go.Proofs.Ytngkneknopenmaa.qb8
variable {h : List T4}
theorem Can.zY4 (c : Can h) {S : Nat} (hS : ∀ t ∈ h, t.s < (S : Int)) : OkS S (zOf h) [] (h.map fun t => t.s.toNat) := by
 have hg : qv8 (qb5 []) ((h.map fun t => t.s.toNat).map fun s : Nat => (s : Int)) := by
  have e : ((h.map fun t => t.s.toNat).map fun s : Nat => (s : Int)) = zT h := by
   unfold zT
   rw [List.map_map]
   exact List.map_congr_left fun t ht => by have := (c.right ht).1; show ((t.s.toNat : Nat) : Int) = t.s; omega
  rw [e]
  exact c.zH6
 refine zv9 fun j s hs => ?_
 rw [List.getElem?_map] at hs
 obtain ⟨t, ht, rfl⟩ := Option.map_eq_some_iff.1 hs
 have hm := List.mem_of_getElem? ht
 have h1 := zi7 hg j t.s.toNat (by rw [List.getElem?_map, ht]; rfl)
 have h2 := hS t hm
 have h3 := (c.right hm).1
 refine ⟨by omega, ?_⟩
 rw [List.nil_append]
 have hjl : j < h.length := (List.getElem?_eq_some_iff.1 ht).1
 unfold qx3
 split
 ·rfl
 ·rename_i e he
  obtain ⟨i, hij, hi, rfl⟩ := za3 (z := zOf h) (ss := h.map fun t => t.s.toNat) (by simp [zOf]) j (by simp; omega) _ _ he
  rw [List.getElem?_map] at hi
  obtain ⟨u, hu, e⟩ := Option.map_eq_some_iff.1 hi
  have hmu := List.mem_of_getElem? hu
  have h4 := (c.right hmu).1
  have h5 := (c.at hij hu ht).1.2.2.2.2 (by omega)
  have h6 : ((zOf h).getD ((h.map fun t => t.s.toNat).take j).length (0, 0)).1 = t.b.toNat := by
   rw [List.length_take, List.length_map, Nat.min_eq_left (by omega)]
   exact (qw4 ht).1
  rw [h6, (qw4 hu).2]
  exact decide_eq_true (by omega)
theorem Can.wnd (c : Can h) : (qk6 (flO h)).Nodup := by
 have := c.may.2.2.1
 rwa [qB9, qU6] at this
theorem Can.writer (c : Can h) {o : O3} (ho : o ∈ flO h) (hv : o.v ≠ 0) : ∃ (i : Nat) (u : O3), (flO h)[i]? = some u ∧ u.w = true ∧ u.k = o.k ∧ u.v = o.v ∧ (o.w = true → u = o) := by
 obtain ⟨t, ht, hot⟩ := qD7.1 ho
 cases hw : o.w with
 | true =>
  obtain ⟨i, hi⟩ := List.mem_iff_getElem?.1 ho
  exact ⟨i, o, hi, hw, rfl, rfl, fun _ => rfl⟩
 | false =>
  obtain ⟨t2, ht2, u, hu, h1, h2, h3⟩ := c.may.2.2.2 t ht o hot hw hv
  obtain ⟨i, hi⟩ := List.mem_iff_getElem?.1 (qD7.2 ⟨t2, ht2, hu⟩)
  exact ⟨i, u, hi, h1, h2, h3, fun h => by cases h⟩
theorem Can.plc (c : Can h) {i : Nat} {u : O3} (hu : (flO h)[i]? = some u) (hw : u.w = true) : plV (flO h) u.v = (i : Int) + 1 := by
 unfold plV
 rw [za4 c.wnd hu hw]
 omega
theorem Can.ops (c : Can h) {o : O3} (ho : o ∈ flO h) : 0 ≤ o.k ∧ 0 ≤ o.v ∧ (o.w = true → 0 < o.v) := by
 obtain ⟨t, ht, hot⟩ := qD7.1 ho
 exact (c.right ht).2.2.2.2 o hot
theorem Can.ren (c : Can h) : jp0 (jF7 (plV (flO h))) h where
 s := fun x _ y _ e => e
 k := fun x _ y _ e => e
 v := fun x hx y hy e => by
  obtain ⟨t, ht, o, ho, hn, rfl⟩ := qn0.1 hx
  obtain ⟨t2, ht2, o2, ho2, hn2, rfl⟩ := qn0.1 hy
  obtain ⟨i, u, hi, hw, _, hv, _⟩ := c.writer (qD7.2 ⟨t, ht, ho⟩) hn
  obtain ⟨j, u2, hj, hw2, _, hv2, _⟩ := c.writer (qD7.2 ⟨t2, ht2, ho2⟩) hn2
  have e' : plV (flO h) o.v = plV (flO h) o2.v := e
  rw [← hv, ← hv2, c.plc hi hw, c.plc hj hw2] at e'
  have : i = j := by omega
  subst this
  rw [hi] at hj
  cases hj
  rw [← hv, hv2]
 z := fun x _ => by show plV (flO h) x ≠ 0; unfold plV; omega
 r := fun x _ y _ e => e
theorem Can.back (c : Can h) : zJ (qy9 h) = h := by
 unfold qy9
 rw [jA4 c.ren]
 exact c.eq
def qU8 (h : List T4) : List (Bool × Nat) := (flO h).map fun o => (o.w, o.k.toNat)
def jQ3 (h : List T4) : List Nat := (flO (qy9 h)).map fun o => o.v.toNat
theorem qI9 (h : List T4) : flO (qy9 h) = (flO h).map (qr3 (jF7 (plV (flO h)))) := jF8 _ _
theorem Can.raw (c : Can h) {K S : Nat} (hS : ∀ t ∈ h, t.s < (S : Int)) (hK : ∀ o ∈ flO h, o.k < (K : Int)) :
  qp1 h.length K (jI h) S (zOf h) (h.map fun t => t.s.toNat) (lnO h) (qU8 h) (jQ3 h) ∧ qd1 (zOf h) (h.map fun t => t.s.toNat) (lnO h) (qU8 h) (jQ3 h) = qy9 h := by
 have hks : ((qU8 h).map fun x => (x.2 : Int)) = jV h := by
  rw [qC0]
  unfold qU8
  rw [List.map_map]
  exact List.map_congr_left fun o ho => by have := (c.ops ho).1; show ((o.k.toNat : Nat) : Int) = o.k; omega
 have hgk : qv8 0 ((qU8 h).map fun x => (x.2 : Int)) := by rw [hks]; exact c.keys
 have hpv : ∀ o ∈ flO h, 0 ≤ (qr3 (jF7 (plV (flO h))) o).v := by
  intro o ho
  show 0 ≤ (if o.v = 0 then 0 else plV (flO h) o.v)
  split
  ·omega
  ·unfold plV; omega
 have hok : OkV (qU8 h) 0 (qU8 h) (jQ3 h) := by
  refine jl2.2 ⟨by unfold jQ3 qU8; rw [List.length_map, List.length_map, qI9, List.length_map], fun j x v hx hv => ?_⟩
  unfold qU8 at hx
  rw [List.getElem?_map] at hx
  obtain ⟨o, ho, rfl⟩ := Option.map_eq_some_iff.1 hx
  have hm := List.mem_of_getElem? ho
  unfold jQ3 at hv
  rw [qI9, List.getElem?_map, List.getElem?_map, ho] at hv
  have hv' : (if o.v = 0 then 0 else plV (flO h) o.v).toNat = v := by simpa [qr3, jF7] using hv
  by_cases hw : o.w = true
  ·rw [if_pos hw]
   have hp := (c.ops hm).2.2 hw
   rw [if_neg (by omega), c.plc ho hw] at hv'
   omega
  ·rw [if_neg hw]
   unfold choices
   by_cases hz : o.v = 0
   ·rw [if_pos hz] at hv'
    rw [← hv']
    exact List.mem_cons_self
   ·rw [if_neg hz] at hv'
    obtain ⟨i, u, hi, hwu, hku, hvu, _⟩ := c.writer hm hz
    rw [← hvu, c.plc hi hwu] at hv'
    refine List.mem_cons_of_mem _ ((qH9 _ _ _ _).2 ⟨i, by omega, ?_⟩)
    unfold qU8
    rw [List.getElem?_map, hi]
    show some (u.w, u.k.toNat) = some (true, o.k.toNat)
    rw [hwu, hku]
 refine ⟨⟨c.ext, by rw [List.length_map], c.zY4 hS, by simp [lnO], by rw [zi5, qp0], fun k hk => ?_, by unfold qU8; rw [List.length_map, qp0], jQ2 hgk fun x hx => ?_, hok⟩, ?_⟩
 ·unfold lnO at hk
  obtain ⟨t, ht, rfl⟩ := List.mem_map.1 hk
  exact (c.right ht).2.2.2.1
 ·unfold qU8 at hx
  obtain ⟨o, ho, rfl⟩ := List.mem_map.1 hx
  have h1 := hK o ho
  have h2 := (c.ops ho).1
  show o.k.toNat < K
  omega
 ·have e1 : hds (zOf h) (h.map fun t => t.s.toNat) = (qy9 h).map hdT := by
   apply List.ext_getElem?
   intro i
   by_cases hi : i < h.length
   ·obtain ⟨t, ht, hm⟩ := get_some hi
    have h1 := c.right hm
    rw [zi6.2 ⟨t.s.toNat, (t.b.toNat, t.c.toNat), by rw [List.getElem?_map, ht]; rfl, by unfold zOf; rw [List.getElem?_map, ht]; rfl, rfl⟩]
    unfold qy9
    rw [List.map_map, List.getElem?_map, ht]
    show some (((t.s.toNat : Nat) : Int), ((t.b.toNat : Nat) : Int), ((t.c.toNat : Nat) : Int)) = some (t.s, t.b, t.c)
    rw [Int.toNat_of_nonneg h1.1, Int.toNat_of_nonneg h1.2.1, Int.toNat_of_nonneg (by omega)]
   ·rw [List.getElem?_eq_none (by unfold hds zOf; rw [List.length_zipWith, List.length_map, List.length_map]; omega), List.getElem?_eq_none (by unfold qy9; rw [List.length_map, List.length_map]; omega)]
  have e2 : lnO h = lnO (qy9 h) := (zH7 _ _).symm
  have e3 : jF6 (qU8 h) (jQ3 h) = flO (qy9 h) := by
   apply List.ext_getElem?
   intro i
   by_cases hi : i < (flO h).length
   ·obtain ⟨o, ho⟩ : ∃ o, (flO h)[i]? = some o := ⟨_, List.getElem?_eq_getElem hi⟩
    have hm := List.mem_of_getElem? ho
    have h1 := (c.ops hm).1
    have h2 := hpv o hm
    have hp : (flO (qy9 h))[i]? = some (qr3 (jF7 (plV (flO h))) o) := by rw [qI9, List.getElem?_map, ho]; rfl
    rw [hp]
    refine qG9.2 ⟨(o.w, o.k.toNat), (qr3 (jF7 (plV (flO h))) o).v.toNat, by unfold qU8; rw [List.getElem?_map, ho]; rfl, by unfold jQ3; rw [List.getElem?_map, hp]; rfl, ?_⟩
    unfold zH5
    rw [Int.toNat_of_nonneg h1, Int.toNat_of_nonneg h2]
    rfl
   ·rw [List.getElem?_eq_none (by unfold jF6 qU8 jQ3; rw [List.length_zipWith, List.length_map, List.length_map]; omega), List.getElem?_eq_none (by rw [qI9, List.length_map]; omega)]
  unfold qd1
  rw [e1, e2, e3]
  exact jP9 _
def Fits (n m S K : Nat) (h : List T4) : Prop := Can h ∧ h.length = n ∧ jI h = m ∧ (∀ t ∈ h, t.s < (S : Int)) ∧ ∀ o ∈ flO h, o.k < (K : Int)
theorem qp1.fits {n K m S : Nat} {z : List (Nat × Nat)} {ss cs : List Nat} {ks : List (Bool × Nat)} {vs : List Nat} (r : qp1 n K m S z ss cs ks vs) (hn : n ≤ 64) (hm : m ≤ 64) : Fits n m S K (zJ (qd1 z ss cs ks vs)) := by
 have hfl : (flO (qd1 z ss cs ks vs)).length = m := by rw [r.spec.2.2, qx5 (by rw [r.vl, r.kl]), r.kl]
 refine ⟨⟨jj4 (r.check hn hm), jZ7 (r.may hn hm)⟩, by rw [qG0, r.length], by rw [qY1, qp0, hfl], ?_, ?_⟩
 ·rw [r.canon]
  intro t ht
  obtain ⟨u, hu, rfl⟩ := List.mem_map.1 ht
  obtain ⟨i, hi⟩ := List.mem_iff_getElem?.1 hu
  obtain ⟨s, y, h1, _, e1, _⟩ := r.at hi
  have := (za1 r.s (by simp [qb5]) s (List.mem_of_getElem? h1)).1
  show u.s < (S : Int)
  omega
 ·rw [r.canon, jF8]
  intro o ho
  obtain ⟨u, hu, rfl⟩ := List.mem_map.1 ho
  rw [r.spec.2.2] at hu
  obtain ⟨j, hj⟩ := List.mem_iff_getElem?.1 hu
  obtain ⟨x, v, h1, _, rfl⟩ := qG9.1 hj
  have := (jp5 r.k x (List.mem_of_getElem? h1)).1
  show (x.2 : Int) < (K : Int)
  omega
end Go.Proofs.Ytngkneknopenmaa.qd6
end
section
namespace Go.Proofs.Ytngkneknopenmaa.Hist
set_option linter.unusedSimpArgs false
open Go Go.RowKit Go.Proofs.Ytngkneknopenmaa.qb8 Go.Proofs.Ytngkneknopenmaa.qj8
theorem zq3 {α β : Type} {f : α → β} {m' m : List β} (h : m'.Perm m) : ∀ l : List α, l.map f = m → ∃ l' : List α, l'.Perm l ∧ m' = l'.map f := by
 induction h with
 | nil => intro l hl; exact ⟨[], by rw [List.map_eq_nil_iff.1 hl], rfl⟩
 | cons x p ih =>
  intro l hl
  cases l with
  | nil => cases hl
  | cons y l =>
   simp only [List.map_cons, List.cons.injEq] at hl
   obtain ⟨l', hp, e⟩ := ih l hl.2
   exact ⟨y :: l', hp.cons y, by rw [e, List.map_cons, hl.1]⟩
 | swap x y a =>
  intro l hl
  match l, hl with
  | u :: v :: l, hl =>
   simp only [List.map_cons, List.cons.injEq] at hl
   exact ⟨v :: u :: l, List.Perm.swap u v l, by simp [hl]⟩
 | trans p1 p2 ih1 ih2 =>
  intro l hl
  obtain ⟨l2, hp2, e2⟩ := ih2 l hl
  obtain ⟨l1, hp1, e1⟩ := ih1 l2 e2.symm
  exact ⟨l1, hp1.trans hp2, e1⟩
theorem qd0.perm {w : World} {base : Nat} {rows rows' : List TR} {h : List T4} (hs : qd0 w base rows h) (hp : rows'.Perm rows) : ∃ h' : List T4, h'.Perm h ∧ qd0 w base rows' h' := by
 have hz : (rows.zip h).map Prod.fst = rows := by rw [List.map_fst_zip]; rw [hs.1]; exact Nat.le_refl _
 have hz2 : (rows.zip h).map Prod.snd = h := by rw [List.map_snd_zip]; rw [hs.1]; exact Nat.le_refl _
 obtain ⟨z, hzp, e⟩ := zq3 hp (rows.zip h) hz
 refine ⟨z.map Prod.snd, by have := hzp.map Prod.snd; rw [hz2] at this; exact this, by rw [e]; simp, fun i r t hr ht => ?_, ?_⟩
 ·rw [e, List.getElem?_map] at hr
  rw [List.getElem?_map] at ht
  obtain ⟨x, hx, rfl⟩ := Option.map_eq_some_iff.1 hr
  rw [hx] at ht
  cases ht
  have hm : x ∈ rows.zip h := hzp.mem_iff.1 (List.mem_of_getElem? hx)
  obtain ⟨j, hj⟩ := List.mem_iff_getElem?.1 hm
  rw [List.getElem?_zip_eq_some] at hj
  exact hs.2.1 j x.1 x.2 hj.1 hj.2
 ·have := hp.map (·.g)
  rw [this.nodup_iff]
  exact hs.2.2
theorem za5 {h : List T4} (hc : zY h = 0) : h.length ≤ 64 ∧ jI h ≤ 1024 ∧ qy8 h := by
 by_cases hb : h.length > 64 ∨ jI h > 1024
 ·unfold zY at hc
  rw [if_pos hb] at hc
  cases hc
 ·exact ⟨by omega, by omega, (qB6 h (by omega) (by omega)).1 hc⟩
def Lst (l : List T4) (i : Nat) : Nat → List Int := fun c => if c = 0 then names (zT (l.take i)) else if c = 1 then names (jV (l.take i)) else if c = 2 then names (zH (l.take i)) else []
def qd8 (h l : List T4) : T4 → T4 := qU3 (names (zT l)) (names (jV l)) (names (zH l)) (qt6 h)
def Fst : Nat → Int := fun c => if c = 2 then 1 else 0
def Pst (p0 p1 p2 : Nat) : Nat → Nat := fun c => if c = 0 then p0 else if c = 1 then p1 else p2
theorem zw0 (l : List T4) : Lst l 0 = fun _ => [] := by
 funext c
 unfold Lst
 simp [zT, jV, zH, names]
theorem zw1 (w : World) (o0 o1 o2 : Obj) : (((w.alloc o0).alloc o1).alloc o2).heap[w.heap.size]? = some o0 ∧ (((w.alloc o0).alloc o1).alloc o2).heap[w.heap.size + 1]? = some o1 ∧ (((w.alloc o0).alloc o1).alloc o2).heap[w.heap.size + 1 + 1]? = some o2 := by
 have e : (((w.alloc o0).alloc o1).alloc o2).heap = ((w.heap.push o0).push o1).push o2 := rfl
 rw [e]
 refine ⟨?_, ?_, ?_⟩
 ·rw [Array.getElem?_push, if_neg (by simp; omega), Array.getElem?_push, if_neg (by simp), Array.getElem?_push, if_pos rfl]
 ·rw [Array.getElem?_push, if_neg (by simp), Array.getElem?_push, if_pos (by simp)]
 ·rw [Array.getElem?_push, if_pos (by simp)]
theorem zi8 {α : Type} {l : List α} {C : α → α} {i : Nat} {t : α} (h : l[i]? = some t) : ((l.take i).map C ++ l.drop i)[i]? = some t := by
 have hi := (List.getElem?_eq_some_iff.1 h).1
 rw [List.getElem?_append_right (by simp; omega)]
 simp [h, Nat.min_eq_left (Nat.le_of_lt hi)]
theorem zi9 {α : Type} {l : List α} {C : α → α} {i : Nat} {t : α} (h : l[i]? = some t) : ((l.take i).map C ++ l.drop i).set i (C t) = (l.take (i + 1)).map C ++ l.drop (i + 1) := by
 have hi := (List.getElem?_eq_some_iff.1 h).1
 have e : i - ((l.take i).map C).length = 0 := by simp [Nat.min_eq_left (Nat.le_of_lt hi)]
 have e2 : (l.drop i).set 0 (C t) = C t :: l.drop (i + 1) := by rw [List.drop_eq_getElem_cons hi]; rfl
 rw [List.set_append_right _ _ (by simp; omega), List.take_add_one, h, e, e2]
 simp
def qb2 (l : List T4) (i : Nat) (t : T4) (j : Nat) : Nat → List Int := fun c => if c = 0 then names (zT (l.take (i + 1))) else if c = 1 then names (jV (l.take i) ++ qk1 (t.ops.take j)) else if c = 2 then names (zH (l.take i) ++ qf2 (t.ops.take j)) else []
theorem qi1 {α : Type} {l : List α} {i : Nat} {t : α} (h : l[i]? = some t) : l.take (i + 1) = l.take i ++ [t] := by rw [List.take_add_one, h]; rfl
theorem zT3 {l : List T4} {i : Nat} {t : T4} (h : l[i]? = some t) : (fun d => if d = 0 then zG (Lst l i 0) t.s else Lst l i d) = qb2 l i t 0 := by
 funext c
 unfold qb2 Lst
 by_cases h0 : c = 0
 ·simp only [h0, if_true]
  rw [qi1 h]
  have : zT (l.take i ++ [t]) = zT (l.take i) ++ [t.s] := by simp [zT]
  rw [this, qo8]
 ·simp [h0, qk1, qf2]
theorem zj0 {l : List T4} {i : Nat} {t : T4} (h : l[i]? = some t) : qb2 l i t t.ops.length = Lst l (i + 1) := by
 funext c
 unfold qb2 Lst
 have e1 : jV (l.take (i + 1)) = jV (l.take i) ++ qk1 t.ops := by rw [qi1 h]; simp [jV]
 have e2 : zH (l.take (i + 1)) = zH (l.take i) ++ qf2 t.ops := by rw [qi1 h]; simp [zH]
 rw [e1, e2, List.take_length]
theorem qJ0 {ops : List O3} {j : Nat} {o : O3} (h : ops[j]? = some o) : qk1 (ops.take (j + 1)) = qk1 (ops.take j) ++ [o.k] := by rw [qi1 h]; simp [qk1]
theorem qU9 {ops : List O3} {j : Nat} {o : O3} (h : ops[j]? = some o) (hv : o.v ≠ 0) : qf2 (ops.take (j + 1)) = qf2 (ops.take j) ++ [o.v] := by rw [qi1 h]; simp [qf2, List.filter_append, hv]
theorem za6 {ops : List O3} {j : Nat} {o : O3} (h : ops[j]? = some o) (hv : o.v = 0) : qf2 (ops.take (j + 1)) = qf2 (ops.take j) := by rw [qi1 h]; simp [qf2, List.filter_append, hv]
theorem zw2 {l : List T4} {i j : Nat} {t : T4} {o : O3} (h : t.ops[j]? = some o) (hv : o.v = 0) : (fun d => if d = 1 then zG (qb2 l i t j 1) o.k else qb2 l i t j d) = qb2 l i t (j + 1) := by
 funext c
 unfold qb2
 rw [qJ0 h, za6 h hv, ← List.append_assoc, qo8]
 by_cases h1 : c = 1
 ·simp [h1]
 ·simp [h1]
theorem zw3 {l : List T4} {i j : Nat} {t : T4} {o : O3} (h : t.ops[j]? = some o) (hv : o.v ≠ 0) : (fun d => if d = 2 then zG (qb2 l i t j 2) o.v else (if d = 1 then zG (qb2 l i t j 1) o.k else qb2 l i t j d)) = qb2 l i t (j + 1) := by
 funext c
 unfold qb2
 rw [qJ0 h, qU9 h hv, ← List.append_assoc, qo8, ← List.append_assoc, qo8]
 by_cases h1 : c = 1
 ·subst h1
  simp
 ·by_cases h2 : c = 2
  ·subst h2
   simp
  ·by_cases h0 : c = 0
   ·subst h0
    simp
   ·simp [h0, h1, h2]
theorem zw4 {l : List T4} {i : Nat} {t : T4} (h : l[i]? = some t) : zU (zG (Lst l i 0) t.s) t.s = zU (names (zT l)) t.s := by
 have e : zT l = zT (l.take i ++ [t]) ++ zT (l.drop (i + 1)) := by rw [← qi1 h]; unfold zT; rw [← List.map_append, List.take_append_drop]
 have e2 : zT (l.take i ++ [t]) = zT (l.take i) ++ [t.s] := by simp [zT]
 rw [e, jh0 (by rw [e2]; simp), e2, qo8]
 rfl
theorem zw5 {l : List T4} {i j : Nat} {t : T4} {o : O3} (h : l[i]? = some t) (ho : t.ops[j]? = some o) : zU (zG (qb2 l i t j 1) o.k) o.k = zU (names (jV l)) o.k := by
 have e : jV l = (jV (l.take i) ++ qk1 (t.ops.take (j + 1))) ++ (qk1 (t.ops.drop (j + 1)) ++ jV (l.drop (i + 1))) := by
  have e1 : jV l = jV (l.take (i + 1)) ++ jV (l.drop (i + 1)) := by unfold jV; rw [← List.flatMap_append, List.take_append_drop]
  have e2 : jV (l.take (i + 1)) = jV (l.take i) ++ qk1 t.ops := by rw [qi1 h]; simp [jV]
  have e3 : qk1 t.ops = qk1 (t.ops.take (j + 1)) ++ qk1 (t.ops.drop (j + 1)) := by unfold qk1; rw [← List.map_append, List.take_append_drop]
  rw [e1, e2, e3]
  simp
 rw [e, jh0 (by rw [qJ0 ho]; simp), qJ0 ho, ← List.append_assoc, qo8]
 rfl
theorem zT4 {l : List T4} {i j : Nat} {t : T4} {o : O3} (h : l[i]? = some t) (ho : t.ops[j]? = some o) (hv : o.v ≠ 0) : zU (zG (qb2 l i t j 2) o.v) o.v = zU (names (zH l)) o.v := by
 have e : zH l = (zH (l.take i) ++ qf2 (t.ops.take (j + 1))) ++ (qf2 (t.ops.drop (j + 1)) ++ zH (l.drop (i + 1))) := by
  have e1 : zH l = zH (l.take (i + 1)) ++ zH (l.drop (i + 1)) := by unfold zH; rw [← List.flatMap_append, List.take_append_drop]
  have e2 : zH (l.take (i + 1)) = zH (l.take i) ++ qf2 t.ops := by rw [qi1 h]; simp [zH]
  have e3 : qf2 t.ops = qf2 (t.ops.take (j + 1)) ++ qf2 (t.ops.drop (j + 1)) := by unfold qf2; rw [← List.map_append, ← List.filter_append, List.take_append_drop]
  rw [e1, e2, e3]
  simp
 rw [e, jh0 (by rw [qU9 ho hv]; simp), qU9 ho hv, ← List.append_assoc, qo8]
 rfl
theorem CS.txn {w : World} {base B bR sR : Nat} {rest : List Value} {rows : List TR} {hs : List T4} {P : Nat → Nat} {M : Nat → Option Nat} {F : Nat → Int} {L : Nat → List Int} {fR : Int → Option Int} (h : CS w base B rest rows hs P M F L bR sR fR) {i : Nat} {r : TR} {t : T4} (hr : rows[i]? = some r) (ht : hs[i]? = some t) :
  w.cell? ⟨B, i * 4, none⟩ = some (.int .i64 t.s) ∧ w.cell? ⟨B, i * 4 + 1, none⟩ = some (.int .i64 t.b) ∧ w.cell? ⟨B, i * 4 + 2, none⟩ = some (.int .i64 t.c) ∧ w.cell? ⟨B, i * 4 + 3, none⟩ = some (.slice (some ⟨r.g, 0, none⟩) t.ops.length r.cp) ∧
   w.frozen? ⟨B, i * 4, none⟩ = false ∧ w.frozen? ⟨B, i * 4 + 1, none⟩ = false ∧ w.frozen? ⟨B, i * 4 + 2, none⟩ = false := by
 obtain ⟨a1, a2, a3, a4, a5, a6, a7⟩ := h.says.2.1 i r t hr ht
 obtain ⟨y0, y1, y2, y3⟩ := qB1 rows rest i r hr
 rw [a1] at y0
 rw [a2] at y1
 rw [a3] at y2
 rw [a4] at y3
 refine ⟨?_, ?_, ?_, ?_, Lib.frozen_of_heap h.row _, Lib.frozen_of_heap h.row _, Lib.frozen_of_heap h.row _⟩
 ·rw [Lib.cell_of_heap h.row, List.getElem?_toArray, y0]
 ·rw [Lib.cell_of_heap h.row, List.getElem?_toArray, y1]
 ·rw [Lib.cell_of_heap h.row, List.getElem?_toArray, y2]
 ·rw [Lib.cell_of_heap h.row, List.getElem?_toArray, y3]
theorem CS.op {w : World} {base B bR sR : Nat} {rest : List Value} {rows : List TR} {hs : List T4} {P : Nat → Nat} {M : Nat → Option Nat} {F : Nat → Int} {L : Nat → List Int} {fR : Int → Option Int} (h : CS w base B rest rows hs P M F L bR sR fR) {i j : Nat} {r : TR} {t : T4} {o : O3} (hr : rows[i]? = some r) (ht : hs[i]? = some t) (ho : t.ops[j]? = some o) :
  w.cell? ⟨r.g, j * 3 + 1, none⟩ = some (.int .i64 o.k) ∧ w.cell? ⟨r.g, j * 3 + 2, none⟩ = some (.int .i64 o.v) ∧ w.frozen? ⟨r.g, j * 3 + 1, none⟩ = false ∧ w.frozen? ⟨r.g, j * 3 + 2, none⟩ = false := by
 obtain ⟨_, _, _, _, _, _, rst, g, _⟩ := h.says.2.1 i r t hr ht
 obtain ⟨y0, y1, y2⟩ := g.cells j o ho
 exact ⟨y1, y2, g.free _, g.free _⟩
theorem zw6 (h : List T4) (x : Int) : (jE5 (qw2 h) x).getD (.int .i64 0) = .int .i64 (qt6 h x) := by
 unfold jE5 qt6
 cases qw2 h x <;> rfl
def RelO (h l : List T4) (w : World) (B p0 p1 p2 bR n : Nat) (rest : List Value) (v : Value) (wr : World) : Prop :=
 ∃ (i sR : Nat) (rows : List TR) (M : Nat → Option Nat), i ≤ n ∧ v = .int .i64 ((i : Nat) : Int) ∧ CS wr w.heap.size B rest rows ((l.take i).map (qd8 h l) ++ l.drop i) (Pst p0 p1 p2) M Fst (Lst l i) bR sR (qw2 h) ∧ Below w.heap.size w wr
theorem jQ4 {l : List T4} {i : Nat} {t : T4} (h : l[i]? = some t) (j : Nat) : jV l = (jV (l.take i) ++ qk1 (t.ops.take j)) ++ (qk1 (t.ops.drop j) ++ jV (l.drop (i + 1))) := by
 have e1 : jV l = jV (l.take (i + 1)) ++ jV (l.drop (i + 1)) := by unfold jV; rw [← List.flatMap_append, List.take_append_drop]
 have e2 : jV (l.take (i + 1)) = jV (l.take i) ++ qk1 t.ops := by rw [qi1 h]; simp [jV]
 have e3 : qk1 t.ops = qk1 (t.ops.take j) ++ qk1 (t.ops.drop j) := by unfold qk1; rw [← List.map_append, List.take_append_drop]
 rw [e1, e2, e3]
 simp
theorem jQ5 {l : List T4} {i : Nat} {t : T4} (h : l[i]? = some t) (j : Nat) : zH l = (zH (l.take i) ++ qf2 (t.ops.take j)) ++ (qf2 (t.ops.drop j) ++ zH (l.drop (i + 1))) := by
 have e1 : zH l = zH (l.take (i + 1)) ++ zH (l.drop (i + 1)) := by unfold zH; rw [← List.flatMap_append, List.take_append_drop]
 have e2 : zH (l.take (i + 1)) = zH (l.take i) ++ qf2 t.ops := by rw [qi1 h]; simp [zH]
 have e3 : qf2 t.ops = qf2 (t.ops.take j) ++ qf2 (t.ops.drop j) := by unfold qf2; rw [← List.map_append, ← List.filter_append, List.take_append_drop]
 rw [e1, e2, e3]
 simp
theorem qY4 : ∀ l : List T4, (jV l).length = jI l
 | [] => rfl
 | t :: l => by
  have : jV (t :: l) = qk1 t.ops ++ jV l := rfl
  rw [this, List.length_append, qY4 l, qp2]
  simp [qk1]
theorem qY5 : ∀ l : List T4, (zH l).length ≤ jI l
 | [] => Nat.le_refl _
 | t :: l => by
  have : zH (t :: l) = qf2 t.ops ++ zH l := rfl
  have h1 := qY5 l
  have h2 : (qf2 t.ops).length ≤ t.ops.length := by unfold qf2; rw [List.length_map]; exact List.length_filter_le _ _
  rw [this, List.length_append, qp2]
  omega
theorem jQ6 {l h : List T4} (hp : l.Perm h) : jI l = jI h := by unfold jI; exact (hp.map _).sum_nat
theorem qY6 {l : List T4} {i : Nat} {t : T4} (h : l[i]? = some t) (j : Nat) : (qb2 l i t j 1).length ≤ jI l := by
 have h1 := qj5 (jV (l.take i) ++ qk1 (t.ops.take j))
 have h2 := qY4 l
 rw [jQ4 h j, List.length_append] at h2
 show (names _).length ≤ _
 omega
theorem qJ1 {l : List T4} {i : Nat} {t : T4} (h : l[i]? = some t) (j : Nat) : (qb2 l i t j 2).length ≤ jI l := by
 have h1 := qj5 (zH (l.take i) ++ qf2 (t.ops.take j))
 have h2 := qY5 l
 rw [jQ5 h j, List.length_append] at h2
 show (names _).length ≤ _
 omega
def qJ2 (h l : List T4) (t : T4) (j : Nat) : T4 := { qd8 h l t with ops := (t.ops.take j).map (qA5 (names (jV l)) (names (zH l))) ++ t.ops.drop j }
theorem jA7 {h l : List T4} {t : T4} {j : Nat} {o : O3} (ho : t.ops[j]? = some o) : { qJ2 h l t j with ops := (qJ2 h l t j).ops.set j (qA5 (names (jV l)) (names (zH l)) o) } = qJ2 h l t (j + 1) := by
 have := zi9 (C := qA5 (names (jV l)) (names (zH l))) ho
 unfold qJ2
 dsimp only
 rw [this]
theorem zq4 (h l : List T4) (t : T4) : qJ2 h l t 0 = { t with s := (qd8 h l t).s, b := (qd8 h l t).b, c := (qd8 h l t).c } := by simp [qJ2, qd8, qU3]
theorem zw7 (h l : List T4) (t : T4) : qJ2 h l t t.ops.length = qd8 h l t := by simp [qJ2, qd8, qU3]
set_option maxHeartbeats 8000000 in
set_option maxRecDepth 100000 in
theorem zw8 (A : Option Addr) (cap : Nat) (h : List T4) (hcap : h.length ≤ cap) (hm : h.length ≤ 4611686018427387904) (hcnt : jI h ≤ 4611686018427387904) (w : World) (hr : RdT w A h) :
  Calls Try.prog 13 #[.slice A h.length cap] w fun e w' => Below w.heap.size w w' ∧ ((zY h ≠ 0 ∧ e = .returned (.slice none 0 0)) ∨ zY h = 0 ∧ ∃ v rows l, l.Perm h ∧ l.Pairwise (fun x y => x.b ≤ y.b) ∧ e = .returned v ∧ H2 w' w.heap.size v rows (qB8 (qt6 h) l)) := by
 have CC := jN7 A cap h hcap hm hcnt w hr
 obtain ⟨n, hn⟩ : ∃ n, h.length = n := ⟨_, rfl⟩
 have HN := Lib.hid hn
 rw [hn] at hm hcap CC ⊢
 have HCC := Lib.hid CC
 clear hn CC
 by_cases hck : zY h = 0
 ·obtain ⟨zY5, hcn, zY6⟩ := za5 hck
  have hright := zY6.1
  have CPC := fun (w' : World) (k : Below w.heap.size w w') => jZ2 A cap h zY5 (fun t ht => by
   have := hright t ht
   unfold qd7 at this
   simp only [Bool.and_eq_true, decide_eq_true_eq] at this
   omega) w' (hr.below k)
  have RKC := fun (w' : World) (k : Below w.heap.size w w') => jO8 A cap h zY5 (fun t ht => qI2 (hright t ht)) w' (hr.below k)
  rw [HN.out] at zY5 CPC RKC
  have HCPC := Lib.hid CPC
  have HRKC := Lib.hid RKC
  have zY7 := Lib.hid zY6
  have HCN := Lib.hid hcn
  have HCK := Lib.hid hck
  rw [hck] at HCC
  clear CPC RKC zY6 hright hcn hck hr
  go_enter Try.func13, Try.ntmps13
  go_wp2_with (first
   | (go_at_call 32; (with_reducible refine HCC.out.mono ?_); rintro e w1 ⟨rfl, k1⟩)
   | (go_at_call 36; (with_reducible refine (HCPC.out _ k1).mono ?_); rintro e w2 ⟨v2, zI, rfl, h2, hnn2, k2⟩))
  have hb2 : Below w.heap.size w w2 := k1.trans (k2.mono k1.size)
  obtain ⟨hown2, zj1⟩ := h2
  have hrl : zI.length = n := by rw [zj1.1, HN.out]
  rcases hown2.2 with ⟨e, _⟩ | ⟨B, cp, cur2, rfl, hB2, hh2, hcp, _, _, _⟩
  ·exact absurd e hnn2
  have SC := jw8 B cp w1.heap.size zI (by omega) w2 hown2
  rw [hrl] at SC ⊢
  with_reducible refine SC.mono ?_
  rintro e w3 ⟨rfl, qz8, hp3, zY8, hown3, zY9⟩
  have hB : w.heap.size ≤ B := by have := k1.size; omega
  obtain ⟨l, hlp, jA8⟩ := (zj1.grown zY9 (fun r hr e => by
   have := zj1.jE2 hown2 r hr
   exact this e)).perm hp3
  have hb3 : Below w.heap.size w w3 := hb2.grown zY9 hb2.size (fun j hj => by cases hj; exact hB)
  have hll : l.length = n := by rw [hlp.length_eq, HN.out]
  have hr3 : qz8.length = n := by rw [hp3.length_eq, hrl]
  have hpl : l.Pairwise (fun x y => x.b ≤ y.b) := by
   rw [List.pairwise_iff_getElem] at zY8 ⊢
   intro i j hi hj hij
   have h1 := zY8 i j (by omega) (by omega) hij
   obtain ⟨_, e1, _⟩ := jA8.2.1 i qz8[i] l[i] (List.getElem?_eq_getElem _) (List.getElem?_eq_getElem _)
   obtain ⟨_, e2, _⟩ := jA8.2.1 j qz8[j] l[j] (List.getElem?_eq_getElem _) (List.getElem?_eq_getElem _)
   rw [← e1, ← e2]
   exact h1
  obtain ⟨rest, hrow3, hrest, hcpm, hncp⟩ : ∃ rest, w3.heap[B]? = some (.cells (qg1 qz8 ++ rest).toArray 55 (0, 0)) ∧ n * 4 + rest.length = cp * 4 ∧ cp ≤ maxLen ∧ n ≤ cp := by
   rcases hown3.2 with ⟨e, _⟩ | ⟨g, c, cur, he, _, hh, h1, h2, h3, h4⟩
   ·cases e
   ·cases he
    refine ⟨cur.toList.drop (n * 4), ?_, by rw [List.length_drop, Array.length_toList, h3]; omega, h2, h1⟩
    rw [hh, ← hr3, ← (show cur.toList.take (qz8.length * 4) = qg1 qz8 by rw [hr3]; exact h4), List.take_append_drop]
  have jO3 := Lib.hid (show qd0 w3 w.heap.size qz8 l from ⟨jA8.1, fun i r t hr ht => by
   obtain ⟨a1, a2, a3, a4, a5, a6, a7⟩ := jA8.2.1 i r t hr ht
   exact ⟨a1, a2, a3, a4, a5, by have := k1.size; omega, a7⟩, jA8.2.2⟩)
  have zH9 := Lib.hid hrow3
  have HB3 := Lib.hid hb3
  have HPL := Lib.hid hpl
  have HLP := Lib.hid hlp
  have HLL := Lib.hid hll
  have zI0 := Lib.hid hown3
  clear hb2 hown2 zj1 hh2 hcp SC hp3 zY8 hown3 zY9 jA8 hb3 hpl hlp hll hrow3 k1 k2 hnn2 hB2 HCC HCPC
  go_wp2_with (go_at_call 40; (with_reducible refine (HRKC.out _ HB3.out).mono ?_); rintro e w4 ⟨bR, sR, rfl, himR, hloR, k4⟩)
  have hCS : CS (((w4.alloc (.cells #[.map none, .int .i64 0] 77)).alloc (.cells #[.map none, .int .i64 0] 77)).alloc (.cells #[.map none, .int .i64 1] 77)) w.heap.size B rest qz8 ((l.take 0).map (qd8 h l) ++ l.drop 0) (Pst w4.heap.size (w4.heap.size + 1) (w4.heap.size + 1 + 1)) (fun _ => none) Fst (Lst l 0) bR sR (qw2 h) := by
   obtain ⟨a0, a1, a2⟩ := zw1 w4 (.cells #[.map none, .int .i64 0] 77) (.cells #[.map none, .int .i64 0] 77) (.cells #[.map none, .int .i64 1] 77)
   have hb5 : Below w4.heap.size w4 (((w4.alloc (.cells #[.map none, .int .i64 0] 77)).alloc (.cells #[.map none, .int .i64 0] 77)).alloc (.cells #[.map none, .int .i64 1] 77)) := (((Below.refl _ _).alloc (Nat.le_refl _) _).alloc (by simp) _).alloc (by simp; omega) _
   have hB4 := k4.block B (Array.getElem?_eq_some_iff.1 zH9.out).1
   have hs3 := HB3.out.size
   have hs4 := k4.size
   rw [zw0]
   constructor
   ·exact (hb5.block B (by have := (Array.getElem?_eq_some_iff.1 zH9.out).1; omega)).trans (hB4.trans zH9.out)
   ·exact (jO3.out.below k4).below hb5
   ·intro c hc
    unfold Pst Fst
    match c, hc with
    | 0, _ => exact ⟨a0, fun _ => rfl, by simp⟩
    | 1, _ => exact ⟨a1, fun _ => rfl, by simp⟩
    | 2, _ => exact ⟨a2, fun _ => rfl, by simp⟩
   ·exact himR.below hb5
   ·exact hB
   ·intro c hc
    unfold Pst
    split
    ·omega
    ·split <;> omega
   ·simp
   ·intro c d hc hd hne
    unfold Pst
    match c, d, hc, hd with
    | 0, 0, _, _ => exact absurd rfl hne
    | 0, 1, _, _ => simp
    | 0, 2, _, _ => simp; omega
    | 1, 0, _, _ => simp
    | 1, 1, _, _ => exact absurd rfl hne
    | 1, 2, _, _ => simp
    | 2, 0, _, _ => simp; omega
    | 2, 1, _, _ => simp
    | 2, 2, _, _ => exact absurd rfl hne
   ·simp
   ·simp
  have hb5 : Below w.heap.size w (((w4.alloc (.cells #[.map none, .int .i64 0] 77)).alloc (.cells #[.map none, .int .i64 0] 77)).alloc (.cells #[.map none, .int .i64 1] 77)) := by
   have hb4 := HB3.out.trans (k4.mono HB3.out.size)
   exact ((hb4.alloc hb4.size _).alloc (by simp; have := hb4.size; omega) _).alloc (by simp; have := hb4.size; omega) _
  have HCS := Lib.hid hCS
  have HB5 := Lib.hid hb5
  clear hCS hb5 zH9 jO3 HB3 zI0 himR hloR k4 HRKC
  obtain ⟨W5, hW5⟩ : ∃ W5, (((w4.alloc (.cells #[.map none, .int .i64 0] 77)).alloc (.cells #[.map none, .int .i64 0] 77)).alloc (.cells #[.map none, .int .i64 1] 77)) = W5 := ⟨_, rfl⟩
  rw [hW5] at HCS HB5 ⊢
  clear hW5
  obtain ⟨p2, hp2⟩ : ∃ p2, w4.heap.size + 1 + 1 = p2 := ⟨_, rfl⟩
  rw [hp2] at HCS ⊢
  obtain ⟨p1, hp1⟩ : ∃ p1, w4.heap.size + 1 = p1 := ⟨_, rfl⟩
  rw [hp1] at HCS ⊢
  obtain ⟨p0, hp0⟩ : ∃ p0, w4.heap.size = p0 := ⟨_, rfl⟩
  rw [hp0] at HCS ⊢
  clear hp0 hp1 hp2
  go_loopw [26] (fun v wr => RelO h l w B p0 p1 p2 bR n rest v wr) (fun v _ => n - (intOf v).toNat)
  case atStart => exact ⟨0, sR, qz8, _, Nat.zero_le _, rfl, HCS.out, HB5.out⟩
  case round =>
   clear HCS HB5
   obtain ⟨i, sR, rows, M, hi, rfl, cs, hb⟩ := hrel
   by_cases hlt : i < n
   ·have hltz : (i : Int) < (n : Int) := by omega
    obtain ⟨t, ht⟩ : ∃ t, l[i]? = some t := ⟨_, List.getElem?_eq_getElem (by rw [HLL.out]; exact hlt)⟩
    have htm := zi8 (C := qd8 h l) ht
    obtain ⟨r, hrr⟩ : ∃ r, rows[i]? = some r := ⟨_, List.getElem?_eq_getElem (by rw [cs.says.1]; exact (List.getElem?_eq_some_iff.1 htm).1)⟩
    obtain ⟨c0, c1, c2, c3, f0, f1, f2⟩ := cs.txn hrr htm
    have hrt := zY7.out.1 t (HLP.out.mem_iff.1 (List.mem_of_getElem? ht))
    obtain ⟨o1, o2, o3, o4, o5, o6⟩ := qI2 hrt
    have NC := fun (W : World) (k : Below wr.heap.size wr W) => qU2 p0 (M 0) 0 (Lst l i 0) t.s (by omega) (by omega) (by
     have := qj5 (zT (l.take i))
     unfold Lst
     simp [zT] at this ⊢
     have := HLL.out
     omega) (fun e => by
      obtain ⟨es, cl, h2⟩ := qU4 ((cs.nm 0 (by omega)).2.2 p0 e)
      have h1 := (cs.nm 0 (by omega)).1
      rw [show Pst p0 p1 p2 0 = p0 from rfl, h2] at h1
      cases h1) W ((cs.nm 0 (by omega)).move (Trn.of_below (S := fun _ => False) k) id (fun _ _ => id))
    have LK := fun (W : World) (hR : IM Try.prog 3 W bR (jE5 (qw2 h)) sR) (x : Int) (hx : (Lit.int .i64 x).wf = true) => hR.look Try.underlying34 Try.underlying3 (z := .int .i64 0) (t := 34) (e := 3) (by kernel_rfl) false hx
    have WB := qX8 (x := t.b) (by omega) (by omega)
    have WC := qX8 (x := t.c) (by omega) (by omega)
    simp only [Bool.false_eq_true, if_false, zw6] at LK
    have lk1 := LK wr.drew (cs.rk.below ((Below.refl _ _).drew)) t.b WB
    have lk2 := LK wr.drew (cs.rk.below ((Below.refl _ _).drew)) t.c WC
    have HNC := Lib.hid (NC wr.drew ((Below.refl _ _).drew))
    have HLK := Lib.hid LK
    have HCS := Lib.hid cs
    have HB := Lib.hid hb
    have HW1 := Lib.hid WB
    have HW2 := Lib.hid WC
    have HT := Lib.hid ht
    have HTM := Lib.hid htm
    have HRR := Lib.hid hrr
    clear NC LK cs hb WB WC hrt o1 o2 o3 o4 o5 o6 ht htm hrr
    go_upto_region 11 with fail
    go_cut [26] from 26 to 94 (fun v26 wx => v26 = .int .i64 (i : Int) ∧ ∃ M' : Nat → Option Nat, CS wx w.heap.size B rest (rows.set i { r with s := (qd8 h l t).s, b := (qd8 h l t).b, c := (qd8 h l t).c }) (((l.take i).map (qd8 h l) ++ l.drop i).set i { t with s := (qd8 h l t).s, b := (qd8 h l t).b, c := (qd8 h l t).c }) (Pst p0 p1 p2) M' Fst (qb2 l i t 0) bR sR (qw2 h) ∧ Below w.heap.size w wx)
    case first =>
     have hA : ∀ W : World, CS W w.heap.size B rest rows ((l.take i).map (qd8 h l) ++ l.drop i) (Pst p0 p1 p2) M Fst (Lst l i) bR sR (qw2 h) → W.cell? ⟨B, i * 4, none⟩ = some (.int .i64 t.s) := fun W c => (c.txn HRR.out HTM.out).1
     refine jA.qB2 [20, 21, 22, 23, 24, 25, 26, 27, 28] (fun W => W.cell? ⟨B, i * 4, none⟩ = some (.int .i64 t.s) ∧ W.cell? ⟨B, i * 4 + 1, none⟩ = some (.int .i64 t.b) ∧ W.cell? ⟨B, i * 4 + 2, none⟩ = some (.int .i64 t.c) ∧ (Instr.lookup 34 (.map (some bR)) (.int .i64 t.b) false).run Try.prog W = .ok (.int .i64 (qt6 h t.b)) W ∧ (Instr.lookup 34 (.map (some bR)) (.int .i64 t.c) false).run Try.prog W = .ok (.int .i64 (qt6 h t.c)) W) (by kernel_rfl) ?_
     have hAA : (fun W : World => W.cell? ⟨B, i * 4, none⟩ = some (.int .i64 t.s) ∧ W.cell? ⟨B, i * 4 + 1, none⟩ = some (.int .i64 t.b) ∧ W.cell? ⟨B, i * 4 + 2, none⟩ = some (.int .i64 t.c) ∧ (Instr.lookup 34 (.map (some bR)) (.int .i64 t.b) false).run Try.prog W = .ok (.int .i64 (qt6 h t.b)) W ∧ (Instr.lookup 34 (.map (some bR)) (.int .i64 t.c) false).run Try.prog W = .ok (.int .i64 (qt6 h t.c)) W) wr.drew := ⟨c0, c1, c2, lk1, lk2⟩
     refine jA.zL (i := 0) (v := .pointer (some ⟨B, i * 4, none⟩)) rfl (by kernel_rfl) (by kernel_rfl) (by kernel_rfl) (fun _ _ _ h => h) (.inl ⟨rfl, fun W hW => ?_⟩) ?_
     ·(try obtain ⟨q0, q1, q2, q3, q4⟩ := hW); go_simp
     simp only [Act.put, List.setIfInBounds_toArray, List.set_cons_zero, List.set_cons_succ]
     refine jA.zL (i := 1) (v := .pointer (some ⟨B, i * 4, none⟩)) rfl (by kernel_rfl) (by kernel_rfl) (by kernel_rfl) (fun _ _ _ h => h) (.inl ⟨rfl, fun W hW => ?_⟩) ?_
     ·(try obtain ⟨q0, q1, q2, q3, q4⟩ := hW); go_simp
     simp only [Act.put, List.setIfInBounds_toArray, List.set_cons_zero, List.set_cons_succ]
     refine jA.zL (i := 2) (v := .pointer (some ⟨B, i * 4, none⟩)) rfl (by kernel_rfl) (by kernel_rfl) (by kernel_rfl) (fun _ _ _ h => h) (.inl ⟨rfl, fun W hW => ?_⟩) ?_
     ·(try obtain ⟨q0, q1, q2, q3, q4⟩ := hW); go_simp
     simp only [Act.put, List.setIfInBounds_toArray, List.set_cons_zero, List.set_cons_succ]
     refine jA.zL (i := 3) (v := .pointer (some ⟨B, i * 4, none⟩)) rfl (by kernel_rfl) (by kernel_rfl) (by kernel_rfl) (fun _ _ _ h => h) (.inl ⟨rfl, fun W hW => ?_⟩) ?_
     ·(try obtain ⟨q0, q1, q2, q3, q4⟩ := hW); go_simp
     simp only [Act.put, List.setIfInBounds_toArray, List.set_cons_zero, List.set_cons_succ]
     refine jA.zL (i := 4) (v := .pointer (some ⟨B, i * 4, none⟩)) rfl (by kernel_rfl) (by kernel_rfl) (by kernel_rfl) (fun _ _ _ h => h) (.inl ⟨rfl, fun W hW => ?_⟩) ?_
     ·(try obtain ⟨q0, q1, q2, q3, q4⟩ := hW); go_simp
     simp only [Act.put, List.setIfInBounds_toArray, List.set_cons_zero, List.set_cons_succ]
     refine jA.zL (i := 5) (v := .pointer (some ⟨B, i * 4, none⟩)) rfl (by kernel_rfl) (by kernel_rfl) (by kernel_rfl) (fun _ _ _ h => h) (.inl ⟨rfl, fun W hW => ?_⟩) ?_
     ·(try obtain ⟨q0, q1, q2, q3, q4⟩ := hW); go_simp
     simp only [Act.put, List.setIfInBounds_toArray, List.set_cons_zero, List.set_cons_succ]
     refine jA.qs6 (i := 6) (v := .int .i64 t.s) rfl (by kernel_rfl) (by kernel_rfl) (by kernel_rfl) (by kernel_rfl) (fun _ _ _ h => h) (.inl ⟨rfl, fun W hW => ?_⟩) hAA ?_
     ·(try obtain ⟨q0, q1, q2, q3, q4⟩ := hW); go_simp
     simp only [Act.put, List.setIfInBounds_toArray, List.set_cons_zero, List.set_cons_succ]
     refine jA.zL (i := 8) (v := .map (some bR)) rfl (by kernel_rfl) (by kernel_rfl) (by kernel_rfl) (fun _ _ _ h => h) (.inl ⟨rfl, fun W hW => ?_⟩) ?_
     ·(try obtain ⟨q0, q1, q2, q3, q4⟩ := hW); go_simp
     simp only [Act.put, List.setIfInBounds_toArray, List.set_cons_zero, List.set_cons_succ]
     refine jA.zL (i := 9) (v := .pointer (some ⟨B, i * 4, none⟩)) rfl (by kernel_rfl) (by kernel_rfl) (by kernel_rfl) (fun _ _ _ h => h) (.inl ⟨rfl, fun W hW => ?_⟩) ?_
     ·(try obtain ⟨q0, q1, q2, q3, q4⟩ := hW); go_simp
     simp only [Act.put, List.setIfInBounds_toArray, List.set_cons_zero, List.set_cons_succ]
     refine jA.zL (i := 10) (v := .pointer (some ⟨B, i * 4, none⟩)) rfl (by kernel_rfl) (by kernel_rfl) (by kernel_rfl) (fun _ _ _ h => h) (.inl ⟨rfl, fun W hW => ?_⟩) ?_
     ·(try obtain ⟨q0, q1, q2, q3, q4⟩ := hW); go_simp
     simp only [Act.put, List.setIfInBounds_toArray, List.set_cons_zero, List.set_cons_succ]
     refine jA.zL (i := 11) (v := .pointer (some ⟨B, i * 4 + 1, none⟩)) rfl (by kernel_rfl) (by kernel_rfl) (by kernel_rfl) (fun _ _ _ h => h) (.inl ⟨rfl, fun W hW => ?_⟩) ?_
     ·(try obtain ⟨q0, q1, q2, q3, q4⟩ := hW); go_simp
     simp only [Act.put, List.setIfInBounds_toArray, List.set_cons_zero, List.set_cons_succ]
     refine jA.qs6 (i := 12) (v := .int .i64 t.b) rfl (by kernel_rfl) (by kernel_rfl) (by kernel_rfl) (by kernel_rfl) (fun _ _ _ h => h) (.inl ⟨rfl, fun W hW => ?_⟩) hAA ?_
     ·(try obtain ⟨q0, q1, q2, q3, q4⟩ := hW); go_simp
     simp only [Act.put, List.setIfInBounds_toArray, List.set_cons_zero, List.set_cons_succ]
     refine jA.qs6 (i := 13) (v := .int .i64 (qt6 h t.b)) rfl (by kernel_rfl) (by kernel_rfl) (by kernel_rfl) (by kernel_rfl) (fun _ _ _ h => h) (.inl ⟨rfl, fun W hW => ?_⟩) hAA ?_
     ·(try obtain ⟨q0, q1, q2, q3, q4⟩ := hW); go_simp
     simp only [Act.put, List.setIfInBounds_toArray, List.set_cons_zero, List.set_cons_succ]
     refine jA.zL (i := 14) (v := .map (some bR)) rfl (by kernel_rfl) (by kernel_rfl) (by kernel_rfl) (fun _ _ _ h => h) (.inl ⟨rfl, fun W hW => ?_⟩) ?_
     ·(try obtain ⟨q0, q1, q2, q3, q4⟩ := hW); go_simp
     simp only [Act.put, List.setIfInBounds_toArray, List.set_cons_zero, List.set_cons_succ]
     refine jA.zL (i := 15) (v := .pointer (some ⟨B, i * 4, none⟩)) rfl (by kernel_rfl) (by kernel_rfl) (by kernel_rfl) (fun _ _ _ h => h) (.inl ⟨rfl, fun W hW => ?_⟩) ?_
     ·(try obtain ⟨q0, q1, q2, q3, q4⟩ := hW); go_simp
     simp only [Act.put, List.setIfInBounds_toArray, List.set_cons_zero, List.set_cons_succ]
     refine jA.zL (i := 16) (v := .pointer (some ⟨B, i * 4, none⟩)) rfl (by kernel_rfl) (by kernel_rfl) (by kernel_rfl) (fun _ _ _ h => h) (.inl ⟨rfl, fun W hW => ?_⟩) ?_
     ·(try obtain ⟨q0, q1, q2, q3, q4⟩ := hW); go_simp
     simp only [Act.put, List.setIfInBounds_toArray, List.set_cons_zero, List.set_cons_succ]
     refine jA.zL (i := 17) (v := .pointer (some ⟨B, i * 4 + 2, none⟩)) rfl (by kernel_rfl) (by kernel_rfl) (by kernel_rfl) (fun _ _ _ h => h) (.inl ⟨rfl, fun W hW => ?_⟩) ?_
     ·(try obtain ⟨q0, q1, q2, q3, q4⟩ := hW); go_simp
     simp only [Act.put, List.setIfInBounds_toArray, List.set_cons_zero, List.set_cons_succ]
     refine jA.qs6 (i := 18) (v := .int .i64 t.c) rfl (by kernel_rfl) (by kernel_rfl) (by kernel_rfl) (by kernel_rfl) (fun _ _ _ h => h) (.inl ⟨rfl, fun W hW => ?_⟩) hAA ?_
     ·(try obtain ⟨q0, q1, q2, q3, q4⟩ := hW); go_simp
     simp only [Act.put, List.setIfInBounds_toArray, List.set_cons_zero, List.set_cons_succ]
     refine jA.qs6 (i := 19) (v := .int .i64 (qt6 h t.c)) rfl (by kernel_rfl) (by kernel_rfl) (by kernel_rfl) (by kernel_rfl) (fun _ _ _ h => h) (.inl ⟨rfl, fun W hW => ?_⟩) hAA ?_
     ·(try obtain ⟨q0, q1, q2, q3, q4⟩ := hW); go_simp
     simp only [Act.put, List.setIfInBounds_toArray, List.set_cons_zero, List.set_cons_succ]
     refine jA.qa7 (i := 7) rfl (by kernel_rfl) rfl ?_
     intro K7 hK7
     have HK7 := Lib.hid hK7
     clear hK7
     simp only [List.getElem_toArray, List.getElem_cons_succ, List.getElem_cons_zero]
     unfold Oper.wp
     go_simp
     go_at_call 41
     refine HNC.out.mono ?_
     rintro e w6 ⟨rfl, m6, hn6, hm6, ht6⟩
     have cs6 := (HCS.out.below ((Below.refl _ _).drew)).name (by have := HB.out.size; simpa using this) 0 (by omega) t.s hn6 hm6 ht6
     obtain ⟨d0, d1, d2, d3, g0, g1, g2⟩ := cs6.txn HRR.out HTM.out
     have lk3 := HLK.out w6 cs6.rk t.b HW1.out
     have lk4 := HLK.out w6 cs6.rk t.c HW2.out
     have CS6 := Lib.hid cs6
     have HT6 := Lib.hid ht6
     refine HK7.out _ _ ⟨fun _ _ => ⟨d0, d1, d2, lk3, lk4⟩, ?_⟩
     clear cs6 ht6 hn6 hm6 lk1 lk2 lk3 lk4 c0 c1 c2 c3 f0 f1 f2 hAA hA HK7 K7
     refine jA.qa7 (i := 20) rfl (by kernel_rfl) rfl ?_
     intro K7 hK7
     have HK7 := Lib.hid hK7
     clear hK7
     (try simp only [List.getElem_toArray, List.getElem_cons_succ, List.getElem_cons_zero])
     unfold Oper.wp
     go_simp
     refine HK7.out _ _ ⟨fun h => (by simp at h), ?_⟩
     clear HK7 K7
     (try simp only [Act.put, List.setIfInBounds_toArray, List.set_cons_zero, List.set_cons_succ])
     refine jA.qa7 (i := 21) rfl (by kernel_rfl) rfl ?_
     intro K7 hK7
     have HK7 := Lib.hid hK7
     clear hK7
     (try simp only [List.getElem_toArray, List.getElem_cons_succ, List.getElem_cons_zero])
     unfold Oper.wp
     go_simp
     refine HK7.out _ _ ⟨fun h => (by simp at h), ?_⟩
     clear HK7 K7
     (try simp only [Act.put, List.setIfInBounds_toArray, List.set_cons_zero, List.set_cons_succ])
     refine jA.qa7 (i := 22) rfl (by kernel_rfl) rfl ?_
     intro K7 hK7
     have HK7 := Lib.hid hK7
     clear hK7
     (try simp only [List.getElem_toArray, List.getElem_cons_succ, List.getElem_cons_zero])
     unfold Oper.wp
     go_simp
     refine HK7.out _ _ ⟨fun h => (by simp at h), ?_⟩
     clear HK7 K7
     (try simp only [Act.put, List.setIfInBounds_toArray, List.set_cons_zero, List.set_cons_succ])
     refine jA.qa7 (i := 23) rfl (by kernel_rfl) rfl ?_
     intro K7 hK7
     have HK7 := Lib.hid hK7
     clear hK7
     (try simp only [List.getElem_toArray, List.getElem_cons_succ, List.getElem_cons_zero])
     unfold Oper.wp
     go_simp
     refine HK7.out _ _ ⟨fun h => (by simp at h), ?_⟩
     clear HK7 K7
     (try simp only [Act.put, List.setIfInBounds_toArray, List.set_cons_zero, List.set_cons_succ])
     refine jA.qa7 (i := 24) rfl (by kernel_rfl) rfl ?_
     intro K7 hK7
     have HK7 := Lib.hid hK7
     clear hK7
     (try simp only [List.getElem_toArray, List.getElem_cons_succ, List.getElem_cons_zero])
     unfold Oper.wp
     go_simp
     refine HK7.out _ _ ⟨fun h => (by simp at h), ?_⟩
     clear HK7 K7
     (try simp only [Act.put, List.setIfInBounds_toArray, List.set_cons_zero, List.set_cons_succ])
     refine jA.qa7 (i := 25) rfl (by kernel_rfl) rfl ?_
     intro K7 hK7
     have HK7 := Lib.hid hK7
     clear hK7
     (try simp only [List.getElem_toArray, List.getElem_cons_succ, List.getElem_cons_zero])
     unfold Oper.wp
     go_simp
     refine HK7.out _ _ ⟨fun h => (by simp at h), ?_⟩
     clear HK7 K7
     (try simp only [Act.put, List.setIfInBounds_toArray, List.set_cons_zero, List.set_cons_succ])
     refine jA.qa7 (i := 26) rfl (by kernel_rfl) rfl ?_
     intro K7 hK7
     have HK7 := Lib.hid hK7
     clear hK7
     (try simp only [List.getElem_toArray, List.getElem_cons_succ, List.getElem_cons_zero])
     unfold Oper.wp
     go_simp
     refine HK7.out _ _ ⟨fun h => (by simp at h), ?_⟩
     clear HK7 K7
     (try simp only [Act.put, List.setIfInBounds_toArray, List.set_cons_zero, List.set_cons_succ])
     refine jA.qa7 (i := 27) rfl (by kernel_rfl) rfl ?_
     intro K7 hK7
     have HK7 := Lib.hid hK7
     clear hK7
     (try simp only [List.getElem_toArray, List.getElem_cons_succ, List.getElem_cons_zero])
     unfold Oper.wp
     go_simp
     refine HK7.out _ _ ⟨fun h => (by simp at h), ?_⟩
     clear HK7 K7
     (try simp only [Act.put, List.setIfInBounds_toArray, List.set_cons_zero, List.set_cons_succ])
     refine jA.qa7 (i := 28) rfl (by kernel_rfl) rfl ?_
     intro K7 hK7
     have HK7 := Lib.hid hK7
     clear hK7
     (try simp only [List.getElem_toArray, List.getElem_cons_succ, List.getElem_cons_zero])
     unfold Oper.wp
     go_simp
     refine HK7.out _ _ ⟨fun h => (by simp at h), ?_⟩
     clear HK7 K7
     (try simp only [Act.put, List.setIfInBounds_toArray, List.set_cons_zero, List.set_cons_succ])
     refine jA.qO2 (by kernel_rfl) ?_ _
     have cs7 := CS6.out.zY2 HRR.out HTM.out (zU (zG (Lst l i 0) t.s) t.s : Int) (qt6 h t.b) (qt6 h t.c)
     rw [zT3 HT.out, zw4 HT.out] at cs7
     rw [zw4 HT.out]
     have hlo := CS6.out.loB
     have hb6 : Below w.heap.size w w6 := Trn.below (HB.out.trans ((Below.refl _ _).drew.mono HB.out.size)) HT6.out (fun k hk => by
      rcases hk with rfl | hk
      ·exact HCS.out.loP 0 (by omega)
      ·exact HCS.out.loM 0 k (by omega) hk)
     have hb7 := hb6.grown (qY0 w6 B i (zU (names (zT l)) t.s : Int) (qt6 h t.b) (qt6 h t.c)) hb6.size (fun j hj => by cases hj; exact hlo)
     have CS7 := Lib.hid cs7
     have HB7 := Lib.hid hb7
     clear cs7 hb7 hb6 d0 d1 d2 d3 g0 g1 g2
     go_wp2_with fail
     go_meet
     case rel => exact ⟨rfl, _, CS7.out, HB7.out⟩
    case rest =>
     clear HNC HLK HCS HB HW1 HW2 lk1 lk2 c0 c1 c2 c3 f0 f1 f2
     obtain ⟨rfl, M1, cs1, hb1⟩ := hcut
     rw [← zq4] at cs1
     have hr1 : (rows.set i { r with s := (qd8 h l t).s, b := (qd8 h l t).b, c := (qd8 h l t).c })[i]? = some { r with s := (qd8 h l t).s, b := (qd8 h l t).b, c := (qd8 h l t).c } := by
      rw [List.getElem?_set_self (List.getElem?_eq_some_iff.1 HRR.out).1]
     have hil := (List.getElem?_eq_some_iff.1 HTM.out).1
     have ht1 : ∀ x, (((l.take i).map (qd8 h l) ++ l.drop i).set i x)[i]? = some x := fun x => List.getElem?_set_self hil
     obtain ⟨m, hm1⟩ : ∃ m, t.ops.length = m := ⟨_, rfl⟩
     have HMM := Lib.hid hm1
     have hm64 : m ≤ 64 := by rw [← hm1]; exact (qt3 (zY7.out.1 t (HLP.out.mem_iff.1 (List.mem_of_getElem? HT.out)))).1
     obtain ⟨_, _, _, c3, _, _, _⟩ := cs1.txn hr1 (ht1 _)
     rw [show (qJ2 h l t 0).ops.length = m by rw [← hm1]; simp [qJ2]] at c3
     dsimp only at c3
     have HCS1 := Lib.hid cs1
     have HB1 := Lib.hid hb1
     have HR1 := Lib.hid hr1
     have HT1 := Lib.hid ht1
     clear cs1 hb1 hr1 ht1 hm1 hil
     go_wp2_with fail
     go_loopw [63] (fun v wr => ∃ (j : Nat) (M' : Nat → Option Nat), j ≤ m ∧ v = .int .i64 ((j : Nat) : Int) ∧ CS wr w.heap.size B rest (rows.set i { r with s := (qd8 h l t).s, b := (qd8 h l t).b, c := (qd8 h l t).c }) (((l.take i).map (qd8 h l) ++ l.drop i).set i (qJ2 h l t j)) (Pst p0 p1 p2) M' Fst (qb2 l i t j) bR sR (qw2 h) ∧ Below w.heap.size w wr) (fun v _ => m - (intOf v).toNat)
     case atStart => exact ⟨0, M1, Nat.zero_le _, rfl, HCS1.out, HB1.out⟩
     case round =>
      clear HCS1 HB1 c3
      obtain ⟨j, M2, hj, rfl, cs, hb⟩ := hrel
      by_cases hjm : j < m
      ·have hjz : (j : Int) < (m : Int) := by omega
       obtain ⟨o, ho⟩ : ∃ o, t.ops[j]? = some o := ⟨_, List.getElem?_eq_getElem (by rw [HMM.out]; exact hjm)⟩
       have jo6 : (qJ2 h l t j).ops[j]? = some o := zi8 ho
       obtain ⟨_, _, _, c3, _, _, _⟩ := cs.txn HR1.out (HT1.out _)
       rw [show (qJ2 h l t j).ops.length = m by rw [← HMM.out]; simp [qJ2]; omega] at c3
       obtain ⟨k1, v1, fk1, fv1⟩ := cs.op HR1.out (HT1.out _) jo6
       dsimp only at c3 k1 v1 fk1 fv1
       have hoo := (qt3 (zY7.out.1 t (HLP.out.mem_iff.1 (List.mem_of_getElem? HT.out)))).2 o (List.mem_of_getElem? ho)
       obtain ⟨hk0, hk1, hv0, hv1⟩ := hoo
       have hcl : jI l ≤ 1024 := by rw [jQ6 HLP.out]; exact HCN.out
       have N1 := qU2 p1 (M2 1) 0 (qb2 l i t j 1) o.k (by omega) (by omega) (by have := qY6 HT.out j; omega) (fun e => by
        obtain ⟨es, cl, h2⟩ := qU4 ((cs.nm 1 (by omega)).2.2 p1 e)
        have h1 := (cs.nm 1 (by omega)).1
        rw [show Pst p0 p1 p2 1 = p1 from rfl, h2] at h1
        cases h1) wr (cs.nm 1 (by omega))
       have HN1 := Lib.hid N1
       have jQ7 := Lib.hid cs
       have HB2 := Lib.hid hb
       have HO := Lib.hid ho
       have zw9 := Lib.hid jo6
       have hgB : w.heap.size ≤ r.g := by
        have := (cs.says.lt { r with s := (qd8 h l t).s, b := (qd8 h l t).b, c := (qd8 h l t).c } (List.mem_of_getElem? HR1.out)).1
        exact this
       clear N1 cs hb ho jo6
       by_cases hvz : o.v = 0
       ·go_wp2_with (go_at_call 41; (with_reducible refine HN1.out.mono ?_); rintro e w6 ⟨rfl, m6, hn6, hm6, ht6⟩; have cs6 := jQ7.out.name HB2.out.size 1 (by omega) o.k hn6 hm6 ht6; obtain ⟨k6, v6, fk6, fv6⟩ := cs6.op HR1.out (HT1.out _) zw9.out; dsimp only at k6 v6 fk6 fv6; have HC6 := Lib.hid cs6; have HT6 := Lib.hid ht6; clear cs6 ht6 hn6 hm6)
        have hb6 : Below w.heap.size w w6 := Trn.below HB2.out HT6.out (fun k hk => by
         rcases hk with rfl | hk
         ·exact jQ7.out.loP 1 (by omega)
         ·exact jQ7.out.loM 1 k (by omega) hk)
        have cs7 := HC6.out.jO9 HR1.out (HT1.out _) (ops' := (qJ2 h l t j).ops.set j { o with k := (zU (zG (qb2 l i t j 1) o.k) o.k : Int) }) (by simp) (fun rst => jz9 _ rst j o _ zw9.out)
        have e1 : ({ o with k := (zU (zG (qb2 l i t j 1) o.k) o.k : Int) } : O3) = qA5 (names (jV l)) (names (zH l)) o := by
         rw [zw5 HT.out HO.out]
         unfold qA5
         rw [if_pos hvz, ← hvz]
        rw [e1, List.set_set, jA7 HO.out, zw2 HO.out hvz] at cs7
        have hb7 := hb6.grown (zV w6 r.g (j * 3 + 1) (.int .i64 (zU (zG (qb2 l i t j 1) o.k) o.k : Int))) hb6.size (fun q hq => by cases hq; exact hgB)
        go_roundw
        case rel => exact ⟨j + 1, _, by omega, by go_num, cs7, hb7⟩
        case measure => (simp [intOf]; try omega)
       ·have hvb : (o.v != 0) = true := by simp [hvz]
        have hjl : j < (qJ2 h l t j).ops.length := (List.getElem?_eq_some_iff.1 zw9.out).1
        have HJL := Lib.hid hjl
        clear hjl
        go_wp2_with (first
         | (go_at_call 41; (with_reducible refine HN1.out.mono ?_); rintro e w6 ⟨rfl, m6, hn6, hm6, ht6⟩; have cs6 := jQ7.out.name HB2.out.size 1 (by omega) o.k hn6 hm6 ht6; obtain ⟨k6, v6, fk6, fv6⟩ := cs6.op HR1.out (HT1.out _) zw9.out; dsimp only at k6 v6 fk6 fv6; have hb6 : Below w.heap.size w w6 := Trn.below HB2.out ht6 (fun k hk => by
           rcases hk with rfl | hk
           ·exact jQ7.out.loP 1 (by omega)
           ·exact jQ7.out.loM 1 k (by omega) hk); have cs7 := cs6.jO9 HR1.out (HT1.out _) (ops' := (qJ2 h l t j).ops.set j { o with k := (zU (zG (qb2 l i t j 1) o.k) o.k : Int) }) (by simp) (fun rst => jz9 _ rst j o _ zw9.out); rw [List.set_set] at cs7; have hb7 := hb6.grown (zV w6 r.g (j * 3 + 1) (.int .i64 (zU (zG (qb2 l i t j 1) o.k) o.k : Int))) hb6.size (fun q hq => by cases hq; exact hgB); have hset : ((qJ2 h l t j).ops.set j { o with k := (zU (zG (qb2 l i t j 1) o.k) o.k : Int) })[j]? = some { o with k := (zU (zG (qb2 l i t j 1) o.k) o.k : Int) } := List.getElem?_set_self HJL.out; obtain ⟨k7, v7, fk7, fv7⟩ := cs7.op HR1.out (HT1.out _) hset; dsimp only at k7 v7 fk7 fv7; have N2 := qU2 p2 (M2 2) 1 (qb2 l i t j 2) o.v (by omega) (by omega) (by have := qJ1 HT.out j; omega) (fun e => by
            obtain ⟨es, cl, h2⟩ := qU4 ((jQ7.out.nm 2 (by omega)).2.2 p2 e)
            have h1 := (jQ7.out.nm 2 (by omega)).1
            rw [show Pst p0 p1 p2 2 = p2 from rfl, h2] at h1
            cases h1) _ (cs7.nm 2 (by omega)); have HN2 := Lib.hid N2; have HC7 := Lib.hid cs7; have HB7 := Lib.hid hb7; have HSET := Lib.hid hset; clear cs6 cs7 ht6 hn6 hm6 hb6 hb7 N2 k7 fk7 hset)
         | (go_at_call 41; (with_reducible refine HN2.out.mono ?_); rintro e w8 ⟨rfl, m8, hn8, hm8, ht8⟩; have cs8 := HC7.out.name HB7.out.size 2 (by omega) o.v hn8 hm8 ht8; obtain ⟨k8, v8, fk8, fv8⟩ := cs8.op HR1.out (HT1.out _) HSET.out; dsimp only at k8 v8 fk8 fv8; have HC8 := Lib.hid cs8; have HT8 := Lib.hid ht8; clear cs8 hn8 hm8 ht8))
        have hb8 : Below w.heap.size w w8 := Trn.below HB7.out HT8.out (fun k hk => by
         rcases hk with rfl | hk
         ·exact HC7.out.loP 2 (by omega)
         ·exact HC7.out.loM 2 k (by omega) hk)
        have cs9 := HC8.out.jO9 HR1.out (HT1.out _) (ops' := ((qJ2 h l t j).ops.set j { o with k := (zU (zG (qb2 l i t j 1) o.k) o.k : Int) }).set j { ({ o with k := (zU (zG (qb2 l i t j 1) o.k) o.k : Int) } : O3) with v := 1 + (zU (zG (qb2 l i t j 2) o.v) o.v : Int) }) (by simp) (fun rst => jA0 _ rst j _ _ HSET.out)
        have e1 : ({ ({ o with k := (zU (zG (qb2 l i t j 1) o.k) o.k : Int) } : O3) with v := 1 + (zU (zG (qb2 l i t j 2) o.v) o.v : Int) } : O3) = qA5 (names (jV l)) (names (zH l)) o := by
         rw [zw5 HT.out HO.out, zT4 HT.out HO.out hvz]
         unfold qA5
         rw [if_neg hvz]
        rw [e1, List.set_set, List.set_set] at cs9
        have e2 := jA7 (h := h) (l := l) HO.out
        have hL := zw3 (l := l) (i := i) HO.out hvz
        have hb9 := hb8.grown (zV w8 r.g (j * 3 + 2) (.int .i64 (1 + (zU (zG (qb2 l i t j 2) o.v) o.v : Int)))) hb8.size (fun q hq => by cases hq; exact hgB)
        go_roundw
        case rel => exact ⟨j + 1, _, by omega, by go_num, by rw [← hL, ← e2]; exact cs9, hb9⟩
        case measure => (simp [intOf]; try omega)
      ·have zu4 : j = m := by omega
       subst zu4
       have cs5 := cs
       rw [← HMM.out, zw7, zi9 HT.out, zj0 HT.out] at cs5
       have HC5 := Lib.hid cs5
       have HB5 := Lib.hid hb
       clear cs cs5 hb
       go_wp2_with fail
       go_roundw
       case rel => exact ⟨i + 1, sR, _, M2, by omega, by go_num, HC5.out, HB5.out⟩
       case measure => (simp [intOf]; try omega)
   ·have hin : i = n := by omega
    subst hin
    have hcl : (l.take i).map (qd8 h l) ++ l.drop i = qB8 (qt6 h) l := by
     rw [List.take_of_length_le (by rw [HLL.out]; exact Nat.le_refl _), List.drop_of_length_le (by rw [HLL.out]; exact Nat.le_refl _), List.append_nil]
     rfl
    rw [hcl] at cs
    have hrl2 : rows.length = i := by rw [cs.says.1]; simp [qB8, HLL.out]
    have hown : wr.ownsRow w.heap.size 55 4 (.slice (some ⟨B, 0, none⟩) i cp) rows.length (qg1 rows) := by
     rw [hrl2]
     refine ⟨by rw [ql3, hrl2], .inr ⟨B, cp, _, rfl, hB, cs.row, hncp, hcpm, by simp [ql3, hrl2]; omega, ?_⟩⟩
     rw [← hrl2, ← ql3 rows]
     simp
    have HH := Lib.hid (show H2 wr w.heap.size (.slice (some ⟨B, 0, none⟩) i cp) rows (qB8 (qt6 h) l) from ⟨hown, cs.says⟩)
    have HB := Lib.hid hb
    clear cs hown hb
    go_wp2_with fail
    go_ret
    exact ⟨HB.out, .inr ⟨HCK.out, _, rows, l, HLP.out, HPL.out, rfl, HH.out⟩⟩
 ·have HCK := Lib.hid hck
  have hcz : (zY h != 0) = true := by simp [hck]
  clear hr hcnt
  obtain ⟨q, hq⟩ : ∃ q, zY h = q := ⟨_, rfl⟩
  rw [hq] at HCC HCK hcz hck ⊢
  clear hq
  go_enter Try.func13, Try.ntmps13
  go_wp2_with (go_at_call 32; (with_reducible refine HCC.out.mono ?_); rintro e w1 ⟨rfl, k1⟩)
  go_ret
  exact ⟨k1, .inl ⟨HCK.out, rfl⟩⟩
end Go.Proofs.Ytngkneknopenmaa.Hist
end
section
namespace Go.Proofs.Ytngkneknopenmaa.T
open Go.Proofs.Ytngkneknopenmaa Go.Proofs.Ytngkneknopenmaa.jZ5 Go.Proofs.Ytngkneknopenmaa.K
open Go.RowKit Go.Proofs.YtngkneknopenmaaW.PrintWords Go.Proofs.YtngkneknopenmaaW.qi2 Go.Proofs.YtngkneknopenmaaW.qk7
attribute [local go_sem] qr4 qr5 qw7 qw8 qn2 qn3 qr6 qr7   -- for this text's walks alone
set_option linter.unusedVariables false
set_option linter.unusedSimpArgs false
theorem zx0 : (Try.prog.info? 51).map (fun i => (i.zero, i.size, i.bytes)) = some (some (.agg #[(.bool false), (.int .i64 0), (.int .i64 0)]), 3, 24) := by kernel_rfl
end Go.Proofs.Ytngkneknopenmaa.T
end
section
namespace Go.Proofs.Ytngkneknopenmaa.T
open Go.Proofs.Ytngkneknopenmaa Go.Proofs.Ytngkneknopenmaa.jZ5 Go.Proofs.Ytngkneknopenmaa.K
open Go.RowKit Go.Proofs.YtngkneknopenmaaW.PrintWords Go.Proofs.YtngkneknopenmaaW.qi2 Go.Proofs.YtngkneknopenmaaW.qk7
attribute [local go_sem] qr4 qr5 qw7 qw8 qn2 qn3 qr6 qr7   -- for this text's walks alone
set_option linter.unusedVariables false
set_option linter.unusedSimpArgs false
mutual
def qF.l0 : Nat → List (S55) → List (S55) → Option ((List (S55)))
 | 0, _, _ => none
 | k + 1, x3, x4 => if (x4.length : Int) > 0 then (qF.l1 k x3 x4 0 0) else (some x3)
def qF.l1 : Nat → List (S55) → List (S55) → Int → Int → Option ((List (S55)))
 | 0, _, _, _, _ => none
 | k + 1, x3, x4, x5, x6 => if x6 < (x4.length : Int) then (if 0 ≤ x6 then (if 0 ≤ x5 then (if x5 < (x4.length : Int) then (if ((qD x4 x6).f1) < ((qD x4 x5).f1) then (qF.l1 k x3 x4 x6 (wrap64 (x6 + 1))) else (qF.l1 k x3 x4 x5 (wrap64 (x6 + 1)))) else (none)) else (none)) else (none)) else (if 0 ≤ x5 then (if x5 < (x4.length : Int) then (if x3.length < 2932031007402 then ((some (([] : List (S55)) : List (S55))).bind fun y165 => (if x5 ≤ (x4.length : Int) then ((some (x4.take (x5 : Int).toNat : List (S55))).bind fun y168 => (if y165.length + y168.length < 2932031007402 then ((some (y165 ++ y168 : List (S55))).bind fun y173 => (if 0 ≤ (wrap64 (x5 + 1)) then (if (wrap64 (x5 + 1)) ≤ (x4.length : Int) then ((some (x4.drop ((wrap64 (x5 + 1)) : Int).toNat : List (S55))).bind fun y176 => (if y173.length + y176.length < 2932031007402 then (qF.l0 k (x3 ++ [(⟨(qD x4 x5).f0, (qD x4 x5).f1, (qD x4 x5).f2, (qD x4 x5).f3⟩ : S55)]) (y173 ++ y176)) else (none))) else (none)) else (none))) else (none))) else (none))) else (none)) else (none)) else (none))
end
def qF.f (k : Nat) (l0 : List (S55)) : Option ((List (S55))) := (some (([] : List (S55)) : List (S55))).bind fun y153 => (if y153.length + l0.length < 2932031007402 then (qF.l0 k (([] : List (S55))) (y153 ++ l0)) else (none))
def qF.T8 : Bool × List (List Nat × List Nat) := (true, [([], []), ([], []), ([0, 1], [0, 1]), ([2], [2]), ([3], [3]), ([], []), ([], []), ([5, 6], [5, 6]), ([7], [7]), ([8], [8]), ([4, 9], [4, 9])])
def qF.B8 : List Nat := [0, 0, 3, 7, 15, 0, 0, 96, 224, 480, 1023]
theorem qF.tab8 : qA6 .any (opsOf Try.f43 8) = qF.T8 := by kernel_rfl
theorem qF.zT5 : qJ3 qF.T8.2 qF.B8 = true := by kernel_rfl
def qF.T11 : Bool × List (List Nat × List Nat) := (true, [([], []), ([], []), ([], []), ([1, 2], [1, 2]), ([0, 3], [0, 3]), ([], []), ([], []), ([6], [6]), ([5, 7], [5, 7]), ([4, 8, 4], [4, 8]), ([9, 9, 0, 1, 2, 3, 4, 5, 6, 7, 8, 9], [1, 5, 9])])
def qF.B11 : List Nat := [0, 0, 0, 6, 15, 0, 0, 64, 224, 511, 1023]
theorem qF.Qj1 : qA6 .any (opsOf Try.f43 11) = qF.T11 := by kernel_rfl
theorem qF.zZ0 : qJ3 qF.T11.2 qF.B11 = true := by kernel_rfl
set_option maxHeartbeats 8000000 in
set_option maxRecDepth 100000 in
theorem qF.calls (k : Nat) (P0_ : Nat → Prop) (A0 : Option Addr) (c0 : Nat) (l0 : List (S55)) (r : List (S55)) (w : World) (hs0 : Kd.V k55 55 w w.heap.size (fun k_ => P0_ k_) (.slice A0 l0.length c0) l0) (h : qF.f k l0 = some r) :
  Calls Try.prog 43 #[.slice A0 l0.length c0] w fun e w' => ∃ v0_ : Value, e = .returned (v0_) ∧ Kd.N k55 55 w' w.heap.size (fun k_ => (P0_ k_ ∨ w.heap.size ≤ k_)) v0_ r ∧ Below w.heap.size w w' := by
 have zx1 := Try.underlying55
 have HO0 := q8.mk (show Kd.V k55 55 w w.heap.size (fun k_ => (P0_ k_ ∨ w.heap.size ≤ k_)) (.slice A0 l0.length c0) l0 from Kd.zN hs0 (fun k_ hk => .inl hk))
 have HB := q8.mk (Below.refl w.heap.size w)
 have H : ((some (([] : List (S55)) : List (S55))).bind fun y153 => (if y153.length + l0.length < 2932031007402 then (qF.l0 k (([] : List (S55))) (y153 ++ l0)) else (none))) = some r := h
 clear h
 obtain ⟨y150, hy150⟩ : ∃ y_ : List (S55), y_ = (([] : List (S55))) := ⟨_, rfl⟩
 replace H : ((some (([] : List (S55)) : List (S55))).bind fun y153 => (if y153.length + l0.length < 2932031007402 then (qF.l0 k y150 (y153 ++ l0)) else (none))) = some r := by first | (rw [hy150]; with_reducible exact H) | (have H2_ := (Option.bind_some _ _).symm.trans H; rw [hy150]; with_reducible exact H2_) | (have H2_ := (Option.bind_some _ _).symm.trans H; with_reducible exact H2_) | with_reducible exact H | (rw [hy150]; exact H) | exact H
 have zT6 := q8.mk hy150
 clear hy150
 obtain ⟨y153, hy153⟩ : ∃ y_ : List (S55), y_ = (([] : List (S55))) := ⟨_, rfl⟩
 replace H : (if y153.length + l0.length < 2932031007402 then (qF.l0 k y150 (y153 ++ l0)) else (none)) = some r := by first | (rw [hy153]; with_reducible exact H) | (have H2_ := (Option.bind_some _ _).symm.trans H; rw [hy153]; with_reducible exact H2_) | (have H2_ := (Option.bind_some _ _).symm.trans H; with_reducible exact H2_) | with_reducible exact H | (rw [hy153]; exact H) | exact H
 have zT7 := q8.mk hy153
 clear hy153
 by_cases c2 : y153.length + l0.length < 2932031007402
 ·rw [if_pos c2] at H
  have LMc2 := q8.mk c2
  clear c2
  obtain ⟨y156, jQ8⟩ : ∃ y_ : List (S55), y_ = (y153 ++ l0) := ⟨_, rfl⟩
  replace H : (qF.l0 k y150 y156) = some r := by first | (rw [jQ8]; with_reducible exact H) | (have H2_ := (Option.bind_some _ _).symm.trans H; rw [jQ8]; with_reducible exact H2_) | (have H2_ := (Option.bind_some _ _).symm.trans H; with_reducible exact H2_) | with_reducible exact H | (rw [jQ8]; exact H) | exact H
  have Qj2 := q8.mk jQ8
  clear jQ8
  have H' := q8.mk H
  clear H
  go_enter Try.func43, Try.ntmps43
  go_wp2_with (first | ((with_reducible refine zW (N := 7) rfl ?_); refine Kd.zx2 k55 _ 55 ?hg (N' := 7) ?hd (xs := ([] : List (S55))) (inner := []) (ok := (fun k_ => (P0_ k_ ∨ w.heap.size ≤ k_))) (okp := (fun k_ => (P0_ k_ ∨ w.heap.size ≤ k_))) ?hr ?hp (fun _ hk => hk) ((show ∀ k_, w.heap.size ≤ k_ → (fun k_ => (P0_ k_ ∨ w.heap.size ≤ k_)) k_ from fun k_ hk => (.inr (Nat.le_trans (qJ (by repeat (first | (with_reducible first | exact HB.out | apply qA | apply q9 | apply qB) | exact HB.out))) hk))) _ (Nat.le_refl _)) (Below.refl _ _) (Nat.le_refl _) (by simp) ?_; (case hd => rfl); (case hg => rfl); (case hr => first | (go_simp; done) | (go_simp; rfl)); (case hp => exact (qc7.none _ _)); intro v151 w3 ho4 hb hg_ qC1; clear hg_ qC1; (first | rw [← zT6.out] at ho4 | (simp only [Int.reduceToNat] at ho4; rw [← zT6.out] at ho4)); have n0_ := q8.mk (Kd.qr8 (by (with_reducible repeat (first | apply Kd.jO | apply Kd.jP | apply Kd.zA)); exact HO0.out) (Kd.qC2 ho4) hb); have n1_ := q8.mk (Kd.qY7 ho4 (qJ (by repeat (first | (with_reducible first | exact HB.out | apply qA | apply q9 | apply qB) | exact HB.out)))); have n2_ := q8.mk (jL (by repeat (first | (with_reducible first | exact HB.out | apply qA | apply q9 | apply qB) | exact HB.out)) hb); clear HO0; clear HB; have HO0 := n0_; have qY8 := n1_; have HB := n2_; clear n0_ n1_ n2_; clear hb ho4) | ((with_reducible refine zW (N := 8) rfl ?_); refine Kd.zx2 k55 _ 55 ?hg (N' := 8) ?hd (xs := ([] : List (S55))) (inner := []) (ok := (fun k_ => (P0_ k_ ∨ w.heap.size ≤ k_) ∧ some k_ ≠ (v151 : Value).ownBlock)) (okp := (fun k_ => (P0_ k_ ∨ w.heap.size ≤ k_) ∧ some k_ ≠ (v151 : Value).ownBlock)) ?hr ?hp (fun _ hk => hk) ((show ∀ k_, w3.heap.size ≤ k_ → (fun k_ => (P0_ k_ ∨ w.heap.size ≤ k_) ∧ some k_ ≠ (v151 : Value).ownBlock) k_ from fun k_ hk => ⟨(.inr (Nat.le_trans (qJ (by repeat (first | (with_reducible first | exact HB.out | apply qA | apply q9 | apply qB) | exact HB.out))) hk)), Kd.fresh' (Kd.jx1 (by (with_reducible repeat (first | apply Kd.jD | apply Kd.jE | apply Kd.jJ)); exact qY8.out)) k_ hk⟩) _ (Nat.le_refl _)) (Below.refl _ _) (Nat.le_refl _) (by simp) ?_; (case hd => rfl); (case hg => rfl); (case hr => first | (go_simp; done) | (go_simp; rfl)); (case hp => exact (qc7.none _ _)); intro v154 w5 ho6 hb hg_ qC1; clear hg_ qC1; (first | rw [← zT7.out] at ho6 | (simp only [Int.reduceToNat] at ho6; rw [← zT7.out] at ho6)); have n0_ := q8.mk (Kd.qr8 (by (with_reducible repeat (first | apply Kd.jO | apply Kd.jP | apply Kd.zA)); exact HO0.out) (Kd.qC2 ho6) hb); have n1_ := q8.mk (Kd.qr9 (by (with_reducible repeat (first | apply Kd.jD | apply Kd.jE | apply Kd.jJ)); exact qY8.out) (Kd.qC2 ho6) hb); have n2_ := q8.mk (Kd.qY7 ho6 (qJ (by repeat (first | (with_reducible first | exact HB.out | apply qA | apply q9 | apply qB) | exact HB.out)))); have n3_ := q8.mk (jL (by repeat (first | (with_reducible first | exact HB.out | apply qA | apply q9 | apply qB) | exact HB.out)) hb); clear HO0; clear qY8; clear HB; have HO0 := n0_; have qY8 := n1_; have zT8 := n2_; have HB := n3_; clear n0_ n1_ n2_ n3_; clear hb ho6) | ((with_reducible refine ql4 (b := .append) (xs := #[.tmp 8, .tmp 9]) rfl ?_); at_builtin; refine Kd.jx2 k55 (w0 := w) w.heap.size rfl (.tmp 8) (.tmp 9) 22 55 (.agg #[(.int .i64 0), (.int .i64 0), (.int .i64 0), (.slice none 0 0)]) 48 rfl Try.underlying22 qV0 rfl (by decide) (by omega) v154 y153 l0 _ _ _ (fun k_ => (P0_ k_ ∨ w.heap.size ≤ k_) ∧ some k_ ≠ (v151 : Value).ownBlock) (fun k_ => ((fun k_ => (P0_ k_ ∨ w.heap.size ≤ k_) ∧ some k_ ≠ (v151 : Value).ownBlock)) k_ ∧ some k_ ≠ (v154 : Value).ownBlock) rfl rfl ?aO ?aR (fun _ hk => hk) ?aF ?aB ?aS ?aL ?_; (case aR => exact (by skip; exact Kd.V_F (Kd.zN (ok' := (fun k_ => ((fun k_ => (P0_ k_ ∨ w.heap.size ≤ k_) ∧ some k_ ≠ (v151 : Value).ownBlock)) k_ ∧ some k_ ≠ (v154 : Value).ownBlock)) (HO0.out) (fun k_ hk => ⟨⟨hk.1.1, hk.1.2⟩, hk.2⟩)))); (case aB => exact (by repeat (first | (with_reducible first | exact HB.out | apply qA | apply q9 | apply qB) | exact HB.out))); (case aF => exact (fun k_ hk => ⟨(.inr (Nat.le_trans (qJ (by repeat (first | (with_reducible first | exact HB.out | apply qA | apply q9 | apply qB) | exact HB.out))) hk)), Kd.fresh' (Kd.jx1 (by (with_reducible repeat (first | apply Kd.jD | apply Kd.jE | apply Kd.jJ)); exact qY8.out)) k_ hk⟩)); (case aO => exact (by (with_reducible repeat (first | apply Kd.jD | apply Kd.jE | apply Kd.jJ)); exact zT8.out)); (case aS => exact (qJ (by repeat (first | (with_reducible first | exact HB.out | apply qA | apply q9 | apply qB) | exact HB.out)))); (case aL => have := LMc2.out; omega); intro v157 w7 ho hb hg hat; rw [← Qj2.out] at ho; have n0_ := q8.mk (Kd.qm6 (ok := (fun k_ => (P0_ k_ ∨ w.heap.size ≤ k_) ∧ some k_ ≠ (v151 : Value).ownBlock)) (by (with_reducible repeat (first | apply Kd.jO | apply Kd.jP | apply Kd.zA)); exact HO0.out) hg hat); have n1_ := q8.mk (Kd.qp3 (ok := (fun k_ => (P0_ k_ ∨ w.heap.size ≤ k_))) (by (with_reducible repeat (first | apply Kd.jD | apply Kd.jE | apply Kd.jJ)); exact qY8.out) hg hat); have n2_ := q8.mk (hb); have n3_ := q8.mk (ho); clear HO0; clear qY8; clear HB; clear zT8; have HO0 := n0_; have qY8 := n1_; have HB := n2_; have Qj3 := n3_; clear n0_ n1_ n2_ n3_; clear ho hb hg hat))
  go_loopg [3, 4] k (fun kq v3 v4 w' => ∃ (qh2 : List (S55)) (zC : List (S55)), q8 (qF.l0 kq qh2 zC = some r) ∧ q8 (kq ≤ k) ∧ q8 (Kd.N k55 55 w' w.heap.size (fun k_ => (P0_ k_ ∨ w.heap.size ≤ k_) ∧ some k_ ≠ (v4 : Value).ownBlock) v3 qh2) ∧ q8 (Kd.N k55 55 w' w.heap.size (fun k_ => (P0_ k_ ∨ w.heap.size ≤ k_) ∧ some k_ ≠ (v3 : Value).ownBlock) v4 zC) ∧ q8 (Below w.heap.size w w'))
  case atStart => exact ⟨(y150), (y156), H', ⟨Nat.le_refl _⟩, ⟨by (with_reducible repeat (first | apply Kd.jD | apply Kd.jE | apply Kd.jJ)); exact qY8.out⟩, ⟨by (with_reducible repeat (first | apply Kd.jD | apply Kd.jE | apply Kd.jJ)); exact Qj3.out⟩, ⟨by repeat (first | (with_reducible first | exact HB.out | apply qA | apply q9 | apply qB) | exact HB.out)⟩⟩
  case round =>
   clear H'
   try clear c2
   try clear p2
   try clear c4
   obtain ⟨qh2, zC, HA, HK1, qa9, qU, HB⟩ := hrel
   cases gk with
   | zero => exact absurd HA.out (by simp [qF.l0])
   | succ k1 =>
    have H := HA.out
    clear HA
    simp only [qF.l0] at H
    by_cases c8 : (zC.length : Int) > 0
    ·rw [if_pos c8] at H
     have qV1 : decide (0 < (zC.length : Int)) = true := decide_eq_true c8
     have c8b1 : decide (0 < zC.length) = true := decide_eq_true (by omega)
     clear c8
     have H' := q8.mk H
     clear H
     obtain ⟨Ao9, co9, eo9⟩ := Kd.qR6 qU.out
     subst eo9
     go_wp2
     go_loopg [5, 6] k1 (fun kq v5 v6 w' => ∃ (zR : Int) (qe4 : Int), v5 = .int .i64 zR ∧ v6 = .int .i64 qe4 ∧ q8 (qF.l1 kq qh2 zC zR qe4 = some r) ∧ q8 (kq ≤ k1) ∧ q8 (Kd.N k55 55 w' w.heap.size (fun k_ => (P0_ k_ ∨ w.heap.size ≤ k_) ∧ some k_ ≠ ((.slice Ao9 zC.length co9) : Value).ownBlock) u3 qh2) ∧ q8 (Kd.N k55 55 w' w.heap.size (fun k_ => (P0_ k_ ∨ w.heap.size ≤ k_) ∧ some k_ ≠ (u3 : Value).ownBlock) (.slice Ao9 zC.length co9) zC) ∧ q8 (Below w.heap.size w w'))
     case atStart => exact ⟨(0), (0), (by first | rfl | (simp; done) | (simp [*]; done)), (by first | rfl | (simp; done) | (simp [*]; done)), H', ⟨Nat.le_refl _⟩, ⟨by (with_reducible repeat (first | apply Kd.jD | apply Kd.jE | apply Kd.jJ)); exact qa9.out⟩, ⟨by (with_reducible repeat (first | apply Kd.jD | apply Kd.jE | apply Kd.jJ)); exact qU.out⟩, ⟨by repeat (first | (with_reducible first | exact HB.out | apply qA | apply q9 | apply qB) | exact HB.out)⟩⟩
     case round =>
      clear H'
      try clear c2
      try clear p2
      try clear c4
      try clear c8
      try clear qV1
      try clear c8b1
      try clear p2
      obtain ⟨zR, qe4, rfl, rfl, HA, HK2, qa9, qU, HB⟩ := hrel
      cases gk with
      | zero => exact absurd HA.out (by simp [qF.l1])
      | succ k2 =>
       have H := HA.out
       clear HA
       simp only [qF.l1] at H
       by_cases c10 : qe4 < (zC.length : Int)
       ·rw [if_pos c10] at H
        have qP1 : decide (qe4 < (zC.length : Int)) = true := decide_eq_true c10
        clear c10
        by_cases c11 : 0 ≤ qe4
        ·rw [if_pos c11] at H
         have jA9 : decide (0 ≤ qe4) = true := decide_eq_true c11
         clear c11
         by_cases c12 : 0 ≤ zR
         ·rw [if_pos c12] at H
          have qH0 : decide (0 ≤ zR) = true := decide_eq_true c12
          clear c12
          by_cases c13 : zR < (zC.length : Int)
          ·rw [if_pos c13] at H
           have zT9 : decide (zR < (zC.length : Int)) = true := decide_eq_true c13
           clear c13
           by_cases c14 : ((qD zC qe4).f1) < ((qD zC zR).f1)
           ·rw [if_pos c14] at H
            have qY9 : decide (((qD zC qe4).f1) < ((qD zC zR).f1)) = true := decide_eq_true c14
            clear c14
            have H' := q8.mk H
            clear H
            try go_wp2
            have n0_ := q8.mk (Kd.jJ qa9.out)
            have n1_ := q8.mk (Kd.jJ qU.out)
            have n2_ := q8.mk (qB HB.out)
            clear qa9
            clear qU
            clear HB
            have qa9 := n0_
            have qU := n1_
            have HB := n2_
            clear n0_ n1_ n2_
            have jF9 : 0 ≤ (qe4 : Int) := of_decide_eq_true (by first | (with_reducible assumption) | assumption)
            have jG0 : qe4 < (zC.length : Int) := of_decide_eq_true (by first | (with_reducible assumption) | assumption)
            obtain ⟨qi6, za7, za8, zZ1, qZ0, qZ1, qZ2, qJ4, qZ3, qZ4⟩ := qa5 (Kd.zZ qU.out).2.2 qe4 jF9 jG0
            cases zZ1
            obtain ⟨Qj4, za9, zb0, jp8⟩ := Kd.qH1 qU.out z55 qe4 jF9 (by first | exact jG0 | exact of_decide_eq_true (by first | (with_reducible assumption) | assumption) | (have e_ := (Kd.zZ qU.out).1; omega))
            obtain ⟨zI1, zI2, rfl, qJ5, qJ6⟩ := qi3 zb0
            have qA7 := jp8 3 _ rfl
            rw [zS _ _ 3 (by omega)] at qA7
            replace qA7 := Option.some.inj (qA7.symm.trans qJ4)
            injection qA7 with qm7 qz0 qm8
            rw [qm7] at qJ6
            rw [qm8] at qJ5
            have jG1 := q8.mk (show Kd.V k51 51 _ w.heap.size _ _ ((qD zC qe4).f3) from Kd.qS6 qJ5 qJ6)
            clear qm7 qz0 qm8 qJ6 qJ5
            clear jp8 za9
            have jG2 := q8.mk qZ4
            have zI3 := q8.mk qZ3
            clear qZ4 qZ3
            replace jF9 := eq_true jF9
            replace jG0 := eq_true jG0
            have jG3 : 0 ≤ (zR : Int) := of_decide_eq_true (by first | (with_reducible assumption) | assumption)
            have jG4 : zR < (zC.length : Int) := of_decide_eq_true (by first | (with_reducible assumption) | assumption)
            obtain ⟨zx3, zb1, zb2, zZ2, qZ5, qZ6, qZ7, qJ7, qZ8, qZ9⟩ := qa5 (Kd.zZ qU.out).2.2 zR jG3 jG4
            obtain rfl : qi6 = zx3 := (by injection zZ2)
            obtain ⟨Qj5, zb3, zb4, jp9⟩ := Kd.qH1 qU.out z55 zR jG3 (by first | exact jG4 | exact of_decide_eq_true (by first | (with_reducible assumption) | assumption) | (have e_ := (Kd.zZ qU.out).1; omega))
            obtain ⟨zI4, zI5, rfl, qJ8, qJ9⟩ := qi3 zb4
            have qA8 := jp9 3 _ rfl
            rw [zS _ _ 3 (by omega)] at qA8
            replace qA8 := Option.some.inj (qA8.symm.trans qJ7)
            injection qA8 with qm7 qz0 qm8
            rw [qm7] at qJ9
            rw [qm8] at qJ8
            have jG5 := q8.mk (show Kd.V k51 51 _ w.heap.size _ _ ((qD zC zR).f3) from Kd.qS6 qJ8 qJ9)
            clear qm7 qz0 qm8 qJ9 qJ8
            clear jp9 zb3
            have jG6 := q8.mk qZ9
            have zI6 := q8.mk qZ8
            clear qZ9 qZ8
            replace jG3 := eq_true jG3
            replace jG4 := eq_true jG4
            refine jG7 (n := 11) (S := fun w' => w'.cell? (qi6.add ((qe4).toNat * 4)) = some (.int .i64 ((qD zC qe4).f0)) ∧ w'.cell? ⟨(qi6.add ((qe4).toNat * 4)).block, (qi6.add ((qe4).toNat * 4)).off + 1, none⟩ = some (.int .i64 ((qD zC qe4).f1)) ∧ w'.cell? ⟨(qi6.add ((qe4).toNat * 4)).block, (qi6.add ((qe4).toNat * 4)).off + 2, none⟩ = some (.int .i64 ((qD zC qe4).f2)) ∧ w'.cell? ⟨(qi6.add ((qe4).toNat * 4)).block, (qi6.add ((qe4).toNat * 4)).off + 3, none⟩ = some (.slice za7 ((qD zC qe4).f3).length za8) ∧ w'.cell? (qi6.add ((zR).toNat * 4)) = some (.int .i64 ((qD zC zR).f0)) ∧ w'.cell? ⟨(qi6.add ((zR).toNat * 4)).block, (qi6.add ((zR).toNat * 4)).off + 1, none⟩ = some (.int .i64 ((qD zC zR).f1)) ∧ w'.cell? ⟨(qi6.add ((zR).toNat * 4)).block, (qi6.add ((zR).toNat * 4)).off + 2, none⟩ = some (.int .i64 ((qD zC zR).f2)) ∧ w'.cell? ⟨(qi6.add ((zR).toNat * 4)).block, (qi6.add ((zR).toNat * 4)).off + 3, none⟩ = some (.slice zb1 ((qD zC zR).f3).length zb2)) (ds := []) #[false, false, false, false, false, false, false, false, false, false, false] (by kernel_rfl) rfl rfl ⟨qZ0, qZ1, qZ2, qJ4, qZ5, qZ6, qZ7, qJ7⟩ (fun hHeld => ?_); refine qR7 qF.tab8 qF.zT5 (fun HT_ HW_ => ?_)
            generalize wr.drew = w15 at qa9 qU HB jG1 jG5 jG2 jG6 qZ0 qZ1 qZ2 qJ4 qZ5 qZ6 qZ7 qJ7 hHeld ⊢
            refine qf3 (i := 0) (N := some 20) (v := ?_) (a' := ?_) #[true, false, false, false, false, false, false, false, false, false, false] rfl rfl (qb6 HT_.out (by kernel_rfl)) (fun _ _ _ h => h) (Or.inl ⟨by rfl, ?_⟩) ?_ ?_
            rotate_left
            ·intro w'
             go_simp
             with_reducible rfl
            rotate_left
            ·simp only [Act.put, List.setIfInBounds_toArray, List.set_cons_zero, List.set_cons_succ, qa2, qa3]
             rfl
            refine qf3 (i := 1) (N := some 21) (v := ?_) (a' := ?_) #[true, true, false, false, false, false, false, false, false, false, false] rfl rfl (qb6 HT_.out (by kernel_rfl)) (fun _ _ _ h => h) (Or.inl ⟨by rfl, ?_⟩) ?_ ?_
            rotate_left
            ·intro w'
             go_simp
             with_reducible rfl
            rotate_left
            ·simp only [Act.put, List.setIfInBounds_toArray, List.set_cons_zero, List.set_cons_succ, qa2, qa3]
             rfl
            refine qf3 (i := 2) (N := some 22) (v := ?_) (a' := ?_) #[true, true, true, false, false, false, false, false, false, false, false] rfl rfl (qb6 HT_.out (by kernel_rfl)) (fun _ _ _ h => h) (Or.inl ⟨by rfl, ?_⟩) ?_ ?_
            rotate_left
            ·intro w'
             go_simp
             with_reducible rfl
            rotate_left
            ·simp only [Act.put, List.setIfInBounds_toArray, List.set_cons_zero, List.set_cons_succ, qa2, qa3]
             rfl
            refine qf3 (i := 3) (N := some 23) (v := ?_) (a' := ?_) #[true, true, true, true, false, false, false, false, false, false, false] rfl rfl (qb6 HT_.out (by kernel_rfl)) (fun _ _ _ h => h) (Or.inl ⟨by rfl, ?_⟩) ?_ ?_
            rotate_left
            ·intro w'
             go_simp
             with_reducible rfl
            rotate_left
            ·simp only [Act.put, List.setIfInBounds_toArray, List.set_cons_zero, List.set_cons_succ, qa2, qa3]
             rfl
            refine qf3 (i := 5) (N := some 25) (v := ?_) (a' := ?_) #[true, true, true, true, false, true, false, false, false, false, false] rfl rfl (qb6 HT_.out (by kernel_rfl)) (fun _ _ _ h => h) (Or.inl ⟨by rfl, ?_⟩) ?_ ?_
            rotate_left
            ·intro w'
             go_simp
             with_reducible rfl
            rotate_left
            ·simp only [Act.put, List.setIfInBounds_toArray, List.set_cons_zero, List.set_cons_succ, qa2, qa3]
             rfl
            refine qf3 (i := 6) (N := some 26) (v := ?_) (a' := ?_) #[true, true, true, true, false, true, true, false, false, false, false] rfl rfl (qb6 HT_.out (by kernel_rfl)) (fun _ _ _ h => h) (Or.inl ⟨by rfl, ?_⟩) ?_ ?_
            rotate_left
            ·intro w'
             go_simp
             with_reducible rfl
            rotate_left
            ·simp only [Act.put, List.setIfInBounds_toArray, List.set_cons_zero, List.set_cons_succ, qa2, qa3]
             rfl
            refine qf3 (i := 7) (N := some 27) (v := ?_) (a' := ?_) #[true, true, true, true, false, true, true, true, false, false, false] rfl rfl (qb6 HT_.out (by kernel_rfl)) (fun _ _ _ h => h) (Or.inl ⟨by rfl, ?_⟩) ?_ ?_
            rotate_left
            ·intro w'
             go_simp
             with_reducible rfl
            rotate_left
            ·simp only [Act.put, List.setIfInBounds_toArray, List.set_cons_zero, List.set_cons_succ, qa2, qa3]
             rfl
            refine qf3 (i := 8) (N := some 28) (v := ?_) (a' := ?_) #[true, true, true, true, false, true, true, true, true, false, false] rfl rfl (qb6 HT_.out (by kernel_rfl)) (fun _ _ _ h => h) (Or.inl ⟨by rfl, ?_⟩) ?_ ?_
            rotate_left
            ·intro w'
             go_simp
             with_reducible rfl
            rotate_left
            ·simp only [Act.put, List.setIfInBounds_toArray, List.set_cons_zero, List.set_cons_succ, qa2, qa3]
             rfl
            refine jB0 (i := 4) (N := some 24) (v := ?_) (a' := ?_) #[true, true, true, true, true, true, true, true, true, false, false] rfl rfl (qH2 HT_.out HW_.out (by kernel_rfl)) (fun _ _ _ h => h) (Or.inl ⟨by rfl, ?_⟩) hHeld ?_ ?_
            rotate_left
            ·rintro w' ⟨s0, s1, s2, s3, s4, s5, s6, s7⟩
             go_simp
             with_reducible rfl
            rotate_left
            ·simp only [Act.put, List.setIfInBounds_toArray, List.set_cons_zero, List.set_cons_succ, qa2, qa3]
             rfl
            refine jB0 (i := 9) (N := some 29) (v := ?_) (a' := ?_) #[true, true, true, true, true, true, true, true, true, true, false] rfl rfl (qH2 HT_.out HW_.out (by kernel_rfl)) (fun _ _ _ h => h) (Or.inl ⟨by rfl, ?_⟩) hHeld ?_ ?_
            rotate_left
            ·rintro w' ⟨s0, s1, s2, s3, s4, s5, s6, s7⟩
             go_simp
             with_reducible rfl
            rotate_left
            ·simp only [Act.put, List.setIfInBounds_toArray, List.set_cons_zero, List.set_cons_succ, qa2, qa3]
             rfl
            refine qf3 (i := 10) (N := some 30) (v := ?_) (a' := ?_) #[true, true, true, true, true, true, true, true, true, true, true] rfl rfl (qb6 HT_.out (by kernel_rfl)) (fun _ _ _ h => h) (Or.inl ⟨by rfl, ?_⟩) ?_ ?_
            rotate_left
            ·intro w'
             go_simp
             with_reducible rfl
            rotate_left
            ·simp only [Act.put, List.setIfInBounds_toArray, List.set_cons_zero, List.set_cons_succ, qa2, qa3]
             rfl
            refine zj2 (jl5 HT_.out (by kernel_rfl)) ?_
            try go_wp2
            go_roundg k2
            case measure => have := HK1.out; have := HK2.out; omega
            case rel => exact ⟨(qe4), (wrap64 (qe4 + 1)), (by first | rfl | (simp; done) | (simp [*]; done)), (by first | rfl | (simp; done) | (simp [*]; done)), H', ⟨by have := HK1.out; have := HK2.out; omega⟩, ⟨by (with_reducible repeat (first | apply Kd.jD | apply Kd.jE | apply Kd.jJ)); exact qa9.out⟩, ⟨by (with_reducible repeat (first | apply Kd.jD | apply Kd.jE | apply Kd.jJ)); exact qU.out⟩, ⟨by repeat (first | (with_reducible first | exact HB.out | apply qA | apply q9 | apply qB) | exact HB.out)⟩⟩
           ·rw [if_neg c14] at H
            have qY9 : decide (((qD zC qe4).f1) < ((qD zC zR).f1)) = false := decide_eq_false c14
            clear c14
            have H' := q8.mk H
            clear H
            try go_wp2
            have n0_ := q8.mk (Kd.jJ qa9.out)
            have n1_ := q8.mk (Kd.jJ qU.out)
            have n2_ := q8.mk (qB HB.out)
            clear qa9
            clear qU
            clear HB
            have qa9 := n0_
            have qU := n1_
            have HB := n2_
            clear n0_ n1_ n2_
            have jF9 : 0 ≤ (qe4 : Int) := of_decide_eq_true (by first | (with_reducible assumption) | assumption)
            have jG0 : qe4 < (zC.length : Int) := of_decide_eq_true (by first | (with_reducible assumption) | assumption)
            obtain ⟨qi6, za7, za8, zZ1, qZ0, qZ1, qZ2, qJ4, qZ3, qZ4⟩ := qa5 (Kd.zZ qU.out).2.2 qe4 jF9 jG0
            cases zZ1
            obtain ⟨Qj4, za9, zb0, jp8⟩ := Kd.qH1 qU.out z55 qe4 jF9 (by first | exact jG0 | exact of_decide_eq_true (by first | (with_reducible assumption) | assumption) | (have e_ := (Kd.zZ qU.out).1; omega))
            obtain ⟨zI1, zI2, rfl, qJ5, qJ6⟩ := qi3 zb0
            have qA7 := jp8 3 _ rfl
            rw [zS _ _ 3 (by omega)] at qA7
            replace qA7 := Option.some.inj (qA7.symm.trans qJ4)
            injection qA7 with qm7 qz0 qm8
            rw [qm7] at qJ6
            rw [qm8] at qJ5
            have jG1 := q8.mk (show Kd.V k51 51 _ w.heap.size _ _ ((qD zC qe4).f3) from Kd.qS6 qJ5 qJ6)
            clear qm7 qz0 qm8 qJ6 qJ5
            clear jp8 za9
            have jG2 := q8.mk qZ4
            have zI3 := q8.mk qZ3
            clear qZ4 qZ3
            replace jF9 := eq_true jF9
            replace jG0 := eq_true jG0
            have jG3 : 0 ≤ (zR : Int) := of_decide_eq_true (by first | (with_reducible assumption) | assumption)
            have jG4 : zR < (zC.length : Int) := of_decide_eq_true (by first | (with_reducible assumption) | assumption)
            obtain ⟨zx3, zb1, zb2, zZ2, qZ5, qZ6, qZ7, qJ7, qZ8, qZ9⟩ := qa5 (Kd.zZ qU.out).2.2 zR jG3 jG4
            obtain rfl : qi6 = zx3 := (by injection zZ2)
            obtain ⟨Qj5, zb3, zb4, jp9⟩ := Kd.qH1 qU.out z55 zR jG3 (by first | exact jG4 | exact of_decide_eq_true (by first | (with_reducible assumption) | assumption) | (have e_ := (Kd.zZ qU.out).1; omega))
            obtain ⟨zI4, zI5, rfl, qJ8, qJ9⟩ := qi3 zb4
            have qA8 := jp9 3 _ rfl
            rw [zS _ _ 3 (by omega)] at qA8
            replace qA8 := Option.some.inj (qA8.symm.trans qJ7)
            injection qA8 with qm7 qz0 qm8
            rw [qm7] at qJ9
            rw [qm8] at qJ8
            have jG5 := q8.mk (show Kd.V k51 51 _ w.heap.size _ _ ((qD zC zR).f3) from Kd.qS6 qJ8 qJ9)
            clear qm7 qz0 qm8 qJ9 qJ8
            clear jp9 zb3
            have jG6 := q8.mk qZ9
            have zI6 := q8.mk qZ8
            clear qZ9 qZ8
            replace jG3 := eq_true jG3
            replace jG4 := eq_true jG4
            refine jG7 (n := 11) (S := fun w' => w'.cell? (qi6.add ((qe4).toNat * 4)) = some (.int .i64 ((qD zC qe4).f0)) ∧ w'.cell? ⟨(qi6.add ((qe4).toNat * 4)).block, (qi6.add ((qe4).toNat * 4)).off + 1, none⟩ = some (.int .i64 ((qD zC qe4).f1)) ∧ w'.cell? ⟨(qi6.add ((qe4).toNat * 4)).block, (qi6.add ((qe4).toNat * 4)).off + 2, none⟩ = some (.int .i64 ((qD zC qe4).f2)) ∧ w'.cell? ⟨(qi6.add ((qe4).toNat * 4)).block, (qi6.add ((qe4).toNat * 4)).off + 3, none⟩ = some (.slice za7 ((qD zC qe4).f3).length za8) ∧ w'.cell? (qi6.add ((zR).toNat * 4)) = some (.int .i64 ((qD zC zR).f0)) ∧ w'.cell? ⟨(qi6.add ((zR).toNat * 4)).block, (qi6.add ((zR).toNat * 4)).off + 1, none⟩ = some (.int .i64 ((qD zC zR).f1)) ∧ w'.cell? ⟨(qi6.add ((zR).toNat * 4)).block, (qi6.add ((zR).toNat * 4)).off + 2, none⟩ = some (.int .i64 ((qD zC zR).f2)) ∧ w'.cell? ⟨(qi6.add ((zR).toNat * 4)).block, (qi6.add ((zR).toNat * 4)).off + 3, none⟩ = some (.slice zb1 ((qD zC zR).f3).length zb2)) (ds := []) #[false, false, false, false, false, false, false, false, false, false, false] (by kernel_rfl) rfl rfl ⟨qZ0, qZ1, qZ2, qJ4, qZ5, qZ6, qZ7, qJ7⟩ (fun hHeld => ?_); refine qR7 qF.tab8 qF.zT5 (fun HT_ HW_ => ?_)
            generalize wr.drew = w16 at qa9 qU HB jG1 jG5 jG2 jG6 qZ0 qZ1 qZ2 qJ4 qZ5 qZ6 qZ7 qJ7 hHeld ⊢
            refine qf3 (i := 0) (N := some 20) (v := ?_) (a' := ?_) #[true, false, false, false, false, false, false, false, false, false, false] rfl rfl (qb6 HT_.out (by kernel_rfl)) (fun _ _ _ h => h) (Or.inl ⟨by rfl, ?_⟩) ?_ ?_
            rotate_left
            ·intro w'
             go_simp
             with_reducible rfl
            rotate_left
            ·simp only [Act.put, List.setIfInBounds_toArray, List.set_cons_zero, List.set_cons_succ, qa2, qa3]
             rfl
            refine qf3 (i := 1) (N := some 21) (v := ?_) (a' := ?_) #[true, true, false, false, false, false, false, false, false, false, false] rfl rfl (qb6 HT_.out (by kernel_rfl)) (fun _ _ _ h => h) (Or.inl ⟨by rfl, ?_⟩) ?_ ?_
            rotate_left
            ·intro w'
             go_simp
             with_reducible rfl
            rotate_left
            ·simp only [Act.put, List.setIfInBounds_toArray, List.set_cons_zero, List.set_cons_succ, qa2, qa3]
             rfl
            refine qf3 (i := 2) (N := some 22) (v := ?_) (a' := ?_) #[true, true, true, false, false, false, false, false, false, false, false] rfl rfl (qb6 HT_.out (by kernel_rfl)) (fun _ _ _ h => h) (Or.inl ⟨by rfl, ?_⟩) ?_ ?_
            rotate_left
            ·intro w'
             go_simp
             with_reducible rfl
            rotate_left
            ·simp only [Act.put, List.setIfInBounds_toArray, List.set_cons_zero, List.set_cons_succ, qa2, qa3]
             rfl
            refine qf3 (i := 3) (N := some 23) (v := ?_) (a' := ?_) #[true, true, true, true, false, false, false, false, false, false, false] rfl rfl (qb6 HT_.out (by kernel_rfl)) (fun _ _ _ h => h) (Or.inl ⟨by rfl, ?_⟩) ?_ ?_
            rotate_left
            ·intro w'
             go_simp
             with_reducible rfl
            rotate_left
            ·simp only [Act.put, List.setIfInBounds_toArray, List.set_cons_zero, List.set_cons_succ, qa2, qa3]
             rfl
            refine qf3 (i := 5) (N := some 25) (v := ?_) (a' := ?_) #[true, true, true, true, false, true, false, false, false, false, false] rfl rfl (qb6 HT_.out (by kernel_rfl)) (fun _ _ _ h => h) (Or.inl ⟨by rfl, ?_⟩) ?_ ?_
            rotate_left
            ·intro w'
             go_simp
             with_reducible rfl
            rotate_left
            ·simp only [Act.put, List.setIfInBounds_toArray, List.set_cons_zero, List.set_cons_succ, qa2, qa3]
             rfl
            refine qf3 (i := 6) (N := some 26) (v := ?_) (a' := ?_) #[true, true, true, true, false, true, true, false, false, false, false] rfl rfl (qb6 HT_.out (by kernel_rfl)) (fun _ _ _ h => h) (Or.inl ⟨by rfl, ?_⟩) ?_ ?_
            rotate_left
            ·intro w'
             go_simp
             with_reducible rfl
            rotate_left
            ·simp only [Act.put, List.setIfInBounds_toArray, List.set_cons_zero, List.set_cons_succ, qa2, qa3]
             rfl
            refine qf3 (i := 7) (N := some 27) (v := ?_) (a' := ?_) #[true, true, true, true, false, true, true, true, false, false, false] rfl rfl (qb6 HT_.out (by kernel_rfl)) (fun _ _ _ h => h) (Or.inl ⟨by rfl, ?_⟩) ?_ ?_
            rotate_left
            ·intro w'
             go_simp
             with_reducible rfl
            rotate_left
            ·simp only [Act.put, List.setIfInBounds_toArray, List.set_cons_zero, List.set_cons_succ, qa2, qa3]
             rfl
            refine qf3 (i := 8) (N := some 28) (v := ?_) (a' := ?_) #[true, true, true, true, false, true, true, true, true, false, false] rfl rfl (qb6 HT_.out (by kernel_rfl)) (fun _ _ _ h => h) (Or.inl ⟨by rfl, ?_⟩) ?_ ?_
            rotate_left
            ·intro w'
             go_simp
             with_reducible rfl
            rotate_left
            ·simp only [Act.put, List.setIfInBounds_toArray, List.set_cons_zero, List.set_cons_succ, qa2, qa3]
             rfl
            refine jB0 (i := 4) (N := some 24) (v := ?_) (a' := ?_) #[true, true, true, true, true, true, true, true, true, false, false] rfl rfl (qH2 HT_.out HW_.out (by kernel_rfl)) (fun _ _ _ h => h) (Or.inl ⟨by rfl, ?_⟩) hHeld ?_ ?_
            rotate_left
            ·rintro w' ⟨s0, s1, s2, s3, s4, s5, s6, s7⟩
             go_simp
             with_reducible rfl
            rotate_left
            ·simp only [Act.put, List.setIfInBounds_toArray, List.set_cons_zero, List.set_cons_succ, qa2, qa3]
             rfl
            refine jB0 (i := 9) (N := some 29) (v := ?_) (a' := ?_) #[true, true, true, true, true, true, true, true, true, true, false] rfl rfl (qH2 HT_.out HW_.out (by kernel_rfl)) (fun _ _ _ h => h) (Or.inl ⟨by rfl, ?_⟩) hHeld ?_ ?_
            rotate_left
            ·rintro w' ⟨s0, s1, s2, s3, s4, s5, s6, s7⟩
             go_simp
             with_reducible rfl
            rotate_left
            ·simp only [Act.put, List.setIfInBounds_toArray, List.set_cons_zero, List.set_cons_succ, qa2, qa3]
             rfl
            refine qf3 (i := 10) (N := some 30) (v := ?_) (a' := ?_) #[true, true, true, true, true, true, true, true, true, true, true] rfl rfl (qb6 HT_.out (by kernel_rfl)) (fun _ _ _ h => h) (Or.inl ⟨by rfl, ?_⟩) ?_ ?_
            rotate_left
            ·intro w'
             go_simp
             with_reducible rfl
            rotate_left
            ·simp only [Act.put, List.setIfInBounds_toArray, List.set_cons_zero, List.set_cons_succ, qa2, qa3]
             rfl
            refine zj2 (jl5 HT_.out (by kernel_rfl)) ?_
            try go_wp2
            go_roundg k2
            case measure => have := HK1.out; have := HK2.out; omega
            case rel => exact ⟨(zR), (wrap64 (qe4 + 1)), (by first | rfl | (simp; done) | (simp [*]; done)), (by first | rfl | (simp; done) | (simp [*]; done)), H', ⟨by have := HK1.out; have := HK2.out; omega⟩, ⟨by (with_reducible repeat (first | apply Kd.jD | apply Kd.jE | apply Kd.jJ)); exact qa9.out⟩, ⟨by (with_reducible repeat (first | apply Kd.jD | apply Kd.jE | apply Kd.jJ)); exact qU.out⟩, ⟨by repeat (first | (with_reducible first | exact HB.out | apply qA | apply q9 | apply qB) | exact HB.out)⟩⟩
          ·rw [if_neg c13] at H
           exact absurd H (by simp)
         ·rw [if_neg c12] at H
          exact absurd H (by simp)
        ·rw [if_neg c11] at H
         exact absurd H (by simp)
       ·rw [if_neg c10] at H
        have qP1 : decide (qe4 < (zC.length : Int)) = false := decide_eq_false c10
        clear c10
        by_cases c17 : 0 ≤ zR
        ·rw [if_pos c17] at H
         have c17b0 : decide (0 ≤ zR) = true := decide_eq_true c17
         clear c17
         by_cases c18 : zR < (zC.length : Int)
         ·rw [if_pos c18] at H
          have zU0 : decide (zR < (zC.length : Int)) = true := decide_eq_true c18
          clear c18
          by_cases c19 : qh2.length < 2932031007402
          ·rw [if_pos c19] at H
           have Qj6 := q8.mk c19
           clear c19
           obtain ⟨y162, jQ9⟩ : ∃ y_ : List (S55), y_ = (qh2 ++ [(⟨(qD zC zR).f0, (qD zC zR).f1, (qD zC zR).f2, (qD zC zR).f3⟩ : S55)]) := ⟨_, rfl⟩
           replace H : ((some (([] : List (S55)) : List (S55))).bind fun y165 => (if zR ≤ (zC.length : Int) then ((some (zC.take (zR : Int).toNat : List (S55))).bind fun y168 => (if y165.length + y168.length < 2932031007402 then ((some (y165 ++ y168 : List (S55))).bind fun y173 => (if 0 ≤ (wrap64 (zR + 1)) then (if (wrap64 (zR + 1)) ≤ (zC.length : Int) then ((some (zC.drop ((wrap64 (zR + 1)) : Int).toNat : List (S55))).bind fun y176 => (if y173.length + y176.length < 2932031007402 then (qF.l0 k2 y162 (y173 ++ y176)) else (none))) else (none)) else (none))) else (none))) else (none))) = some r := by first | (rw [jQ9]; with_reducible exact H) | (have H2_ := (Option.bind_some _ _).symm.trans H; rw [jQ9]; with_reducible exact H2_) | (have H2_ := (Option.bind_some _ _).symm.trans H; with_reducible exact H2_) | with_reducible exact H | (rw [jQ9]; exact H) | exact H
           have Qj7 := q8.mk jQ9
           clear jQ9
           obtain ⟨y165, jR0⟩ : ∃ y_ : List (S55), y_ = (([] : List (S55))) := ⟨_, rfl⟩
           replace H : (if zR ≤ (zC.length : Int) then ((some (zC.take (zR : Int).toNat : List (S55))).bind fun y168 => (if y165.length + y168.length < 2932031007402 then ((some (y165 ++ y168 : List (S55))).bind fun y173 => (if 0 ≤ (wrap64 (zR + 1)) then (if (wrap64 (zR + 1)) ≤ (zC.length : Int) then ((some (zC.drop ((wrap64 (zR + 1)) : Int).toNat : List (S55))).bind fun y176 => (if y173.length + y176.length < 2932031007402 then (qF.l0 k2 y162 (y173 ++ y176)) else (none))) else (none)) else (none))) else (none))) else (none)) = some r := by first | (rw [jR0]; with_reducible exact H) | (have H2_ := (Option.bind_some _ _).symm.trans H; rw [jR0]; with_reducible exact H2_) | (have H2_ := (Option.bind_some _ _).symm.trans H; with_reducible exact H2_) | with_reducible exact H | (rw [jR0]; exact H) | exact H
           have zU1 := q8.mk jR0
           clear jR0
           have Qj8 := eq_true (of_decide_eq_true (by first | (with_reducible assumption) | assumption) : 0 ≤ zR)
           by_cases c21 : zR ≤ (zC.length : Int)
           ·rw [if_pos c21] at H
            have Qj9 := eq_true c21
            have c21b1 : decide (zR ≤ (zC.length : Int)) = true := decide_eq_true c21
            clear c21
            obtain ⟨y168, hy168⟩ : ∃ y_ : List (S55), y_ = (zC.take (zR : Int).toNat) := ⟨_, rfl⟩
            replace H : (if y165.length + y168.length < 2932031007402 then ((some (y165 ++ y168 : List (S55))).bind fun y173 => (if 0 ≤ (wrap64 (zR + 1)) then (if (wrap64 (zR + 1)) ≤ (zC.length : Int) then ((some (zC.drop ((wrap64 (zR + 1)) : Int).toNat : List (S55))).bind fun y176 => (if y173.length + y176.length < 2932031007402 then (qF.l0 k2 y162 (y173 ++ y176)) else (none))) else (none)) else (none))) else (none)) = some r := by first | (rw [hy168]; with_reducible exact H) | (have H2_ := (Option.bind_some _ _).symm.trans H; rw [hy168]; with_reducible exact H2_) | (have H2_ := (Option.bind_some _ _).symm.trans H; with_reducible exact H2_) | with_reducible exact H | (rw [hy168]; exact H) | exact H
            have zU2 := q8.mk hy168
            clear hy168
            by_cases c22 : y165.length + y168.length < 2932031007402
            ·rw [if_pos c22] at H
             have Qk0 := q8.mk c22
             clear c22
             obtain ⟨y173, jR1⟩ : ∃ y_ : List (S55), y_ = (y165 ++ y168) := ⟨_, rfl⟩
             replace H : (if 0 ≤ (wrap64 (zR + 1)) then (if (wrap64 (zR + 1)) ≤ (zC.length : Int) then ((some (zC.drop ((wrap64 (zR + 1)) : Int).toNat : List (S55))).bind fun y176 => (if y173.length + y176.length < 2932031007402 then (qF.l0 k2 y162 (y173 ++ y176)) else (none))) else (none)) else (none)) = some r := by first | (rw [jR1]; with_reducible exact H) | (have H2_ := (Option.bind_some _ _).symm.trans H; rw [jR1]; with_reducible exact H2_) | (have H2_ := (Option.bind_some _ _).symm.trans H; with_reducible exact H2_) | with_reducible exact H | (rw [jR1]; exact H) | exact H
             have Qk1 := q8.mk jR1
             clear jR1
             obtain ⟨qO0, zx4⟩ : ∃ j_ : Int, (wrap64 (zR + 1)) = j_ := ⟨_, rfl⟩
             replace H : (if 0 ≤ (qO0) then (if (qO0) ≤ (zC.length : Int) then ((some (zC.drop ((qO0) : Int).toNat : List (S55))).bind fun y176 => (if y173.length + y176.length < 2932031007402 then (qF.l0 k2 y162 (y173 ++ y176)) else (none))) else (none)) else (none)) = some r := by first | (rw [zx4] at H; exact H) | (simp only [zx4] at H ⊢; exact H)
             have hji23w : (IntKind.i64.wrap (zR + 1)) = qO0 := (qa2 _).trans zx4
             by_cases c24 : 0 ≤ (qO0)
             ·rw [if_pos c24] at H
              have c24b0 := eq_true c24
              have c24b1 : decide (0 ≤ (qO0)) = true := decide_eq_true c24
              clear c24
              by_cases c25 : (qO0) ≤ (zC.length : Int)
              ·rw [if_pos c25] at H
               have c25b0 := eq_true c25
               have c25b1 : decide ((qO0) ≤ (zC.length : Int)) = true := decide_eq_true c25
               clear c25
               obtain ⟨y176, jR2⟩ : ∃ y_ : List (S55), y_ = (zC.drop ((qO0) : Int).toNat) := ⟨_, rfl⟩
               replace H : (if y173.length + y176.length < 2932031007402 then (qF.l0 k2 y162 (y173 ++ y176)) else (none)) = some r := by first | (rw [jR2]; with_reducible exact H) | (have H2_ := (Option.bind_some _ _).symm.trans H; rw [jR2]; with_reducible exact H2_) | (have H2_ := (Option.bind_some _ _).symm.trans H; with_reducible exact H2_) | with_reducible exact H | (rw [jR2]; exact H) | exact H
               have zU3 := q8.mk jR2
               clear jR2
               by_cases c26 : y173.length + y176.length < 2932031007402
               ·rw [if_pos c26] at H
                have Qk2 := q8.mk c26
                clear c26
                obtain ⟨y181, jR3⟩ : ∃ y_ : List (S55), y_ = (y173 ++ y176) := ⟨_, rfl⟩
                replace H : (qF.l0 k2 y162 y181) = some r := by first | (rw [jR3]; with_reducible exact H) | (have H2_ := (Option.bind_some _ _).symm.trans H; rw [jR3]; with_reducible exact H2_) | (have H2_ := (Option.bind_some _ _).symm.trans H; with_reducible exact H2_) | with_reducible exact H | (rw [jR3]; exact H) | exact H
                have Qk3 := q8.mk jR3
                clear jR3
                have H' := q8.mk H
                clear H
                have zI7 : 0 ≤ (zR : Int) := of_decide_eq_true (by first | (with_reducible assumption) | assumption)
                have zI8 : zR < (zC.length : Int) := of_decide_eq_true (by first | (with_reducible assumption) | assumption)
                obtain ⟨qt7, zZ3, zZ4, e161, Qq7, Qq8, Qq9, zI9, zj3, zj4⟩ := qa5 (Kd.zZ qU.out).2.2 zR zI7 zI8
                cases e161
                obtain ⟨ce161, zZ5, zZ6, zx5⟩ := Kd.qH1 qU.out z55 zR zI7 (by first | exact zI8 | exact of_decide_eq_true (by first | (with_reducible assumption) | assumption) | (have e_ := (Kd.zZ qU.out).1; omega))
                obtain ⟨Qr0, Qr1, rfl, jG8, jG9⟩ := qi3 zZ6
                have jl6 := zx5 3 _ rfl
                rw [zS _ _ 3 (by omega)] at jl6
                replace jl6 := Option.some.inj (jl6.symm.trans zI9)
                injection jl6 with qm7 qz0 qm8
                rw [qm7] at jG9
                rw [qm8] at jG8
                have qi8 := q8.mk (show Kd.V k51 51 _ w.heap.size _ _ ((qD zC zR).f3) from Kd.qS6 jG8 jG9)
                clear qm7 qz0 qm8 jG9 jG8
                clear zx5 zZ5
                have Qr2 := q8.mk zj4
                have Qr3 := q8.mk zj3
                clear zj4 zj3
                replace zI7 := eq_true zI7
                replace zI8 := eq_true zI8
                try go_wp2_with (first | ((with_reducible refine ql4 (b := .append) (xs := #[.tmp 32, .tmp 37]) rfl ?_); at_builtin; refine Kd.jR4 k55 (w0 := w) w.heap.size rfl (.tmp 32) (.tmp 37) 22 55 (.agg #[(.int .i64 0), (.int .i64 0), (.int .i64 0), (.slice none 0 0)]) 48 rfl Try.underlying22 qV0 rfl (by decide) (by omega) u3 qh2 (⟨(qD zC zR).f0, (qD zC zR).f1, (qD zC zR).f2, (qD zC zR).f3⟩ : S55) [.int .i64 ((qD zC zR).f0), .int .i64 ((qD zC zR).f1), .int .i64 ((qD zC zR).f2), .slice zZ3 ((qD zC zR).f3).length zZ4] (fun k_ => (P0_ k_ ∨ w.heap.size ≤ k_) ∧ some k_ ≠ (.slice (some qt7) zC.length co9 : Value).ownBlock) (fun k_ => ((fun k_ => (P0_ k_ ∨ w.heap.size ≤ k_) ∧ some k_ ≠ (.slice (some qt7) zC.length co9 : Value).ownBlock)) k_ ∧ some k_ ≠ (u3 : Value).ownBlock) rfl rfl ?aP (fun _ hk => hk) ?aF ?aO ?aB ?aS ?aL ?_; (case aP => exact (zj5 _ _ (⟨(qD zC zR).f0, (qD zC zR).f1, (qD zC zR).f2, (qD zC zR).f3⟩ : S55) (Kd.qp4 (Kd.zN (ok' := (fun k_ => ((fun k_ => (P0_ k_ ∨ w.heap.size ≤ k_) ∧ some k_ ≠ (.slice (some qt7) zC.length co9 : Value).ownBlock)) k_ ∧ some k_ ≠ (u3 : Value).ownBlock)) (qi8.out) (fun k_ hk => ⟨⟨hk.1.1, hk.2⟩, hk.1.2⟩))).2.1 (Kd.V_F (Kd.zN (ok' := (fun k_ => ((fun k_ => (P0_ k_ ∨ w.heap.size ≤ k_) ∧ some k_ ≠ (.slice (some qt7) zC.length co9 : Value).ownBlock)) k_ ∧ some k_ ≠ (u3 : Value).ownBlock)) (qi8.out) (fun k_ hk => ⟨⟨hk.1.1, hk.2⟩, hk.1.2⟩))))); (case aB => exact (by repeat (first | (with_reducible first | exact HB.out | apply qA | apply q9 | apply qB) | exact HB.out))); (case aF => exact (fun k_ hk => ⟨(.inr (Nat.le_trans (qJ (by repeat (first | (with_reducible first | exact HB.out | apply qA | apply q9 | apply qB) | exact HB.out))) hk)), Kd.fresh' (Kd.jx1 (by (with_reducible repeat (first | apply Kd.jD | apply Kd.jE | apply Kd.jJ)); exact qU.out)) k_ hk⟩)); (case aO => exact (by (with_reducible repeat (first | apply Kd.jD | apply Kd.jE | apply Kd.jJ)); exact qa9.out)); (case aS => exact (qJ (by repeat (first | (with_reducible first | exact HB.out | apply qA | apply q9 | apply qB) | exact HB.out)))); (case aL => have := Qj6.out; omega); intro v163 w27 ho hb hg hat; rw [← Qj7.out] at ho; have n0_ := q8.mk (Kd.qp3 (ok := (fun k_ => (P0_ k_ ∨ w.heap.size ≤ k_))) (by (with_reducible repeat (first | apply Kd.jD | apply Kd.jE | apply Kd.jJ)); exact qU.out) hg hat); have n1_ := q8.mk (Kd.qm6 (ok := (fun k_ => (P0_ k_ ∨ w.heap.size ≤ k_) ∧ some k_ ≠ (.slice (some qt7) zC.length co9 : Value).ownBlock)) (by (with_reducible repeat (first | apply Kd.jO | apply Kd.jP | apply Kd.zA)); exact Kd.zN qi8.out (fun _ hk => ⟨⟨hk.1.1, hk.2⟩, hk.1.2⟩)) hg hat); have n2_ := q8.mk (hb); have n3_ := q8.mk (ho); clear qU; clear qi8; clear HB; clear qa9; have qU := n0_; have qi8 := n1_; have HB := n2_; have qx6 := n3_; clear n0_ n1_ n2_ n3_; clear ho hb hg hat))
                have n0_ := q8.mk (Kd.jJ qU.out)
                have n1_ := q8.mk (Kd.zA qi8.out)
                have n2_ := q8.mk (Kd.jJ qx6.out)
                have n3_ := q8.mk (qB HB.out)
                clear qU
                clear qi8
                clear qx6
                clear HB
                have qU := n0_
                have qi8 := n1_
                have qx6 := n2_
                have HB := n3_
                clear n0_ n1_ n2_ n3_
                have q29 : (zR : Int) ≤ ((zC.length : Int) : Int) := of_decide_eq_true (by first | (with_reducible assumption) | assumption)
                obtain ⟨i029, zU4, _, Qk4, _⟩ := info_parts qV0
                have zj6 : zC.length ≤ co9 := (Kd.zZ qU.out).2.1
                have hC29 : Kd.F k55 _ _ (some qt7) zC.length zC := (Kd.zq5 (base := w.heap.size) (Kd.N_V qU.out)).2.2
                have zZ7 := zZ8 (P := Try.prog) 22 55 .i64 Try.underlying22 zU4 (some qt7) zC.length co9 zR (of_decide_eq_true (by first | (with_reducible assumption) | assumption)) q29 zj6
                have zZ9 := Kd.Qa0 (m := (zR : Int).toNat) hC29 (by omega)
                have hy29 : y168.length = (zR : Int).toNat := (by rw [zU2.out, List.length_take]; omega)
                rw [← zU2.out] at zZ9
                rw [← hy29] at zZ7
                have qP2 := q8.mk (show Kd.V k55 55 _ w.heap.size _ (.slice (some qt7) y168.length co9) y168 from Kd.qS6 (by omega) zZ9)
                have HC172 := q8.mk (show y168.length ≤ co9 from by omega)
                clear zZ9 hC29 zj6 zU4 Qk4
                have KY29 := q8.mk hy29
                clear hy29
                replace q29 := eq_true q29
                have q30 : ((qO0) : Int) ≤ ((zC.length : Int) : Int) := of_decide_eq_true (by first | (with_reducible assumption) | assumption)
                obtain ⟨i030, zU5, _, zU6, _⟩ := info_parts qV0
                have jl7 : zC.length ≤ co9 := (Kd.zZ qU.out).2.1
                have hC30 : Kd.F k55 _ _ (some qt7) zC.length zC := (Kd.zq5 (base := w.heap.size) (Kd.N_V qU.out)).2.2
                have q030 : (0 : Int) ≤ ((qO0) : Int) := of_decide_eq_true (by first | (with_reducible assumption) | assumption)
                have Qa1 := zx6 (P := Try.prog) 22 55 .i64 Try.underlying22 zU5 4 zU6 (some qt7) zC.length co9 (qO0) q030 q30
                have zx7 := Kd.Qk5 (m := ((qO0) : Int).toNat) (c := co9) hC30 (by omega) jl7
                obtain ⟨A30, zJ0⟩ : ∃ A1, A1 = (if co9 = ((qO0) : Int).toNat then (some qt7) else ((some qt7) : Option Addr).map (·.add (((qO0) : Int).toNat * 4))) := ⟨_, rfl⟩
                obtain ⟨c30, zJ1⟩ : ∃ c1, c1 = co9 - ((qO0) : Int).toNat := ⟨_, rfl⟩
                have zx8 : y176.length = zC.length - ((qO0) : Int).toNat := (by rw [zU3.out, List.length_drop] <;> omega)
                rw [show (zC).drop ((qO0) : Int).toNat = y176 from zU3.out.symm] at zx7
                replace zx7 : Kd.F k55 _ _ A30 y176.length y176 := (by rw [zJ0]; exact zx7)
                rw [← zx8, ← zJ0, ← zJ1] at Qa1
                have qP3 := q8.mk (show Kd.V k55 55 _ w.heap.size _ (.slice A30 y176.length c30) y176 from Kd.qS6 (by rw [zx8, zJ1]; exact Nat.sub_le_sub_right jl7 _) zx7)
                have HC180 := q8.mk (show y176.length ≤ c30 from by rw [zx8, zJ1]; exact Nat.sub_le_sub_right jl7 _)
                clear zx7 hC30 jl7 zU5 zU6 zJ1
                have KY30 := q8.mk zx8
                have KA30 := q8.mk zJ0
                clear zx8 zJ0
                replace q30 := eq_true q30
                refine jG7 (n := 11) (S := fun w' => True) (ds := []) #[false, false, false, false, false, false, false, false, false, false, false] (by kernel_rfl) rfl rfl trivial (fun hHeld => ?_); refine qR7 qF.Qj1 qF.zZ0 (fun HT_ HW_ => ?_)
                generalize w27.drew = w28 at qU qi8 qx6 HB qP2 qP3 hHeld ⊢
                refine qf3 (i := 1) (N := some 40) (v := ?_) (a' := ?_) #[false, true, false, false, false, false, false, false, false, false, false] rfl rfl (qb6 HT_.out (by kernel_rfl)) (fun _ _ _ h => h) (Or.inl ⟨by rfl, ?_⟩) ?_ ?_
                rotate_left
                ·intro w'
                 go_simp
                 with_reducible rfl
                rotate_left
                ·simp only [Act.put, List.setIfInBounds_toArray, List.set_cons_zero, List.set_cons_succ, qa2, qa3]
                 rfl
                refine qf3 (i := 2) (N := some 41) (v := ?_) (a' := ?_) #[false, true, true, false, false, false, false, false, false, false, false] rfl rfl (qb6 HT_.out (by kernel_rfl)) (fun _ _ _ h => h) (Or.inl ⟨by rfl, ?_⟩) ?_ ?_
                rotate_left
                ·intro w'
                 go_simp
                 with_reducible rfl
                rotate_left
                ·simp only [Act.put, List.setIfInBounds_toArray, List.set_cons_zero, List.set_cons_succ, qa2, qa3]
                 rfl
                refine qf3 (i := 3) (N := some 42) (v := ?_) (a' := ?_) #[false, true, true, true, false, false, false, false, false, false, false] rfl rfl (qb6 HT_.out (by kernel_rfl)) (fun _ _ _ h => h) (Or.inl ⟨by rfl, ?_⟩) ?_ ?_
                rotate_left
                ·intro w'
                 go_simp
                 with_reducible rfl
                rotate_left
                ·simp only [Act.put, List.setIfInBounds_toArray, List.set_cons_zero, List.set_cons_succ, qa2, qa3]
                 rfl
                refine qf3 (i := 5) (N := some 44) (v := ?_) (a' := ?_) #[false, true, true, true, false, true, false, false, false, false, false] rfl rfl (qb6 HT_.out (by kernel_rfl)) (fun _ _ _ h => h) (Or.inl ⟨by rfl, ?_⟩) ?_ ?_
                rotate_left
                ·intro w'
                 go_simp
                 with_reducible rfl
                rotate_left
                ·simp only [Act.put, List.setIfInBounds_toArray, List.set_cons_zero, List.set_cons_succ, qa2, qa3]
                 rfl
                refine qf3 (i := 6) (N := some 45) (v := ?_) (a' := ?_) #[false, true, true, true, false, true, true, false, false, false, false] rfl rfl (qb6 HT_.out (by kernel_rfl)) (fun _ _ _ h => h) (Or.inl ⟨by rfl, ?_⟩) ?_ ?_
                rotate_left
                ·intro w'
                 go_simp
                 with_reducible rfl
                rotate_left
                ·simp only [Act.put, List.setIfInBounds_toArray, List.set_cons_zero, List.set_cons_succ, qa2, qa3]
                 rfl
                refine qf3 (i := 7) (N := some 46) (v := ?_) (a' := ?_) #[false, true, true, true, false, true, true, true, false, false, false] rfl rfl (qb6 HT_.out (by kernel_rfl)) (fun _ _ _ h => h) (Or.inl ⟨by rfl, ?_⟩) ?_ ?_
                rotate_left
                ·intro w'
                 go_simp
                 with_reducible rfl
                rotate_left
                ·simp only [Act.put, List.setIfInBounds_toArray, List.set_cons_zero, List.set_cons_succ, qa2, qa3]
                 rfl
                refine qf3 (i := 8) (N := some 47) (v := ?_) (a' := ?_) #[false, true, true, true, false, true, true, true, true, false, false] rfl rfl (qb6 HT_.out (by kernel_rfl)) (fun _ _ _ h => h) (Or.inl ⟨by rfl, ?_⟩) ?_ ?_
                rotate_left
                ·intro w'
                 go_simp
                 with_reducible rfl
                rotate_left
                ·simp only [Act.put, List.setIfInBounds_toArray, List.set_cons_zero, List.set_cons_succ, qa2, qa3]
                 rfl
                refine jR5 (i := 0) (N := some 39) #[true, true, true, true, false, true, true, true, true, false, false] rfl rfl (qP4 HT_.out (by kernel_rfl)) (by decide) (fun K hK => ?_)
                refine Kd.zb5 k55 _ 55 ?hg (N' := 39) ?hd (xs := ([] : List (S55))) (inner := []) (ok := (fun k_ => (P0_ k_ ∨ w.heap.size ≤ k_) ∧ some k_ ≠ (.slice (some qt7) zC.length co9 : Value).ownBlock ∧ some k_ ≠ (v163 : Value).ownBlock)) (okp := (fun k_ => (P0_ k_ ∨ w.heap.size ≤ k_) ∧ some k_ ≠ (.slice (some qt7) zC.length co9 : Value).ownBlock ∧ some k_ ≠ (v163 : Value).ownBlock)) ?hr ?hp (fun _ hk => hk) ((show ∀ k_, w28.heap.size ≤ k_ → (fun k_ => (P0_ k_ ∨ w.heap.size ≤ k_) ∧ some k_ ≠ (.slice (some qt7) zC.length co9 : Value).ownBlock ∧ some k_ ≠ (v163 : Value).ownBlock) k_ from fun k_ hk => ⟨(.inr (Nat.le_trans (qJ (by repeat (first | (with_reducible first | exact HB.out | apply qA | apply q9 | apply qB) | exact HB.out))) hk)), Kd.fresh' (Kd.jx1 (by (with_reducible repeat (first | apply Kd.jD | apply Kd.jE | apply Kd.jJ)); exact qU.out)) k_ hk, Kd.fresh' (Kd.jx1 (by (with_reducible repeat (first | apply Kd.jD | apply Kd.jE | apply Kd.jJ)); exact qx6.out)) k_ hk⟩) _ (Nat.le_refl _)) (Below.refl _ _) (Nat.le_refl _) (by simp) ?_; (case hd => rfl); (case hg => rfl); (case hr => first | (go_simp; done) | (go_simp; rfl)); (case hp => exact (qc7.none _ _))
                intro v166 w31 jx3 hb hg_ qC1
                clear hg_ qC1
                (first | rw [← zU1.out] at jx3 | (simp only [Int.reduceToNat] at jx3; rw [← zU1.out] at jx3))
                have n0_ := q8.mk (Kd.qr9 (by (with_reducible repeat (first | apply Kd.jD | apply Kd.jE | apply Kd.jJ)); exact qU.out) (Kd.qC2 jx3) hb)
                have n1_ := q8.mk (Kd.qr8 (by (with_reducible repeat (first | apply Kd.jO | apply Kd.jP | apply Kd.zA)); exact qi8.out) (Kd.qC2 jx3) hb)
                have n2_ := q8.mk (Kd.qr9 (by (with_reducible repeat (first | apply Kd.jD | apply Kd.jE | apply Kd.jJ)); exact qx6.out) (Kd.qC2 jx3) hb)
                have n3_ := q8.mk (Kd.qr8 (by (with_reducible repeat (first | apply Kd.jO | apply Kd.jP | apply Kd.zA)); exact qP2.out) (Kd.qC2 jx3) hb)
                have n4_ := q8.mk (Kd.qr8 (by (with_reducible repeat (first | apply Kd.jO | apply Kd.jP | apply Kd.zA)); exact qP3.out) (Kd.qC2 jx3) hb)
                have n5_ := q8.mk (Kd.qY7 jx3 (qJ (by repeat (first | (with_reducible first | exact HB.out | apply qA | apply q9 | apply qB) | exact HB.out))))
                have n6_ := q8.mk (jL (by repeat (first | (with_reducible first | exact HB.out | apply qA | apply q9 | apply qB) | exact HB.out)) hb)
                clear qU
                clear qi8
                clear qx6
                clear qP2
                clear qP3
                clear HB
                have qU := n0_
                have qi8 := n1_
                have qx6 := n2_
                have qP2 := n3_
                have qP3 := n4_
                have zU7 := n5_
                have HB := n6_
                clear n0_ n1_ n2_ n3_ n4_ n5_ n6_
                clear hb jx3
                refine hK.out _ _ trivial (fun hHeld => ?_)
                clear hK K
                refine qC3 (a' := ?_) ?_ ?_
                rotate_left
                ·show Act.put _ (some 39) _ = _
                 simp only [Act.put, List.setIfInBounds_toArray, List.set_cons_zero, List.set_cons_succ, qa2, qa3]
                 rfl
                refine jR5 (i := 4) (N := some 43) #[true, true, true, true, true, true, true, true, true, false, false] rfl rfl (qP4 HT_.out (by kernel_rfl)) (by decide) (fun K hK => ?_)
                refine Kd.qC4 k55 (w0 := w) w.heap.size (by rfl) (.tmp 39) (.tmp 42) 22 55 (.agg #[(.int .i64 0), (.int .i64 0), (.int .i64 0), (.slice none 0 0)]) 48 rfl Try.underlying22 qV0 rfl (by decide) (by omega) v166 y165 y168 _ _ _ (fun k_ => (P0_ k_ ∨ w.heap.size ≤ k_) ∧ some k_ ≠ (v163 : Value).ownBlock) (fun k_ => ((fun k_ => (P0_ k_ ∨ w.heap.size ≤ k_) ∧ some k_ ≠ (v163 : Value).ownBlock)) k_ ∧ some k_ ≠ (v166 : Value).ownBlock) rfl rfl ?aO ?aR (fun _ hk => hk) ?aF ?aB ?aS ?aL ?_
                (case aR => exact (by skip; exact Kd.V_F (Kd.zN (ok' := (fun k_ => ((fun k_ => (P0_ k_ ∨ w.heap.size ≤ k_) ∧ some k_ ≠ (v163 : Value).ownBlock)) k_ ∧ some k_ ≠ (v166 : Value).ownBlock)) (qP2.out) (fun k_ hk => ⟨⟨hk.1.1, hk.1.2⟩, hk.2⟩))))
                (case aB => exact (by repeat (first | (with_reducible first | exact HB.out | apply qA | apply q9 | apply qB) | exact HB.out)))
                (case aF => exact (fun k_ hk => ⟨(.inr (Nat.le_trans (qJ (by repeat (first | (with_reducible first | exact HB.out | apply qA | apply q9 | apply qB) | exact HB.out))) hk)), Kd.fresh' (Kd.jx1 (by (with_reducible repeat (first | apply Kd.jD | apply Kd.jE | apply Kd.jJ)); exact qx6.out)) k_ hk⟩))
                (case aO => exact (by (with_reducible repeat (first | apply Kd.jD | apply Kd.jE | apply Kd.jJ)); exact Kd.z8 zU7.out (fun _ hk => ⟨hk.1, hk.2.2⟩)))
                (case aS => exact (qJ (by repeat (first | (with_reducible first | exact HB.out | apply qA | apply q9 | apply qB) | exact HB.out))))
                (case aL => have := Qk0.out; omega)
                intro v174 w33 ho hb hg hat
                rw [← Qk1.out] at ho
                have n0_ := q8.mk (Kd.qp3 (ok := (fun k_ => (P0_ k_ ∨ w.heap.size ≤ k_) ∧ some k_ ≠ (v163 : Value).ownBlock)) (by (with_reducible repeat (first | apply Kd.jD | apply Kd.jE | apply Kd.jJ)); exact qU.out) hg hat)
                have n1_ := q8.mk (Kd.qm6 (ok := (fun k_ => (P0_ k_ ∨ w.heap.size ≤ k_) ∧ some k_ ≠ (.slice (some qt7) zC.length co9 : Value).ownBlock ∧ some k_ ≠ (v163 : Value).ownBlock)) (by (with_reducible repeat (first | apply Kd.jO | apply Kd.jP | apply Kd.zA)); exact Kd.zN qi8.out (fun _ hk => ⟨⟨hk.1.1.1, ⟨hk.1.1.2, hk.1.2⟩⟩, hk.2⟩)) hg hat)
                have n2_ := q8.mk (Kd.qp3 (ok := (fun k_ => (P0_ k_ ∨ w.heap.size ≤ k_) ∧ some k_ ≠ (.slice (some qt7) zC.length co9 : Value).ownBlock)) (by (with_reducible repeat (first | apply Kd.jD | apply Kd.jE | apply Kd.jJ)); exact qx6.out) hg hat)
                have n3_ := q8.mk (Kd.qm6 (ok := (fun k_ => (P0_ k_ ∨ w.heap.size ≤ k_) ∧ some k_ ≠ (v163 : Value).ownBlock)) (by (with_reducible repeat (first | apply Kd.jO | apply Kd.jP | apply Kd.zA)); exact qP2.out) hg hat)
                have n4_ := q8.mk (Kd.qm6 (ok := (fun k_ => (P0_ k_ ∨ w.heap.size ≤ k_) ∧ some k_ ≠ (v163 : Value).ownBlock)) (by (with_reducible repeat (first | apply Kd.jO | apply Kd.jP | apply Kd.zA)); exact qP3.out) hg hat)
                have n5_ := q8.mk (hb)
                have n6_ := q8.mk (ho)
                clear qU
                clear qi8
                clear qx6
                clear qP2
                clear qP3
                clear HB
                clear zU7
                have qU := n0_
                have qi8 := n1_
                have qx6 := n2_
                have qP2 := n3_
                have qP3 := n4_
                have HB := n5_
                have zU8 := n6_
                clear n0_ n1_ n2_ n3_ n4_ n5_ n6_
                clear ho hb hg hat
                refine hK.out _ _ trivial (fun hHeld => ?_)
                clear hK K
                refine qC3 (a' := ?_) ?_ ?_
                rotate_left
                ·show Act.put _ (some 43) _ = _
                 simp only [Act.put, List.setIfInBounds_toArray, List.set_cons_zero, List.set_cons_succ, qa2, qa3]
                 rfl
                refine jR5 (i := 9) (N := some 48) #[true, true, true, true, true, true, true, true, true, true, false] rfl rfl (qP4 HT_.out (by kernel_rfl)) (by decide) (fun K hK => ?_)
                refine Kd.qC4 k55 (w0 := w) w.heap.size (by rfl) (.tmp 43) (.tmp 47) 22 55 (.agg #[(.int .i64 0), (.int .i64 0), (.int .i64 0), (.slice none 0 0)]) 48 rfl Try.underlying22 qV0 rfl (by decide) (by omega) v174 y173 y176 _ _ _ (fun k_ => (P0_ k_ ∨ w.heap.size ≤ k_) ∧ some k_ ≠ (v163 : Value).ownBlock) (fun k_ => ((fun k_ => (P0_ k_ ∨ w.heap.size ≤ k_) ∧ some k_ ≠ (v163 : Value).ownBlock)) k_ ∧ some k_ ≠ (v174 : Value).ownBlock) rfl rfl ?aO ?aR (fun _ hk => hk) ?aF ?aB ?aS ?aL ?_
                (case aR => exact (by skip; exact Kd.V_F (Kd.zN (ok' := (fun k_ => ((fun k_ => (P0_ k_ ∨ w.heap.size ≤ k_) ∧ some k_ ≠ (v163 : Value).ownBlock)) k_ ∧ some k_ ≠ (v174 : Value).ownBlock)) (qP3.out) (fun k_ hk => ⟨⟨hk.1.1, hk.1.2⟩, hk.2⟩))))
                (case aB => exact (by repeat (first | (with_reducible first | exact HB.out | apply qA | apply q9 | apply qB) | exact HB.out)))
                (case aF => exact (fun k_ hk => ⟨(.inr (Nat.le_trans (qJ (by repeat (first | (with_reducible first | exact HB.out | apply qA | apply q9 | apply qB) | exact HB.out))) hk)), Kd.fresh' (Kd.jx1 (by (with_reducible repeat (first | apply Kd.jD | apply Kd.jE | apply Kd.jJ)); exact qx6.out)) k_ hk⟩))
                (case aO => exact (by (with_reducible repeat (first | apply Kd.jD | apply Kd.jE | apply Kd.jJ)); exact zU8.out))
                (case aS => exact (qJ (by repeat (first | (with_reducible first | exact HB.out | apply qA | apply q9 | apply qB) | exact HB.out))))
                (case aL => have := Qk2.out; omega)
                intro v182 w34 ho hb hg hat
                rw [← Qk3.out] at ho
                have n0_ := q8.mk (Kd.qp3 (ok := (fun k_ => (P0_ k_ ∨ w.heap.size ≤ k_) ∧ some k_ ≠ (v163 : Value).ownBlock)) (by (with_reducible repeat (first | apply Kd.jD | apply Kd.jE | apply Kd.jJ)); exact qU.out) hg hat)
                have n1_ := q8.mk (Kd.qm6 (ok := (fun k_ => (P0_ k_ ∨ w.heap.size ≤ k_) ∧ some k_ ≠ (.slice (some qt7) zC.length co9 : Value).ownBlock ∧ some k_ ≠ (v163 : Value).ownBlock)) (by (with_reducible repeat (first | apply Kd.jO | apply Kd.jP | apply Kd.zA)); exact qi8.out) hg hat)
                have n2_ := q8.mk (Kd.qp3 (ok := (fun k_ => (P0_ k_ ∨ w.heap.size ≤ k_) ∧ some k_ ≠ (.slice (some qt7) zC.length co9 : Value).ownBlock)) (by (with_reducible repeat (first | apply Kd.jD | apply Kd.jE | apply Kd.jJ)); exact qx6.out) hg hat)
                have n3_ := q8.mk (Kd.qm6 (ok := (fun k_ => (P0_ k_ ∨ w.heap.size ≤ k_) ∧ some k_ ≠ (v163 : Value).ownBlock)) (by (with_reducible repeat (first | apply Kd.jO | apply Kd.jP | apply Kd.zA)); exact qP2.out) hg hat)
                have n4_ := q8.mk (Kd.qm6 (ok := (fun k_ => (P0_ k_ ∨ w.heap.size ≤ k_) ∧ some k_ ≠ (v163 : Value).ownBlock)) (by (with_reducible repeat (first | apply Kd.jO | apply Kd.jP | apply Kd.zA)); exact qP3.out) hg hat)
                have n5_ := q8.mk (hb)
                have n6_ := q8.mk (ho)
                clear qU
                clear qi8
                clear qx6
                clear qP2
                clear qP3
                clear HB
                clear zU8
                have qU := n0_
                have qi8 := n1_
                have qx6 := n2_
                have qP2 := n3_
                have qP3 := n4_
                have HB := n5_
                have Qk6 := n6_
                clear n0_ n1_ n2_ n3_ n4_ n5_ n6_
                clear ho hb hg hat
                refine hK.out _ _ trivial (fun hHeld => ?_)
                clear hK K
                refine qC3 (a' := ?_) ?_ ?_
                rotate_left
                ·show Act.put _ (some 48) _ = _
                 simp only [Act.put, List.setIfInBounds_toArray, List.set_cons_zero, List.set_cons_succ, qa2, qa3]
                 rfl
                refine qf3 (i := 10) (N := some 4) (v := ?_) (a' := ?_) #[true, true, true, true, true, true, true, true, true, true, true] rfl rfl (qb6 HT_.out (by kernel_rfl)) (fun _ _ _ h => h) (Or.inl ⟨by rfl, ?_⟩) ?_ ?_
                rotate_left
                ·intro w'
                 go_simp
                 with_reducible rfl
                rotate_left
                ·simp only [Act.put, List.setIfInBounds_toArray, List.set_cons_zero, List.set_cons_succ, qa2, qa3]
                 rfl
                refine zj2 (jl5 HT_.out (by kernel_rfl)) ?_
                try go_wp2
                go_roundg k2
                case measure => have := HK1.out; have := HK2.out; omega
                case rel => exact ⟨(y162), (y181), H', ⟨by have := HK1.out; have := HK2.out; omega⟩, ⟨by (with_reducible repeat (first | apply Kd.jD | apply Kd.jE | apply Kd.jJ)); exact Kd.z8 qx6.out (fun _ hk => ⟨hk.1.1, hk.2⟩)⟩, ⟨by (with_reducible repeat (first | apply Kd.jD | apply Kd.jE | apply Kd.jJ)); exact Qk6.out⟩, ⟨by repeat (first | (with_reducible first | exact HB.out | apply qA | apply q9 | apply qB) | exact HB.out)⟩⟩
               ·rw [if_neg c26] at H
                exact absurd H (by simp)
              ·rw [if_neg c25] at H
               exact absurd H (by simp)
             ·rw [if_neg c24] at H
              exact absurd H (by simp)
            ·rw [if_neg c22] at H
             exact absurd H (by simp)
           ·rw [if_neg c21] at H
            exact absurd H (by simp)
          ·rw [if_neg c19] at H
           exact absurd H (by simp)
         ·rw [if_neg c18] at H
          exact absurd H (by simp)
        ·rw [if_neg c17] at H
         exact absurd H (by simp)
    ·rw [if_neg c8] at H
     have qV1 : decide (0 < (zC.length : Int)) = false := decide_eq_false c8
     have c8b1 : decide (0 < zC.length) = false := decide_eq_false (by omega)
     clear c8
     obtain rfl := Option.some.inj H
     obtain ⟨Ao35, co35, eo35⟩ := Kd.qR6 qU.out
     subst eo35
     go_wp2
     go_ret
     exact ⟨_, by first | rfl | (simp [jF, jG] <;> rfl) | (simp [*, jF, jG] <;> rfl), by (with_reducible repeat (first | apply Kd.jD | apply Kd.jE | apply Kd.jJ)); exact Kd.z8 qa9.out (fun _ hk => hk.1), by repeat (first | (with_reducible first | exact HB.out | apply qA | apply q9 | apply qB) | exact HB.out)⟩
 ·rw [if_neg c2] at H
  exact absurd H (by simp)
end Go.Proofs.Ytngkneknopenmaa.T
end
