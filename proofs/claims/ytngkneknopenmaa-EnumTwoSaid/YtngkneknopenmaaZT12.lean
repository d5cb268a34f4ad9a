/- qr3 of this claim, joined by a program of this session: the zS that its theorem uses. -/
import Derived.Test.YtngkneknopenmaaZT0
import Derived.Test.YtngkneknopenmaaZT2
import Derived.Test.YtngkneknopenmaaZT5
import Derived.Test.YtngkneknopenmaaZT7
import Derived.Test.YtngkneknopenmaaZT9
import Derived.Test.YtngkneknopenmaaZT10
import Derived.Test.YtngkneknopenmaaZT11
import Derived.Sort.OwnSortedInts
import Derived.Deep.DeepCutAuto
import Derived.Deep.RegionWith
import Derived.Test.YtngkneknopenmaaProg
import Derived.Below
import Derived.Deep.Draws
import Derived.Deep.AppendLies
import Derived.Maps.AppendAt
import Derived.OwnWalk
import Derived.Laws.BytesArg
import Derived.Laws.MakeOwn
import Derived.Laws.OwnMore
import Derived.Deep.OwnRows
import Derived.Tactics
import Derived.Lib.ConvBytes
import Derived.Laws.Slices
import Derived.WalkKit
import Derived.KernelRfl
import Derived.RowKit3
import Derived.Deep.LoopGhost
import Derived.Deep.QuietTactic
import Derived.BigQuiet
import Derived.WideLaws
import Derived.Deep.CutBlock
import Derived.Deep.RegionHeld3
import Derived.Laws.Rows
import Derived.Lib.AppendStr
import Derived.ArgAppend
import Derived.Laws.IdiomCopy
import Derived.OrdersHeld
import Derived.Laws.BitsLemmas
import Derived.RowKit
set_option linter.unusedVariables false
set_option linter.unusedSimpArgs false
namespace Go.Proofs.Ytngkneknopenmaa.jX3
end Go.Proofs.Ytngkneknopenmaa.jX3
section
namespace Go.Proofs.Ytngkneknopenmaa.zM
open Go Go.RowKit Go.Proofs.Ytngkneknopenmaa.qa9 Go.Sort Go.Shelf
instance : Inhabited TR := ⟨⟨0, 0, 0, 0, 0, 0⟩⟩
theorem jB9 (r : TR) : (TR.cells r).length = 4 := rfl
theorem cells_one (r : TR) : ∀ v ∈ TR.cells r, v.oneCell' = true := by
 intro v hv
 simp [TR.cells] at hv
 rcases hv with rfl | rfl | rfl | rfl <;> rfl
theorem jm9 (rows : Array TR) : (flatK TR.cells 4 rows).toList = qi6 rows.toList := by
 apply List.ext_getElem (by simp [qs3])
 intro t h1 h2
 have ht : t < rows.size * 4 := by simpa using h1
 have hd : t / 4 < rows.size := by omega
 have e1 : (flatK TR.cells 4 rows).toList[t] = (TR.cells rows[t / 4]!)[t % 4]! := by
  rw [← get_flatK _ _ _ _ ht, Array.getElem_toList, getElem!_pos]
 rw [e1, getElem!_pos rows _ hd]
 obtain ⟨a, b, c, d⟩ := je3 rows.toList [] (t / 4) rows[t / 4] (by rw [Array.getElem?_toList, Array.getElem?_eq_getElem hd])
 rw [List.append_nil] at a b c d
 obtain ⟨r, hr⟩ : ∃ r, rows[t / 4] = r := ⟨_, rfl⟩
 rw [hr] at a b c d ⊢
 have h4 : t % 4 < 4 := Nat.mod_lt _ (by omega)
 have htm : t = t / 4 * 4 + t % 4 := by omega
 have key : (qi6 rows.toList)[t]? = some (TR.cells r)[t % 4]! := by
  obtain ⟨m, hm⟩ : ∃ m, t % 4 = m := ⟨_, rfl⟩
  rw [hm] at htm h4 ⊢
  match m, h4 with
  | 0, _ => rw [htm, Nat.add_zero, a]; rfl
  | 1, _ => rw [htm, b]; rfl
  | 2, _ => rw [htm, c]; rfl
  | 3, _ => rw [htm, d]; rfl
 rw [List.getElem?_eq_getElem h2] at key
 exact (Option.some.inj key).symm
theorem jM4 {w : World} {g : Nat} {cur : Array Value} {e : TypeId} {D : Array Value} (hb : w.heap[g]? = some (.cells cur e (0, 0))) (ht : cur.toList.take D.size = D.toList) : Holds id w g 0 D := by
 intro j hj
 refine ⟨?_, by simp [World.frozen?, hb]⟩
 have h1 : (cur.toList.take D.size)[j]? = D.toList[j]? := by rw [ht]
 rw [List.getElem?_take_of_lt hj] at h1
 simp only [World.cell?, hb, Nat.zero_add]
 simp only [Option.isSome_none, Bool.false_eq_true, if_false]
 rw [← Array.getElem?_toList, h1]
 simp [hj]
theorem heap_put {w : World} {g n : Nat} {os : Array Obj} {cur : Array Value} {e : TypeId} {fr : Nat × Nat} (D : Array Value) (hb : w.heap[g]? = some (.cells cur e fr)) :
  (grow (putRow id (Sort.ahead w n) g 0 D) os).heap[g]? = some (.cells (putCells id 0 D cur) e fr) := by
 have hg : g < w.heap.size := (Array.getElem?_eq_some_iff.1 hb).1
 rw [heap_grow_old _ _ (by simpa using hg)]
 simp [putRow, mapBlock, Sort.ahead, Array.getElem?_modify, hb, onCells]
theorem zm8 {w : World} {g n : Nat} {os : Array Obj} (D : Array Value) : w.grownBy (grow (putRow id (Sort.ahead w n) g 0 D) os) (some g) := by
 refine ⟨rfl, rfl, rfl, by simp, fun k hk hne => ?_⟩
 rw [heap_grow_old _ _ (by simpa using hk)]
 have : g ≠ k := fun e => hne (by rw [e])
 simp [putRow, mapBlock, Sort.ahead, Array.getElem?_modify, this]
theorem zs7 (cur D : Array Value) (h : D.size ≤ cur.size) : (putCells id 0 D cur).toList.take D.size = D.toList := by
 apply List.ext_getElem?
 intro j
 by_cases hj : j < D.size
 ·rw [List.getElem?_take_of_lt hj, Array.getElem?_toList]
  simp [putCells, hj, show j < cur.size by omega]
 ·rw [List.getElem?_take_eq_none (by omega), List.getElem?_eq_none (by simp; omega)]
theorem ltB (x y : TR) : ltOf (fun x y : TR => Lib.compareInt x.b y.b) x y = decide (x.b < y.b) := by
 unfold ltOf Lib.compareInt
 by_cases h1 : x.b < y.b
 ·simp [h1]
 ·by_cases h2 : y.b < x.b <;> simp [h1, h2]
theorem swoB : SWO (ltOf fun x y : TR => Lib.compareInt x.b y.b) where
 irrefl x := by rw [ltB]; simp
 trans x y z h1 h2 := by rw [ltB] at *; simp at *; omega
 ntrans x y z h1 h2 := by rw [ltB] at *; simp at *; omega
set_option maxHeartbeats 1000000 in
theorem jv4 (x y : TR) (W : World) : Calls Try.prog 38 #[.agg x.cells.toArray, .agg y.cells.toArray] W fun e w' => e = .returned (.int .i64 (Lib.compareInt x.b y.b)) ∧ ∃ q os', w' = grow (W.drewN q) os' := by
 have hcon := fun W' => Try.cmp_Compare_int x.b y.b W'
 generalize Lib.compareInt x.b y.b = r at hcon ⊢
 have e1 : x.cells.toArray = #[.int .i64 x.s, .int .i64 x.b, .int .i64 x.c, .slice (some ⟨x.g, 0, none⟩) x.n x.cp] := rfl
 have e2 : y.cells.toArray = #[.int .i64 y.s, .int .i64 y.b, .int .i64 y.c, .slice (some ⟨y.g, 0, none⟩) y.n y.cp] := rfl
 rw [e1, e2]
 clear e1 e2
 go_enter Try.func38, Try.ntmps38
 go_wp2_with (go_at_call 39; refine (hcon _).mono ?_; rintro e w' ⟨rfl, rfl⟩)
 go_ret
 exact ⟨rfl, 0, _, by rw [alloc_eq_grow, alloc_eq_grow, grow_grow]; rfl⟩
theorem zF8 (w : World) : (isAgg 55).run Try.prog w = .ok true w := by kernel_rfl
theorem zs8 (w : World) : (Go.sizeOf 55).run Try.prog w = .ok 4 w := by kernel_rfl
set_option maxHeartbeats 1000000 in
theorem jv5 (g cap : Nat) (base : Nat) (rows : List TR) (hlen : rows.length ≤ 4611686018427387903) (w : World) (hown : w.ownsRow base 55 4 (.slice (some ⟨g, 0, none⟩) rows.length cap) rows.length (qi6 rows)) :
  Calls Try.prog 37 #[.slice (some ⟨g, 0, none⟩) rows.length cap, .func (.func 38) #[] #[]] w fun e w' =>
   e = .returned (.tuple #[]) ∧ ∃ rows' : List TR, rows'.Perm rows ∧ rows'.Pairwise (fun x y => x.b ≤ y.b) ∧ w'.ownsRow base 55 4 (.slice (some ⟨g, 0, none⟩) rows.length cap) rows.length (qi6 rows') ∧ w.grownBy w' (some g) := by
 by_cases h0 : rows.length = 0
 ·have hn := AnyF.slices_SortFunc_none Try.zg5 (some ⟨g, 0, none⟩) cap (.func (.func 38) #[] #[]) w
  rw [h0]
  refine hn.mono ?_
  rintro e w' ⟨rfl, rfl⟩
  exact ⟨rfl, rows, List.Perm.refl _, by rw [List.eq_nil_of_length_eq_zero h0]; exact .nil, by rw [h0] at hown; exact hown, below_grown (Below.refl _ _)⟩
 ·rcases hown.2 with ⟨h, _⟩ | ⟨g', cp, cur, he, hg, hh, h1, h2, h3, h4⟩
  ·cases h
  ·cases he
   have Qh9 : (flatK TR.cells 4 rows.toArray).toList = qi6 rows := jm9 rows.toArray
   have hsz : (flatK TR.cells 4 rows.toArray).size = rows.length * 4 := by simp
   have hH : HoldsK TR.cells 4 w g 0 rows.toArray := jM4 hh (by rw [hsz, h4, Qh9])
   have eg : ∀ args w, (callFunc 38 args).run Try.prog w = .ok (.enter 38 args) w := enters_of Try.func38 (by kernel_rfl) rfl
   have hcon := AnyQ.slices_SortFunc Try.zg5 4 zF8 zs8 TR.cells jB9 cells_one (fun x y => Lib.compareInt x.b y.b) swoB 38 #[] g 0 cap rows.toArray w eg (fun _ _ _ _ x y => jv4 x y _) hH (Array.getElem?_eq_some_iff.1 hh).1 (by simp; omega)
   have Qi0 : Calls Try.prog 37 #[.slice (some ⟨g, 0, none⟩) rows.length cap, .func (.func 38) #[] #[]] w _ := hcon
   refine Qi0.mono ?_
   rintro e w' ⟨rfl, d', n, os, hp, hs, rfl⟩
   obtain ⟨hp1, _, hp3⟩ := hp
   have hpl : d'.toList.Perm rows := by
    have e1 : d'.extract 0 rows.toArray.size = d' := by rw [← hp1]; simp
    have e2 : rows.toArray.extract 0 rows.toArray.size = rows.toArray := by simp
    rw [e1, e2] at hp3
    exact hp3
   have hfl' : (flatK TR.cells 4 d').toList = qi6 d'.toList := jm9 d'
   have hds : d'.size = rows.length := by rw [hp1]; simp
   have hsz' : (flatK TR.cells 4 d').size = rows.length * 4 := by simp [hds]
   refine ⟨rfl, d'.toList, hpl, ?_, ⟨by rw [qs3]; simp [hds], .inr ⟨g, cap, _, rfl, hg, heap_put _ hh, h1, h2, by simp [putCells, h3], ?_⟩⟩, zm8 _⟩
   ·rw [List.pairwise_iff_getElem]
    intro i j hi hj hij
    have hij2 := hs i j (Nat.zero_le _) hij (by rw [← hp1]; simpa using hj)
    rw [ltB, decide_eq_false_iff_not] at hij2
    have hi' : i < d'.size := by simpa using hi
    have hj' : j < d'.size := by simpa using hj
    rw [getElem!_pos d' i hi', getElem!_pos d' j hj'] at hij2
    simpa using hij2
   ·rw [← hfl', ← hsz']
    exact zs7 _ _ (by rw [hsz', h3]; exact Nat.mul_le_mul_right _ h1)
end Go.Proofs.Ytngkneknopenmaa.zM
end
section
namespace Go.Proofs.Ytngkneknopenmaa.zM
open Go Go.RowKit Go.Proofs.Ytngkneknopenmaa.qa9 Go.Proofs.Ytngkneknopenmaa.qi7 Go.Proofs.YtngkneknopenmaaW.jH
def jF (h : List T4) : List Int := h.flatMap fun t => [t.b, t.c]
theorem jC0 (h : List T4) (t : T4) : jF (h ++ [t]) = jF h ++ [t.b, t.c] := by simp [jF, List.flatMap_append]
theorem qs4 (h : List T4) : (jF h).length = h.length * 2 := by
 induction h with
 | nil => rfl
 | cons t h ih =>
  have : jF (t :: h) = [t.b, t.c] ++ jF h := rfl
  rw [this, List.length_append, ih]
  simp
  omega
def qA1 (l : List Int) : List Int := l.mergeSort fun x y => decide (x ≤ y)
def qo3 : Nat → List Int → (Int → Option Int) → Int → Option Int
 | _, [], f => f
 | i, x :: l, f => qo3 (i + 1) l fun y => if y = x then some (i : Int) else f y
def places (l : List Int) : Int → Option Int := qo3 0 l fun _ => none
def qu9 (h : List T4) : Int → Option Int := places (qA1 (jF h))
def jC1 (f : Int → Option Int) : Int → Option Value := fun x => (f x).map (Value.int .i64)
theorem zs9 (f : Int → Option Int) (x i : Int) : jC1 (fun y => if y = x then some i else f y) = upd (jC1 f) x (.int .i64 i) := by
 funext y
 unfold jC1 upd
 by_cases h : y = x <;> simp [h]
theorem jj9 : (Try.prog.info? 3).map (fun i => (i.zero, i.size, i.bytes)) = some (some (.int .i64 0), 1, 8) := by kernel_rfl
def Qi1 (h : List T4) (w : World) (x v : Value) (wr : World) : Prop :=
 ∃ i : Nat, i ≤ h.length ∧ v = .int .i64 ((i : Nat) : Int) ∧ wr.ownsRow w.heap.size 3 1 x (i * 2) ((jF (h.take i)).map (Value.int .i64)) ∧ Below w.heap.size w wr
set_option maxHeartbeats 8000000 in
set_option maxRecDepth 100000 in
theorem jM5 (A : Option Addr) (cap : Nat) (h : List T4) (hlen : h.length ≤ 64) (hok : ∀ t ∈ h, OkS t) (w : World) (hr : RdT w A h) :
  Calls Try.prog 40 #[.slice A h.length cap] w fun e w' => ∃ b s, e = .returned (.map (some b)) ∧ IM Try.prog 3 w' b (jC1 (qu9 h)) s ∧ w.heap.size ≤ b ∧ Below w.heap.size w w' := by
 obtain ⟨n, hn⟩ : ∃ n, h.length = n := ⟨_, rfl⟩
 have HN := Lib.hid hn
 rw [hn] at hlen ⊢
 have HR := Lib.hid hr
 have HOK := Lib.hid hok
 clear hn hr hok
 have hmm := @run_makeMap Try.prog
 obtain ⟨i0, hii, hz0, hz1, hz2⟩ := info_parts jj9
 go_enter Try.func40, Try.ntmps40
 go_wp2_with fail
 go_loopw [3, 11] (fun x v wr => Qi1 h w x v wr) (fun _ v _ => n - (intOf v).toNat)
 case atStart => exact ⟨0, Nat.zero_le _, rfl, World.ownsRow_nil _ _ _ _, Below.refl _ _⟩
 case round =>
  obtain ⟨i, hi, rfl, hown, hb⟩ := hrel
  rw [HN.out] at hi
  by_cases hlt : i < n
  ·have hltz : (i : Int) < (n : Int) := by omega
   have hil : i < h.length := by rw [HN.out]; exact hlt
   obtain ⟨ad, rfl, hc⟩ := HR.out (by omega)
   obtain ⟨t, ht⟩ : ∃ t, h[i]? = some t := ⟨_, List.getElem?_eq_getElem hil⟩
   obtain ⟨A3, c3, t0, t1, t2, t3, hl3, hro⟩ := hc i t ht
   have hto : jF (h.take (i + 1)) = jF (h.take i) ++ [t.b, t.c] := by rw [List.take_add_one, ht]; exact jC0 _ _
   replace t0 := cell_below hb t0
   replace t1 := cell_below hb t1
   replace t2 := cell_below hb t2
   replace t3 := cell_below hb t3
   have HTO := Lib.hid hto
   have HB := Lib.hid hb
   have HOWN := Lib.hid hown
   have hbz := hb.size
   obtain ⟨m, hm⟩ : ∃ m, t.ops.length = m := ⟨_, rfl⟩
   rw [hm] at t3
   clear hc ht hro hil hm hto hb hown hl3
   have hsl : (jF (h.take i)).length = i * 2 := by rw [qs4, List.length_take, HN.out]; omega
   go_wp2_with (at_builtin; refine wpList_append_own_at _ rfl _ _ 29 rfl w.heap.size 3 i0 (.int .i64 0) 1 8 Try.underlying29 hii hz0 hz1 hz2 rfl (by decide) _ (i * 2) ((jF (h.take i)).map (Value.int .i64)) rfl ((HOWN.out.alloc _).alloc _) ⟨wr.heap.size + 1, 0, none⟩ 2 2 [.int .i64 t.b, .int .i64 t.c] rfl rfl ?c1 ?c2 (by unfold maxLen; omega) (by omega) (by simp; omega) ?_)
   case c1 =>
    intro j u hj
    have h := alloc_at (wr.alloc (.cells #[.int .i64 t.s, .int .i64 t.b, .int .i64 t.c, .slice A3 m c3] 55)) (.cells #[.int .i64 t.b, .int .i64 t.c] 3)
    rw [show (wr.alloc (.cells #[.int .i64 t.s, .int .i64 t.b, .int .i64 t.c, .slice A3 m c3] 55)).heap.size = wr.heap.size + 1 by simp] at h
    rw [add_zero, Lib.cell_of_heap h]
    simpa using hj
   case c2 =>
    intro u hu
    simp at hu
    rcases hu with rfl | rfl <;> rfl
   intro v8 w8 zg3 jX2 zg4 zW7
   have hb8 : Below w.heap.size w w8 := ((HB.out.alloc HB.out.size _).alloc (HB.out.alloc HB.out.size _).size _).grown jX2 ((HB.out.alloc HB.out.size _).alloc (HB.out.alloc HB.out.size _).size _).size (fun j hj => (HOWN.out.lt j hj).1)
   clear jX2 zg4 zW7 t0 t1 t2 t3
   go_wp2_with fail
   go_roundw
   case rel => exact ⟨i + 1, by rw [HN.out]; omega, by go_num, by rw [HTO.out, List.map_append, Nat.add_mul]; exact zg3, hb8⟩
   case measure => (simp [intOf]; try omega)
  ·have hin : i = n := by omega
   subst hin
   rw [List.take_of_length_le (by rw [HN.out]; exact Nat.le_refl _)] at hown
   have hsl : (jF h).length = i * 2 := by rw [qs4, HN.out]
   have hLl : (qA1 (jF h)).length = i * 2 := by unfold qA1; rw [List.length_mergeSort, hsl]
   have hLm : ∀ x ∈ qA1 (jF h), 0 ≤ x ∧ x ≤ 2147483647 := by
    intro x hx
    unfold qA1 at hx
    rw [List.mem_mergeSort] at hx
    unfold jF at hx
    rw [List.mem_flatMap] at hx
    obtain ⟨t, ht, hx⟩ := hx
    obtain ⟨o1, o2, o3, o4, o5, o6⟩ := HOK.out t ht
    simp at hx
    rcases hx with rfl | rfl
    ·exact ⟨o3, o4⟩
    ·exact ⟨o5, o6⟩
   have hsort : Calls Try.prog 63 #[u3] wr fun e w' => e = .returned (.tuple #[]) ∧ w'.ownsRow w.heap.size 3 1 u3 (i * 2) ((qA1 (jF h)).map (Value.int .i64)) ∧ wr.grownBy w' u3.ownBlock := by
    rcases hown.2 with ⟨rfl, h0⟩ | ⟨g, cp, cur, rfl, hg, hh, h1, h2, h3, h4⟩
    ·refine (Try.slices_Sort_int_none none 0 wr).mono ?_
     rintro e w' ⟨rfl, rfl⟩
     have hnil : jF h = [] := List.eq_nil_of_length_eq_zero (by omega)
     refine ⟨rfl, ?_, below_grown (Below.refl _ _)⟩
     have hsn : qA1 [] = [] := by simp [qA1]
     rw [hnil] at hown ⊢
     rw [hsn]
     exact hown
    ·have hH := holds_of_blockI (ss := jF h) hh (by rw [hsl]; simpa using h4)
     have hcon := Try.slices_Sort_int g 0 cp (jF h) wr hH (Array.getElem?_eq_some_iff.1 hh).1 (by omega)
     rw [hsl] at hcon
     refine hcon.mono ?_
     rintro e w' ⟨rfl, k, os, rfl⟩
     refine ⟨rfl, ?_, grownBy_sortedI _⟩
     have := ownsRow_sortedI (os := os) (n := k) (ss := jF h) (ts := qA1 (jF h)) (by rw [hLl, hsl]) hg hh (by omega) h2 h3
     rw [hsl] at this
     exact this
   have hlow : ∀ j, u3.ownBlock = some j → w.heap.size ≤ j := fun j hj => (hown.lt j hj).1
   obtain ⟨A9, cp9, rfl, hA9⟩ : ∃ A9 cp9, u3 = .slice A9 (i * 2) cp9 ∧ (0 < i * 2 → ∃ g, A9 = some ⟨g, 0, none⟩) := by
    rcases hown.2 with ⟨rfl, h0⟩ | ⟨g, cp, cur, rfl, _⟩
    ·exact ⟨none, 0, by rw [h0], by omega⟩
    ·exact ⟨_, _, rfl, fun _ => ⟨g, rfl⟩⟩
   have HL := Lib.hid hLm
   have HLL := Lib.hid hLl
   have HS := Lib.hid hsort
   have HB := Lib.hid hb
   have HRF := Lib.hid (show qu9 h = places (qA1 (jF h)) from rfl)
   clear hown hLm hLl hsort hb hsl hz0 hz1 hz2 hii
   generalize qA1 (jF h) = L at HL HLL HS HRF
   go_wp2_with (go_at_call 63; (with_reducible refine HS.out.mono ?_); rintro e w5 ⟨rfl, hown5, hgr5⟩)
   have hb5 := HB.out.grown hgr5 HB.out.size hlow
   have qu7 := IM.made w5 Try.prog 3
   have hown6 := hown5.alloc (.map #[] 0)
   have hb6 := hb5.alloc hb5.size (.map #[] 0)
   have HBB := Lib.hid hb5.size
   clear hown5 hb5 hgr5 hmm HS HB hlow
   obtain ⟨b, hbb⟩ : ∃ b, w5.heap.size = b := ⟨_, rfl⟩
   rw [hbb] at qu7 HBB ⊢
   clear hbb
   go_loopw [28] (fun v wr => ∃ (j s : Nat) (f : Int → Option Int), j ≤ L.length ∧ v = .int .i64 ((j : Nat) : Int) ∧ s ≤ j ∧ IM Try.prog 3 wr b (jC1 f) s ∧ Below w.heap.size w wr ∧ wr.ownsRow w.heap.size 3 1 (.slice A9 (i * 2) cp9) (i * 2) (L.map (Value.int .i64)) ∧ qo3 j (L.drop j) f = places L) (fun v _ => i * 2 - (intOf v).toNat)
   case atStart => exact ⟨0, 0, fun _ => none, Nat.zero_le _, rfl, Nat.zero_le _, qu7, hb6, hown6, rfl⟩
   case round =>
    clear qu7 hb6 hown6
    obtain ⟨j, s, f, hj, rfl, hs, him, hb, hown, hpl⟩ := hrel
    rw [HLL.out] at hj
    have HIM := Lib.hid him
    clear him
    by_cases hlt : j < i * 2
    ·have hltz : (j : Int) < (i : Int) * 2 := by omega
     obtain ⟨g, rfl⟩ := hA9 (by omega)
     obtain ⟨x, hx⟩ : ∃ x, L[j]? = some x := ⟨_, List.getElem?_eq_getElem (by rw [HLL.out]; exact hlt)⟩
     have hcell : wr.cell? ⟨g, j, none⟩ = some (.int .i64 x) := by
      rw [hown.cellAt j (by omega)]
      simp [hx]
     have hxb := HL.out x (List.mem_of_getElem? hx)
     have HW := Lib.hid (ji7 (x := x) (by omega) (by omega))
     have hdr : L.drop j = x :: L.drop (j + 1) := by
      rw [List.drop_eq_getElem_cons (by rw [HLL.out]; exact hlt)]
      congr 1
      exact Option.some.inj ((List.getElem?_eq_getElem (by rw [HLL.out]; exact hlt)).symm.trans hx)
     rw [hdr] at hpl
     have HPL := Lib.hid (show qo3 (j + 1) (L.drop (j + 1)) (fun y => if y = x then some (j : Int) else f y) = places L from hpl)
     have hgne : g ≠ b := by
      rintro rfl
      have hh := HIM.out
      rcases hown.2 with ⟨h, _⟩ | ⟨g', cp, cur, he, hg, hh2, _⟩
      ·cases h
      ·cases he
       obtain ⟨D, ⟨es, clock, hb', _⟩, _⟩ := hh
       rw [hb'] at hh2
       cases hh2
     have HOWN := Lib.hid hown
     have HB := Lib.hid hb
     clear hx hdr hpl hown hb hxb
     go_wp2_with (at_mapUpdate; refine qg7 HIM.out rfl _ _ _ 34 3 rfl Try.underlying34 Try.underlying3 (by unfold maxLen; omega) rfl x (.int .i64 (j : Int)) rfl rfl HW.out ?_; intro w7 jn0 hg7)
     rw [← zs9] at jn0
     have hb7 := HB.out.grown hg7 HB.out.size (fun k hk => by cases hk; exact HBB.out)
     have jm8 := HOWN.out.kept hg7 (.inr (by simp [Value.ownBlock]; exact hgne))
     clear hg7 hcell HIM
     go_wp2_with fail
     go_roundw
     case rel => exact ⟨j + 1, _, _, by rw [HLL.out]; omega, by go_num, by split <;> omega, jn0, hb7, jm8, HPL.out⟩
     case measure => (simp [intOf]; try omega)
    ·have hji : j = i * 2 := by omega
     subst hji
     rw [List.drop_of_length_le (by rw [HLL.out]; exact Nat.le_refl _)] at hpl
     have HPL := Lib.hid hpl
     clear hpl
     go_wp2_with fail
     go_ret
     exact ⟨b, s, rfl, by rw [HRF.out, ← HPL.out]; exact HIM.out, HBB.out, hb⟩
end Go.Proofs.Ytngkneknopenmaa.zM
end
section
namespace Go.Proofs.Ytngkneknopenmaa.zM
open Go Go.RowKit Go.Proofs.Ytngkneknopenmaa.qa9 Go.Proofs.Ytngkneknopenmaa.qi7
def qa2 (l : List Int) (x : Int) : Nat := l.findIdx (· == x)
def zQ (l : List Int) (x : Int) : List Int := if x ∈ l then l else l ++ [x]
theorem qO0 {l : List Int} {x : Int} (h : x ∈ l) : qa2 l x < l.length := List.findIdx_lt_length_of_exists ⟨x, h, by simp⟩
theorem qV7 {l : List Int} {x : Int} (h : x ∉ l) : qa2 (l ++ [x]) x = l.length := by
 unfold qa2
 rw [List.findIdx_append]
 have : ¬ l.findIdx (· == x) < l.length := fun hh => by
  have := List.findIdx_getElem (w := hh)
  simp at this
  exact h (this ▸ List.getElem_mem hh)
 rw [if_neg this]
 simp
theorem jn1 {l : List Int} {x y : Int} (h : x ∈ l) : qa2 (l ++ [y]) x = qa2 l x := by
 have hh := qO0 h
 unfold qa2 at hh ⊢
 rw [List.findIdx_append, if_pos hh]
def qm4 (first : Int) (l : List Int) : Int → Option Value := fun x => if x ∈ l then some (.int .i64 (first + (qa2 l x : Int))) else none
theorem je4 (first : Int) (l : List Int) (x : Int) (h : x ∉ l) : qm4 first (l ++ [x]) = upd (qm4 first l) x (.int .i64 (first + (l.length : Int))) := by
 funext y
 unfold qm4 upd
 by_cases hy : y = x
 ·subst hy
  rw [if_pos (by simp), if_pos rfl, qV7 h]
 ·rw [if_neg hy]
  show _ = if y ∈ l then _ else none
  by_cases hl : y ∈ l
  ·rw [if_pos (by simp [hl]), if_pos hl, jn1 hl]
  ·rw [if_neg (by simp [hl, hy]), if_neg hl]
def NM (w : World) (p : Nat) (m : Option Nat) (first : Int) (l : List Int) : Prop :=
 w.heap[p]? = some (.cells #[.map m, .int .i64 first] 77 (0, 0)) ∧ (m = none → l = []) ∧ ∀ b, m = some b → IM Try.prog 3 w b (qm4 first l) l.length
def Trn (w w' : World) (S : Nat → Prop) : Prop := w'.os = w.os ∧ w'.tape = w.tape ∧ w'.output = w.output ∧ w.heap.size ≤ w'.heap.size ∧ ∀ k, k < w.heap.size → ¬ S k → w'.heap[k]? = w.heap[k]?
theorem Trn.qw0 {w w' : World} {row : Option Nat} (h : w.grownBy w' row) : Trn w w' (fun k => row = some k) :=
 ⟨h.os, h.tape, h.output, h.size, fun k hk hn => h.block k hk (fun e => hn e.symm)⟩
theorem Trn.of_below {w w' : World} {S : Nat → Prop} (h : Below w.heap.size w w') : Trn w w' S := ⟨h.os, h.tape, h.output, h.size, fun k hk _ => h.block k hk⟩
theorem Trn.trans {a b c : World} {S T : Nat → Prop} (h : Trn a b S) (k : Trn b c T) : Trn a c (fun x => S x ∨ T x) :=
 ⟨k.1.trans h.1, k.2.1.trans h.2.1, k.2.2.1.trans h.2.2.1, Nat.le_trans h.2.2.2.1 k.2.2.2.1, fun x hx hn => (k.2.2.2.2 x (by have := h.2.2.2.1; omega) (fun e => hn (.inr e))).trans (h.2.2.2.2 x hx (fun e => hn (.inl e)))⟩
theorem Trn.mono {a b : World} {S T : Nat → Prop} (h : Trn a b S) (k : ∀ x, x < a.heap.size → S x → T x) : Trn a b T :=
 ⟨h.1, h.2.1, h.2.2.1, h.2.2.2.1, fun x hx hn => h.2.2.2.2 x hx (fun e => hn (k x hx e))⟩
theorem Trn.size {a b : World} {S : Nat → Prop} (h : Trn a b S) : a.heap.size ≤ b.heap.size := h.2.2.2.1
theorem Trn.block {a b : World} {S : Nat → Prop} (h : Trn a b S) {k : Nat} (hk : k < a.heap.size) (hn : ¬ S k) : b.heap[k]? = a.heap[k]? := h.2.2.2.2 k hk hn
theorem Trn.below {w a b : World} {S : Nat → Prop} (hb : Below w.heap.size w a) (h : Trn a b S) (hS : ∀ k, S k → w.heap.size ≤ k) : Below w.heap.size w b := by
 refine ⟨h.1.trans hb.os, h.2.1.trans hb.tape, h.2.2.1.trans hb.output, Nat.le_trans hb.size h.size, fun k hk => (h.block (by have := hb.size; omega) (fun e => ?_)).trans (hb.block k hk)⟩
 have := hS k e
 omega
theorem look_nil (w : World) (x : Int) : (Instr.lookup 34 (.map none) (.int .i64 x) true).run Try.prog w = .ok (.tuple #[.int .i64 0, .bool false]) w := by
 have h1 : Instr.findNow (.int .i64) (.int .i64 x) ([] : List MapEntry) 0 = some none := rfl
 have hz : (zeroValue 3).run Try.prog w = .ok (.int .i64 0) w := by kernel_rfl
 have hk : MapKept.IsKey (.int .i64) (.int .i64 x) := by simp [MapKept.IsKey]
 simp [Instr.lookup, run_underlying Try.underlying34, MapKept.run_checkKey Try.underlying3 hk, MapKept.run_findKey Try.underlying3 h1, hz, Result.andThen]
theorem eq_nil (w : World) : (binOp BinOp.eql 34 (.map none) (.map none)).run Try.prog w = .ok (.bool true) w := by kernel_rfl
theorem zF9 (w : World) (b : Nat) : (binOp BinOp.eql 34 (.map (some b)) (.map none)).run Try.prog w = .ok (.bool false) w := by kernel_rfl
set_option maxHeartbeats 8000000 in
set_option maxRecDepth 100000 in
theorem qR6 (p : Nat) (m : Option Nat) (first : Int) (l : List Int) (x : Int) (hx : 0 ≤ x ∧ x ≤ 2147483647) (hf : 0 ≤ first ∧ first ≤ 1) (hl : l.length ≤ 5000) (hmp : m ≠ some p) (w : World) (hn : NM w p m first l) :
  Calls Try.prog 41 #[.pointer (some ⟨p, 0, none⟩), .int .i64 x] w fun e w' => e = .returned (.int .i64 (first + (qa2 (zQ l x) x : Int))) ∧
   ∃ m', NM w' p m' first (zQ l x) ∧ (m' = m ∨ ∃ b, m' = some b ∧ w.heap.size ≤ b) ∧ Trn w w' (fun k => k = p ∨ m = some k) := by
 obtain ⟨hp, hm0, hm1⟩ := hn
 have hmm := @run_makeMap Try.prog
 have c0 := Lib.cell_of_heap hp 0
 have c1 := Lib.cell_of_heap hp 1
 have f0 := Lib.frozen_of_heap hp 0
 simp only [List.getElem?_toArray, List.getElem?_cons_zero, List.getElem?_cons_succ] at c0 c1
 have HW := Lib.hid (ji7 (x := x) (by omega) (by omega))
 cases m with
 | none =>
  obtain rfl := hm0 rfl
  clear hm0 hm1
  have hpl := (Array.getElem?_eq_some_iff.1 hp).1
  have hln := look_nil w x
  have heq := eq_nil w
  go_enter Try.func41, Try.ntmps41
  go_wp2_with fail
  obtain ⟨b, hb⟩ : ∃ b, w.heap.size = b := ⟨_, rfl⟩
  have hpb : p < b := by omega
  have hsz4 : (w.setCell ⟨p, 0, none⟩ (.map (some b))).heap.size = b := by simp [hb]
  have hp4 := qd9 w p 0 _ _ _ (.map (some b)) hp
  simp only [List.setIfInBounds_toArray, List.set_cons_zero] at hp4
  have hbe := (Below.refl (w.setCell ⟨p, 0, none⟩ (.map (some b))).heap.size (w.setCell ⟨p, 0, none⟩ (.map (some b)))).alloc (Nat.le_refl _) (.map #[] 0)
  have hp5 := (hbe.block p (by rw [hsz4]; exact hpb)).trans hp4
  have qu7 : IM Try.prog 3 ((w.setCell ⟨p, 0, none⟩ (.map (some b))).alloc (.map #[] 0)) b (qm4 first []) 0 := by
   have := IM.made (w.setCell ⟨p, 0, none⟩ (.map (some b))) Try.prog 3
   rw [hsz4] at this
   exact this
  have ht5 := (Trn.qw0 (qb7 w p 0 (.map (some b)))).trans (Trn.of_below (S := fun _ => False) hbe)
  rw [hb]
  clear hmm hln heq c0 c1 f0 hbe hp4
  obtain ⟨W, hW⟩ : ∃ W, (w.setCell ⟨p, 0, none⟩ (.map (some b))).alloc (.map #[] 0) = W := ⟨_, rfl⟩
  rw [hW] at hp5 qu7 ht5 ⊢
  clear hW
  have c0 := Lib.cell_of_heap hp5 0
  have c1 := Lib.cell_of_heap hp5 1
  simp only [List.getElem?_toArray, List.getElem?_cons_zero, List.getElem?_cons_succ] at c0 c1
  have qP6 : IM Try.prog 3 W.drew b (qm4 first []) 0 := qu7.below ((Below.refl _ _).drew)
  have hln := qP6.len Try.underlying34
  obtain ⟨w6, hrun, jn0, hg7⟩ := qP6.store Try.underlying34 Try.underlying3 (by unfold maxLen; omega) HW.out (.int .i64 first)
  have hp7 := (hg7.block p (by rw [World.size_drew]; exact (Array.getElem?_eq_some_iff.1 hp5).1) (by intro e; injection e; omega)).trans hp5
  have ht7 := (ht5.trans (Trn.of_below (S := fun _ => False) (Below.refl _ W).drew)).trans (Trn.qw0 hg7)
  have zt0 : IM Try.prog 3 w6 b (qm4 first [x]) 1 := by
   have := je4 first [] x (by simp)
   rw [List.nil_append] at this
   rw [this]
   simpa [qm4] using jn0
  go_region
  clear hrun hln qu7 qP6 jn0 hg7 ht5 c0 c1
  have c0 := Lib.cell_of_heap hp7 0
  simp only [List.getElem?_toArray, List.getElem?_cons_zero] at c0
  go_wp2_with (at_lookup; refine zH zt0 rfl _ _ 34 3 false rfl Try.underlying34 Try.underlying3 (.int .i64 0) (fun _ => by kernel_rfl) rfl x rfl HW.out (.int .i64 first) (by simp [qm4, qa2]) ?_)
  go_ret
  have e1 : zQ [] x = [x] := by simp [zQ]
  have e2 : qa2 [x] x = 0 := by simp [qa2]
  refine ⟨by rw [e1, e2]; simp, some b, ⟨hp7, by simp, fun c hc => by cases hc; rw [e1]; exact zt0⟩, .inr ⟨b, rfl, by omega⟩, ht7.mono ?_⟩
  rintro k hk (((e | e) | e) | e)
  ·injection e with e; exact .inl e.symm
  ·exact e.elim
  ·exact e.elim
  ·injection e with e; omega
 | some b =>
  have him := hm1 b rfl
  have HIM := Lib.hid him
  have hbp : b ≠ p := fun e => hmp (by rw [e])
  have heq := zF9 w b
  have hpl := (Array.getElem?_eq_some_iff.1 hp).1
  clear hm0 hm1 him
  by_cases hxl : x ∈ l
  ·have HV := Lib.hid (show (if true = true then (.tuple #[(qm4 first l x).getD (.int .i64 0), .bool (qm4 first l x).isSome] : Value) else (qm4 first l x).getD (.int .i64 0)) = .tuple #[.int .i64 (first + (qa2 l x : Int)), .bool true] by simp [qm4, hxl])
   have HV2 := Lib.hid (show (if false = true then (.tuple #[(qm4 first l x).getD (.int .i64 0), .bool (qm4 first l x).isSome] : Value) else (qm4 first l x).getD (.int .i64 0)) = .int .i64 (first + (qa2 l x : Int)) by simp [qm4, hxl])
   go_enter Try.func41, Try.ntmps41
   go_wp2_with (first
    | (at_lookup; refine zH HIM.out rfl _ _ 34 3 true rfl Try.underlying34 Try.underlying3 (.int .i64 0) (fun _ => by kernel_rfl) rfl x rfl HW.out _ HV.out ?_)
    | (at_lookup; refine zH HIM.out rfl _ _ 34 3 false rfl Try.underlying34 Try.underlying3 (.int .i64 0) (fun _ => by kernel_rfl) rfl x rfl HW.out _ HV2.out ?_))
   go_ret
   have e1 : zQ l x = l := by simp [zQ, hxl]
   exact ⟨by rw [e1]; rfl, some b, ⟨hp, by simp, fun c hc => by cases hc; rw [e1]; exact HIM.out⟩, .inl rfl, Trn.of_below (Below.refl _ _)⟩
  ·have HV := Lib.hid (show (if true = true then (.tuple #[(qm4 first l x).getD (.int .i64 0), .bool (qm4 first l x).isSome] : Value) else (qm4 first l x).getD (.int .i64 0)) = .tuple #[.int .i64 0, .bool false] by simp [qm4, hxl])
   have qP6 : IM Try.prog 3 w.drew b (qm4 first l) l.length := HIM.out.below ((Below.refl _ _).drew)
   have hln := qP6.len Try.underlying34
   obtain ⟨n, hnl⟩ : ∃ n, l.length = n := ⟨_, rfl⟩
   have HNL := Lib.hid hnl
   rw [hnl] at hln hl qP6
   obtain ⟨w6, hrun, jn0, hg7⟩ := qP6.store Try.underlying34 Try.underlying3 (by unfold maxLen; omega) HW.out (.int .i64 (first + (n : Int)))
   have hp7 := (hg7.block p (by rw [World.size_drew]; exact hpl) (by intro e; injection e; omega)).trans hp
   have ht7 := (Trn.of_below (S := fun _ => False) (Below.refl _ w).drew).trans (Trn.qw0 hg7)
   have e1 : zQ l x = l ++ [x] := by simp [zQ, hxl]
   have zt0 : IM Try.prog 3 w6 b (qm4 first (l ++ [x])) (l.length + 1) := by
    rw [je4 first l x hxl, hnl]
    simpa [qm4, hxl] using jn0
   have hnv : qm4 first (l ++ [x]) x = some (.int .i64 (first + (n : Int))) := by
    rw [je4 first l x hxl, hnl]
    unfold upd
    rw [if_pos rfl]
   have HIM8 := Lib.hid zt0
   have HNV := Lib.hid hnv
   clear qP6 jn0 zt0 hnl hnv
   go_enter Try.func41, Try.ntmps41
   go_wp2_with (at_lookup; refine zH HIM.out rfl _ _ 34 3 true rfl Try.underlying34 Try.underlying3 (.int .i64 0) (fun _ => by kernel_rfl) rfl x rfl HW.out _ HV.out ?_)
   go_region
   clear hrun hln c0 c1 hg7
   have c0 := Lib.cell_of_heap hp7 0
   simp only [List.getElem?_toArray, List.getElem?_cons_zero] at c0
   go_wp2_with (at_lookup; refine zH HIM8.out rfl _ _ 34 3 false rfl Try.underlying34 Try.underlying3 (.int .i64 0) (fun _ => by kernel_rfl) rfl x rfl HW.out (.int .i64 (first + (n : Int))) (by rw [HNV.out]; rfl) ?_)
   go_ret
   refine ⟨by rw [e1, qV7 hxl, HNL.out]; rfl, some b, ⟨hp7, by simp, fun c hc => by cases hc; rw [e1, List.length_append]; exact HIM8.out⟩, .inl rfl, ht7.mono ?_⟩
   rintro k hk (e | e)
   ·exact e.elim
   ·exact .inr e
end Go.Proofs.Ytngkneknopenmaa.zM
end
section
namespace Go.Proofs.Ytngkneknopenmaa.zM
open Go Go.RowKit Go.Proofs.Ytngkneknopenmaa.qa9 Go.Proofs.Ytngkneknopenmaa.qi7
def names (l : List Int) : List Int := l.foldl zQ []
theorem qr1 (l : List Int) (x : Int) : names (l ++ [x]) = zQ (names l) x := by simp [names, List.foldl_append]
theorem je5 {l : List Int} {x y : Int} : y ∈ zQ l x ↔ y ∈ l ∨ y = x := by
 unfold zQ
 split
 ·rename_i h
  exact ⟨.inl, fun e => e.elim id (fun e => e ▸ h)⟩
 ·simp
theorem zm9 {l : List Int} : ∀ {acc : List Int} {y : Int}, y ∈ l.foldl zQ acc ↔ y ∈ acc ∨ y ∈ l := by
 induction l with
 | nil => simp
 | cons x l ih =>
  intro acc y
  rw [List.foldl_cons, ih, je5, List.mem_cons, or_assoc]
theorem qk0 {l : List Int} {y : Int} : y ∈ names l ↔ y ∈ l := by unfold names; rw [zm9]; simp
theorem zn0 {l : List Int} {x y : Int} (h : y ∈ l) : qa2 (zQ l x) y = qa2 l y := by
 unfold zQ
 split
 ·rfl
 ·exact jn1 h
theorem qO1 {r : List Int} : ∀ {l : List Int} {y : Int}, y ∈ l → qa2 (r.foldl zQ l) y = qa2 l y := by
 induction r with
 | nil => intro l y _; rfl
 | cons x r ih =>
  intro l y h
  rw [List.foldl_cons, ih (je5.2 (.inl h)), zn0 h]
theorem je6 {l r : List Int} {y : Int} (h : y ∈ l) : qa2 (names (l ++ r)) y = qa2 (names l) y := by
 have := qO1 (r := r) (l := names l) (qk0.2 h)
 unfold names at this ⊢
 rw [List.foldl_append]
 exact this
theorem jC2 (l : List Int) (x : Int) : (zQ l x).length ≤ l.length + 1 := by unfold zQ; split <;> simp
theorem jC3 {l : List Int} : ∀ acc : List Int, (l.foldl zQ acc).length ≤ acc.length + l.length := by
 induction l with
 | nil => intro acc; simp
 | cons x l ih =>
  intro acc
  have := ih (zQ acc x)
  have := jC2 acc x
  simp only [List.foldl_cons, List.length_cons]
  omega
theorem qo9 (l : List Int) : (names l).length ≤ l.length := by have := jC3 (l := l) []; simpa [names] using this
def qm5 (ops : List O3) : List Int := ops.map (·.k)
def qg6 (ops : List O3) : List Int := (ops.filter fun o => decide (o.v ≠ 0)).map (·.v)
def zR (l : List T4) : List Int := l.flatMap fun t => qm5 t.ops
def zP (l : List T4) : List Int := l.flatMap fun t => qg6 t.ops
def qd7 (l : List T4) : List Int := l.map (·.s)
def qE6 (KK VV : List Int) (o : O3) : O3 := ⟨o.w, (qa2 KK o.k : Int), if o.v = 0 then 0 else 1 + (qa2 VV o.v : Int)⟩
def jn2 (SS KK VV : List Int) (R : Int → Int) (t : T4) : T4 := ⟨(qa2 SS t.s : Int), R t.b, R t.c, t.ops.map (qE6 KK VV)⟩
def qE3 (R : Int → Int) (l : List T4) : List T4 := l.map (jn2 (names (qd7 l)) (names (zR l)) (names (zP l)) R)
theorem jx9 (xs : List O3) (rest : List Value) : ∀ (i : Nat) (o : O3) (k : Int), xs[i]? = some o → (flat xs ++ rest).set (i * 3 + 1) (.int .i64 k) = flat (xs.set i { o with k := k }) ++ rest := by
 induction xs with
 | nil => intro i o k h; simp at h
 | cons x xs ih =>
  intro i o k h
  have e : flat (x :: xs) ++ rest = .bool x.w :: .int .i64 x.k :: .int .i64 x.v :: (flat xs ++ rest) := rfl
  rw [e]
  cases i with
  | zero => simp at h; subst h; rfl
  | succ i =>
   have e1 : (i + 1) * 3 + 1 = i * 3 + 1 + 1 + 1 + 1 := by omega
   rw [e1]
   simp only [List.set_cons_succ]
   rw [ih i o k (by simpa using h)]
   rfl
theorem jy0 (xs : List O3) (rest : List Value) : ∀ (i : Nat) (o : O3) (v : Int), xs[i]? = some o → (flat xs ++ rest).set (i * 3 + 2) (.int .i64 v) = flat (xs.set i { o with v := v }) ++ rest := by
 induction xs with
 | nil => intro i o k h; simp at h
 | cons x xs ih =>
  intro i o v h
  have e : flat (x :: xs) ++ rest = .bool x.w :: .int .i64 x.k :: .int .i64 x.v :: (flat xs ++ rest) := rfl
  rw [e]
  cases i with
  | zero => simp at h; subst h; rfl
  | succ i =>
   have e1 : (i + 1) * 3 + 2 = i * 3 + 2 + 1 + 1 + 1 := by omega
   rw [e1]
   simp only [List.set_cons_succ]
   rw [ih i o v (by simpa using h)]
   rfl
structure CS (w : World) (base B : Nat) (rest : List Value) (rows : List TR) (hs : List T4) (P : Nat → Nat) (M : Nat → Option Nat) (F : Nat → Int) (L : Nat → List Int) (bR sR : Nat) (fR : Int → Option Int) : Prop where
 row : w.heap[B]? = some (.cells (qi6 rows ++ rest).toArray 55 (0, 0))
 says : qc7 w base rows hs
 nm : ∀ c, c < 3 → NM w (P c) (M c) (F c) (L c)
 rk : IM Try.prog 3 w bR (jC1 fR) sR
 loB : base ≤ B
 loP : ∀ c, c < 3 → base ≤ P c
 loM : ∀ c k, c < 3 → M c = some k → base ≤ k
 apP : ∀ c d, c < 3 → d < 3 → c ≠ d → P c ≠ P d
 apM : ∀ c d k, c < 3 → d < 3 → c ≠ d → M c = some k → M d ≠ some k
 apR : ∀ c, c < 3 → M c ≠ some bR
variable {w w' : World} {base B bR sR : Nat} {rest : List Value} {rows : List TR} {hs : List T4} {P : Nat → Nat} {M : Nat → Option Nat} {F : Nat → Int} {L : Nat → List Int} {fR : Int → Option Int}
theorem qR7 {b s : Nat} {f : Int → Option Value} (h : IM Try.prog 3 w b f s) : ∃ es clock, w.heap[b]? = some (.map es clock) := by
 obtain ⟨D, ⟨es, clock, hb, _⟩, _⟩ := h
 exact ⟨es, clock, hb⟩
theorem NM.move {p : Nat} {m : Option Nat} {first : Int} {l : List Int} {S : Nat → Prop} (h : NM w p m first l) (ht : Trn w w' S) (hp : ¬ S p) (hm : ∀ k, m = some k → ¬ S k) : NM w' p m first l :=
 ⟨(ht.block (Array.getElem?_eq_some_iff.1 h.1).1 hp).trans h.1, h.2.1, fun b e => (h.2.2 b e).move (ht.block (h.2.2 b e).lt (hm b e))⟩
theorem qc7.trn {S : Nat → Prop} (hs' : qc7 w base rows hs) (ht : Trn w w' S) (hne : ∀ r ∈ rows, ¬ S r.g) : qc7 w' base rows hs :=
 ⟨hs'.1, fun i r t hr ht' => (hs'.2.1 i r t hr ht').move (ht.block (by obtain ⟨_, _, _, _, _, _, h⟩ := hs'.2.1 i r t hr ht'; exact h.lt) (hne r (List.mem_of_getElem? hr))), hs'.2.2⟩
theorem CS.jn3 (h : CS w base B rest rows hs P M F L bR sR fR) {r : TR} (hr : r ∈ rows) : ∃ cs, w.heap[r.g]? = some (.cells cs 51 (0, 0)) := by
 obtain ⟨i, hi⟩ := List.mem_iff_getElem?.1 hr
 have hil := (List.getElem?_eq_some_iff.1 hi).1
 obtain ⟨_, _, _, _, _, _, rst, g, _⟩ := h.says.2.1 i r _ hi (List.getElem?_eq_getElem (by rw [← h.says.1]; exact hil))
 exact ⟨_, g⟩
theorem CS.move {S : Nat → Prop} (h : CS w base B rest rows hs P M F L bR sR fR) (ht : Trn w w' S) (hB : ¬ S B) (hg : ∀ r ∈ rows, ¬ S r.g) (hp : ∀ c, c < 3 → ¬ S (P c) ∧ ∀ k, M c = some k → ¬ S k) (hR : ¬ S bR) : CS w' base B rest rows hs P M F L bR sR fR where
 row := (ht.block (Array.getElem?_eq_some_iff.1 h.row).1 hB).trans h.row
 says := h.says.trn ht hg
 nm := fun c hc => (h.nm c hc).move ht (hp c hc).1 (hp c hc).2
 rk := h.rk.move (ht.block h.rk.lt hR)
 loB := h.loB
 loP := h.loP
 loM := h.loM
 apP := h.apP
 apM := h.apM
 apR := h.apR
theorem CS.below (h : CS w base B rest rows hs P M F L bR sR fR) (hb : Below w.heap.size w w') : CS w' base B rest rows hs P M F L bR sR fR :=
 h.move (Trn.of_below (S := fun _ => False) hb) id (fun _ _ => id) (fun _ _ => ⟨id, fun _ _ => id⟩) id
theorem CS.name (h : CS w base B rest rows hs P M F L bR sR fR) (hb : base ≤ w.heap.size) (c : Nat) (hc : c < 3) (x : Int) {m' : Option Nat} (hn : NM w' (P c) m' (F c) (zQ (L c) x)) (hm : m' = M c ∨ ∃ b, m' = some b ∧ w.heap.size ≤ b) (ht : Trn w w' (fun k => k = P c ∨ M c = some k)) :
  CS w' base B rest rows hs P (fun d => if d = c then m' else M d) F (fun d => if d = c then zQ (L c) x else L d) bR sR fR := by
 obtain ⟨esR, clR, hR⟩ := qR7 h.rk
 have hmap : ∀ d k, d < 3 → M d = some k → ∃ es clock, w.heap[k]? = some (.map es clock) := fun d k hd e => qR7 ((h.nm d hd).2.2 k e)
 have hmlt : ∀ d k, d < 3 → M d = some k → k < w.heap.size := fun d k hd e => ((h.nm d hd).2.2 k e).lt
 have hB : ¬ (B = P c ∨ M c = some B) := by
  rintro (e | e)
  ·have h1 := h.row
   rw [e, (h.nm c hc).1] at h1
   simp at h1
  ·obtain ⟨es, cl, h2⟩ := hmap c B hc e
   have h1 := h.row
   rw [h2] at h1
   cases h1
 have hg : ∀ r ∈ rows, ¬ (r.g = P c ∨ M c = some r.g) := by
  intro r hr
  obtain ⟨cs, h1⟩ := h.jn3 hr
  rintro (e | e)
  ·rw [e, (h.nm c hc).1] at h1
   simp at h1
  ·obtain ⟨es, cl, h2⟩ := hmap c _ hc e
   rw [h2] at h1
   cases h1
 have hR2 : ¬ (bR = P c ∨ M c = some bR) := by
  rintro (e | e)
  ·rw [e, (h.nm c hc).1] at hR
   cases hR
  ·exact h.apR c hc e
 have hpm : ∀ d k, d < 3 → M d = some k → k ≠ P c := by
  intro d k hd e e2
  obtain ⟨es, cl, h2⟩ := hmap d k hd e
  rw [e2, (h.nm c hc).1] at h2
  cases h2
 constructor
 ·exact (ht.block (Array.getElem?_eq_some_iff.1 h.row).1 hB).trans h.row
 ·exact h.says.trn ht hg
 ·intro d hd
  by_cases e : d = c
  ·subst e
   simpa using hn
  ·simp only [if_neg e]
   refine (h.nm d hd).move ht ?_ ?_
   ·rintro (e2 | e2)
    ·exact h.apP d c hd hc e e2
    ·exact hpm c _ hc e2 (by
      obtain ⟨es, cl, h2⟩ := hmap c _ hc e2
      rw [(h.nm d hd).1] at h2
      cases h2)
   ·rintro k hk (e2 | e2)
    ·exact hpm d k hd hk e2
    ·exact h.apM d c k hd hc e hk e2
 ·exact h.rk.move (ht.block h.rk.lt hR2)
 ·exact h.loB
 ·exact h.loP
 ·intro d k hd e
  by_cases e2 : d = c
  ·simp only [if_pos e2] at e
   rcases hm with hm | ⟨b, hm, hlo⟩
   ·exact h.loM c k hc (by rw [← hm]; exact e)
   ·rw [hm] at e
    cases e
    omega
  ·simp only [if_neg e2] at e
   exact h.loM d k hd e
 ·exact h.apP
 ·intro d e k hd he hne
  by_cases h1 : d = c
  ·have h2 : e ≠ c := fun h2 => hne (h1.trans h2.symm)
   simp only [if_pos h1, if_neg h2]
   intro hk hk2
   rcases hm with hm | ⟨b, hm, hlo⟩
   ·rw [hm] at hk
    exact h.apM e c k he hc h2 hk2 hk
   ·rw [hm] at hk
    cases hk
    have := hmlt e _ he hk2
    omega
  ·simp only [if_neg h1]
   by_cases h2 : e = c
   ·simp only [if_pos h2]
    intro hk hk2
    rcases hm with hm | ⟨b, hm, hlo⟩
    ·rw [hm] at hk2
     exact h.apM d c k hd hc h1 hk hk2
    ·rw [hm] at hk2
     cases hk2
     have := hmlt d _ hd hk
     omega
   ·simp only [if_neg h2]
    exact h.apM d e k hd he hne
 ·intro d hd
  by_cases e2 : d = c
  ·simp only [if_pos e2]
   rcases hm with hm | ⟨b, hm, hlo⟩
   ·rw [hm]; exact h.apR c hc
   ·rw [hm]
    intro e
    cases e
    have := h.rk.lt
    omega
  ·simp only [if_neg e2]
   exact h.apR d hd
theorem CS.sep (h : CS w base B rest rows hs P M F L bR sR fR) : (∀ r ∈ rows, r.g ≠ B) ∧ (∀ c, c < 3 → P c ≠ B ∧ ∀ k, M c = some k → k ≠ B) ∧ bR ≠ B ∧ ∀ r ∈ rows, (∀ c, c < 3 → P c ≠ r.g ∧ ∀ k, M c = some k → k ≠ r.g) ∧ bR ≠ r.g := by
 have hmap : ∀ d k, d < 3 → M d = some k → ∃ es clock, w.heap[k]? = some (.map es clock) := fun d k hd e => qR7 ((h.nm d hd).2.2 k e)
 obtain ⟨esR, clR, hR⟩ := qR7 h.rk
 have hrow := h.row
 refine ⟨fun r hr e => ?_, fun c hc => ⟨fun e => ?_, fun k hk e => ?_⟩, fun e => ?_, fun r hr => ⟨fun c hc => ⟨fun e => ?_, fun k hk e => ?_⟩, fun e => ?_⟩⟩
 ·obtain ⟨cs, h1⟩ := h.jn3 hr
  rw [e, hrow] at h1
  simp at h1
 ·have h1 := (h.nm c hc).1
  rw [e, hrow] at h1
  simp at h1
 ·obtain ⟨es, cl, h1⟩ := hmap c k hc hk
  rw [e, hrow] at h1
  cases h1
 ·rw [e, hrow] at hR
  cases hR
 ·obtain ⟨cs, h1⟩ := h.jn3 hr
  have h2 := (h.nm c hc).1
  rw [e, h1] at h2
  simp at h2
 ·obtain ⟨cs, h1⟩ := h.jn3 hr
  obtain ⟨es, cl, h2⟩ := hmap c k hc hk
  rw [e, h1] at h2
  cases h2
 ·obtain ⟨cs, h1⟩ := h.jn3 hr
  rw [e, h1] at hR
  cases hR
theorem zn1 {l : List TR} {i : Nat} {r r' : TR} (h : l[i]? = some r) (e : r'.g = r.g) : (l.set i r').map (·.g) = l.map (·.g) := by
 rw [List.map_set, e]
 refine List.ext_getElem? fun j => ?_
 rw [List.getElem?_set]
 split
 ·rename_i hj
  subst hj
  obtain ⟨hi, hl⟩ := List.getElem?_eq_some_iff.1 h
  simp [hi, hl]
 ·rfl
def jC4 (w : World) (B i : Nat) (s b c : Int) : World := ((w.setCell ⟨B, i * 4, none⟩ (.int .i64 s)).setCell ⟨B, i * 4 + 1, none⟩ (.int .i64 b)).setCell ⟨B, i * 4 + 2, none⟩ (.int .i64 c)
theorem qV8 (w : World) (B i : Nat) (s b c : Int) : w.grownBy (jC4 w B i s b c) (some B) :=
 World.grownBy.trans (World.grownBy.trans (qb7 _ _ _ _) (qb7 _ _ _ _)) (qb7 _ _ _ _)
theorem CS.zW8 (h : CS w base B rest rows hs P M F L bR sR fR) {i : Nat} {r : TR} {t : T4} (hr : rows[i]? = some r) (ht : hs[i]? = some t) (s b c : Int) :
  CS (jC4 w B i s b c) base B rest (rows.set i { r with s := s, b := b, c := c }) (hs.set i { t with s := s, b := b, c := c }) P M F L bR sR fR := by
 have hg := Trn.qw0 (qV8 w B i s b c)
 obtain ⟨a1, a2, a3, a4⟩ := h.sep
 have ho : CS (jC4 w B i s b c) base B rest rows hs P M F L bR sR fR ∨ True := .inr trivial
 constructor
 ·unfold jC4
  rw [qd9 _ _ _ _ _ _ _ (qd9 _ _ _ _ _ _ _ (qd9 _ _ _ _ _ _ _ h.row)), ← zm6 rows rest i r s b c hr]
  simp
 ·have hs1 := h.says.trn hg (fun x hx e => a1 x hx (by injection e with e; exact e.symm))
  refine ⟨by simp [hs1.1], fun j x y hx hy => ?_, by rw [zn1 (r' := { r with s := s, b := b, c := c }) hr rfl]; exact hs1.2.2⟩
  rw [List.getElem?_set] at hx hy
  by_cases hj : i = j
  ·subst hj
   rw [if_pos rfl, if_pos (List.getElem?_eq_some_iff.1 hr).1] at hx
   rw [if_pos rfl, if_pos (List.getElem?_eq_some_iff.1 ht).1] at hy
   cases hx
   cases hy
   obtain ⟨b1, b2, b3, b4, b5, b6, b7⟩ := hs1.2.1 i r t hr ht
   exact ⟨rfl, rfl, rfl, b4, b5, b6, b7⟩
  ·rw [if_neg hj] at hx hy
   exact hs1.2.1 j x y hx hy
 ·exact fun c hc => (h.nm c hc).move hg (fun e => (a2 c hc).1 (by injection e with e; exact e.symm)) (fun k hk e => (a2 c hc).2 k hk (by injection e with e; exact e.symm))
 ·exact h.rk.move (hg.block h.rk.lt (fun e => a3 (by injection e with e; exact e.symm)))
 ·exact h.loB
 ·exact h.loP
 ·exact h.loM
 ·exact h.apP
 ·exact h.apM
 ·exact h.apR
theorem CS.jM6 (h : CS w base B rest rows hs P M F L bR sR fR) {i a : Nat} {v : Value} {r : TR} {t : T4} {ops' : List O3} (hr : rows[i]? = some r) (ht : hs[i]? = some t) (hl : ops'.length = t.ops.length)
  (hf : ∀ rst, (flat t.ops ++ rst).set a v = flat ops' ++ rst) : CS (w.setCell ⟨r.g, a, none⟩ v) base B rest rows (hs.set i { t with ops := ops' }) P M F L bR sR fR := by
 have hg := Trn.qw0 (qb7 w r.g a v)
 have hrm := List.mem_of_getElem? hr
 obtain ⟨a1, a2, a3, a4⟩ := h.sep
 obtain ⟨c1, c2⟩ := a4 r hrm
 constructor
 ·exact (hg.block (Array.getElem?_eq_some_iff.1 h.row).1 (fun e => a1 r hrm (by injection e))).trans h.row
 ·refine ⟨by simp [h.says.1], fun k x y hx hy => ?_, h.says.2.2⟩
  rw [List.getElem?_set] at hy
  by_cases hk : i = k
  ·subst hk
   rw [if_pos rfl, if_pos (List.getElem?_eq_some_iff.1 ht).1] at hy
   cases hy
   rw [hr] at hx
   cases hx
   obtain ⟨b1, b2, b3, b4, b5, b6, rst, b7, b8, b9⟩ := h.says.2.1 i r t hr ht
   refine ⟨b1, b2, b3, by rw [b4]; exact hl.symm, b5, b6, rst, ?_, by rw [← hf rst, List.length_set]; exact b8, b9⟩
   have h7 : w.heap[r.g]? = some (.cells (flat t.ops ++ rst).toArray 51 (0, 0)) := b7
   unfold RW
   rw [qd9 _ _ _ _ _ _ _ h7, ← hf rst]
   simp
  ·rw [if_neg hk] at hy
   have hne : x.g ≠ r.g := by
    intro e
    have hnd := List.pairwise_iff_getElem.1 h.says.2.2
    obtain ⟨hkl, hkx⟩ := List.getElem?_eq_some_iff.1 hx
    obtain ⟨hil, hir⟩ := List.getElem?_eq_some_iff.1 hr
    rcases Nat.lt_or_gt_of_ne hk with hlt | hlt
    ·exact hnd i k (by simpa using hil) (by simpa using hkl) hlt (by simp [hkx, hir, e])
    ·exact hnd k i (by simpa using hkl) (by simpa using hil) hlt (by simp [hkx, hir, e])
   exact (h.says.2.1 k x y hx hy).move (hg.block (by obtain ⟨_, _, _, _, _, _, g⟩ := h.says.2.1 k x y hx hy; exact g.lt) (fun e => hne (by injection e with e; exact e.symm)))
 ·exact fun c hc => (h.nm c hc).move hg (fun e => (c1 c hc).1 (by injection e with e; exact e.symm)) (fun k hk e => (c1 c hc).2 k hk (by injection e with e; exact e.symm))
 ·exact h.rk.move (hg.block h.rk.lt (fun e => c2 (by injection e with e; exact e.symm)))
 ·exact h.loB
 ·exact h.loP
 ·exact h.loM
 ·exact h.apP
 ·exact h.apM
 ·exact h.apR
end Go.Proofs.Ytngkneknopenmaa.zM
end
section
namespace Go.Proofs.Ytngkneknopenmaa.zM
open Go Go.RowKit Go.Proofs.Ytngkneknopenmaa.qa9
def zI (l : List Int) (x : Int) : Nat := l.countP fun y => decide (y < x)
theorem qL6 : ∀ (l : List Int) (i : Nat) (f : Int → Option Int) (x : Int), x ∉ l → qo3 i l f x = f x
 | [], _, _, _, _ => rfl
 | y :: l, i, f, x, h => by
  simp only [List.mem_cons, not_or] at h
  unfold qo3
  rw [qL6 l (i + 1) _ x h.2, if_neg h.1]
theorem qB9 : ∀ (l : List Int) (i : Nat) (f : Int → Option Int) (x : Int), l.Pairwise (· < ·) → x ∈ l → qo3 i l f x = some ((i + zI l x : Nat) : Int)
 | [], _, _, _, _, h => by cases h
 | y :: l, i, f, x, hp, h => by
  obtain ⟨h1, h2⟩ := List.pairwise_cons.1 hp
  unfold qo3
  by_cases hx : x ∈ l
  ·rw [qB9 l (i + 1) _ x h2 hx]
   have := h1 x hx
   unfold zI
   rw [List.countP_cons, if_pos (by simpa using this)]
   congr 1
   omega
  ·have hxy : x = y := by
    rcases List.mem_cons.1 h with e | e
    ·exact e
    ·exact absurd e hx
   subst hxy
   rw [qL6 l _ _ x hx, if_pos rfl]
   have h0 : zI (x :: l) x = 0 := by
    unfold zI
    rw [List.countP_eq_zero]
    intro z hz
    simp only [decide_eq_true_eq]
    rcases List.mem_cons.1 hz with e | e
    ·omega
    ·have := h1 z e
     omega
   rw [h0]
   rfl
theorem jC5 (l : List Int) (hn : l.Nodup) : (qA1 l).Pairwise (· < ·) := by
 have hs : (qA1 l).Pairwise fun x y => decide (x ≤ y) = true := List.pairwise_mergeSort (fun a b c h1 h2 => by simp at *; omega) (fun a b => by simp; omega) l
 have hn2 : (qA1 l).Nodup := (List.mergeSort_perm l _).nodup_iff.2 hn
 have := hs.and hn2
 exact this.imp fun ⟨h1, h2⟩ => by simp at h1; omega
theorem jM7 {h : List T4} (hn : (jF h).Nodup) {x : Int} (hx : x ∈ jF h) : qu9 h x = some (zI (jF h) x : Int) := by
 unfold qu9 places
 rw [qB9 _ 0 _ x (jC5 _ hn) ((List.mergeSort_perm _ _).mem_iff.2 hx), Nat.zero_add]
 have := (List.mergeSort_perm (jF h) fun x y => decide (x ≤ y)).countP_eq (fun y => decide (y < x))
 unfold zI qA1
 rw [this]
theorem jn4 : ∀ {h : List T4}, (∀ t ∈ h, qd2 t = true) → h.Pairwise qs2 → (jF h).Nodup
 | [], _, _ => by simp [jF]
 | t :: h, hr, hp => by
  obtain ⟨h1, h2⟩ := List.pairwise_cons.1 hp
  have e : jF (t :: h) = [t.b, t.c] ++ jF h := rfl
  have ih := jn4 (fun u hu => hr u (by simp [hu])) h2
  have hlt := jm4 (hr t (by simp))
  rw [e, List.nodup_append]
  refine ⟨by simp; omega, ih, fun a ha b hb => ?_⟩
  unfold jF at hb
  rw [List.mem_flatMap] at hb
  obtain ⟨u, hu, hb⟩ := hb
  have hpu := h1 u hu
  simp at ha hb
  rcases ha with rfl | rfl <;> rcases hb with rfl | rfl
  ·exact hpu.1
  ·exact hpu.2.1
  ·exact hpu.2.2.1
  ·exact hpu.2.2.2.1
theorem qo4 {h : List T4} {t : T4} (ht : t ∈ h) : t.b ∈ jF h ∧ t.c ∈ jF h := by
 unfold jF
 rw [List.mem_flatMap, List.mem_flatMap]
 exact ⟨⟨t, ht, by simp⟩, ⟨t, ht, by simp⟩⟩
theorem qv5 {l l' : List T4} (hp : l.Perm l') (h1 : l.Pairwise fun x y => x.b ≤ y.b) (h2 : l'.Pairwise fun x y => x.b ≤ y.b) (hd : ∀ x ∈ l, ∀ y ∈ l, x.b = y.b → x = y) : l = l' :=
 List.Perm.eq_of_pairwise (fun a b ha hb h1 h2 => hd a ha b (hp.mem_iff.2 hb) (by omega)) h1 h2 hp
def jX4 (t : T4) : List T4 → List T4
 | [] => [t]
 | u :: r => if t.b ≤ u.b then t :: u :: r else u :: jX4 t r
def qe2 : List T4 → List T4
 | [] => []
 | t :: r => jX4 t (qe2 r)
theorem je7 (t : T4) : ∀ l, (jX4 t l).Perm (t :: l)
 | [] => List.Perm.refl _
 | u :: r => by
  unfold jX4
  split
  ·exact List.Perm.refl _
  ·exact ((je7 t r).cons u).trans (List.Perm.swap t u r)
theorem qb2 : ∀ l, (qe2 l).Perm l
 | [] => List.Perm.refl _
 | t :: r => (je7 t (qe2 r)).trans ((qb2 r).cons t)
theorem jh3 (t : T4) : ∀ l : List T4, l.Pairwise (fun x y => x.b ≤ y.b) → (jX4 t l).Pairwise (fun x y => x.b ≤ y.b)
 | [], _ => by simp [jX4]
 | u :: r, h => by
  obtain ⟨h1, h2⟩ := List.pairwise_cons.1 h
  unfold jX4
  split
  ·rename_i hle
   rw [List.pairwise_cons]
   refine ⟨fun x hx => ?_, h⟩
   rcases List.mem_cons.1 hx with rfl | hx
   ·exact hle
   ·exact Int.le_trans hle (h1 x hx)
  ·rename_i hle
   rw [List.pairwise_cons]
   refine ⟨fun x hx => ?_, jh3 t r h2⟩
   rcases List.mem_cons.1 ((je7 t r).mem_iff.1 hx) with rfl | hx
   ·omega
   ·exact h1 x hx
theorem qk8 : ∀ l : List T4, (qe2 l).Pairwise (fun x y => x.b ≤ y.b)
 | [] => by simp [qe2]
 | t :: r => jh3 t _ (qk8 r)
theorem qR8 {h : List T4} (hm : qz9 h) : ∀ x ∈ h, ∀ y ∈ h, x.b = y.b → x = y := by
 intro x hx y hy e
 obtain ⟨i, hi⟩ := List.mem_iff_getElem?.1 hx
 obtain ⟨j, hj⟩ := List.mem_iff_getElem?.1 hy
 obtain ⟨hil, rfl⟩ := List.getElem?_eq_some_iff.1 hi
 obtain ⟨hjl, rfl⟩ := List.getElem?_eq_some_iff.1 hj
 have hp := List.pairwise_iff_getElem.1 hm.2.1
 rcases Nat.lt_trichotomy i j with hlt | heq | hgt
 ·exact absurd e (hp i j hil hjl hlt).1
 ·subst heq; rfl
 ·exact absurd e.symm (hp j i hjl hil hgt).1
def qG0 (h : List T4) : Int → Int := fun x => (zI (jF h) x : Int)
def zU (h : List T4) : List T4 := qE3 (qG0 h) (qe2 h)
def qs5 (h : List T4) : Int → Int := fun x => (qu9 h x).getD 0
theorem jM8 {h : List T4} (hm : qz9 h) {x : Int} (hx : x ∈ jF h) : qs5 h x = qG0 h x := by
 unfold qs5 qG0
 rw [jM7 (jn4 hm.1 hm.2.1) hx]
 rfl
theorem jC6 {h l : List T4} (hm : qz9 h) (hp : l.Perm h) (hs : l.Pairwise fun x y => x.b ≤ y.b) : qE3 (qs5 h) l = zU h := by
 have hl : l = qe2 h := qv5 (hp.trans (qb2 h).symm) hs (qk8 h) (fun x hx y hy e => qR8 hm x (hp.mem_iff.1 hx) y (hp.mem_iff.1 hy) e)
 subst hl
 unfold zU qE3
 refine List.map_congr_left fun t ht => ?_
 have ht2 := (qb2 h).mem_iff.1 ht
 obtain ⟨m1, m2⟩ := qo4 ht2
 unfold jn2
 rw [jM8 hm m1, jM8 hm m2]
end Go.Proofs.Ytngkneknopenmaa.zM
end
section
namespace Go.Proofs.Ytngkneknopenmaa.zM
set_option linter.unusedSimpArgs false
open Go Go.RowKit Go.Proofs.Ytngkneknopenmaa.qa9 Go.Proofs.Ytngkneknopenmaa.qi7
theorem zn2 {α β : Type} {f : α → β} {m' m : List β} (h : m'.Perm m) : ∀ l : List α, l.map f = m → ∃ l' : List α, l'.Perm l ∧ m' = l'.map f := by
 induction h with
 | nil => intro l hl; exact ⟨[], by rw [List.map_eq_nil_iff.1 hl], rfl⟩
 | cons x p ih =>
  intro l hl
  cases l with
  | nil => cases hl
  | cons y l =>
   simp only [List.map_cons, List.cons.injEq] at hl
   obtain ⟨l', hp, e⟩ := ih l hl.2
   exact ⟨y :: l', hp.cons y, by rw [e, List.map_cons, hl.1]⟩
 | swap x y a =>
  intro l hl
  match l, hl with
  | u :: v :: l, hl =>
   simp only [List.map_cons, List.cons.injEq] at hl
   exact ⟨v :: u :: l, List.Perm.swap u v l, by simp [hl]⟩
 | trans p1 p2 ih1 ih2 =>
  intro l hl
  obtain ⟨l2, hp2, e2⟩ := ih2 l hl
  obtain ⟨l1, hp1, e1⟩ := ih1 l2 e2.symm
  exact ⟨l1, hp1.trans hp2, e1⟩
theorem qc7.perm {w : World} {base : Nat} {rows rows' : List TR} {h : List T4} (hs : qc7 w base rows h) (hp : rows'.Perm rows) : ∃ h' : List T4, h'.Perm h ∧ qc7 w base rows' h' := by
 have hz : (rows.zip h).map Prod.fst = rows := by rw [List.map_fst_zip]; rw [hs.1]; exact Nat.le_refl _
 have hz2 : (rows.zip h).map Prod.snd = h := by rw [List.map_snd_zip]; rw [hs.1]; exact Nat.le_refl _
 obtain ⟨z, hzp, e⟩ := zn2 hp (rows.zip h) hz
 refine ⟨z.map Prod.snd, by have := hzp.map Prod.snd; rw [hz2] at this; exact this, by rw [e]; simp, fun i r t hr ht => ?_, ?_⟩
 ·rw [e, List.getElem?_map] at hr
  rw [List.getElem?_map] at ht
  obtain ⟨x, hx, rfl⟩ := Option.map_eq_some_iff.1 hr
  rw [hx] at ht
  cases ht
  have hm : x ∈ rows.zip h := hzp.mem_iff.1 (List.mem_of_getElem? hx)
  obtain ⟨j, hj⟩ := List.mem_iff_getElem?.1 hm
  rw [List.getElem?_zip_eq_some] at hj
  exact hs.2.1 j x.1 x.2 hj.1 hj.2
 ·have := hp.map (·.g)
  rw [this.nodup_iff]
  exact hs.2.2
theorem jX5 {h : List T4} (hc : zT h = 0) : h.length ≤ 64 ∧ jL h ≤ 1024 ∧ qz9 h := by
 by_cases hb : h.length > 64 ∨ jL h > 1024
 ·unfold zT at hc
  rw [if_pos hb] at hc
  cases hc
 ·exact ⟨by omega, by omega, (qA0 h (by omega) (by omega)).1 hc⟩
def Lst (l : List T4) (i : Nat) : Nat → List Int := fun c => if c = 0 then names (qd7 (l.take i)) else if c = 1 then names (zR (l.take i)) else if c = 2 then names (zP (l.take i)) else []
def qd3 (h l : List T4) : T4 → T4 := jn2 (names (qd7 l)) (names (zR l)) (names (zP l)) (qs5 h)
def Fst : Nat → Int := fun c => if c = 2 then 1 else 0
def Pst (p0 p1 p2 : Nat) : Nat → Nat := fun c => if c = 0 then p0 else if c = 1 then p1 else p2
theorem zt1 (l : List T4) : Lst l 0 = fun _ => [] := by
 funext c
 unfold Lst
 simp [qd7, zR, zP, names]
theorem zt2 (w : World) (o0 o1 o2 : Obj) : (((w.alloc o0).alloc o1).alloc o2).heap[w.heap.size]? = some o0 ∧ (((w.alloc o0).alloc o1).alloc o2).heap[w.heap.size + 1]? = some o1 ∧ (((w.alloc o0).alloc o1).alloc o2).heap[w.heap.size + 1 + 1]? = some o2 := by
 have e : (((w.alloc o0).alloc o1).alloc o2).heap = ((w.heap.push o0).push o1).push o2 := rfl
 rw [e]
 refine ⟨?_, ?_, ?_⟩
 ·rw [Array.getElem?_push, if_neg (by simp; omega), Array.getElem?_push, if_neg (by simp), Array.getElem?_push, if_pos rfl]
 ·rw [Array.getElem?_push, if_neg (by simp), Array.getElem?_push, if_pos (by simp)]
 ·rw [Array.getElem?_push, if_pos (by simp)]
theorem zg6 {α : Type} {l : List α} {C : α → α} {i : Nat} {t : α} (h : l[i]? = some t) : ((l.take i).map C ++ l.drop i)[i]? = some t := by
 have hi := (List.getElem?_eq_some_iff.1 h).1
 rw [List.getElem?_append_right (by simp; omega)]
 simp [h, Nat.min_eq_left (Nat.le_of_lt hi)]
theorem zg7 {α : Type} {l : List α} {C : α → α} {i : Nat} {t : α} (h : l[i]? = some t) : ((l.take i).map C ++ l.drop i).set i (C t) = (l.take (i + 1)).map C ++ l.drop (i + 1) := by
 have hi := (List.getElem?_eq_some_iff.1 h).1
 have e : i - ((l.take i).map C).length = 0 := by simp [Nat.min_eq_left (Nat.le_of_lt hi)]
 have e2 : (l.drop i).set 0 (C t) = C t :: l.drop (i + 1) := by rw [List.drop_eq_getElem_cons hi]; rfl
 rw [List.set_append_right _ _ (by simp; omega), List.take_add_one, h, e, e2]
 simp
def qb0 (l : List T4) (i : Nat) (t : T4) (j : Nat) : Nat → List Int := fun c => if c = 0 then names (qd7 (l.take (i + 1))) else if c = 1 then names (zR (l.take i) ++ qm5 (t.ops.take j)) else if c = 2 then names (zP (l.take i) ++ qg6 (t.ops.take j)) else []
theorem qh5 {α : Type} {l : List α} {i : Nat} {t : α} (h : l[i]? = some t) : l.take (i + 1) = l.take i ++ [t] := by rw [List.take_add_one, h]; rfl
theorem zR9 {l : List T4} {i : Nat} {t : T4} (h : l[i]? = some t) : (fun d => if d = 0 then zQ (Lst l i 0) t.s else Lst l i d) = qb0 l i t 0 := by
 funext c
 unfold qb0 Lst
 by_cases h0 : c = 0
 ·simp only [h0, if_true]
  rw [qh5 h]
  have : qd7 (l.take i ++ [t]) = qd7 (l.take i) ++ [t.s] := by simp [qd7]
  rw [this, qr1]
 ·simp [h0, qm5, qg6]
theorem zg8 {l : List T4} {i : Nat} {t : T4} (h : l[i]? = some t) : qb0 l i t t.ops.length = Lst l (i + 1) := by
 funext c
 unfold qb0 Lst
 have e1 : zR (l.take (i + 1)) = zR (l.take i) ++ qm5 t.ops := by rw [qh5 h]; simp [zR]
 have e2 : zP (l.take (i + 1)) = zP (l.take i) ++ qg6 t.ops := by rw [qh5 h]; simp [zP]
 rw [e1, e2, List.take_length]
theorem qG1 {ops : List O3} {j : Nat} {o : O3} (h : ops[j]? = some o) : qm5 (ops.take (j + 1)) = qm5 (ops.take j) ++ [o.k] := by rw [qh5 h]; simp [qm5]
theorem qR9 {ops : List O3} {j : Nat} {o : O3} (h : ops[j]? = some o) (hv : o.v ≠ 0) : qg6 (ops.take (j + 1)) = qg6 (ops.take j) ++ [o.v] := by rw [qh5 h]; simp [qg6, List.filter_append, hv]
theorem jX6 {ops : List O3} {j : Nat} {o : O3} (h : ops[j]? = some o) (hv : o.v = 0) : qg6 (ops.take (j + 1)) = qg6 (ops.take j) := by rw [qh5 h]; simp [qg6, List.filter_append, hv]
theorem zt3 {l : List T4} {i j : Nat} {t : T4} {o : O3} (h : t.ops[j]? = some o) (hv : o.v = 0) : (fun d => if d = 1 then zQ (qb0 l i t j 1) o.k else qb0 l i t j d) = qb0 l i t (j + 1) := by
 funext c
 unfold qb0
 rw [qG1 h, jX6 h hv, ← List.append_assoc, qr1]
 by_cases h1 : c = 1
 ·simp [h1]
 ·simp [h1]
theorem zt4 {l : List T4} {i j : Nat} {t : T4} {o : O3} (h : t.ops[j]? = some o) (hv : o.v ≠ 0) : (fun d => if d = 2 then zQ (qb0 l i t j 2) o.v else (if d = 1 then zQ (qb0 l i t j 1) o.k else qb0 l i t j d)) = qb0 l i t (j + 1) := by
 funext c
 unfold qb0
 rw [qG1 h, qR9 h hv, ← List.append_assoc, qr1, ← List.append_assoc, qr1]
 by_cases h1 : c = 1
 ·subst h1
  simp
 ·by_cases h2 : c = 2
  ·subst h2
   simp
  ·by_cases h0 : c = 0
   ·subst h0
    simp
   ·simp [h0, h1, h2]
theorem zt5 {l : List T4} {i : Nat} {t : T4} (h : l[i]? = some t) : qa2 (zQ (Lst l i 0) t.s) t.s = qa2 (names (qd7 l)) t.s := by
 have e : qd7 l = qd7 (l.take i ++ [t]) ++ qd7 (l.drop (i + 1)) := by rw [← qh5 h]; unfold qd7; rw [← List.map_append, List.take_append_drop]
 have e2 : qd7 (l.take i ++ [t]) = qd7 (l.take i) ++ [t.s] := by simp [qd7]
 rw [e, je6 (by rw [e2]; simp), e2, qr1]
 rfl
theorem zt6 {l : List T4} {i j : Nat} {t : T4} {o : O3} (h : l[i]? = some t) (ho : t.ops[j]? = some o) : qa2 (zQ (qb0 l i t j 1) o.k) o.k = qa2 (names (zR l)) o.k := by
 have e : zR l = (zR (l.take i) ++ qm5 (t.ops.take (j + 1))) ++ (qm5 (t.ops.drop (j + 1)) ++ zR (l.drop (i + 1))) := by
  have e1 : zR l = zR (l.take (i + 1)) ++ zR (l.drop (i + 1)) := by unfold zR; rw [← List.flatMap_append, List.take_append_drop]
  have e2 : zR (l.take (i + 1)) = zR (l.take i) ++ qm5 t.ops := by rw [qh5 h]; simp [zR]
  have e3 : qm5 t.ops = qm5 (t.ops.take (j + 1)) ++ qm5 (t.ops.drop (j + 1)) := by unfold qm5; rw [← List.map_append, List.take_append_drop]
  rw [e1, e2, e3]
  simp
 rw [e, je6 (by rw [qG1 ho]; simp), qG1 ho, ← List.append_assoc, qr1]
 rfl
theorem zS0 {l : List T4} {i j : Nat} {t : T4} {o : O3} (h : l[i]? = some t) (ho : t.ops[j]? = some o) (hv : o.v ≠ 0) : qa2 (zQ (qb0 l i t j 2) o.v) o.v = qa2 (names (zP l)) o.v := by
 have e : zP l = (zP (l.take i) ++ qg6 (t.ops.take (j + 1))) ++ (qg6 (t.ops.drop (j + 1)) ++ zP (l.drop (i + 1))) := by
  have e1 : zP l = zP (l.take (i + 1)) ++ zP (l.drop (i + 1)) := by unfold zP; rw [← List.flatMap_append, List.take_append_drop]
  have e2 : zP (l.take (i + 1)) = zP (l.take i) ++ qg6 t.ops := by rw [qh5 h]; simp [zP]
  have e3 : qg6 t.ops = qg6 (t.ops.take (j + 1)) ++ qg6 (t.ops.drop (j + 1)) := by unfold qg6; rw [← List.map_append, ← List.filter_append, List.take_append_drop]
  rw [e1, e2, e3]
  simp
 rw [e, je6 (by rw [qR9 ho hv]; simp), qR9 ho hv, ← List.append_assoc, qr1]
 rfl
theorem CS.txn {w : World} {base B bR sR : Nat} {rest : List Value} {rows : List TR} {hs : List T4} {P : Nat → Nat} {M : Nat → Option Nat} {F : Nat → Int} {L : Nat → List Int} {fR : Int → Option Int} (h : CS w base B rest rows hs P M F L bR sR fR) {i : Nat} {r : TR} {t : T4} (hr : rows[i]? = some r) (ht : hs[i]? = some t) :
  w.cell? ⟨B, i * 4, none⟩ = some (.int .i64 t.s) ∧ w.cell? ⟨B, i * 4 + 1, none⟩ = some (.int .i64 t.b) ∧ w.cell? ⟨B, i * 4 + 2, none⟩ = some (.int .i64 t.c) ∧ w.cell? ⟨B, i * 4 + 3, none⟩ = some (.slice (some ⟨r.g, 0, none⟩) t.ops.length r.cp) ∧
   w.frozen? ⟨B, i * 4, none⟩ = false ∧ w.frozen? ⟨B, i * 4 + 1, none⟩ = false ∧ w.frozen? ⟨B, i * 4 + 2, none⟩ = false := by
 obtain ⟨a1, a2, a3, a4, a5, a6, a7⟩ := h.says.2.1 i r t hr ht
 obtain ⟨y0, y1, y2, y3⟩ := je3 rows rest i r hr
 rw [a1] at y0
 rw [a2] at y1
 rw [a3] at y2
 rw [a4] at y3
 refine ⟨?_, ?_, ?_, ?_, Lib.frozen_of_heap h.row _, Lib.frozen_of_heap h.row _, Lib.frozen_of_heap h.row _⟩
 ·rw [Lib.cell_of_heap h.row, List.getElem?_toArray, y0]
 ·rw [Lib.cell_of_heap h.row, List.getElem?_toArray, y1]
 ·rw [Lib.cell_of_heap h.row, List.getElem?_toArray, y2]
 ·rw [Lib.cell_of_heap h.row, List.getElem?_toArray, y3]
theorem CS.op {w : World} {base B bR sR : Nat} {rest : List Value} {rows : List TR} {hs : List T4} {P : Nat → Nat} {M : Nat → Option Nat} {F : Nat → Int} {L : Nat → List Int} {fR : Int → Option Int} (h : CS w base B rest rows hs P M F L bR sR fR) {i j : Nat} {r : TR} {t : T4} {o : O3} (hr : rows[i]? = some r) (ht : hs[i]? = some t) (ho : t.ops[j]? = some o) :
  w.cell? ⟨r.g, j * 3 + 1, none⟩ = some (.int .i64 o.k) ∧ w.cell? ⟨r.g, j * 3 + 2, none⟩ = some (.int .i64 o.v) ∧ w.frozen? ⟨r.g, j * 3 + 1, none⟩ = false ∧ w.frozen? ⟨r.g, j * 3 + 2, none⟩ = false := by
 obtain ⟨_, _, _, _, _, _, rst, g, _⟩ := h.says.2.1 i r t hr ht
 obtain ⟨y0, y1, y2⟩ := g.cells j o ho
 exact ⟨y1, y2, g.free _, g.free _⟩
theorem zt7 (h : List T4) (x : Int) : (jC1 (qu9 h) x).getD (.int .i64 0) = .int .i64 (qs5 h x) := by
 unfold jC1 qs5
 cases qu9 h x <;> rfl
def RelO (h l : List T4) (w : World) (B p0 p1 p2 bR n : Nat) (rest : List Value) (v : Value) (wr : World) : Prop :=
 ∃ (i sR : Nat) (rows : List TR) (M : Nat → Option Nat), i ≤ n ∧ v = .int .i64 ((i : Nat) : Int) ∧ CS wr w.heap.size B rest rows ((l.take i).map (qd3 h l) ++ l.drop i) (Pst p0 p1 p2) M Fst (Lst l i) bR sR (qu9 h) ∧ Below w.heap.size w wr
theorem jM9 {l : List T4} {i : Nat} {t : T4} (h : l[i]? = some t) (j : Nat) : zR l = (zR (l.take i) ++ qm5 (t.ops.take j)) ++ (qm5 (t.ops.drop j) ++ zR (l.drop (i + 1))) := by
 have e1 : zR l = zR (l.take (i + 1)) ++ zR (l.drop (i + 1)) := by unfold zR; rw [← List.flatMap_append, List.take_append_drop]
 have e2 : zR (l.take (i + 1)) = zR (l.take i) ++ qm5 t.ops := by rw [qh5 h]; simp [zR]
 have e3 : qm5 t.ops = qm5 (t.ops.take j) ++ qm5 (t.ops.drop j) := by unfold qm5; rw [← List.map_append, List.take_append_drop]
 rw [e1, e2, e3]
 simp
theorem jN0 {l : List T4} {i : Nat} {t : T4} (h : l[i]? = some t) (j : Nat) : zP l = (zP (l.take i) ++ qg6 (t.ops.take j)) ++ (qg6 (t.ops.drop j) ++ zP (l.drop (i + 1))) := by
 have e1 : zP l = zP (l.take (i + 1)) ++ zP (l.drop (i + 1)) := by unfold zP; rw [← List.flatMap_append, List.take_append_drop]
 have e2 : zP (l.take (i + 1)) = zP (l.take i) ++ qg6 t.ops := by rw [qh5 h]; simp [zP]
 have e3 : qg6 t.ops = qg6 (t.ops.take j) ++ qg6 (t.ops.drop j) := by unfold qg6; rw [← List.map_append, ← List.filter_append, List.take_append_drop]
 rw [e1, e2, e3]
 simp
theorem qV9 : ∀ l : List T4, (zR l).length = jL l
 | [] => rfl
 | t :: l => by
  have : zR (t :: l) = qm5 t.ops ++ zR l := rfl
  rw [this, List.length_append, qV9 l, qr6]
  simp [qm5]
theorem qW0 : ∀ l : List T4, (zP l).length ≤ jL l
 | [] => Nat.le_refl _
 | t :: l => by
  have : zP (t :: l) = qg6 t.ops ++ zP l := rfl
  have h1 := qW0 l
  have h2 : (qg6 t.ops).length ≤ t.ops.length := by unfold qg6; rw [List.length_map]; exact List.length_filter_le _ _
  rw [this, List.length_append, qr6]
  omega
theorem jN1 {l h : List T4} (hp : l.Perm h) : jL l = jL h := by unfold jL; exact (hp.map _).sum_nat
theorem qW1 {l : List T4} {i : Nat} {t : T4} (h : l[i]? = some t) (j : Nat) : (qb0 l i t j 1).length ≤ jL l := by
 have h1 := qo9 (zR (l.take i) ++ qm5 (t.ops.take j))
 have h2 := qV9 l
 rw [jM9 h j, List.length_append] at h2
 show (names _).length ≤ _
 omega
theorem qG2 {l : List T4} {i : Nat} {t : T4} (h : l[i]? = some t) (j : Nat) : (qb0 l i t j 2).length ≤ jL l := by
 have h1 := qo9 (zP (l.take i) ++ qg6 (t.ops.take j))
 have h2 := qW0 l
 rw [jN0 h j, List.length_append] at h2
 show (names _).length ≤ _
 omega
def qG3 (h l : List T4) (t : T4) (j : Nat) : T4 := { qd3 h l t with ops := (t.ops.take j).map (qE6 (names (zR l)) (names (zP l))) ++ t.ops.drop j }
theorem jy1 {h l : List T4} {t : T4} {j : Nat} {o : O3} (ho : t.ops[j]? = some o) : { qG3 h l t j with ops := (qG3 h l t j).ops.set j (qE6 (names (zR l)) (names (zP l)) o) } = qG3 h l t (j + 1) := by
 have := zg7 (C := qE6 (names (zR l)) (names (zP l))) ho
 unfold qG3
 dsimp only
 rw [this]
theorem zn3 (h l : List T4) (t : T4) : qG3 h l t 0 = { t with s := (qd3 h l t).s, b := (qd3 h l t).b, c := (qd3 h l t).c } := by simp [qG3, qd3, jn2]
theorem zt8 (h l : List T4) (t : T4) : qG3 h l t t.ops.length = qd3 h l t := by simp [qG3, qd3, jn2]
set_option maxHeartbeats 8000000 in
set_option maxRecDepth 100000 in
theorem zt9 (A : Option Addr) (cap : Nat) (h : List T4) (hcap : h.length ≤ cap) (hm : h.length ≤ 4611686018427387904) (hcnt : jL h ≤ 4611686018427387904) (w : World) (hr : RdT w A h) :
  Calls Try.prog 13 #[.slice A h.length cap] w fun e w' => Below w.heap.size w w' ∧ ((zT h ≠ 0 ∧ e = .returned (.slice none 0 0)) ∨ zT h = 0 ∧ ∃ v rows l, l.Perm h ∧ l.Pairwise (fun x y => x.b ≤ y.b) ∧ e = .returned v ∧ H2 w' w.heap.size v rows (qE3 (qs5 h) l)) := by
 have CC := jL2 A cap h hcap hm hcnt w hr
 obtain ⟨n, hn⟩ : ∃ n, h.length = n := ⟨_, rfl⟩
 have HN := Lib.hid hn
 rw [hn] at hm hcap CC ⊢
 have HCC := Lib.hid CC
 clear hn CC
 by_cases hck : zT h = 0
 ·obtain ⟨zW9, hcn, zX0⟩ := jX5 hck
  have hright := zX0.1
  have CPC := fun (w' : World) (k : Below w.heap.size w w') => jW9 A cap h zW9 (fun t ht => by
   have := hright t ht
   unfold qd2 at this
   simp only [Bool.and_eq_true, decide_eq_true_eq] at this
   omega) w' (hr.below k)
  have RKC := fun (w' : World) (k : Below w.heap.size w w') => jM5 A cap h zW9 (fun t ht => qF8 (hright t ht)) w' (hr.below k)
  rw [HN.out] at zW9 CPC RKC
  have HCPC := Lib.hid CPC
  have HRKC := Lib.hid RKC
  have zX1 := Lib.hid zX0
  have HCN := Lib.hid hcn
  have HCK := Lib.hid hck
  rw [hck] at HCC
  clear CPC RKC zX0 hright hcn hck hr
  go_enter Try.func13, Try.ntmps13
  go_wp2_with (first
   | (go_at_call 32; (with_reducible refine HCC.out.mono ?_); rintro e w1 ⟨rfl, k1⟩)
   | (go_at_call 36; (with_reducible refine (HCPC.out _ k1).mono ?_); rintro e w2 ⟨v2, zC, rfl, h2, hnn2, k2⟩))
  have hb2 : Below w.heap.size w w2 := k1.trans (k2.mono k1.size)
  obtain ⟨hown2, zg9⟩ := h2
  have hrl : zC.length = n := by rw [zg9.1, HN.out]
  rcases hown2.2 with ⟨e, _⟩ | ⟨B, cp, cur2, rfl, hB2, hh2, hcp, _, _, _⟩
  ·exact absurd e hnn2
  have SC := jv5 B cp w1.heap.size zC (by omega) w2 hown2
  rw [hrl] at SC ⊢
  with_reducible refine SC.mono ?_
  rintro e w3 ⟨rfl, qy2, hp3, zX2, hown3, zX3⟩
  have hB : w.heap.size ≤ B := by have := k1.size; omega
  obtain ⟨l, hlp, jy2⟩ := (zg9.grown zX3 (fun r hr e => by
   have := zg9.zs3 hown2 r hr
   exact this e)).perm hp3
  have hb3 : Below w.heap.size w w3 := hb2.grown zX3 hb2.size (fun j hj => by cases hj; exact hB)
  have hll : l.length = n := by rw [hlp.length_eq, HN.out]
  have hr3 : qy2.length = n := by rw [hp3.length_eq, hrl]
  have hpl : l.Pairwise (fun x y => x.b ≤ y.b) := by
   rw [List.pairwise_iff_getElem] at zX2 ⊢
   intro i j hi hj hij
   have h1 := zX2 i j (by omega) (by omega) hij
   obtain ⟨_, e1, _⟩ := jy2.2.1 i qy2[i] l[i] (List.getElem?_eq_getElem _) (List.getElem?_eq_getElem _)
   obtain ⟨_, e2, _⟩ := jy2.2.1 j qy2[j] l[j] (List.getElem?_eq_getElem _) (List.getElem?_eq_getElem _)
   rw [← e1, ← e2]
   exact h1
  obtain ⟨rest, hrow3, hrest, hcpm, hncp⟩ : ∃ rest, w3.heap[B]? = some (.cells (qi6 qy2 ++ rest).toArray 55 (0, 0)) ∧ n * 4 + rest.length = cp * 4 ∧ cp ≤ maxLen ∧ n ≤ cp := by
   rcases hown3.2 with ⟨e, _⟩ | ⟨g, c, cur, he, _, hh, h1, h2, h3, h4⟩
   ·cases e
   ·cases he
    refine ⟨cur.toList.drop (n * 4), ?_, by rw [List.length_drop, Array.length_toList, h3]; omega, h2, h1⟩
    rw [hh, ← hr3, ← (show cur.toList.take (qy2.length * 4) = qi6 qy2 by rw [hr3]; exact h4), List.take_append_drop]
  have jM0 := Lib.hid (show qc7 w3 w.heap.size qy2 l from ⟨jy2.1, fun i r t hr ht => by
   obtain ⟨a1, a2, a3, a4, a5, a6, a7⟩ := jy2.2.1 i r t hr ht
   exact ⟨a1, a2, a3, a4, a5, by have := k1.size; omega, a7⟩, jy2.2.2⟩)
  have jC7 := Lib.hid hrow3
  have HB3 := Lib.hid hb3
  have HPL := Lib.hid hpl
  have HLP := Lib.hid hlp
  have HLL := Lib.hid hll
  have zG0 := Lib.hid hown3
  clear hb2 hown2 zg9 hh2 hcp SC hp3 zX2 hown3 zX3 jy2 hb3 hpl hlp hll hrow3 k1 k2 hnn2 hB2 HCC HCPC
  go_wp2_with (go_at_call 40; (with_reducible refine (HRKC.out _ HB3.out).mono ?_); rintro e w4 ⟨bR, sR, rfl, himR, hloR, k4⟩)
  have hCS : CS (((w4.alloc (.cells #[.map none, .int .i64 0] 77)).alloc (.cells #[.map none, .int .i64 0] 77)).alloc (.cells #[.map none, .int .i64 1] 77)) w.heap.size B rest qy2 ((l.take 0).map (qd3 h l) ++ l.drop 0) (Pst w4.heap.size (w4.heap.size + 1) (w4.heap.size + 1 + 1)) (fun _ => none) Fst (Lst l 0) bR sR (qu9 h) := by
   obtain ⟨a0, a1, a2⟩ := zt2 w4 (.cells #[.map none, .int .i64 0] 77) (.cells #[.map none, .int .i64 0] 77) (.cells #[.map none, .int .i64 1] 77)
   have hb5 : Below w4.heap.size w4 (((w4.alloc (.cells #[.map none, .int .i64 0] 77)).alloc (.cells #[.map none, .int .i64 0] 77)).alloc (.cells #[.map none, .int .i64 1] 77)) := (((Below.refl _ _).alloc (Nat.le_refl _) _).alloc (by simp) _).alloc (by simp; omega) _
   have hB4 := k4.block B (Array.getElem?_eq_some_iff.1 jC7.out).1
   have hs3 := HB3.out.size
   have hs4 := k4.size
   rw [zt1]
   constructor
   ·exact (hb5.block B (by have := (Array.getElem?_eq_some_iff.1 jC7.out).1; omega)).trans (hB4.trans jC7.out)
   ·exact (jM0.out.below k4).below hb5
   ·intro c hc
    unfold Pst Fst
    match c, hc with
    | 0, _ => exact ⟨a0, fun _ => rfl, by simp⟩
    | 1, _ => exact ⟨a1, fun _ => rfl, by simp⟩
    | 2, _ => exact ⟨a2, fun _ => rfl, by simp⟩
   ·exact himR.below hb5
   ·exact hB
   ·intro c hc
    unfold Pst
    split
    ·omega
    ·split <;> omega
   ·simp
   ·intro c d hc hd hne
    unfold Pst
    match c, d, hc, hd with
    | 0, 0, _, _ => exact absurd rfl hne
    | 0, 1, _, _ => simp
    | 0, 2, _, _ => simp; omega
    | 1, 0, _, _ => simp
    | 1, 1, _, _ => exact absurd rfl hne
    | 1, 2, _, _ => simp
    | 2, 0, _, _ => simp; omega
    | 2, 1, _, _ => simp
    | 2, 2, _, _ => exact absurd rfl hne
   ·simp
   ·simp
  have hb5 : Below w.heap.size w (((w4.alloc (.cells #[.map none, .int .i64 0] 77)).alloc (.cells #[.map none, .int .i64 0] 77)).alloc (.cells #[.map none, .int .i64 1] 77)) := by
   have hb4 := HB3.out.trans (k4.mono HB3.out.size)
   exact ((hb4.alloc hb4.size _).alloc (by simp; have := hb4.size; omega) _).alloc (by simp; have := hb4.size; omega) _
  have HCS := Lib.hid hCS
  have HB5 := Lib.hid hb5
  clear hCS hb5 jC7 jM0 HB3 zG0 himR hloR k4 HRKC
  obtain ⟨W5, hW5⟩ : ∃ W5, (((w4.alloc (.cells #[.map none, .int .i64 0] 77)).alloc (.cells #[.map none, .int .i64 0] 77)).alloc (.cells #[.map none, .int .i64 1] 77)) = W5 := ⟨_, rfl⟩
  rw [hW5] at HCS HB5 ⊢
  clear hW5
  obtain ⟨p2, hp2⟩ : ∃ p2, w4.heap.size + 1 + 1 = p2 := ⟨_, rfl⟩
  rw [hp2] at HCS ⊢
  obtain ⟨p1, hp1⟩ : ∃ p1, w4.heap.size + 1 = p1 := ⟨_, rfl⟩
  rw [hp1] at HCS ⊢
  obtain ⟨p0, hp0⟩ : ∃ p0, w4.heap.size = p0 := ⟨_, rfl⟩
  rw [hp0] at HCS ⊢
  clear hp0 hp1 hp2
  go_loopw [26] (fun v wr => RelO h l w B p0 p1 p2 bR n rest v wr) (fun v _ => n - (intOf v).toNat)
  case atStart => exact ⟨0, sR, qy2, _, Nat.zero_le _, rfl, HCS.out, HB5.out⟩
  case round =>
   clear HCS HB5
   obtain ⟨i, sR, rows, M, hi, rfl, cs, hb⟩ := hrel
   by_cases hlt : i < n
   ·have hltz : (i : Int) < (n : Int) := by omega
    obtain ⟨t, ht⟩ : ∃ t, l[i]? = some t := ⟨_, List.getElem?_eq_getElem (by rw [HLL.out]; exact hlt)⟩
    have htm := zg6 (C := qd3 h l) ht
    obtain ⟨r, hrr⟩ : ∃ r, rows[i]? = some r := ⟨_, List.getElem?_eq_getElem (by rw [cs.says.1]; exact (List.getElem?_eq_some_iff.1 htm).1)⟩
    obtain ⟨c0, c1, c2, c3, f0, f1, f2⟩ := cs.txn hrr htm
    have hrt := zX1.out.1 t (HLP.out.mem_iff.1 (List.mem_of_getElem? ht))
    obtain ⟨o1, o2, o3, o4, o5, o6⟩ := qF8 hrt
    have NC := fun (W : World) (k : Below wr.heap.size wr W) => qR6 p0 (M 0) 0 (Lst l i 0) t.s (by omega) (by omega) (by
     have := qo9 (qd7 (l.take i))
     unfold Lst
     simp [qd7] at this ⊢
     have := HLL.out
     omega) (fun e => by
      obtain ⟨es, cl, h2⟩ := qR7 ((cs.nm 0 (by omega)).2.2 p0 e)
      have h1 := (cs.nm 0 (by omega)).1
      rw [show Pst p0 p1 p2 0 = p0 from rfl, h2] at h1
      cases h1) W ((cs.nm 0 (by omega)).move (Trn.of_below (S := fun _ => False) k) id (fun _ _ => id))
    have LK := fun (W : World) (hR : IM Try.prog 3 W bR (jC1 (qu9 h)) sR) (x : Int) (hx : (Lit.int .i64 x).wf = true) => hR.look Try.underlying34 Try.underlying3 (z := .int .i64 0) (t := 34) (e := 3) (by kernel_rfl) false hx
    have WB := ji7 (x := t.b) (by omega) (by omega)
    have WC := ji7 (x := t.c) (by omega) (by omega)
    simp only [Bool.false_eq_true, if_false, zt7] at LK
    have lk1 := LK wr.drew (cs.rk.below ((Below.refl _ _).drew)) t.b WB
    have lk2 := LK wr.drew (cs.rk.below ((Below.refl _ _).drew)) t.c WC
    have HNC := Lib.hid (NC wr.drew ((Below.refl _ _).drew))
    have HLK := Lib.hid LK
    have HCS := Lib.hid cs
    have HB := Lib.hid hb
    have HW1 := Lib.hid WB
    have HW2 := Lib.hid WC
    have HT := Lib.hid ht
    have HTM := Lib.hid htm
    have HRR := Lib.hid hrr
    clear NC LK cs hb WB WC hrt o1 o2 o3 o4 o5 o6 ht htm hrr
    go_upto_region 11 with fail
    go_cut [26] from 26 to 94 (fun v26 wx => v26 = .int .i64 (i : Int) ∧ ∃ M' : Nat → Option Nat, CS wx w.heap.size B rest (rows.set i { r with s := (qd3 h l t).s, b := (qd3 h l t).b, c := (qd3 h l t).c }) (((l.take i).map (qd3 h l) ++ l.drop i).set i { t with s := (qd3 h l t).s, b := (qd3 h l t).b, c := (qd3 h l t).c }) (Pst p0 p1 p2) M' Fst (qb0 l i t 0) bR sR (qu9 h) ∧ Below w.heap.size w wx)
    case first =>
     have hA : ∀ W : World, CS W w.heap.size B rest rows ((l.take i).map (qd3 h l) ++ l.drop i) (Pst p0 p1 p2) M Fst (Lst l i) bR sR (qu9 h) → W.cell? ⟨B, i * 4, none⟩ = some (.int .i64 t.s) := fun W c => (c.txn HRR.out HTM.out).1
     refine qU.qr8 [20, 21, 22, 23, 24, 25, 26, 27, 28] (fun W => W.cell? ⟨B, i * 4, none⟩ = some (.int .i64 t.s) ∧ W.cell? ⟨B, i * 4 + 1, none⟩ = some (.int .i64 t.b) ∧ W.cell? ⟨B, i * 4 + 2, none⟩ = some (.int .i64 t.c) ∧ (Instr.lookup 34 (.map (some bR)) (.int .i64 t.b) false).run Try.prog W = .ok (.int .i64 (qs5 h t.b)) W ∧ (Instr.lookup 34 (.map (some bR)) (.int .i64 t.c) false).run Try.prog W = .ok (.int .i64 (qs5 h t.c)) W) (by kernel_rfl) ?_
     have hAA : (fun W : World => W.cell? ⟨B, i * 4, none⟩ = some (.int .i64 t.s) ∧ W.cell? ⟨B, i * 4 + 1, none⟩ = some (.int .i64 t.b) ∧ W.cell? ⟨B, i * 4 + 2, none⟩ = some (.int .i64 t.c) ∧ (Instr.lookup 34 (.map (some bR)) (.int .i64 t.b) false).run Try.prog W = .ok (.int .i64 (qs5 h t.b)) W ∧ (Instr.lookup 34 (.map (some bR)) (.int .i64 t.c) false).run Try.prog W = .ok (.int .i64 (qs5 h t.c)) W) wr.drew := ⟨c0, c1, c2, lk1, lk2⟩
     refine qU.zF (i := 0) (v := .pointer (some ⟨B, i * 4, none⟩)) rfl (by kernel_rfl) (by kernel_rfl) (by kernel_rfl) (fun _ _ _ h => h) (.inl ⟨rfl, fun W hW => ?_⟩) ?_
     ·(try obtain ⟨q0, q1, q2, q3, q4⟩ := hW); go_simp
     simp only [Act.put, List.setIfInBounds_toArray, List.set_cons_zero, List.set_cons_succ]
     refine qU.zF (i := 1) (v := .pointer (some ⟨B, i * 4, none⟩)) rfl (by kernel_rfl) (by kernel_rfl) (by kernel_rfl) (fun _ _ _ h => h) (.inl ⟨rfl, fun W hW => ?_⟩) ?_
     ·(try obtain ⟨q0, q1, q2, q3, q4⟩ := hW); go_simp
     simp only [Act.put, List.setIfInBounds_toArray, List.set_cons_zero, List.set_cons_succ]
     refine qU.zF (i := 2) (v := .pointer (some ⟨B, i * 4, none⟩)) rfl (by kernel_rfl) (by kernel_rfl) (by kernel_rfl) (fun _ _ _ h => h) (.inl ⟨rfl, fun W hW => ?_⟩) ?_
     ·(try obtain ⟨q0, q1, q2, q3, q4⟩ := hW); go_simp
     simp only [Act.put, List.setIfInBounds_toArray, List.set_cons_zero, List.set_cons_succ]
     refine qU.zF (i := 3) (v := .pointer (some ⟨B, i * 4, none⟩)) rfl (by kernel_rfl) (by kernel_rfl) (by kernel_rfl) (fun _ _ _ h => h) (.inl ⟨rfl, fun W hW => ?_⟩) ?_
     ·(try obtain ⟨q0, q1, q2, q3, q4⟩ := hW); go_simp
     simp only [Act.put, List.setIfInBounds_toArray, List.set_cons_zero, List.set_cons_succ]
     refine qU.zF (i := 4) (v := .pointer (some ⟨B, i * 4, none⟩)) rfl (by kernel_rfl) (by kernel_rfl) (by kernel_rfl) (fun _ _ _ h => h) (.inl ⟨rfl, fun W hW => ?_⟩) ?_
     ·(try obtain ⟨q0, q1, q2, q3, q4⟩ := hW); go_simp
     simp only [Act.put, List.setIfInBounds_toArray, List.set_cons_zero, List.set_cons_succ]
     refine qU.zF (i := 5) (v := .pointer (some ⟨B, i * 4, none⟩)) rfl (by kernel_rfl) (by kernel_rfl) (by kernel_rfl) (fun _ _ _ h => h) (.inl ⟨rfl, fun W hW => ?_⟩) ?_
     ·(try obtain ⟨q0, q1, q2, q3, q4⟩ := hW); go_simp
     simp only [Act.put, List.setIfInBounds_toArray, List.set_cons_zero, List.set_cons_succ]
     refine qU.qr4 (i := 6) (v := .int .i64 t.s) rfl (by kernel_rfl) (by kernel_rfl) (by kernel_rfl) (by kernel_rfl) (fun _ _ _ h => h) (.inl ⟨rfl, fun W hW => ?_⟩) hAA ?_
     ·(try obtain ⟨q0, q1, q2, q3, q4⟩ := hW); go_simp
     simp only [Act.put, List.setIfInBounds_toArray, List.set_cons_zero, List.set_cons_succ]
     refine qU.zF (i := 8) (v := .map (some bR)) rfl (by kernel_rfl) (by kernel_rfl) (by kernel_rfl) (fun _ _ _ h => h) (.inl ⟨rfl, fun W hW => ?_⟩) ?_
     ·(try obtain ⟨q0, q1, q2, q3, q4⟩ := hW); go_simp
     simp only [Act.put, List.setIfInBounds_toArray, List.set_cons_zero, List.set_cons_succ]
     refine qU.zF (i := 9) (v := .pointer (some ⟨B, i * 4, none⟩)) rfl (by kernel_rfl) (by kernel_rfl) (by kernel_rfl) (fun _ _ _ h => h) (.inl ⟨rfl, fun W hW => ?_⟩) ?_
     ·(try obtain ⟨q0, q1, q2, q3, q4⟩ := hW); go_simp
     simp only [Act.put, List.setIfInBounds_toArray, List.set_cons_zero, List.set_cons_succ]
     refine qU.zF (i := 10) (v := .pointer (some ⟨B, i * 4, none⟩)) rfl (by kernel_rfl) (by kernel_rfl) (by kernel_rfl) (fun _ _ _ h => h) (.inl ⟨rfl, fun W hW => ?_⟩) ?_
     ·(try obtain ⟨q0, q1, q2, q3, q4⟩ := hW); go_simp
     simp only [Act.put, List.setIfInBounds_toArray, List.set_cons_zero, List.set_cons_succ]
     refine qU.zF (i := 11) (v := .pointer (some ⟨B, i * 4 + 1, none⟩)) rfl (by kernel_rfl) (by kernel_rfl) (by kernel_rfl) (fun _ _ _ h => h) (.inl ⟨rfl, fun W hW => ?_⟩) ?_
     ·(try obtain ⟨q0, q1, q2, q3, q4⟩ := hW); go_simp
     simp only [Act.put, List.setIfInBounds_toArray, List.set_cons_zero, List.set_cons_succ]
     refine qU.qr4 (i := 12) (v := .int .i64 t.b) rfl (by kernel_rfl) (by kernel_rfl) (by kernel_rfl) (by kernel_rfl) (fun _ _ _ h => h) (.inl ⟨rfl, fun W hW => ?_⟩) hAA ?_
     ·(try obtain ⟨q0, q1, q2, q3, q4⟩ := hW); go_simp
     simp only [Act.put, List.setIfInBounds_toArray, List.set_cons_zero, List.set_cons_succ]
     refine qU.qr4 (i := 13) (v := .int .i64 (qs5 h t.b)) rfl (by kernel_rfl) (by kernel_rfl) (by kernel_rfl) (by kernel_rfl) (fun _ _ _ h => h) (.inl ⟨rfl, fun W hW => ?_⟩) hAA ?_
     ·(try obtain ⟨q0, q1, q2, q3, q4⟩ := hW); go_simp
     simp only [Act.put, List.setIfInBounds_toArray, List.set_cons_zero, List.set_cons_succ]
     refine qU.zF (i := 14) (v := .map (some bR)) rfl (by kernel_rfl) (by kernel_rfl) (by kernel_rfl) (fun _ _ _ h => h) (.inl ⟨rfl, fun W hW => ?_⟩) ?_
     ·(try obtain ⟨q0, q1, q2, q3, q4⟩ := hW); go_simp
     simp only [Act.put, List.setIfInBounds_toArray, List.set_cons_zero, List.set_cons_succ]
     refine qU.zF (i := 15) (v := .pointer (some ⟨B, i * 4, none⟩)) rfl (by kernel_rfl) (by kernel_rfl) (by kernel_rfl) (fun _ _ _ h => h) (.inl ⟨rfl, fun W hW => ?_⟩) ?_
     ·(try obtain ⟨q0, q1, q2, q3, q4⟩ := hW); go_simp
     simp only [Act.put, List.setIfInBounds_toArray, List.set_cons_zero, List.set_cons_succ]
     refine qU.zF (i := 16) (v := .pointer (some ⟨B, i * 4, none⟩)) rfl (by kernel_rfl) (by kernel_rfl) (by kernel_rfl) (fun _ _ _ h => h) (.inl ⟨rfl, fun W hW => ?_⟩) ?_
     ·(try obtain ⟨q0, q1, q2, q3, q4⟩ := hW); go_simp
     simp only [Act.put, List.setIfInBounds_toArray, List.set_cons_zero, List.set_cons_succ]
     refine qU.zF (i := 17) (v := .pointer (some ⟨B, i * 4 + 2, none⟩)) rfl (by kernel_rfl) (by kernel_rfl) (by kernel_rfl) (fun _ _ _ h => h) (.inl ⟨rfl, fun W hW => ?_⟩) ?_
     ·(try obtain ⟨q0, q1, q2, q3, q4⟩ := hW); go_simp
     simp only [Act.put, List.setIfInBounds_toArray, List.set_cons_zero, List.set_cons_succ]
     refine qU.qr4 (i := 18) (v := .int .i64 t.c) rfl (by kernel_rfl) (by kernel_rfl) (by kernel_rfl) (by kernel_rfl) (fun _ _ _ h => h) (.inl ⟨rfl, fun W hW => ?_⟩) hAA ?_
     ·(try obtain ⟨q0, q1, q2, q3, q4⟩ := hW); go_simp
     simp only [Act.put, List.setIfInBounds_toArray, List.set_cons_zero, List.set_cons_succ]
     refine qU.qr4 (i := 19) (v := .int .i64 (qs5 h t.c)) rfl (by kernel_rfl) (by kernel_rfl) (by kernel_rfl) (by kernel_rfl) (fun _ _ _ h => h) (.inl ⟨rfl, fun W hW => ?_⟩) hAA ?_
     ·(try obtain ⟨q0, q1, q2, q3, q4⟩ := hW); go_simp
     simp only [Act.put, List.setIfInBounds_toArray, List.set_cons_zero, List.set_cons_succ]
     refine qU.zX (i := 7) rfl (by kernel_rfl) rfl ?_
     intro K7 hK7
     have HK7 := Lib.hid hK7
     clear hK7
     simp only [List.getElem_toArray, List.getElem_cons_succ, List.getElem_cons_zero]
     unfold Oper.wp
     go_simp
     go_at_call 41
     refine HNC.out.mono ?_
     rintro e w6 ⟨rfl, m6, hn6, hm6, ht6⟩
     have cs6 := (HCS.out.below ((Below.refl _ _).drew)).name (by have := HB.out.size; simpa using this) 0 (by omega) t.s hn6 hm6 ht6
     obtain ⟨d0, d1, d2, d3, g0, g1, g2⟩ := cs6.txn HRR.out HTM.out
     have lk3 := HLK.out w6 cs6.rk t.b HW1.out
     have lk4 := HLK.out w6 cs6.rk t.c HW2.out
     have CS6 := Lib.hid cs6
     have HT6 := Lib.hid ht6
     refine HK7.out _ _ ⟨fun _ _ => ⟨d0, d1, d2, lk3, lk4⟩, ?_⟩
     clear cs6 ht6 hn6 hm6 lk1 lk2 lk3 lk4 c0 c1 c2 c3 f0 f1 f2 hAA hA HK7 K7
     refine qU.zX (i := 20) rfl (by kernel_rfl) rfl ?_
     intro K7 hK7
     have HK7 := Lib.hid hK7
     clear hK7
     (try simp only [List.getElem_toArray, List.getElem_cons_succ, List.getElem_cons_zero])
     unfold Oper.wp
     go_simp
     refine HK7.out _ _ ⟨fun h => (by simp at h), ?_⟩
     clear HK7 K7
     (try simp only [Act.put, List.setIfInBounds_toArray, List.set_cons_zero, List.set_cons_succ])
     refine qU.zX (i := 21) rfl (by kernel_rfl) rfl ?_
     intro K7 hK7
     have HK7 := Lib.hid hK7
     clear hK7
     (try simp only [List.getElem_toArray, List.getElem_cons_succ, List.getElem_cons_zero])
     unfold Oper.wp
     go_simp
     refine HK7.out _ _ ⟨fun h => (by simp at h), ?_⟩
     clear HK7 K7
     (try simp only [Act.put, List.setIfInBounds_toArray, List.set_cons_zero, List.set_cons_succ])
     refine qU.zX (i := 22) rfl (by kernel_rfl) rfl ?_
     intro K7 hK7
     have HK7 := Lib.hid hK7
     clear hK7
     (try simp only [List.getElem_toArray, List.getElem_cons_succ, List.getElem_cons_zero])
     unfold Oper.wp
     go_simp
     refine HK7.out _ _ ⟨fun h => (by simp at h), ?_⟩
     clear HK7 K7
     (try simp only [Act.put, List.setIfInBounds_toArray, List.set_cons_zero, List.set_cons_succ])
     refine qU.zX (i := 23) rfl (by kernel_rfl) rfl ?_
     intro K7 hK7
     have HK7 := Lib.hid hK7
     clear hK7
     (try simp only [List.getElem_toArray, List.getElem_cons_succ, List.getElem_cons_zero])
     unfold Oper.wp
     go_simp
     refine HK7.out _ _ ⟨fun h => (by simp at h), ?_⟩
     clear HK7 K7
     (try simp only [Act.put, List.setIfInBounds_toArray, List.set_cons_zero, List.set_cons_succ])
     refine qU.zX (i := 24) rfl (by kernel_rfl) rfl ?_
     intro K7 hK7
     have HK7 := Lib.hid hK7
     clear hK7
     (try simp only [List.getElem_toArray, List.getElem_cons_succ, List.getElem_cons_zero])
     unfold Oper.wp
     go_simp
     refine HK7.out _ _ ⟨fun h => (by simp at h), ?_⟩
     clear HK7 K7
     (try simp only [Act.put, List.setIfInBounds_toArray, List.set_cons_zero, List.set_cons_succ])
     refine qU.zX (i := 25) rfl (by kernel_rfl) rfl ?_
     intro K7 hK7
     have HK7 := Lib.hid hK7
     clear hK7
     (try simp only [List.getElem_toArray, List.getElem_cons_succ, List.getElem_cons_zero])
     unfold Oper.wp
     go_simp
     refine HK7.out _ _ ⟨fun h => (by simp at h), ?_⟩
     clear HK7 K7
     (try simp only [Act.put, List.setIfInBounds_toArray, List.set_cons_zero, List.set_cons_succ])
     refine qU.zX (i := 26) rfl (by kernel_rfl) rfl ?_
     intro K7 hK7
     have HK7 := Lib.hid hK7
     clear hK7
     (try simp only [List.getElem_toArray, List.getElem_cons_succ, List.getElem_cons_zero])
     unfold Oper.wp
     go_simp
     refine HK7.out _ _ ⟨fun h => (by simp at h), ?_⟩
     clear HK7 K7
     (try simp only [Act.put, List.setIfInBounds_toArray, List.set_cons_zero, List.set_cons_succ])
     refine qU.zX (i := 27) rfl (by kernel_rfl) rfl ?_
     intro K7 hK7
     have HK7 := Lib.hid hK7
     clear hK7
     (try simp only [List.getElem_toArray, List.getElem_cons_succ, List.getElem_cons_zero])
     unfold Oper.wp
     go_simp
     refine HK7.out _ _ ⟨fun h => (by simp at h), ?_⟩
     clear HK7 K7
     (try simp only [Act.put, List.setIfInBounds_toArray, List.set_cons_zero, List.set_cons_succ])
     refine qU.zX (i := 28) rfl (by kernel_rfl) rfl ?_
     intro K7 hK7
     have HK7 := Lib.hid hK7
     clear hK7
     (try simp only [List.getElem_toArray, List.getElem_cons_succ, List.getElem_cons_zero])
     unfold Oper.wp
     go_simp
     refine HK7.out _ _ ⟨fun h => (by simp at h), ?_⟩
     clear HK7 K7
     (try simp only [Act.put, List.setIfInBounds_toArray, List.set_cons_zero, List.set_cons_succ])
     refine qU.qB6 (by kernel_rfl) ?_ _
     have cs7 := CS6.out.zW8 HRR.out HTM.out (qa2 (zQ (Lst l i 0) t.s) t.s : Int) (qs5 h t.b) (qs5 h t.c)
     rw [zR9 HT.out, zt5 HT.out] at cs7
     rw [zt5 HT.out]
     have hlo := CS6.out.loB
     have hb6 : Below w.heap.size w w6 := Trn.below (HB.out.trans ((Below.refl _ _).drew.mono HB.out.size)) HT6.out (fun k hk => by
      rcases hk with rfl | hk
      ·exact HCS.out.loP 0 (by omega)
      ·exact HCS.out.loM 0 k (by omega) hk)
     have hb7 := hb6.grown (qV8 w6 B i (qa2 (names (qd7 l)) t.s : Int) (qs5 h t.b) (qs5 h t.c)) hb6.size (fun j hj => by cases hj; exact hlo)
     have CS7 := Lib.hid cs7
     have HB7 := Lib.hid hb7
     clear cs7 hb7 hb6 d0 d1 d2 d3 g0 g1 g2
     go_wp2_with fail
     go_meet
     case rel => exact ⟨rfl, _, CS7.out, HB7.out⟩
    case rest =>
     clear HNC HLK HCS HB HW1 HW2 lk1 lk2 c0 c1 c2 c3 f0 f1 f2
     obtain ⟨rfl, M1, cs1, hb1⟩ := hcut
     rw [← zn3] at cs1
     have hr1 : (rows.set i { r with s := (qd3 h l t).s, b := (qd3 h l t).b, c := (qd3 h l t).c })[i]? = some { r with s := (qd3 h l t).s, b := (qd3 h l t).b, c := (qd3 h l t).c } := by
      rw [List.getElem?_set_self (List.getElem?_eq_some_iff.1 HRR.out).1]
     have hil := (List.getElem?_eq_some_iff.1 HTM.out).1
     have ht1 : ∀ x, (((l.take i).map (qd3 h l) ++ l.drop i).set i x)[i]? = some x := fun x => List.getElem?_set_self hil
     obtain ⟨m, hm1⟩ : ∃ m, t.ops.length = m := ⟨_, rfl⟩
     have HMM := Lib.hid hm1
     have hm64 : m ≤ 64 := by rw [← hm1]; exact (qs0 (zX1.out.1 t (HLP.out.mem_iff.1 (List.mem_of_getElem? HT.out)))).1
     obtain ⟨_, _, _, c3, _, _, _⟩ := cs1.txn hr1 (ht1 _)
     rw [show (qG3 h l t 0).ops.length = m by rw [← hm1]; simp [qG3]] at c3
     dsimp only at c3
     have HCS1 := Lib.hid cs1
     have HB1 := Lib.hid hb1
     have HR1 := Lib.hid hr1
     have HT1 := Lib.hid ht1
     clear cs1 hb1 hr1 ht1 hm1 hil
     go_wp2_with fail
     go_loopw [63] (fun v wr => ∃ (j : Nat) (M' : Nat → Option Nat), j ≤ m ∧ v = .int .i64 ((j : Nat) : Int) ∧ CS wr w.heap.size B rest (rows.set i { r with s := (qd3 h l t).s, b := (qd3 h l t).b, c := (qd3 h l t).c }) (((l.take i).map (qd3 h l) ++ l.drop i).set i (qG3 h l t j)) (Pst p0 p1 p2) M' Fst (qb0 l i t j) bR sR (qu9 h) ∧ Below w.heap.size w wr) (fun v _ => m - (intOf v).toNat)
     case atStart => exact ⟨0, M1, Nat.zero_le _, rfl, HCS1.out, HB1.out⟩
     case round =>
      clear HCS1 HB1 c3
      obtain ⟨j, M2, hj, rfl, cs, hb⟩ := hrel
      by_cases hjm : j < m
      ·have hjz : (j : Int) < (m : Int) := by omega
       obtain ⟨o, ho⟩ : ∃ o, t.ops[j]? = some o := ⟨_, List.getElem?_eq_getElem (by rw [HMM.out]; exact hjm)⟩
       have jW8 : (qG3 h l t j).ops[j]? = some o := zg6 ho
       obtain ⟨_, _, _, c3, _, _, _⟩ := cs.txn HR1.out (HT1.out _)
       rw [show (qG3 h l t j).ops.length = m by rw [← HMM.out]; simp [qG3]; omega] at c3
       obtain ⟨k1, v1, fk1, fv1⟩ := cs.op HR1.out (HT1.out _) jW8
       dsimp only at c3 k1 v1 fk1 fv1
       have hoo := (qs0 (zX1.out.1 t (HLP.out.mem_iff.1 (List.mem_of_getElem? HT.out)))).2 o (List.mem_of_getElem? ho)
       obtain ⟨hk0, hk1, hv0, hv1⟩ := hoo
       have hcl : jL l ≤ 1024 := by rw [jN1 HLP.out]; exact HCN.out
       have N1 := qR6 p1 (M2 1) 0 (qb0 l i t j 1) o.k (by omega) (by omega) (by have := qW1 HT.out j; omega) (fun e => by
        obtain ⟨es, cl, h2⟩ := qR7 ((cs.nm 1 (by omega)).2.2 p1 e)
        have h1 := (cs.nm 1 (by omega)).1
        rw [show Pst p0 p1 p2 1 = p1 from rfl, h2] at h1
        cases h1) wr (cs.nm 1 (by omega))
       have HN1 := Lib.hid N1
       have jN2 := Lib.hid cs
       have HB2 := Lib.hid hb
       have HO := Lib.hid ho
       have zu0 := Lib.hid jW8
       have hgB : w.heap.size ≤ r.g := by
        have := (cs.says.lt { r with s := (qd3 h l t).s, b := (qd3 h l t).b, c := (qd3 h l t).c } (List.mem_of_getElem? HR1.out)).1
        exact this
       clear N1 cs hb ho jW8
       by_cases hvz : o.v = 0
       ·go_wp2_with (go_at_call 41; (with_reducible refine HN1.out.mono ?_); rintro e w6 ⟨rfl, m6, hn6, hm6, ht6⟩; have cs6 := jN2.out.name HB2.out.size 1 (by omega) o.k hn6 hm6 ht6; obtain ⟨k6, v6, fk6, fv6⟩ := cs6.op HR1.out (HT1.out _) zu0.out; dsimp only at k6 v6 fk6 fv6; have HC6 := Lib.hid cs6; have HT6 := Lib.hid ht6; clear cs6 ht6 hn6 hm6)
        have hb6 : Below w.heap.size w w6 := Trn.below HB2.out HT6.out (fun k hk => by
         rcases hk with rfl | hk
         ·exact jN2.out.loP 1 (by omega)
         ·exact jN2.out.loM 1 k (by omega) hk)
        have cs7 := HC6.out.jM6 HR1.out (HT1.out _) (ops' := (qG3 h l t j).ops.set j { o with k := (qa2 (zQ (qb0 l i t j 1) o.k) o.k : Int) }) (by simp) (fun rst => jx9 _ rst j o _ zu0.out)
        have e1 : ({ o with k := (qa2 (zQ (qb0 l i t j 1) o.k) o.k : Int) } : O3) = qE6 (names (zR l)) (names (zP l)) o := by
         rw [zt6 HT.out HO.out]
         unfold qE6
         rw [if_pos hvz, ← hvz]
        rw [e1, List.set_set, jy1 HO.out, zt3 HO.out hvz] at cs7
        have hb7 := hb6.grown (qb7 w6 r.g (j * 3 + 1) (.int .i64 (qa2 (zQ (qb0 l i t j 1) o.k) o.k : Int))) hb6.size (fun q hq => by cases hq; exact hgB)
        go_roundw
        case rel => exact ⟨j + 1, _, by omega, by go_num, cs7, hb7⟩
        case measure => (simp [intOf]; try omega)
       ·have hvb : (o.v != 0) = true := by simp [hvz]
        have hjl : j < (qG3 h l t j).ops.length := (List.getElem?_eq_some_iff.1 zu0.out).1
        have HJL := Lib.hid hjl
        clear hjl
        go_wp2_with (first
         | (go_at_call 41; (with_reducible refine HN1.out.mono ?_); rintro e w6 ⟨rfl, m6, hn6, hm6, ht6⟩; have cs6 := jN2.out.name HB2.out.size 1 (by omega) o.k hn6 hm6 ht6; obtain ⟨k6, v6, fk6, fv6⟩ := cs6.op HR1.out (HT1.out _) zu0.out; dsimp only at k6 v6 fk6 fv6; have hb6 : Below w.heap.size w w6 := Trn.below HB2.out ht6 (fun k hk => by
           rcases hk with rfl | hk
           ·exact jN2.out.loP 1 (by omega)
           ·exact jN2.out.loM 1 k (by omega) hk); have cs7 := cs6.jM6 HR1.out (HT1.out _) (ops' := (qG3 h l t j).ops.set j { o with k := (qa2 (zQ (qb0 l i t j 1) o.k) o.k : Int) }) (by simp) (fun rst => jx9 _ rst j o _ zu0.out); rw [List.set_set] at cs7; have hb7 := hb6.grown (qb7 w6 r.g (j * 3 + 1) (.int .i64 (qa2 (zQ (qb0 l i t j 1) o.k) o.k : Int))) hb6.size (fun q hq => by cases hq; exact hgB); have hset : ((qG3 h l t j).ops.set j { o with k := (qa2 (zQ (qb0 l i t j 1) o.k) o.k : Int) })[j]? = some { o with k := (qa2 (zQ (qb0 l i t j 1) o.k) o.k : Int) } := List.getElem?_set_self HJL.out; obtain ⟨k7, v7, fk7, fv7⟩ := cs7.op HR1.out (HT1.out _) hset; dsimp only at k7 v7 fk7 fv7; have N2 := qR6 p2 (M2 2) 1 (qb0 l i t j 2) o.v (by omega) (by omega) (by have := qG2 HT.out j; omega) (fun e => by
            obtain ⟨es, cl, h2⟩ := qR7 ((jN2.out.nm 2 (by omega)).2.2 p2 e)
            have h1 := (jN2.out.nm 2 (by omega)).1
            rw [show Pst p0 p1 p2 2 = p2 from rfl, h2] at h1
            cases h1) _ (cs7.nm 2 (by omega)); have HN2 := Lib.hid N2; have HC7 := Lib.hid cs7; have HB7 := Lib.hid hb7; have HSET := Lib.hid hset; clear cs6 cs7 ht6 hn6 hm6 hb6 hb7 N2 k7 fk7 hset)
         | (go_at_call 41; (with_reducible refine HN2.out.mono ?_); rintro e w8 ⟨rfl, m8, hn8, hm8, ht8⟩; have cs8 := HC7.out.name HB7.out.size 2 (by omega) o.v hn8 hm8 ht8; obtain ⟨k8, v8, fk8, fv8⟩ := cs8.op HR1.out (HT1.out _) HSET.out; dsimp only at k8 v8 fk8 fv8; have HC8 := Lib.hid cs8; have HT8 := Lib.hid ht8; clear cs8 hn8 hm8 ht8))
        have hb8 : Below w.heap.size w w8 := Trn.below HB7.out HT8.out (fun k hk => by
         rcases hk with rfl | hk
         ·exact HC7.out.loP 2 (by omega)
         ·exact HC7.out.loM 2 k (by omega) hk)
        have cs9 := HC8.out.jM6 HR1.out (HT1.out _) (ops' := ((qG3 h l t j).ops.set j { o with k := (qa2 (zQ (qb0 l i t j 1) o.k) o.k : Int) }).set j { ({ o with k := (qa2 (zQ (qb0 l i t j 1) o.k) o.k : Int) } : O3) with v := 1 + (qa2 (zQ (qb0 l i t j 2) o.v) o.v : Int) }) (by simp) (fun rst => jy0 _ rst j _ _ HSET.out)
        have e1 : ({ ({ o with k := (qa2 (zQ (qb0 l i t j 1) o.k) o.k : Int) } : O3) with v := 1 + (qa2 (zQ (qb0 l i t j 2) o.v) o.v : Int) } : O3) = qE6 (names (zR l)) (names (zP l)) o := by
         rw [zt6 HT.out HO.out, zS0 HT.out HO.out hvz]
         unfold qE6
         rw [if_neg hvz]
        rw [e1, List.set_set, List.set_set] at cs9
        have e2 := jy1 (h := h) (l := l) HO.out
        have hL := zt4 (l := l) (i := i) HO.out hvz
        have hb9 := hb8.grown (qb7 w8 r.g (j * 3 + 2) (.int .i64 (1 + (qa2 (zQ (qb0 l i t j 2) o.v) o.v : Int)))) hb8.size (fun q hq => by cases hq; exact hgB)
        go_roundw
        case rel => exact ⟨j + 1, _, by omega, by go_num, by rw [← hL, ← e2]; exact cs9, hb9⟩
        case measure => (simp [intOf]; try omega)
      ·have zr9 : j = m := by omega
       subst zr9
       have cs5 := cs
       rw [← HMM.out, zt8, zg7 HT.out, zg8 HT.out] at cs5
       have HC5 := Lib.hid cs5
       have HB5 := Lib.hid hb
       clear cs cs5 hb
       go_wp2_with fail
       go_roundw
       case rel => exact ⟨i + 1, sR, _, M2, by omega, by go_num, HC5.out, HB5.out⟩
       case measure => (simp [intOf]; try omega)
   ·have hin : i = n := by omega
    subst hin
    have hcl : (l.take i).map (qd3 h l) ++ l.drop i = qE3 (qs5 h) l := by
     rw [List.take_of_length_le (by rw [HLL.out]; exact Nat.le_refl _), List.drop_of_length_le (by rw [HLL.out]; exact Nat.le_refl _), List.append_nil]
     rfl
    rw [hcl] at cs
    have hrl2 : rows.length = i := by rw [cs.says.1]; simp [qE3, HLL.out]
    have hown : wr.ownsRow w.heap.size 55 4 (.slice (some ⟨B, 0, none⟩) i cp) rows.length (qi6 rows) := by
     rw [hrl2]
     refine ⟨by rw [qs3, hrl2], .inr ⟨B, cp, _, rfl, hB, cs.row, hncp, hcpm, by simp [qs3, hrl2]; omega, ?_⟩⟩
     rw [← hrl2, ← qs3 rows]
     simp
    have HH := Lib.hid (show H2 wr w.heap.size (.slice (some ⟨B, 0, none⟩) i cp) rows (qE3 (qs5 h) l) from ⟨hown, cs.says⟩)
    have HB := Lib.hid hb
    clear cs hown hb
    go_wp2_with fail
    go_ret
    exact ⟨HB.out, .inr ⟨HCK.out, _, rows, l, HLP.out, HPL.out, rfl, HH.out⟩⟩
 ·have HCK := Lib.hid hck
  have hcz : (zT h != 0) = true := by simp [hck]
  clear hr hcnt
  obtain ⟨q, hq⟩ : ∃ q, zT h = q := ⟨_, rfl⟩
  rw [hq] at HCC HCK hcz hck ⊢
  clear hq
  go_enter Try.func13, Try.ntmps13
  go_wp2_with (go_at_call 32; (with_reducible refine HCC.out.mono ?_); rintro e w1 ⟨rfl, k1⟩)
  go_ret
  exact ⟨k1, .inl ⟨HCK.out, rfl⟩⟩
end Go.Proofs.Ytngkneknopenmaa.zM
end
section
namespace Go.Proofs.Ytngkneknopenmaa.zM
open Go Go.RowKit Go.Proofs.Ytngkneknopenmaa.qa9
structure Ren where
 S : Int → Int
 K : Int → Int
 V : Int → Int
 R : Int → Int
def je8 (ρ : Ren) (o : O3) : O3 := ⟨o.w, ρ.K o.k, if o.v = 0 then 0 else ρ.V o.v⟩
def jv6 (ρ : Ren) (t : T4) : T4 := ⟨ρ.S t.s, ρ.R t.b, ρ.R t.c, t.ops.map (je8 ρ)⟩
def zu1 (f : Int → Int) (l : List Int) : Prop := ∀ x ∈ l, ∀ y ∈ l, f x = f y → x = y
structure zS1 (ρ : Ren) (h : List T4) : Prop where
 s : zu1 ρ.S (qd7 h)
 k : zu1 ρ.K (zR h)
 v : zu1 ρ.V (zP h)
 z : ∀ x ∈ zP h, ρ.V x ≠ 0
 r : ∀ x ∈ jF h, ∀ y ∈ jF h, x < y → ρ.R x < ρ.R y
theorem qO2 {h : List T4} {x : Int} : x ∈ qd7 h ↔ ∃ t ∈ h, t.s = x := by unfold qd7; rw [List.mem_map]
theorem je9 {h : List T4} {x : Int} : x ∈ zR h ↔ ∃ t ∈ h, ∃ o ∈ t.ops, o.k = x := by
 unfold zR qm5
 rw [List.mem_flatMap]
 constructor
 ·rintro ⟨t, ht, hx⟩; obtain ⟨o, ho, e⟩ := List.mem_map.1 hx; exact ⟨t, ht, o, ho, e⟩
 ·rintro ⟨t, ht, o, ho, e⟩; exact ⟨t, ht, List.mem_map.2 ⟨o, ho, e⟩⟩
theorem jy3 {ops : List O3} {x : Int} : x ∈ qg6 ops ↔ ∃ o ∈ ops, o.v ≠ 0 ∧ o.v = x := by
 unfold qg6
 rw [List.mem_map]
 constructor
 ·rintro ⟨o, ho, e⟩
  rw [List.mem_filter] at ho
  exact ⟨o, ho.1, of_decide_eq_true ho.2, e⟩
 ·rintro ⟨o, ho, hn, e⟩; exact ⟨o, List.mem_filter.2 ⟨ho, decide_eq_true hn⟩, e⟩
theorem jf0 {h : List T4} {x : Int} : x ∈ zP h ↔ ∃ t ∈ h, ∃ o ∈ t.ops, o.v ≠ 0 ∧ o.v = x := by
 unfold zP
 rw [List.mem_flatMap]
 constructor
 ·rintro ⟨t, ht, hx⟩; exact ⟨t, ht, jy3.1 hx⟩
 ·rintro ⟨t, ht, hx⟩; exact ⟨t, ht, jy3.2 hx⟩
theorem qS0 {h : List T4} {x : Int} : x ∈ jF h ↔ ∃ t ∈ h, t.b = x ∨ t.c = x := by
 unfold jF
 rw [List.mem_flatMap]
 constructor
 ·rintro ⟨t, ht, hx⟩
  simp at hx
  exact ⟨t, ht, hx.imp Eq.symm Eq.symm⟩
 ·rintro ⟨t, ht, hx⟩
  exact ⟨t, ht, by simp; exact hx.imp Eq.symm Eq.symm⟩
theorem zu3 {R : Int → Int} {l : List Int} (hr : ∀ x ∈ l, ∀ y ∈ l, x < y → R x < R y) {x y : Int} (hx : x ∈ l) (hy : y ∈ l) : R x < R y ↔ x < y := by
 constructor
 ·intro h
  rcases Int.lt_trichotomy x y with k | k | k
  ·exact k
  ·subst k; omega
  ·have := hr y hy x hx k; omega
 ·exact hr x hx y hy
theorem zh0 {R : Int → Int} {l : List Int} (hr : ∀ x ∈ l, ∀ y ∈ l, x < y → R x < R y) {x y : Int} (hx : x ∈ l) (hy : y ∈ l) : R x ≤ R y ↔ x ≤ y := by
 have := zu3 hr hy hx
 omega
def qq0 (ops : List O3) : List Int := ops.filterMap fun o => if o.w then some o.v else none
theorem zn4 (i : Nat) (ops : List O3) : (wrs i ops).map (·.1) = qq0 ops := by
 unfold wrs qq0
 rw [List.map_filterMap]
 congr 1
 funext o
 cases o.w <;> rfl
theorem qG4 : ∀ (h : List T4) (i : Nat), (qF9 i h).map (·.1) = h.flatMap fun t => qq0 t.ops
 | [], _ => rfl
 | t :: h, i => by
  have e : qF9 i (t :: h) = wrs i t.ops ++ qF9 (i + 1) h := rfl
  rw [e, List.map_append, zn4, qG4 h (i + 1)]
  rfl
theorem qz9.sort {h : List T4} (hm : qz9 h) : qz9 (qe2 h) := by
 have hp := qb2 h
 obtain ⟨h1, h2, h3, h4⟩ := hm
 refine ⟨fun t ht => h1 t (hp.mem_iff.1 ht), ?_, ?_, fun t ht o ho hw hv => ?_⟩
 ·have key : ∀ x ∈ h, ∀ y ∈ h, x ≠ y → qs2 x y ∨ qs2 y x := by
   intro x hx y hy hne
   obtain ⟨i, hi⟩ := List.mem_iff_getElem?.1 hx
   obtain ⟨j, hj⟩ := List.mem_iff_getElem?.1 hy
   obtain ⟨hil, rfl⟩ := List.getElem?_eq_some_iff.1 hi
   obtain ⟨hjl, rfl⟩ := List.getElem?_eq_some_iff.1 hj
   have hpw := List.pairwise_iff_getElem.1 h2
   rcases Nat.lt_trichotomy i j with hlt | heq | hgt
   ·exact .inl (hpw i j hil hjl hlt)
   ·subst heq; exact absurd rfl hne
   ·exact .inr (hpw j i hjl hil hgt)
  have hnd : (qe2 h).Pairwise (· ≠ ·) := by
   have : h.Pairwise (· ≠ ·) := h2.imp fun {a b} k e => by subst e; exact k.1 rfl
   exact (hp.nodup_iff (α := T4)).2 this
  have := (qk8 h).and hnd
  refine this.imp_of_mem fun {x y} hx hy ⟨hle, hne⟩ => ?_
  have hx2 := hp.mem_iff.1 hx
  have hy2 := hp.mem_iff.1 hy
  rcases key x hx2 y hy2 hne with k | k
  ·exact k
  ·have := jm4 (h1 y hy2)
   exact ⟨fun e => k.1 e.symm, fun e => k.2.2.1 e.symm, fun e => k.2.1 e.symm, fun e => k.2.2.2.1 e.symm, fun e => by have := k.2.2.2.2 e.symm; omega⟩
 ·rw [qG4] at h3 ⊢
  exact (hp.flatMap_right _).nodup_iff.2 h3
 ·obtain ⟨u, hu, k⟩ := h4 t (hp.mem_iff.1 ht) o ho hw hv
  exact ⟨u, hp.mem_iff.2 hu, k⟩
structure zu4 (ρ : Ren) (h : List T4) : Prop where
 s : ∀ x ∈ qd7 h, 0 ≤ ρ.S x ∧ ρ.S x < 64
 k : ∀ x ∈ zR h, 0 ≤ ρ.K x ∧ ρ.K x < 64
 v : ∀ x ∈ zP h, 0 < ρ.V x ∧ ρ.V x ≤ 2147483647
 r : ∀ x ∈ jF h, 0 ≤ ρ.R x ∧ ρ.R x ≤ 2147483647
theorem qk9 (t : T4) : qd2 t = true ↔ 0 ≤ t.s ∧ t.s < 64 ∧ 0 ≤ t.b ∧ t.b < t.c ∧ t.c ≤ 2147483647 ∧ 1 ≤ t.ops.length ∧ t.ops.length ≤ 64 ∧ ∀ o ∈ t.ops, qo2 o = true := by
 unfold qd2
 simp only [Bool.and_eq_true, decide_eq_true_eq, List.all_eq_true]
 constructor
 ·rintro ⟨⟨⟨⟨⟨⟨⟨a, b⟩, c⟩, d⟩, e⟩, f⟩, g⟩, i⟩; exact ⟨a, b, c, d, e, f, g, i⟩
 ·rintro ⟨a, b, c, d, e, f, g, i⟩; exact ⟨⟨⟨⟨⟨⟨⟨a, b⟩, c⟩, d⟩, e⟩, f⟩, g⟩, i⟩
theorem ql0 (o : O3) : qo2 o = true ↔ 0 ≤ o.k ∧ o.k < 64 ∧ 0 ≤ o.v ∧ o.v ≤ 2147483647 ∧ (o.w = true → 0 < o.v) := by
 unfold qo2
 simp only [Bool.and_eq_true, decide_eq_true_eq, Bool.or_eq_true, Bool.not_eq_true']
 constructor
 ·rintro ⟨⟨⟨⟨a, b⟩, c⟩, d⟩, e⟩; exact ⟨a, b, c, d, fun h => by rcases e with e | e; (rw [h] at e; cases e); exact e⟩
 ·rintro ⟨a, b, c, d, e⟩; refine ⟨⟨⟨⟨a, b⟩, c⟩, d⟩, ?_⟩; cases hw : o.w; exact .inl rfl; exact .inr (e hw)
theorem qL7 {α β : Type} {f g : α → Option β} : ∀ l : List α, (∀ x ∈ l, f x = g x) → l.filterMap f = l.filterMap g
 | [], _ => rfl
 | x :: l, h => by
  rw [List.filterMap_cons, List.filterMap_cons, h x (by simp), qL7 l fun y hy => h y (by simp [hy])]
theorem jv7 {f : Int → Int} {l : List Int} (hi : zu1 f l) (hn : l.Nodup) : (l.map f).Nodup := by
 rw [List.Nodup, List.pairwise_map]
 exact hn.imp_of_mem fun {a b} ha hb hne e => hne (hi a ha b hb e)
theorem zG1 {ρ : Ren} {h : List T4} (hm : qz9 h) (k : zS1 ρ h) (b : zu4 ρ h) : qz9 (h.map (jv6 ρ)) := by
 obtain ⟨h1, h2, h3, h4⟩ := hm
 refine ⟨fun t ht => ?_, ?_, ?_, fun t ht o ho hw hv => ?_⟩
 ·obtain ⟨u, hu, rfl⟩ := List.mem_map.1 ht
  obtain ⟨a1, a2, a3, a4, a5, a6, a7, a8⟩ := (qk9 u).1 (h1 u hu)
  obtain ⟨m1, m2⟩ := qo4 hu
  refine (qk9 _).2 ⟨(b.s _ (qO2.2 ⟨u, hu, rfl⟩)).1, (b.s _ (qO2.2 ⟨u, hu, rfl⟩)).2, (b.r _ m1).1, k.r _ m1 _ m2 a4, (b.r _ m2).2, by simpa [jv6] using a6, by simpa [jv6] using a7, fun o ho => ?_⟩
  obtain ⟨x, hx, rfl⟩ := List.mem_map.1 ho
  obtain ⟨c1, c2, c3, c4, c5⟩ := (ql0 x).1 (a8 x hx)
  have hk := b.k _ (je9.2 ⟨u, hu, x, hx, rfl⟩)
  by_cases h0 : x.v = 0
  ·exact (ql0 _).2 ⟨hk.1, hk.2, by simp [je8, h0], by simp [je8, h0], fun hw => by have := c5 hw; omega⟩
  ·have hv := b.v _ (jf0.2 ⟨u, hu, x, hx, h0, rfl⟩)
   exact (ql0 _).2 ⟨hk.1, hk.2, by simp [je8, h0]; omega, by simp [je8, h0]; omega, fun _ => by simp [je8, h0]; omega⟩
 ·rw [List.pairwise_map]
  refine h2.imp_of_mem fun {x y} hx hy p => ?_
  obtain ⟨x1, x2⟩ := qo4 hx
  obtain ⟨y1, y2⟩ := qo4 hy
  have inj : ∀ a ∈ jF h, ∀ c ∈ jF h, a ≠ c → ρ.R a ≠ ρ.R c := fun a ha c hc hne e => by
   rcases Int.lt_trichotomy a c with q | q | q
   ·have := k.r a ha c hc q; omega
   ·exact hne q
   ·have := k.r c hc a ha q; omega
  exact ⟨inj _ x1 _ y1 p.1, inj _ x1 _ y2 p.2.1, inj _ x2 _ y1 p.2.2.1, inj _ x2 _ y2 p.2.2.2.1, fun e => (zh0 k.r x2 y1).2 (p.2.2.2.2 (k.s _ (qO2.2 ⟨x, hx, rfl⟩) _ (qO2.2 ⟨y, hy, rfl⟩) e))⟩
 ·rw [qG4] at h3 ⊢
  have hv : ∀ (l : List T4), (∀ t ∈ l, qd2 t = true) → (l.map (jv6 ρ)).flatMap (fun t => qq0 t.ops) = (l.flatMap fun t => qq0 t.ops).map ρ.V := by
   intro l hl
   rw [List.flatMap_map, List.map_flatMap]
   have : ∀ t ∈ l, qq0 (jv6 ρ t).ops = (qq0 t.ops).map ρ.V := fun t ht => by
    have ho := ((qk9 t).1 (hl t ht)).2.2.2.2.2.2.2
    show qq0 (t.ops.map (je8 ρ)) = _
    unfold qq0
    rw [List.filterMap_map, List.map_filterMap]
    refine qL7 _ fun o hoo => ?_
    have := ((ql0 o).1 (ho o hoo)).2.2.2.2
    cases hw : o.w with
    | false => simp [Function.comp, je8, hw]
    | true =>
     have := this hw
     have h0 : o.v ≠ 0 := by omega
     simp [Function.comp, je8, hw, h0]
   clear hl
   induction l with
   | nil => rfl
   | cons t l ih =>
    rw [List.flatMap_cons, List.flatMap_cons, this t (by simp), ih (fun u hu => this u (by simp [hu]))]
  rw [hv h h1]
  refine jv7 (fun x hx y hy e => k.v x ?_ y ?_ e) h3
  ·obtain ⟨t, ht, q⟩ := List.mem_flatMap.1 hx
   obtain ⟨o, ho, q⟩ := List.mem_filterMap.1 q
   cases hw : o.w with
   | false => rw [hw] at q; cases q
   | true =>
    rw [hw] at q; cases q
    have := ((ql0 o).1 (((qk9 t).1 (h1 t ht)).2.2.2.2.2.2.2 o ho)).2.2.2.2 hw
    exact jf0.2 ⟨t, ht, o, ho, by omega, rfl⟩
  ·obtain ⟨t, ht, q⟩ := List.mem_flatMap.1 hy
   obtain ⟨o, ho, q⟩ := List.mem_filterMap.1 q
   cases hw : o.w with
   | false => rw [hw] at q; cases q
   | true =>
    rw [hw] at q; cases q
    have := ((ql0 o).1 (((qk9 t).1 (h1 t ht)).2.2.2.2.2.2.2 o ho)).2.2.2.2 hw
    exact jf0.2 ⟨t, ht, o, ho, by omega, rfl⟩
 ·obtain ⟨u, hu, rfl⟩ := List.mem_map.1 ht
  obtain ⟨x, hx, rfl⟩ := List.mem_map.1 ho
  have h0 : x.v ≠ 0 := fun e => hv (by simp [je8, e])
  obtain ⟨u2, hu2, y, hy, e1, e2, e3⟩ := h4 u hu x hx hw h0
  refine ⟨jv6 ρ u2, List.mem_map.2 ⟨u2, hu2, rfl⟩, je8 ρ y, List.mem_map.2 ⟨y, hy, rfl⟩, e1, ?_, ?_⟩
  ·show ρ.K y.k = ρ.K x.k
   rw [e2]
  ·show (if y.v = 0 then 0 else ρ.V y.v) = if x.v = 0 then 0 else ρ.V x.v
   rw [e3]
def qL8 (h : List T4) : Ren := ⟨fun x => (qa2 (names (qd7 (qe2 h))) x : Int), fun x => (qa2 (names (zR (qe2 h))) x : Int), fun x => 1 + (qa2 (names (zP (qe2 h))) x : Int), qG0 h⟩
theorem qA2 (h : List T4) : zU h = (qe2 h).map (jv6 (qL8 h)) := by
 unfold zU qE3
 refine List.map_congr_left fun t _ => ?_
 rfl
theorem jn5 {l : List Int} {x y : Int} (hx : x ∈ l) (hy : y ∈ l) (e : qa2 l x = qa2 l y) : x = y := by
 have h1 := qO0 hx
 have h2 := qO0 hy
 have a := List.findIdx_getElem (p := (· == x)) (xs := l) (w := h1)
 have b := List.findIdx_getElem (p := (· == y)) (xs := l) (w := h2)
 simp only [beq_iff_eq] at a b
 unfold qa2 at e
 rw [← a, ← b]
 congr 1
theorem jv8 {l : List Int} {x y : Int} (hx : x ∈ l) (h : x < y) : zI l x < zI l y := by
 unfold zI
 induction l with
 | nil => cases hx
 | cons z l ih =>
  have hmono : ∀ l : List Int, l.countP (fun y => decide (y < x)) ≤ l.countP (fun z => decide (z < y)) := fun l => by
   refine List.countP_mono_left fun a _ ha => ?_
   simp only [decide_eq_true_eq] at ha ⊢
   omega
  rw [List.countP_cons, List.countP_cons]
  rcases List.mem_cons.1 hx with rfl | hx
  ·have := hmono l
   simp only [decide_eq_true_eq]
   rw [if_neg (by omega), if_pos h]
   omega
  ·have := ih hx
   simp only [decide_eq_true_eq]
   by_cases a : z < x
   ·rw [if_pos a, if_pos (by omega)]; omega
   ·rw [if_neg a]; split <;> omega
theorem jv9 (l : List Int) (x : Int) : zI l x ≤ l.length := List.countP_le_length
theorem jy4 (h : List T4) : zS1 (qL8 h) (qe2 h) where
 s x hx y hy e := jn5 (qk0.2 hx) (qk0.2 hy) (by have : ((qa2 (names (qd7 (qe2 h))) x : Nat) : Int) = (qa2 (names (qd7 (qe2 h))) y : Nat) := e; omega)
 k x hx y hy e := jn5 (qk0.2 hx) (qk0.2 hy) (by have : ((qa2 (names (zR (qe2 h))) x : Nat) : Int) = (qa2 (names (zR (qe2 h))) y : Nat) := e; omega)
 v x hx y hy e := jn5 (qk0.2 hx) (qk0.2 hy) (by have : 1 + ((qa2 (names (zP (qe2 h))) x : Nat) : Int) = 1 + (qa2 (names (zP (qe2 h))) y : Nat) := e; omega)
 z x _ := by show 1 + ((qa2 (names (zP (qe2 h))) x : Nat) : Int) ≠ 0; omega
 r x hx y _ hlt := by
  have hp : (jF (qe2 h)).Perm (jF h) := (qb2 h).flatMap_right _
  have := jv8 (hp.mem_iff.1 hx) hlt
  show ((zI (jF h) x : Nat) : Int) < (zI (jF h) y : Nat)
  omega
theorem jN3 (l : List Int) : (names l).Nodup := by
 have h : ∀ (l acc : List Int), acc.Nodup → (l.foldl zQ acc).Nodup := by
  intro l
  induction l with
  | nil => exact fun _ h => h
  | cons x l ih =>
   intro acc hn
   refine ih _ ?_
   unfold zQ
   split
   ·exact hn
   ·rename_i hx
    rw [List.nodup_append]
    refine ⟨hn, by simp, fun a ha b hb => ?_⟩
    simp at hb
    subst hb
    exact fun e => hx (e ▸ ha)
 exact h l [] List.nodup_nil
theorem jC8 {l : List Int} {n : Nat} (hn : l.Nodup) (hb : ∀ x ∈ l, 0 ≤ x ∧ x < n) : l.length ≤ n := by
 induction n generalizing l with
 | zero =>
  cases l with
  | nil => simp
  | cons x l => have := hb x (by simp); omega
 | succ n ih =>
  have h1 := ih (l := l.filter fun x => decide (x ≠ (n : Int))) (hn.sublist List.filter_sublist) (fun x hx => by
   rw [List.mem_filter] at hx
   have := hb x hx.1
   have := of_decide_eq_true hx.2
   omega)
  have h2 : (l.filter fun x => decide (x = (n : Int))).length ≤ 1 := by
   have hf : (l.filter fun x => decide (x = (n : Int))).Nodup := hn.sublist List.filter_sublist
   cases e : l.filter fun x => decide (x = (n : Int)) with
   | nil => simp
   | cons a r =>
    cases r with
    | nil => simp
    | cons b r =>
     rw [e] at hf
     have ha : a ∈ l.filter fun x => decide (x = (n : Int)) := by rw [e]; simp
     have hb2 : b ∈ l.filter fun x => decide (x = (n : Int)) := by rw [e]; simp
     rw [List.mem_filter] at ha hb2
     have h1 := of_decide_eq_true ha.2
     have h2 := of_decide_eq_true hb2.2
     simp [h1, h2] at hf
  have h3 : l.length = (l.filter fun x => decide (x = (n : Int))).length + (l.filter fun x => decide (x ≠ (n : Int))).length := by
   have := List.length_eq_countP_add_countP (l := l) (fun x => decide (x = (n : Int)))
   rw [this, List.countP_eq_length_filter, List.countP_eq_length_filter]
   congr 2
   refine List.filter_congr fun x _ => ?_
   by_cases q : x = (n : Int) <;> simp [q]
  omega
theorem jX7 (ρ : Ren) (h : List T4) : jL (h.map (jv6 ρ)) = jL h := by
 unfold jL
 rw [List.map_map]
 congr 1
 refine List.map_congr_left fun t _ => ?_
 simp [jv6]
theorem zu5 (ops : List O3) : (qg6 ops).length ≤ ops.length := by unfold qg6; rw [List.length_map]; exact List.length_filter_le _ _
theorem jN4 : ∀ h : List T4, (zP h).length ≤ jL h
 | [] => by simp [zP]
 | t :: h => by
  have e : zP (t :: h) = qg6 t.ops ++ zP h := rfl
  rw [e, List.length_append]
  have := jN4 h
  have := zu5 t.ops
  have e2 : jL (t :: h) = t.ops.length + jL h := by simp [jL]
  omega
theorem qS1 {l h : List T4} (hp : l.Perm h) : jL l = jL h := by unfold jL; exact (hp.map _).sum_nat
theorem jX8 {h : List T4} (hm : qz9 h) (h1 : h.length ≤ 64) (h2 : jL h ≤ 1024) : zu4 (qL8 h) (qe2 h) where
 s x hx := by
  have := qO0 (qk0.2 hx)
  have hl := qo9 (qd7 (qe2 h))
  have : (qd7 (qe2 h)).length ≤ 64 := by unfold qd7; rw [List.length_map, (qb2 h).length_eq]; exact h1
  show (0 : Int) ≤ ((qa2 (names (qd7 (qe2 h))) x : Nat) : Int) ∧ ((qa2 (names (qd7 (qe2 h))) x : Nat) : Int) < 64
  omega
 k x hx := by
  have := qO0 (qk0.2 hx)
  have hb := jC8 (n := 64) (jN3 (zR (qe2 h))) (fun y hy => by
   obtain ⟨t, ht, o, ho, rfl⟩ := je9.1 (qk0.1 hy)
   have := (ql0 o).1 (((qk9 t).1 (hm.1 t ((qb2 h).mem_iff.1 ht))).2.2.2.2.2.2.2 o ho)
   exact ⟨this.1, this.2.1⟩)
  show (0 : Int) ≤ ((qa2 (names (zR (qe2 h))) x : Nat) : Int) ∧ ((qa2 (names (zR (qe2 h))) x : Nat) : Int) < 64
  omega
 v x hx := by
  have := qO0 (qk0.2 hx)
  have hl := qo9 (zP (qe2 h))
  have := jN4 (qe2 h)
  rw [qS1 (qb2 h)] at this
  show (0 : Int) < 1 + ((qa2 (names (zP (qe2 h))) x : Nat) : Int) ∧ 1 + ((qa2 (names (zP (qe2 h))) x : Nat) : Int) ≤ 2147483647
  omega
 r x _ := by
  have := jv9 (jF h) x
  rw [qs4] at this
  show (0 : Int) ≤ ((zI (jF h) x : Nat) : Int) ∧ ((zI (jF h) x : Nat) : Int) ≤ 2147483647
  omega
theorem qP8 (h : List T4) : (zU h).length = h.length := by rw [qA2, List.length_map, (qb2 h).length_eq]
theorem jC9 (h : List T4) : jL (zU h) = jL h := by rw [qA2, jX7, qS1 (qb2 h)]
theorem zn5 {h : List T4} (hm : qz9 h) (h1 : h.length ≤ 64) (h2 : jL h ≤ 1024) : qz9 (zU h) := by
 rw [qA2]
 exact zG1 hm.sort (jy4 h) (jX8 hm h1 h2)
theorem qi9 {h : List T4} (hc : zT h = 0) : h.length ≤ 64 ∧ jL h ≤ 1024 ∧ qz9 h := by
 by_cases hb : h.length > 64 ∨ jL h > 1024
 ·unfold zT at hc
  rw [if_pos hb] at hc
  cases hc
 ·exact ⟨by omega, by omega, (qA0 h (by omega) (by omega)).1 hc⟩
theorem jN5 {h : List T4} (hc : zT h = 0) : zT (zU h) = 0 := by
 obtain ⟨h1, h2, hm⟩ := qi9 hc
 exact (qA0 _ (by rw [qP8]; exact h1) (by rw [jC9]; exact h2)).2 (zn5 hm h1 h2)
end Go.Proofs.Ytngkneknopenmaa.zM
end
section
namespace Go.Proofs.Ytngkneknopenmaa.zM
set_option linter.unusedSimpArgs false
open Go.qU (pu ta sa sz ss)
open Go Go.RowKit Go.Proofs.Ytngkneknopenmaa.qa9 Go.Proofs.Ytngkneknopenmaa.qi7
structure zu6 (w : World) (bK bS bV bR : Nat) (gK gS gV gR : Int → Option Int) : Prop where
 K : ∃ s, IM Try.prog 3 w bK (nI gK) s
 S : ∃ s, IM Try.prog 3 w bS (nI gS) s
 V : ∃ s, IM Try.prog 3 w bV (nI gV) s
 R : ∃ s, IM Try.prog 3 w bR (nI gR) s
 wK : WfM gK
 wS : WfM gS
 wV : WfM gV
 wR : WfM gR
theorem zu6.below {w w' : World} {bK bS bV bR : Nat} {gK gS gV gR : Int → Option Int} (h : zu6 w bK bS bV bR gK gS gV gR) (hb : Below w.heap.size w w') : zu6 w' bK bS bV bR gK gS gV gR :=
 ⟨h.K.imp fun _ k => k.below hb, h.S.imp fun _ k => k.below hb, h.V.imp fun _ k => k.below hb, h.R.imp fun _ k => k.below hb, h.wK, h.wS, h.wV, h.wR⟩
end Go.Proofs.Ytngkneknopenmaa.zM
end
section
namespace Go.Proofs.Ytngkneknopenmaa.T
open Go.Proofs.Ytngkneknopenmaa Go.Proofs.Ytngkneknopenmaa.jX3 Go.Proofs.Ytngkneknopenmaa.K
open Go.RowKit Go.Proofs.YtngkneknopenmaaW.jH Go.Proofs.YtngkneknopenmaaW.qh6 Go.Proofs.YtngkneknopenmaaW.qk1
attribute [local go_sem] qq1 qq2 qv6 qv7 qm9 qn0 qq3 qq4   -- for this text's walks alone
set_option linter.unusedVariables false
set_option linter.unusedSimpArgs false
theorem zu7 : (Try.prog.info? 51).map (fun i => (i.zero, i.size, i.bytes)) = some (some (.agg #[(.bool false), (.int .i64 0), (.int .i64 0)]), 3, 24) := by kernel_rfl
end Go.Proofs.Ytngkneknopenmaa.T
end
section
namespace Go.Proofs.Ytngkneknopenmaa.T
open Go.Proofs.Ytngkneknopenmaa Go.Proofs.Ytngkneknopenmaa.jX3 Go.Proofs.Ytngkneknopenmaa.K
open Go.RowKit Go.Proofs.YtngkneknopenmaaW.jH Go.Proofs.YtngkneknopenmaaW.qh6 Go.Proofs.YtngkneknopenmaaW.qk1
attribute [local go_sem] qq1 qq2 qv6 qv7 qm9 qn0 qq3 qq4   -- for this text's walks alone
set_option linter.unusedVariables false
set_option linter.unusedSimpArgs false
mutual
def qF.l0 : Nat → List (S55) → List (S55) → Option ((List (S55)))
 | 0, _, _ => none
 | k + 1, x3, x4 => if (x4.length : Int) > 0 then (qF.l1 k x3 x4 0 0) else (some x3)
def qF.l1 : Nat → List (S55) → List (S55) → Int → Int → Option ((List (S55)))
 | 0, _, _, _, _ => none
 | k + 1, x3, x4, x5, x6 => if x6 < (x4.length : Int) then (if 0 ≤ x6 then (if 0 ≤ x5 then (if x5 < (x4.length : Int) then (if ((qD x4 x6).f1) < ((qD x4 x5).f1) then (qF.l1 k x3 x4 x6 (wrap64 (x6 + 1))) else (qF.l1 k x3 x4 x5 (wrap64 (x6 + 1)))) else (none)) else (none)) else (none)) else (if 0 ≤ x5 then (if x5 < (x4.length : Int) then (if x3.length < 2932031007402 then ((some (([] : List (S55)) : List (S55))).bind fun y165 => (if x5 ≤ (x4.length : Int) then ((some (x4.take (x5 : Int).toNat : List (S55))).bind fun y168 => (if y165.length + y168.length < 2932031007402 then ((some (y165 ++ y168 : List (S55))).bind fun y173 => (if 0 ≤ (wrap64 (x5 + 1)) then (if (wrap64 (x5 + 1)) ≤ (x4.length : Int) then ((some (x4.drop ((wrap64 (x5 + 1)) : Int).toNat : List (S55))).bind fun y176 => (if y173.length + y176.length < 2932031007402 then (qF.l0 k (x3 ++ [(⟨(qD x4 x5).f0, (qD x4 x5).f1, (qD x4 x5).f2, (qD x4 x5).f3⟩ : S55)]) (y173 ++ y176)) else (none))) else (none)) else (none))) else (none))) else (none))) else (none)) else (none)) else (none))
end
def qF.f (k : Nat) (l0 : List (S55)) : Option ((List (S55))) := (some (([] : List (S55)) : List (S55))).bind fun y153 => (if y153.length + l0.length < 2932031007402 then (qF.l0 k (([] : List (S55))) (y153 ++ l0)) else (none))
def qF.T8 : Bool × List (List Nat × List Nat) := (true, [([], []), ([], []), ([0, 1], [0, 1]), ([2], [2]), ([3], [3]), ([], []), ([], []), ([5, 6], [5, 6]), ([7], [7]), ([8], [8]), ([4, 9], [4, 9])])
def qF.B8 : List Nat := [0, 0, 3, 7, 15, 0, 0, 96, 224, 480, 1023]
theorem qF.tab8 : qy8 .any (opsOf Try.f43 8) = qF.T8 := by kernel_rfl
theorem qF.zS2 : qG5 qF.T8.2 qF.B8 = true := by kernel_rfl
def qF.T11 : Bool × List (List Nat × List Nat) := (true, [([], []), ([], []), ([], []), ([1, 2], [1, 2]), ([0, 3], [0, 3]), ([], []), ([], []), ([6], [6]), ([5, 7], [5, 7]), ([4, 8, 4], [4, 8]), ([9, 9, 0, 1, 2, 3, 4, 5, 6, 7, 8, 9], [1, 5, 9])])
def qF.B11 : List Nat := [0, 0, 0, 6, 15, 0, 0, 64, 224, 511, 1023]
theorem qF.Qi2 : qy8 .any (opsOf Try.f43 11) = qF.T11 := by kernel_rfl
theorem qF.zX4 : qG5 qF.T11.2 qF.B11 = true := by kernel_rfl
set_option maxHeartbeats 8000000 in
set_option maxRecDepth 100000 in
theorem qF.calls (k : Nat) (P0_ : Nat → Prop) (A0 : Option Addr) (c0 : Nat) (l0 : List (S55)) (r : List (S55)) (w : World) (hs0 : Kd.V k55 55 w w.heap.size (fun k_ => P0_ k_) (.slice A0 l0.length c0) l0) (h : qF.f k l0 = some r) :
  Calls Try.prog 43 #[.slice A0 l0.length c0] w fun e w' => ∃ v0_ : Value, e = .returned (v0_) ∧ Kd.N k55 55 w' w.heap.size (fun k_ => (P0_ k_ ∨ w.heap.size ≤ k_)) v0_ r ∧ Below w.heap.size w w' := by
 have zG2 := Try.underlying55
 have HO0 := q8.mk (show Kd.V k55 55 w w.heap.size (fun k_ => (P0_ k_ ∨ w.heap.size ≤ k_)) (.slice A0 l0.length c0) l0 from Kd.zJ hs0 (fun k_ hk => .inl hk))
 have HB := q8.mk (Below.refl w.heap.size w)
 have H : ((some (([] : List (S55)) : List (S55))).bind fun y153 => (if y153.length + l0.length < 2932031007402 then (qF.l0 k (([] : List (S55))) (y153 ++ l0)) else (none))) = some r := h
 clear h
 obtain ⟨y150, hy150⟩ : ∃ y_ : List (S55), y_ = (([] : List (S55))) := ⟨_, rfl⟩
 replace H : ((some (([] : List (S55)) : List (S55))).bind fun y153 => (if y153.length + l0.length < 2932031007402 then (qF.l0 k y150 (y153 ++ l0)) else (none))) = some r := by first | (rw [hy150]; with_reducible exact H) | (have H2_ := (Option.bind_some _ _).symm.trans H; rw [hy150]; with_reducible exact H2_) | (have H2_ := (Option.bind_some _ _).symm.trans H; with_reducible exact H2_) | with_reducible exact H | (rw [hy150]; exact H) | exact H
 have zS3 := q8.mk hy150
 clear hy150
 obtain ⟨y153, hy153⟩ : ∃ y_ : List (S55), y_ = (([] : List (S55))) := ⟨_, rfl⟩
 replace H : (if y153.length + l0.length < 2932031007402 then (qF.l0 k y150 (y153 ++ l0)) else (none)) = some r := by first | (rw [hy153]; with_reducible exact H) | (have H2_ := (Option.bind_some _ _).symm.trans H; rw [hy153]; with_reducible exact H2_) | (have H2_ := (Option.bind_some _ _).symm.trans H; with_reducible exact H2_) | with_reducible exact H | (rw [hy153]; exact H) | exact H
 have zS4 := q8.mk hy153
 clear hy153
 by_cases c2 : y153.length + l0.length < 2932031007402
 ·rw [if_pos c2] at H
  have LMc2 := q8.mk c2
  clear c2
  obtain ⟨y156, jN6⟩ : ∃ y_ : List (S55), y_ = (y153 ++ l0) := ⟨_, rfl⟩
  replace H : (qF.l0 k y150 y156) = some r := by first | (rw [jN6]; with_reducible exact H) | (have H2_ := (Option.bind_some _ _).symm.trans H; rw [jN6]; with_reducible exact H2_) | (have H2_ := (Option.bind_some _ _).symm.trans H; with_reducible exact H2_) | with_reducible exact H | (rw [jN6]; exact H) | exact H
  have Qi3 := q8.mk jN6
  clear jN6
  have H' := q8.mk H
  clear H
  go_enter Try.func43, Try.ntmps43
  go_wp2_with (first | ((with_reducible refine qa0 (N := 7) rfl ?_); refine Kd.zu8 k55 _ 55 ?hg (N' := 7) ?hd (xs := ([] : List (S55))) (inner := []) (ok := (fun k_ => (P0_ k_ ∨ w.heap.size ≤ k_))) (okp := (fun k_ => (P0_ k_ ∨ w.heap.size ≤ k_))) ?hr ?hp (fun _ hk => hk) ((show ∀ k_, w.heap.size ≤ k_ → (fun k_ => (P0_ k_ ∨ w.heap.size ≤ k_)) k_ from fun k_ hk => (.inr (Nat.le_trans (qM (by repeat (first | (with_reducible first | exact HB.out | apply qA | apply q9 | apply qB) | exact HB.out))) hk))) _ (Nat.le_refl _)) (Below.refl _ _) (Nat.le_refl _) (by simp) ?_; (case hd => rfl); (case hg => rfl); (case hr => first | (go_simp; done) | (go_simp; rfl)); (case hp => exact (qd6.none _ _)); intro v151 w3 ho4 hb hg_ qA3; clear hg_ qA3; (first | rw [← zS3.out] at ho4 | (simp only [Int.reduceToNat] at ho4; rw [← zS3.out] at ho4)); have n0_ := q8.mk (Kd.qq5 (by (with_reducible repeat (first | apply Kd.jO | apply Kd.jP | apply Kd.z8)); exact HO0.out) (Kd.qA4 ho4) hb); have n1_ := q8.mk (Kd.qW2 ho4 (qM (by repeat (first | (with_reducible first | exact HB.out | apply qA | apply q9 | apply qB) | exact HB.out)))); have n2_ := q8.mk (jM (by repeat (first | (with_reducible first | exact HB.out | apply qA | apply q9 | apply qB) | exact HB.out)) hb); clear HO0; clear HB; have HO0 := n0_; have qW3 := n1_; have HB := n2_; clear n0_ n1_ n2_; clear hb ho4) | ((with_reducible refine qa0 (N := 8) rfl ?_); refine Kd.zu8 k55 _ 55 ?hg (N' := 8) ?hd (xs := ([] : List (S55))) (inner := []) (ok := (fun k_ => (P0_ k_ ∨ w.heap.size ≤ k_) ∧ some k_ ≠ (v151 : Value).ownBlock)) (okp := (fun k_ => (P0_ k_ ∨ w.heap.size ≤ k_) ∧ some k_ ≠ (v151 : Value).ownBlock)) ?hr ?hp (fun _ hk => hk) ((show ∀ k_, w3.heap.size ≤ k_ → (fun k_ => (P0_ k_ ∨ w.heap.size ≤ k_) ∧ some k_ ≠ (v151 : Value).ownBlock) k_ from fun k_ hk => ⟨(.inr (Nat.le_trans (qM (by repeat (first | (with_reducible first | exact HB.out | apply qA | apply q9 | apply qB) | exact HB.out))) hk)), Kd.fresh' (Kd.jw0 (by (with_reducible repeat (first | apply Kd.jC | apply Kd.jD | apply Kd.jG)); exact qW3.out)) k_ hk⟩) _ (Nat.le_refl _)) (Below.refl _ _) (Nat.le_refl _) (by simp) ?_; (case hd => rfl); (case hg => rfl); (case hr => first | (go_simp; done) | (go_simp; rfl)); (case hp => exact (qd6.none _ _)); intro v154 w5 ho6 hb hg_ qA3; clear hg_ qA3; (first | rw [← zS4.out] at ho6 | (simp only [Int.reduceToNat] at ho6; rw [← zS4.out] at ho6)); have n0_ := q8.mk (Kd.qq5 (by (with_reducible repeat (first | apply Kd.jO | apply Kd.jP | apply Kd.z8)); exact HO0.out) (Kd.qA4 ho6) hb); have n1_ := q8.mk (Kd.qq6 (by (with_reducible repeat (first | apply Kd.jC | apply Kd.jD | apply Kd.jG)); exact qW3.out) (Kd.qA4 ho6) hb); have n2_ := q8.mk (Kd.qW2 ho6 (qM (by repeat (first | (with_reducible first | exact HB.out | apply qA | apply q9 | apply qB) | exact HB.out)))); have n3_ := q8.mk (jM (by repeat (first | (with_reducible first | exact HB.out | apply qA | apply q9 | apply qB) | exact HB.out)) hb); clear HO0; clear qW3; clear HB; have HO0 := n0_; have qW3 := n1_; have zS5 := n2_; have HB := n3_; clear n0_ n1_ n2_ n3_; clear hb ho6) | ((with_reducible refine ql1 (b := .append) (xs := #[.tmp 8, .tmp 9]) rfl ?_); at_builtin; refine Kd.jw1 k55 (w0 := w) w.heap.size rfl (.tmp 8) (.tmp 9) 22 55 (.agg #[(.int .i64 0), (.int .i64 0), (.int .i64 0), (.slice none 0 0)]) 48 rfl Try.underlying22 qS2 rfl (by decide) (by omega) v154 y153 l0 _ _ _ (fun k_ => (P0_ k_ ∨ w.heap.size ≤ k_) ∧ some k_ ≠ (v151 : Value).ownBlock) (fun k_ => ((fun k_ => (P0_ k_ ∨ w.heap.size ≤ k_) ∧ some k_ ≠ (v151 : Value).ownBlock)) k_ ∧ some k_ ≠ (v154 : Value).ownBlock) rfl rfl ?aO ?aR (fun _ hk => hk) ?aF ?aB ?aS ?aL ?_; (case aR => exact (by skip; exact Kd.V_F (Kd.zJ (ok' := (fun k_ => ((fun k_ => (P0_ k_ ∨ w.heap.size ≤ k_) ∧ some k_ ≠ (v151 : Value).ownBlock)) k_ ∧ some k_ ≠ (v154 : Value).ownBlock)) (HO0.out) (fun k_ hk => ⟨⟨hk.1.1, hk.1.2⟩, hk.2⟩)))); (case aB => exact (by repeat (first | (with_reducible first | exact HB.out | apply qA | apply q9 | apply qB) | exact HB.out))); (case aF => exact (fun k_ hk => ⟨(.inr (Nat.le_trans (qM (by repeat (first | (with_reducible first | exact HB.out | apply qA | apply q9 | apply qB) | exact HB.out))) hk)), Kd.fresh' (Kd.jw0 (by (with_reducible repeat (first | apply Kd.jC | apply Kd.jD | apply Kd.jG)); exact qW3.out)) k_ hk⟩)); (case aO => exact (by (with_reducible repeat (first | apply Kd.jC | apply Kd.jD | apply Kd.jG)); exact zS5.out)); (case aS => exact (qM (by repeat (first | (with_reducible first | exact HB.out | apply qA | apply q9 | apply qB) | exact HB.out)))); (case aL => have := LMc2.out; omega); intro v157 w7 ho hb hg hat; rw [← Qi3.out] at ho; have n0_ := q8.mk (Kd.qm6 (ok := (fun k_ => (P0_ k_ ∨ w.heap.size ≤ k_) ∧ some k_ ≠ (v151 : Value).ownBlock)) (by (with_reducible repeat (first | apply Kd.jO | apply Kd.jP | apply Kd.z8)); exact HO0.out) hg hat); have n1_ := q8.mk (Kd.qo5 (ok := (fun k_ => (P0_ k_ ∨ w.heap.size ≤ k_))) (by (with_reducible repeat (first | apply Kd.jC | apply Kd.jD | apply Kd.jG)); exact qW3.out) hg hat); have n2_ := q8.mk (hb); have n3_ := q8.mk (ho); clear HO0; clear qW3; clear HB; clear zS5; have HO0 := n0_; have qW3 := n1_; have HB := n2_; have Qi4 := n3_; clear n0_ n1_ n2_ n3_; clear ho hb hg hat))
  go_loopg [3, 4] k (fun kq v3 v4 w' => ∃ (qk2 : List (S55)) (zA : List (S55)), q8 (qF.l0 kq qk2 zA = some r) ∧ q8 (kq ≤ k) ∧ q8 (Kd.N k55 55 w' w.heap.size (fun k_ => (P0_ k_ ∨ w.heap.size ≤ k_) ∧ some k_ ≠ (v4 : Value).ownBlock) v3 qk2) ∧ q8 (Kd.N k55 55 w' w.heap.size (fun k_ => (P0_ k_ ∨ w.heap.size ≤ k_) ∧ some k_ ≠ (v3 : Value).ownBlock) v4 zA) ∧ q8 (Below w.heap.size w w'))
  case atStart => exact ⟨(y150), (y156), H', ⟨Nat.le_refl _⟩, ⟨by (with_reducible repeat (first | apply Kd.jC | apply Kd.jD | apply Kd.jG)); exact qW3.out⟩, ⟨by (with_reducible repeat (first | apply Kd.jC | apply Kd.jD | apply Kd.jG)); exact Qi4.out⟩, ⟨by repeat (first | (with_reducible first | exact HB.out | apply qA | apply q9 | apply qB) | exact HB.out)⟩⟩
  case round =>
   clear H'
   try clear c2
   try clear p2
   try clear c4
   obtain ⟨qk2, zA, HA, HK1, qa5, qV, HB⟩ := hrel
   cases gk with
   | zero => exact absurd HA.out (by simp [qF.l0])
   | succ k1 =>
    have H := HA.out
    clear HA
    simp only [qF.l0] at H
    by_cases c8 : (zA.length : Int) > 0
    ·rw [if_pos c8] at H
     have qS3 : decide (0 < (zA.length : Int)) = true := decide_eq_true c8
     have c8b1 : decide (0 < zA.length) = true := decide_eq_true (by omega)
     clear c8
     have H' := q8.mk H
     clear H
     obtain ⟨Ao9, co9, eo9⟩ := Kd.qO3 qV.out
     subst eo9
     go_wp2
     go_loopg [5, 6] k1 (fun kq v5 v6 w' => ∃ (zN : Int) (qe3 : Int), v5 = .int .i64 zN ∧ v6 = .int .i64 qe3 ∧ q8 (qF.l1 kq qk2 zA zN qe3 = some r) ∧ q8 (kq ≤ k1) ∧ q8 (Kd.N k55 55 w' w.heap.size (fun k_ => (P0_ k_ ∨ w.heap.size ≤ k_) ∧ some k_ ≠ ((.slice Ao9 zA.length co9) : Value).ownBlock) u3 qk2) ∧ q8 (Kd.N k55 55 w' w.heap.size (fun k_ => (P0_ k_ ∨ w.heap.size ≤ k_) ∧ some k_ ≠ (u3 : Value).ownBlock) (.slice Ao9 zA.length co9) zA) ∧ q8 (Below w.heap.size w w'))
     case atStart => exact ⟨(0), (0), (by first | rfl | (simp; done) | (simp [*]; done)), (by first | rfl | (simp; done) | (simp [*]; done)), H', ⟨Nat.le_refl _⟩, ⟨by (with_reducible repeat (first | apply Kd.jC | apply Kd.jD | apply Kd.jG)); exact qa5.out⟩, ⟨by (with_reducible repeat (first | apply Kd.jC | apply Kd.jD | apply Kd.jG)); exact qV.out⟩, ⟨by repeat (first | (with_reducible first | exact HB.out | apply qA | apply q9 | apply qB) | exact HB.out)⟩⟩
     case round =>
      clear H'
      try clear c2
      try clear p2
      try clear c4
      try clear c8
      try clear qS3
      try clear c8b1
      try clear p2
      obtain ⟨zN, qe3, rfl, rfl, HA, HK2, qa5, qV, HB⟩ := hrel
      cases gk with
      | zero => exact absurd HA.out (by simp [qF.l1])
      | succ k2 =>
       have H := HA.out
       clear HA
       simp only [qF.l1] at H
       by_cases c10 : qe3 < (zA.length : Int)
       ·rw [if_pos c10] at H
        have qL9 : decide (qe3 < (zA.length : Int)) = true := decide_eq_true c10
        clear c10
        by_cases c11 : 0 ≤ qe3
        ·rw [if_pos c11] at H
         have jy5 : decide (0 ≤ qe3) = true := decide_eq_true c11
         clear c11
         by_cases c12 : 0 ≤ zN
         ·rw [if_pos c12] at H
          have qE7 : decide (0 ≤ zN) = true := decide_eq_true c12
          clear c12
          by_cases c13 : zN < (zA.length : Int)
          ·rw [if_pos c13] at H
           have zS6 : decide (zN < (zA.length : Int)) = true := decide_eq_true c13
           clear c13
           by_cases c14 : ((qD zA qe3).f1) < ((qD zA zN).f1)
           ·rw [if_pos c14] at H
            have qW4 : decide (((qD zA qe3).f1) < ((qD zA zN).f1)) = true := decide_eq_true c14
            clear c14
            have H' := q8.mk H
            clear H
            try go_wp2
            have n0_ := q8.mk (Kd.jG qa5.out)
            have n1_ := q8.mk (Kd.jG qV.out)
            have n2_ := q8.mk (qB HB.out)
            clear qa5
            clear qV
            clear HB
            have qa5 := n0_
            have qV := n1_
            have HB := n2_
            clear n0_ n1_ n2_
            have jD0 : 0 ≤ (qe3 : Int) := of_decide_eq_true (by first | (with_reducible assumption) | assumption)
            have jD1 : qe3 < (zA.length : Int) := of_decide_eq_true (by first | (with_reducible assumption) | assumption)
            obtain ⟨qh9, jX9, jY0, zX5, qW5, qW6, qW7, qG6, qW8, qW9⟩ := qa6 (Kd.zW qV.out).2.2 qe3 jD0 jD1
            cases zX5
            obtain ⟨Qi5, jY1, jY2, jn6⟩ := Kd.qE8 qV.out z55 qe3 jD0 (by first | exact jD1 | exact of_decide_eq_true (by first | (with_reducible assumption) | assumption) | (have e_ := (Kd.zW qV.out).1; omega))
            obtain ⟨zG3, zG4, rfl, qG7, qG8⟩ := qh7 jY2
            have qy9 := jn6 3 _ rfl
            rw [zO _ _ 3 (by omega)] at qy9
            replace qy9 := Option.some.inj (qy9.symm.trans qG6)
            injection qy9 with qm7 qx4 qm8
            rw [qm7] at qG8
            rw [qm8] at qG7
            have jD2 := q8.mk (show Kd.V k51 51 _ w.heap.size _ _ ((qD zA qe3).f3) from Kd.qP7 qG7 qG8)
            clear qm7 qx4 qm8 qG8 qG7
            clear jn6 jY1
            have jD3 := q8.mk qW9
            have zG5 := q8.mk qW8
            clear qW9 qW8
            replace jD0 := eq_true jD0
            replace jD1 := eq_true jD1
            have jD4 : 0 ≤ (zN : Int) := of_decide_eq_true (by first | (with_reducible assumption) | assumption)
            have jD5 : zN < (zA.length : Int) := of_decide_eq_true (by first | (with_reducible assumption) | assumption)
            obtain ⟨zu9, jY3, jY4, zX6, qX0, qX1, qX2, qG9, qX3, qX4⟩ := qa6 (Kd.zW qV.out).2.2 zN jD4 jD5
            obtain rfl : qh9 = zu9 := (by injection zX6)
            obtain ⟨Qi6, jY5, jY6, jn7⟩ := Kd.qE8 qV.out z55 zN jD4 (by first | exact jD5 | exact of_decide_eq_true (by first | (with_reducible assumption) | assumption) | (have e_ := (Kd.zW qV.out).1; omega))
            obtain ⟨zG6, zG7, rfl, qH0, qH1⟩ := qh7 jY6
            have qz0 := jn7 3 _ rfl
            rw [zO _ _ 3 (by omega)] at qz0
            replace qz0 := Option.some.inj (qz0.symm.trans qG9)
            injection qz0 with qm7 qx4 qm8
            rw [qm7] at qH1
            rw [qm8] at qH0
            have jD6 := q8.mk (show Kd.V k51 51 _ w.heap.size _ _ ((qD zA zN).f3) from Kd.qP7 qH0 qH1)
            clear qm7 qx4 qm8 qH1 qH0
            clear jn7 jY5
            have jD7 := q8.mk qX4
            have zG8 := q8.mk qX3
            clear qX4 qX3
            replace jD4 := eq_true jD4
            replace jD5 := eq_true jD5
            refine jD8 (n := 11) (S := fun w' => w'.cell? (qh9.add ((qe3).toNat * 4)) = some (.int .i64 ((qD zA qe3).f0)) ∧ w'.cell? ⟨(qh9.add ((qe3).toNat * 4)).block, (qh9.add ((qe3).toNat * 4)).off + 1, none⟩ = some (.int .i64 ((qD zA qe3).f1)) ∧ w'.cell? ⟨(qh9.add ((qe3).toNat * 4)).block, (qh9.add ((qe3).toNat * 4)).off + 2, none⟩ = some (.int .i64 ((qD zA qe3).f2)) ∧ w'.cell? ⟨(qh9.add ((qe3).toNat * 4)).block, (qh9.add ((qe3).toNat * 4)).off + 3, none⟩ = some (.slice jX9 ((qD zA qe3).f3).length jY0) ∧ w'.cell? (qh9.add ((zN).toNat * 4)) = some (.int .i64 ((qD zA zN).f0)) ∧ w'.cell? ⟨(qh9.add ((zN).toNat * 4)).block, (qh9.add ((zN).toNat * 4)).off + 1, none⟩ = some (.int .i64 ((qD zA zN).f1)) ∧ w'.cell? ⟨(qh9.add ((zN).toNat * 4)).block, (qh9.add ((zN).toNat * 4)).off + 2, none⟩ = some (.int .i64 ((qD zA zN).f2)) ∧ w'.cell? ⟨(qh9.add ((zN).toNat * 4)).block, (qh9.add ((zN).toNat * 4)).off + 3, none⟩ = some (.slice jY3 ((qD zA zN).f3).length jY4)) (ds := []) #[false, false, false, false, false, false, false, false, false, false, false] (by kernel_rfl) rfl rfl ⟨qW5, qW6, qW7, qG6, qX0, qX1, qX2, qG9⟩ (fun hHeld => ?_); refine qO4 qF.tab8 qF.zS2 (fun HT_ HW_ => ?_)
            generalize wr.drew = w15 at qa5 qV HB jD2 jD6 jD3 jD7 qW5 qW6 qW7 qG6 qX0 qX1 qX2 qG9 hHeld ⊢
            refine qf0 (i := 0) (N := some 20) (v := ?_) (a' := ?_) #[true, false, false, false, false, false, false, false, false, false, false] rfl rfl (qb3 HT_.out (by kernel_rfl)) (fun _ _ _ h => h) (Or.inl ⟨by rfl, ?_⟩) ?_ ?_
            rotate_left
            ·intro w'
             go_simp
             with_reducible rfl
            rotate_left
            ·simp only [Act.put, List.setIfInBounds_toArray, List.set_cons_zero, List.set_cons_succ, qa1, qa3]
             rfl
            refine qf0 (i := 1) (N := some 21) (v := ?_) (a' := ?_) #[true, true, false, false, false, false, false, false, false, false, false] rfl rfl (qb3 HT_.out (by kernel_rfl)) (fun _ _ _ h => h) (Or.inl ⟨by rfl, ?_⟩) ?_ ?_
            rotate_left
            ·intro w'
             go_simp
             with_reducible rfl
            rotate_left
            ·simp only [Act.put, List.setIfInBounds_toArray, List.set_cons_zero, List.set_cons_succ, qa1, qa3]
             rfl
            refine qf0 (i := 2) (N := some 22) (v := ?_) (a' := ?_) #[true, true, true, false, false, false, false, false, false, false, false] rfl rfl (qb3 HT_.out (by kernel_rfl)) (fun _ _ _ h => h) (Or.inl ⟨by rfl, ?_⟩) ?_ ?_
            rotate_left
            ·intro w'
             go_simp
             with_reducible rfl
            rotate_left
            ·simp only [Act.put, List.setIfInBounds_toArray, List.set_cons_zero, List.set_cons_succ, qa1, qa3]
             rfl
            refine qf0 (i := 3) (N := some 23) (v := ?_) (a' := ?_) #[true, true, true, true, false, false, false, false, false, false, false] rfl rfl (qb3 HT_.out (by kernel_rfl)) (fun _ _ _ h => h) (Or.inl ⟨by rfl, ?_⟩) ?_ ?_
            rotate_left
            ·intro w'
             go_simp
             with_reducible rfl
            rotate_left
            ·simp only [Act.put, List.setIfInBounds_toArray, List.set_cons_zero, List.set_cons_succ, qa1, qa3]
             rfl
            refine qf0 (i := 5) (N := some 25) (v := ?_) (a' := ?_) #[true, true, true, true, false, true, false, false, false, false, false] rfl rfl (qb3 HT_.out (by kernel_rfl)) (fun _ _ _ h => h) (Or.inl ⟨by rfl, ?_⟩) ?_ ?_
            rotate_left
            ·intro w'
             go_simp
             with_reducible rfl
            rotate_left
            ·simp only [Act.put, List.setIfInBounds_toArray, List.set_cons_zero, List.set_cons_succ, qa1, qa3]
             rfl
            refine qf0 (i := 6) (N := some 26) (v := ?_) (a' := ?_) #[true, true, true, true, false, true, true, false, false, false, false] rfl rfl (qb3 HT_.out (by kernel_rfl)) (fun _ _ _ h => h) (Or.inl ⟨by rfl, ?_⟩) ?_ ?_
            rotate_left
            ·intro w'
             go_simp
             with_reducible rfl
            rotate_left
            ·simp only [Act.put, List.setIfInBounds_toArray, List.set_cons_zero, List.set_cons_succ, qa1, qa3]
             rfl
            refine qf0 (i := 7) (N := some 27) (v := ?_) (a' := ?_) #[true, true, true, true, false, true, true, true, false, false, false] rfl rfl (qb3 HT_.out (by kernel_rfl)) (fun _ _ _ h => h) (Or.inl ⟨by rfl, ?_⟩) ?_ ?_
            rotate_left
            ·intro w'
             go_simp
             with_reducible rfl
            rotate_left
            ·simp only [Act.put, List.setIfInBounds_toArray, List.set_cons_zero, List.set_cons_succ, qa1, qa3]
             rfl
            refine qf0 (i := 8) (N := some 28) (v := ?_) (a' := ?_) #[true, true, true, true, false, true, true, true, true, false, false] rfl rfl (qb3 HT_.out (by kernel_rfl)) (fun _ _ _ h => h) (Or.inl ⟨by rfl, ?_⟩) ?_ ?_
            rotate_left
            ·intro w'
             go_simp
             with_reducible rfl
            rotate_left
            ·simp only [Act.put, List.setIfInBounds_toArray, List.set_cons_zero, List.set_cons_succ, qa1, qa3]
             rfl
            refine jy6 (i := 4) (N := some 24) (v := ?_) (a' := ?_) #[true, true, true, true, true, true, true, true, true, false, false] rfl rfl (qE9 HT_.out HW_.out (by kernel_rfl)) (fun _ _ _ h => h) (Or.inl ⟨by rfl, ?_⟩) hHeld ?_ ?_
            rotate_left
            ·rintro w' ⟨s0, s1, s2, s3, s4, s5, s6, s7⟩
             go_simp
             with_reducible rfl
            rotate_left
            ·simp only [Act.put, List.setIfInBounds_toArray, List.set_cons_zero, List.set_cons_succ, qa1, qa3]
             rfl
            refine jy6 (i := 9) (N := some 29) (v := ?_) (a' := ?_) #[true, true, true, true, true, true, true, true, true, true, false] rfl rfl (qE9 HT_.out HW_.out (by kernel_rfl)) (fun _ _ _ h => h) (Or.inl ⟨by rfl, ?_⟩) hHeld ?_ ?_
            rotate_left
            ·rintro w' ⟨s0, s1, s2, s3, s4, s5, s6, s7⟩
             go_simp
             with_reducible rfl
            rotate_left
            ·simp only [Act.put, List.setIfInBounds_toArray, List.set_cons_zero, List.set_cons_succ, qa1, qa3]
             rfl
            refine qf0 (i := 10) (N := some 30) (v := ?_) (a' := ?_) #[true, true, true, true, true, true, true, true, true, true, true] rfl rfl (qb3 HT_.out (by kernel_rfl)) (fun _ _ _ h => h) (Or.inl ⟨by rfl, ?_⟩) ?_ ?_
            rotate_left
            ·intro w'
             go_simp
             with_reducible rfl
            rotate_left
            ·simp only [Act.put, List.setIfInBounds_toArray, List.set_cons_zero, List.set_cons_succ, qa1, qa3]
             rfl
            refine zh1 (jk0 HT_.out (by kernel_rfl)) ?_
            try go_wp2
            go_roundg k2
            case measure => have := HK1.out; have := HK2.out; omega
            case rel => exact ⟨(qe3), (wrap64 (qe3 + 1)), (by first | rfl | (simp; done) | (simp [*]; done)), (by first | rfl | (simp; done) | (simp [*]; done)), H', ⟨by have := HK1.out; have := HK2.out; omega⟩, ⟨by (with_reducible repeat (first | apply Kd.jC | apply Kd.jD | apply Kd.jG)); exact qa5.out⟩, ⟨by (with_reducible repeat (first | apply Kd.jC | apply Kd.jD | apply Kd.jG)); exact qV.out⟩, ⟨by repeat (first | (with_reducible first | exact HB.out | apply qA | apply q9 | apply qB) | exact HB.out)⟩⟩
           ·rw [if_neg c14] at H
            have qW4 : decide (((qD zA qe3).f1) < ((qD zA zN).f1)) = false := decide_eq_false c14
            clear c14
            have H' := q8.mk H
            clear H
            try go_wp2
            have n0_ := q8.mk (Kd.jG qa5.out)
            have n1_ := q8.mk (Kd.jG qV.out)
            have n2_ := q8.mk (qB HB.out)
            clear qa5
            clear qV
            clear HB
            have qa5 := n0_
            have qV := n1_
            have HB := n2_
            clear n0_ n1_ n2_
            have jD0 : 0 ≤ (qe3 : Int) := of_decide_eq_true (by first | (with_reducible assumption) | assumption)
            have jD1 : qe3 < (zA.length : Int) := of_decide_eq_true (by first | (with_reducible assumption) | assumption)
            obtain ⟨qh9, jX9, jY0, zX5, qW5, qW6, qW7, qG6, qW8, qW9⟩ := qa6 (Kd.zW qV.out).2.2 qe3 jD0 jD1
            cases zX5
            obtain ⟨Qi5, jY1, jY2, jn6⟩ := Kd.qE8 qV.out z55 qe3 jD0 (by first | exact jD1 | exact of_decide_eq_true (by first | (with_reducible assumption) | assumption) | (have e_ := (Kd.zW qV.out).1; omega))
            obtain ⟨zG3, zG4, rfl, qG7, qG8⟩ := qh7 jY2
            have qy9 := jn6 3 _ rfl
            rw [zO _ _ 3 (by omega)] at qy9
            replace qy9 := Option.some.inj (qy9.symm.trans qG6)
            injection qy9 with qm7 qx4 qm8
            rw [qm7] at qG8
            rw [qm8] at qG7
            have jD2 := q8.mk (show Kd.V k51 51 _ w.heap.size _ _ ((qD zA qe3).f3) from Kd.qP7 qG7 qG8)
            clear qm7 qx4 qm8 qG8 qG7
            clear jn6 jY1
            have jD3 := q8.mk qW9
            have zG5 := q8.mk qW8
            clear qW9 qW8
            replace jD0 := eq_true jD0
            replace jD1 := eq_true jD1
            have jD4 : 0 ≤ (zN : Int) := of_decide_eq_true (by first | (with_reducible assumption) | assumption)
            have jD5 : zN < (zA.length : Int) := of_decide_eq_true (by first | (with_reducible assumption) | assumption)
            obtain ⟨zu9, jY3, jY4, zX6, qX0, qX1, qX2, qG9, qX3, qX4⟩ := qa6 (Kd.zW qV.out).2.2 zN jD4 jD5
            obtain rfl : qh9 = zu9 := (by injection zX6)
            obtain ⟨Qi6, jY5, jY6, jn7⟩ := Kd.qE8 qV.out z55 zN jD4 (by first | exact jD5 | exact of_decide_eq_true (by first | (with_reducible assumption) | assumption) | (have e_ := (Kd.zW qV.out).1; omega))
            obtain ⟨zG6, zG7, rfl, qH0, qH1⟩ := qh7 jY6
            have qz0 := jn7 3 _ rfl
            rw [zO _ _ 3 (by omega)] at qz0
            replace qz0 := Option.some.inj (qz0.symm.trans qG9)
            injection qz0 with qm7 qx4 qm8
            rw [qm7] at qH1
            rw [qm8] at qH0
            have jD6 := q8.mk (show Kd.V k51 51 _ w.heap.size _ _ ((qD zA zN).f3) from Kd.qP7 qH0 qH1)
            clear qm7 qx4 qm8 qH1 qH0
            clear jn7 jY5
            have jD7 := q8.mk qX4
            have zG8 := q8.mk qX3
            clear qX4 qX3
            replace jD4 := eq_true jD4
            replace jD5 := eq_true jD5
            refine jD8 (n := 11) (S := fun w' => w'.cell? (qh9.add ((qe3).toNat * 4)) = some (.int .i64 ((qD zA qe3).f0)) ∧ w'.cell? ⟨(qh9.add ((qe3).toNat * 4)).block, (qh9.add ((qe3).toNat * 4)).off + 1, none⟩ = some (.int .i64 ((qD zA qe3).f1)) ∧ w'.cell? ⟨(qh9.add ((qe3).toNat * 4)).block, (qh9.add ((qe3).toNat * 4)).off + 2, none⟩ = some (.int .i64 ((qD zA qe3).f2)) ∧ w'.cell? ⟨(qh9.add ((qe3).toNat * 4)).block, (qh9.add ((qe3).toNat * 4)).off + 3, none⟩ = some (.slice jX9 ((qD zA qe3).f3).length jY0) ∧ w'.cell? (qh9.add ((zN).toNat * 4)) = some (.int .i64 ((qD zA zN).f0)) ∧ w'.cell? ⟨(qh9.add ((zN).toNat * 4)).block, (qh9.add ((zN).toNat * 4)).off + 1, none⟩ = some (.int .i64 ((qD zA zN).f1)) ∧ w'.cell? ⟨(qh9.add ((zN).toNat * 4)).block, (qh9.add ((zN).toNat * 4)).off + 2, none⟩ = some (.int .i64 ((qD zA zN).f2)) ∧ w'.cell? ⟨(qh9.add ((zN).toNat * 4)).block, (qh9.add ((zN).toNat * 4)).off + 3, none⟩ = some (.slice jY3 ((qD zA zN).f3).length jY4)) (ds := []) #[false, false, false, false, false, false, false, false, false, false, false] (by kernel_rfl) rfl rfl ⟨qW5, qW6, qW7, qG6, qX0, qX1, qX2, qG9⟩ (fun hHeld => ?_); refine qO4 qF.tab8 qF.zS2 (fun HT_ HW_ => ?_)
            generalize wr.drew = w16 at qa5 qV HB jD2 jD6 jD3 jD7 qW5 qW6 qW7 qG6 qX0 qX1 qX2 qG9 hHeld ⊢
            refine qf0 (i := 0) (N := some 20) (v := ?_) (a' := ?_) #[true, false, false, false, false, false, false, false, false, false, false] rfl rfl (qb3 HT_.out (by kernel_rfl)) (fun _ _ _ h => h) (Or.inl ⟨by rfl, ?_⟩) ?_ ?_
            rotate_left
            ·intro w'
             go_simp
             with_reducible rfl
            rotate_left
            ·simp only [Act.put, List.setIfInBounds_toArray, List.set_cons_zero, List.set_cons_succ, qa1, qa3]
             rfl
            refine qf0 (i := 1) (N := some 21) (v := ?_) (a' := ?_) #[true, true, false, false, false, false, false, false, false, false, false] rfl rfl (qb3 HT_.out (by kernel_rfl)) (fun _ _ _ h => h) (Or.inl ⟨by rfl, ?_⟩) ?_ ?_
            rotate_left
            ·intro w'
             go_simp
             with_reducible rfl
            rotate_left
            ·simp only [Act.put, List.setIfInBounds_toArray, List.set_cons_zero, List.set_cons_succ, qa1, qa3]
             rfl
            refine qf0 (i := 2) (N := some 22) (v := ?_) (a' := ?_) #[true, true, true, false, false, false, false, false, false, false, false] rfl rfl (qb3 HT_.out (by kernel_rfl)) (fun _ _ _ h => h) (Or.inl ⟨by rfl, ?_⟩) ?_ ?_
            rotate_left
            ·intro w'
             go_simp
             with_reducible rfl
            rotate_left
            ·simp only [Act.put, List.setIfInBounds_toArray, List.set_cons_zero, List.set_cons_succ, qa1, qa3]
             rfl
            refine qf0 (i := 3) (N := some 23) (v := ?_) (a' := ?_) #[true, true, true, true, false, false, false, false, false, false, false] rfl rfl (qb3 HT_.out (by kernel_rfl)) (fun _ _ _ h => h) (Or.inl ⟨by rfl, ?_⟩) ?_ ?_
            rotate_left
            ·intro w'
             go_simp
             with_reducible rfl
            rotate_left
            ·simp only [Act.put, List.setIfInBounds_toArray, List.set_cons_zero, List.set_cons_succ, qa1, qa3]
             rfl
            refine qf0 (i := 5) (N := some 25) (v := ?_) (a' := ?_) #[true, true, true, true, false, true, false, false, false, false, false] rfl rfl (qb3 HT_.out (by kernel_rfl)) (fun _ _ _ h => h) (Or.inl ⟨by rfl, ?_⟩) ?_ ?_
            rotate_left
            ·intro w'
             go_simp
             with_reducible rfl
            rotate_left
            ·simp only [Act.put, List.setIfInBounds_toArray, List.set_cons_zero, List.set_cons_succ, qa1, qa3]
             rfl
            refine qf0 (i := 6) (N := some 26) (v := ?_) (a' := ?_) #[true, true, true, true, false, true, true, false, false, false, false] rfl rfl (qb3 HT_.out (by kernel_rfl)) (fun _ _ _ h => h) (Or.inl ⟨by rfl, ?_⟩) ?_ ?_
            rotate_left
            ·intro w'
             go_simp
             with_reducible rfl
            rotate_left
            ·simp only [Act.put, List.setIfInBounds_toArray, List.set_cons_zero, List.set_cons_succ, qa1, qa3]
             rfl
            refine qf0 (i := 7) (N := some 27) (v := ?_) (a' := ?_) #[true, true, true, true, false, true, true, true, false, false, false] rfl rfl (qb3 HT_.out (by kernel_rfl)) (fun _ _ _ h => h) (Or.inl ⟨by rfl, ?_⟩) ?_ ?_
            rotate_left
            ·intro w'
             go_simp
             with_reducible rfl
            rotate_left
            ·simp only [Act.put, List.setIfInBounds_toArray, List.set_cons_zero, List.set_cons_succ, qa1, qa3]
             rfl
            refine qf0 (i := 8) (N := some 28) (v := ?_) (a' := ?_) #[true, true, true, true, false, true, true, true, true, false, false] rfl rfl (qb3 HT_.out (by kernel_rfl)) (fun _ _ _ h => h) (Or.inl ⟨by rfl, ?_⟩) ?_ ?_
            rotate_left
            ·intro w'
             go_simp
             with_reducible rfl
            rotate_left
            ·simp only [Act.put, List.setIfInBounds_toArray, List.set_cons_zero, List.set_cons_succ, qa1, qa3]
             rfl
            refine jy6 (i := 4) (N := some 24) (v := ?_) (a' := ?_) #[true, true, true, true, true, true, true, true, true, false, false] rfl rfl (qE9 HT_.out HW_.out (by kernel_rfl)) (fun _ _ _ h => h) (Or.inl ⟨by rfl, ?_⟩) hHeld ?_ ?_
            rotate_left
            ·rintro w' ⟨s0, s1, s2, s3, s4, s5, s6, s7⟩
             go_simp
             with_reducible rfl
            rotate_left
            ·simp only [Act.put, List.setIfInBounds_toArray, List.set_cons_zero, List.set_cons_succ, qa1, qa3]
             rfl
            refine jy6 (i := 9) (N := some 29) (v := ?_) (a' := ?_) #[true, true, true, true, true, true, true, true, true, true, false] rfl rfl (qE9 HT_.out HW_.out (by kernel_rfl)) (fun _ _ _ h => h) (Or.inl ⟨by rfl, ?_⟩) hHeld ?_ ?_
            rotate_left
            ·rintro w' ⟨s0, s1, s2, s3, s4, s5, s6, s7⟩
             go_simp
             with_reducible rfl
            rotate_left
            ·simp only [Act.put, List.setIfInBounds_toArray, List.set_cons_zero, List.set_cons_succ, qa1, qa3]
             rfl
            refine qf0 (i := 10) (N := some 30) (v := ?_) (a' := ?_) #[true, true, true, true, true, true, true, true, true, true, true] rfl rfl (qb3 HT_.out (by kernel_rfl)) (fun _ _ _ h => h) (Or.inl ⟨by rfl, ?_⟩) ?_ ?_
            rotate_left
            ·intro w'
             go_simp
             with_reducible rfl
            rotate_left
            ·simp only [Act.put, List.setIfInBounds_toArray, List.set_cons_zero, List.set_cons_succ, qa1, qa3]
             rfl
            refine zh1 (jk0 HT_.out (by kernel_rfl)) ?_
            try go_wp2
            go_roundg k2
            case measure => have := HK1.out; have := HK2.out; omega
            case rel => exact ⟨(zN), (wrap64 (qe3 + 1)), (by first | rfl | (simp; done) | (simp [*]; done)), (by first | rfl | (simp; done) | (simp [*]; done)), H', ⟨by have := HK1.out; have := HK2.out; omega⟩, ⟨by (with_reducible repeat (first | apply Kd.jC | apply Kd.jD | apply Kd.jG)); exact qa5.out⟩, ⟨by (with_reducible repeat (first | apply Kd.jC | apply Kd.jD | apply Kd.jG)); exact qV.out⟩, ⟨by repeat (first | (with_reducible first | exact HB.out | apply qA | apply q9 | apply qB) | exact HB.out)⟩⟩
          ·rw [if_neg c13] at H
           exact absurd H (by simp)
         ·rw [if_neg c12] at H
          exact absurd H (by simp)
        ·rw [if_neg c11] at H
         exact absurd H (by simp)
       ·rw [if_neg c10] at H
        have qL9 : decide (qe3 < (zA.length : Int)) = false := decide_eq_false c10
        clear c10
        by_cases c17 : 0 ≤ zN
        ·rw [if_pos c17] at H
         have c17b0 : decide (0 ≤ zN) = true := decide_eq_true c17
         clear c17
         by_cases c18 : zN < (zA.length : Int)
         ·rw [if_pos c18] at H
          have zS7 : decide (zN < (zA.length : Int)) = true := decide_eq_true c18
          clear c18
          by_cases c19 : qk2.length < 2932031007402
          ·rw [if_pos c19] at H
           have Qi7 := q8.mk c19
           clear c19
           obtain ⟨y162, jN7⟩ : ∃ y_ : List (S55), y_ = (qk2 ++ [(⟨(qD zA zN).f0, (qD zA zN).f1, (qD zA zN).f2, (qD zA zN).f3⟩ : S55)]) := ⟨_, rfl⟩
           replace H : ((some (([] : List (S55)) : List (S55))).bind fun y165 => (if zN ≤ (zA.length : Int) then ((some (zA.take (zN : Int).toNat : List (S55))).bind fun y168 => (if y165.length + y168.length < 2932031007402 then ((some (y165 ++ y168 : List (S55))).bind fun y173 => (if 0 ≤ (wrap64 (zN + 1)) then (if (wrap64 (zN + 1)) ≤ (zA.length : Int) then ((some (zA.drop ((wrap64 (zN + 1)) : Int).toNat : List (S55))).bind fun y176 => (if y173.length + y176.length < 2932031007402 then (qF.l0 k2 y162 (y173 ++ y176)) else (none))) else (none)) else (none))) else (none))) else (none))) = some r := by first | (rw [jN7]; with_reducible exact H) | (have H2_ := (Option.bind_some _ _).symm.trans H; rw [jN7]; with_reducible exact H2_) | (have H2_ := (Option.bind_some _ _).symm.trans H; with_reducible exact H2_) | with_reducible exact H | (rw [jN7]; exact H) | exact H
           have Qi8 := q8.mk jN7
           clear jN7
           obtain ⟨y165, jN8⟩ : ∃ y_ : List (S55), y_ = (([] : List (S55))) := ⟨_, rfl⟩
           replace H : (if zN ≤ (zA.length : Int) then ((some (zA.take (zN : Int).toNat : List (S55))).bind fun y168 => (if y165.length + y168.length < 2932031007402 then ((some (y165 ++ y168 : List (S55))).bind fun y173 => (if 0 ≤ (wrap64 (zN + 1)) then (if (wrap64 (zN + 1)) ≤ (zA.length : Int) then ((some (zA.drop ((wrap64 (zN + 1)) : Int).toNat : List (S55))).bind fun y176 => (if y173.length + y176.length < 2932031007402 then (qF.l0 k2 y162 (y173 ++ y176)) else (none))) else (none)) else (none))) else (none))) else (none)) = some r := by first | (rw [jN8]; with_reducible exact H) | (have H2_ := (Option.bind_some _ _).symm.trans H; rw [jN8]; with_reducible exact H2_) | (have H2_ := (Option.bind_some _ _).symm.trans H; with_reducible exact H2_) | with_reducible exact H | (rw [jN8]; exact H) | exact H
           have zS8 := q8.mk jN8
           clear jN8
           have Qi9 := eq_true (of_decide_eq_true (by first | (with_reducible assumption) | assumption) : 0 ≤ zN)
           by_cases c21 : zN ≤ (zA.length : Int)
           ·rw [if_pos c21] at H
            have Qj0 := eq_true c21
            have c21b1 : decide (zN ≤ (zA.length : Int)) = true := decide_eq_true c21
            clear c21
            obtain ⟨y168, hy168⟩ : ∃ y_ : List (S55), y_ = (zA.take (zN : Int).toNat) := ⟨_, rfl⟩
            replace H : (if y165.length + y168.length < 2932031007402 then ((some (y165 ++ y168 : List (S55))).bind fun y173 => (if 0 ≤ (wrap64 (zN + 1)) then (if (wrap64 (zN + 1)) ≤ (zA.length : Int) then ((some (zA.drop ((wrap64 (zN + 1)) : Int).toNat : List (S55))).bind fun y176 => (if y173.length + y176.length < 2932031007402 then (qF.l0 k2 y162 (y173 ++ y176)) else (none))) else (none)) else (none))) else (none)) = some r := by first | (rw [hy168]; with_reducible exact H) | (have H2_ := (Option.bind_some _ _).symm.trans H; rw [hy168]; with_reducible exact H2_) | (have H2_ := (Option.bind_some _ _).symm.trans H; with_reducible exact H2_) | with_reducible exact H | (rw [hy168]; exact H) | exact H
            have zS9 := q8.mk hy168
            clear hy168
            by_cases c22 : y165.length + y168.length < 2932031007402
            ·rw [if_pos c22] at H
             have Qj1 := q8.mk c22
             clear c22
             obtain ⟨y173, jN9⟩ : ∃ y_ : List (S55), y_ = (y165 ++ y168) := ⟨_, rfl⟩
             replace H : (if 0 ≤ (wrap64 (zN + 1)) then (if (wrap64 (zN + 1)) ≤ (zA.length : Int) then ((some (zA.drop ((wrap64 (zN + 1)) : Int).toNat : List (S55))).bind fun y176 => (if y173.length + y176.length < 2932031007402 then (qF.l0 k2 y162 (y173 ++ y176)) else (none))) else (none)) else (none)) = some r := by first | (rw [jN9]; with_reducible exact H) | (have H2_ := (Option.bind_some _ _).symm.trans H; rw [jN9]; with_reducible exact H2_) | (have H2_ := (Option.bind_some _ _).symm.trans H; with_reducible exact H2_) | with_reducible exact H | (rw [jN9]; exact H) | exact H
             have Qj2 := q8.mk jN9
             clear jN9
             obtain ⟨qK8, zv0⟩ : ∃ j_ : Int, (wrap64 (zN + 1)) = j_ := ⟨_, rfl⟩
             replace H : (if 0 ≤ (qK8) then (if (qK8) ≤ (zA.length : Int) then ((some (zA.drop ((qK8) : Int).toNat : List (S55))).bind fun y176 => (if y173.length + y176.length < 2932031007402 then (qF.l0 k2 y162 (y173 ++ y176)) else (none))) else (none)) else (none)) = some r := by first | (rw [zv0] at H; exact H) | (simp only [zv0] at H ⊢; exact H)
             have hji23w : (IntKind.i64.wrap (zN + 1)) = qK8 := (qa1 _).trans zv0
             by_cases c24 : 0 ≤ (qK8)
             ·rw [if_pos c24] at H
              have c24b0 := eq_true c24
              have c24b1 : decide (0 ≤ (qK8)) = true := decide_eq_true c24
              clear c24
              by_cases c25 : (qK8) ≤ (zA.length : Int)
              ·rw [if_pos c25] at H
               have c25b0 := eq_true c25
               have c25b1 : decide ((qK8) ≤ (zA.length : Int)) = true := decide_eq_true c25
               clear c25
               obtain ⟨y176, jO0⟩ : ∃ y_ : List (S55), y_ = (zA.drop ((qK8) : Int).toNat) := ⟨_, rfl⟩
               replace H : (if y173.length + y176.length < 2932031007402 then (qF.l0 k2 y162 (y173 ++ y176)) else (none)) = some r := by first | (rw [jO0]; with_reducible exact H) | (have H2_ := (Option.bind_some _ _).symm.trans H; rw [jO0]; with_reducible exact H2_) | (have H2_ := (Option.bind_some _ _).symm.trans H; with_reducible exact H2_) | with_reducible exact H | (rw [jO0]; exact H) | exact H
               have zT0 := q8.mk jO0
               clear jO0
               by_cases c26 : y173.length + y176.length < 2932031007402
               ·rw [if_pos c26] at H
                have Qj3 := q8.mk c26
                clear c26
                obtain ⟨y181, jO1⟩ : ∃ y_ : List (S55), y_ = (y173 ++ y176) := ⟨_, rfl⟩
                replace H : (qF.l0 k2 y162 y181) = some r := by first | (rw [jO1]; with_reducible exact H) | (have H2_ := (Option.bind_some _ _).symm.trans H; rw [jO1]; with_reducible exact H2_) | (have H2_ := (Option.bind_some _ _).symm.trans H; with_reducible exact H2_) | with_reducible exact H | (rw [jO1]; exact H) | exact H
                have Qj4 := q8.mk jO1
                clear jO1
                have H' := q8.mk H
                clear H
                have zG9 : 0 ≤ (zN : Int) := of_decide_eq_true (by first | (with_reducible assumption) | assumption)
                have zH0 : zN < (zA.length : Int) := of_decide_eq_true (by first | (with_reducible assumption) | assumption)
                obtain ⟨qs6, zX7, zX8, e161, Qq6, Qq7, Qq8, zH1, zh2, zh3⟩ := qa6 (Kd.zW qV.out).2.2 zN zG9 zH0
                cases e161
                obtain ⟨ce161, zX9, zY0, zv1⟩ := Kd.qE8 qV.out z55 zN zG9 (by first | exact zH0 | exact of_decide_eq_true (by first | (with_reducible assumption) | assumption) | (have e_ := (Kd.zW qV.out).1; omega))
                obtain ⟨Qq9, Qr0, rfl, jD9, jE0⟩ := qh7 zY0
                have jk1 := zv1 3 _ rfl
                rw [zO _ _ 3 (by omega)] at jk1
                replace jk1 := Option.some.inj (jk1.symm.trans zH1)
                injection jk1 with qm7 qx4 qm8
                rw [qm7] at jE0
                rw [qm8] at jD9
                have qi1 := q8.mk (show Kd.V k51 51 _ w.heap.size _ _ ((qD zA zN).f3) from Kd.qP7 jD9 jE0)
                clear qm7 qx4 qm8 jE0 jD9
                clear zv1 zX9
                have Qr1 := q8.mk zh3
                have Qr2 := q8.mk zh2
                clear zh3 zh2
                replace zG9 := eq_true zG9
                replace zH0 := eq_true zH0
                try go_wp2_with (first | ((with_reducible refine ql1 (b := .append) (xs := #[.tmp 32, .tmp 37]) rfl ?_); at_builtin; refine Kd.jO2 k55 (w0 := w) w.heap.size rfl (.tmp 32) (.tmp 37) 22 55 (.agg #[(.int .i64 0), (.int .i64 0), (.int .i64 0), (.slice none 0 0)]) 48 rfl Try.underlying22 qS2 rfl (by decide) (by omega) u3 qk2 (⟨(qD zA zN).f0, (qD zA zN).f1, (qD zA zN).f2, (qD zA zN).f3⟩ : S55) [.int .i64 ((qD zA zN).f0), .int .i64 ((qD zA zN).f1), .int .i64 ((qD zA zN).f2), .slice zX7 ((qD zA zN).f3).length zX8] (fun k_ => (P0_ k_ ∨ w.heap.size ≤ k_) ∧ some k_ ≠ (.slice (some qs6) zA.length co9 : Value).ownBlock) (fun k_ => ((fun k_ => (P0_ k_ ∨ w.heap.size ≤ k_) ∧ some k_ ≠ (.slice (some qs6) zA.length co9 : Value).ownBlock)) k_ ∧ some k_ ≠ (u3 : Value).ownBlock) rfl rfl ?aP (fun _ hk => hk) ?aF ?aO ?aB ?aS ?aL ?_; (case aP => exact (zh4 _ _ (⟨(qD zA zN).f0, (qD zA zN).f1, (qD zA zN).f2, (qD zA zN).f3⟩ : S55) (Kd.qo6 (Kd.zJ (ok' := (fun k_ => ((fun k_ => (P0_ k_ ∨ w.heap.size ≤ k_) ∧ some k_ ≠ (.slice (some qs6) zA.length co9 : Value).ownBlock)) k_ ∧ some k_ ≠ (u3 : Value).ownBlock)) (qi1.out) (fun k_ hk => ⟨⟨hk.1.1, hk.2⟩, hk.1.2⟩))).2.1 (Kd.V_F (Kd.zJ (ok' := (fun k_ => ((fun k_ => (P0_ k_ ∨ w.heap.size ≤ k_) ∧ some k_ ≠ (.slice (some qs6) zA.length co9 : Value).ownBlock)) k_ ∧ some k_ ≠ (u3 : Value).ownBlock)) (qi1.out) (fun k_ hk => ⟨⟨hk.1.1, hk.2⟩, hk.1.2⟩))))); (case aB => exact (by repeat (first | (with_reducible first | exact HB.out | apply qA | apply q9 | apply qB) | exact HB.out))); (case aF => exact (fun k_ hk => ⟨(.inr (Nat.le_trans (qM (by repeat (first | (with_reducible first | exact HB.out | apply qA | apply q9 | apply qB) | exact HB.out))) hk)), Kd.fresh' (Kd.jw0 (by (with_reducible repeat (first | apply Kd.jC | apply Kd.jD | apply Kd.jG)); exact qV.out)) k_ hk⟩)); (case aO => exact (by (with_reducible repeat (first | apply Kd.jC | apply Kd.jD | apply Kd.jG)); exact qa5.out)); (case aS => exact (qM (by repeat (first | (with_reducible first | exact HB.out | apply qA | apply q9 | apply qB) | exact HB.out)))); (case aL => have := Qi7.out; omega); intro v163 w27 ho hb hg hat; rw [← Qi8.out] at ho; have n0_ := q8.mk (Kd.qo5 (ok := (fun k_ => (P0_ k_ ∨ w.heap.size ≤ k_))) (by (with_reducible repeat (first | apply Kd.jC | apply Kd.jD | apply Kd.jG)); exact qV.out) hg hat); have n1_ := q8.mk (Kd.qm6 (ok := (fun k_ => (P0_ k_ ∨ w.heap.size ≤ k_) ∧ some k_ ≠ (.slice (some qs6) zA.length co9 : Value).ownBlock)) (by (with_reducible repeat (first | apply Kd.jO | apply Kd.jP | apply Kd.z8)); exact Kd.zJ qi1.out (fun _ hk => ⟨⟨hk.1.1, hk.2⟩, hk.1.2⟩)) hg hat); have n2_ := q8.mk (hb); have n3_ := q8.mk (ho); clear qV; clear qi1; clear HB; clear qa5; have qV := n0_; have qi1 := n1_; have HB := n2_; have qw1 := n3_; clear n0_ n1_ n2_ n3_; clear ho hb hg hat))
                have n0_ := q8.mk (Kd.jG qV.out)
                have n1_ := q8.mk (Kd.z8 qi1.out)
                have n2_ := q8.mk (Kd.jG qw1.out)
                have n3_ := q8.mk (qB HB.out)
                clear qV
                clear qi1
                clear qw1
                clear HB
                have qV := n0_
                have qi1 := n1_
                have qw1 := n2_
                have HB := n3_
                clear n0_ n1_ n2_ n3_
                have q29 : (zN : Int) ≤ ((zA.length : Int) : Int) := of_decide_eq_true (by first | (with_reducible assumption) | assumption)
                obtain ⟨i029, zT1, _, Qj5, _⟩ := info_parts qS2
                have zh5 : zA.length ≤ co9 := (Kd.zW qV.out).2.1
                have hC29 : Kd.F k55 _ _ (some qs6) zA.length zA := (Kd.zn6 (base := w.heap.size) (Kd.N_V qV.out)).2.2
                have zY1 := zY2 (P := Try.prog) 22 55 .i64 Try.underlying22 zT1 (some qs6) zA.length co9 zN (of_decide_eq_true (by first | (with_reducible assumption) | assumption)) q29 zh5
                have zY3 := Kd.zY4 (m := (zN : Int).toNat) hC29 (by omega)
                have hy29 : y168.length = (zN : Int).toNat := (by rw [zS9.out, List.length_take]; omega)
                rw [← zS9.out] at zY3
                rw [← hy29] at zY1
                have qM0 := q8.mk (show Kd.V k55 55 _ w.heap.size _ (.slice (some qs6) y168.length co9) y168 from Kd.qP7 (by omega) zY3)
                have HC172 := q8.mk (show y168.length ≤ co9 from by omega)
                clear zY3 hC29 zh5 zT1 Qj5
                have KY29 := q8.mk hy29
                clear hy29
                replace q29 := eq_true q29
                have q30 : ((qK8) : Int) ≤ ((zA.length : Int) : Int) := of_decide_eq_true (by first | (with_reducible assumption) | assumption)
                obtain ⟨i030, zT2, _, zT3, _⟩ := info_parts qS2
                have jk2 : zA.length ≤ co9 := (Kd.zW qV.out).2.1
                have hC30 : Kd.F k55 _ _ (some qs6) zA.length zA := (Kd.zn6 (base := w.heap.size) (Kd.N_V qV.out)).2.2
                have q030 : (0 : Int) ≤ ((qK8) : Int) := of_decide_eq_true (by first | (with_reducible assumption) | assumption)
                have zY5 := zv2 (P := Try.prog) 22 55 .i64 Try.underlying22 zT2 4 zT3 (some qs6) zA.length co9 (qK8) q030 q30
                have zv3 := Kd.Qj6 (m := ((qK8) : Int).toNat) (c := co9) hC30 (by omega) jk2
                obtain ⟨A30, zH2⟩ : ∃ A1, A1 = (if co9 = ((qK8) : Int).toNat then (some qs6) else ((some qs6) : Option Addr).map (·.add (((qK8) : Int).toNat * 4))) := ⟨_, rfl⟩
                obtain ⟨c30, zH3⟩ : ∃ c1, c1 = co9 - ((qK8) : Int).toNat := ⟨_, rfl⟩
                have zv4 : y176.length = zA.length - ((qK8) : Int).toNat := (by rw [zT0.out, List.length_drop] <;> omega)
                rw [show (zA).drop ((qK8) : Int).toNat = y176 from zT0.out.symm] at zv3
                replace zv3 : Kd.F k55 _ _ A30 y176.length y176 := (by rw [zH2]; exact zv3)
                rw [← zv4, ← zH2, ← zH3] at zY5
                have qM1 := q8.mk (show Kd.V k55 55 _ w.heap.size _ (.slice A30 y176.length c30) y176 from Kd.qP7 (by rw [zv4, zH3]; exact Nat.sub_le_sub_right jk2 _) zv3)
                have HC180 := q8.mk (show y176.length ≤ c30 from by rw [zv4, zH3]; exact Nat.sub_le_sub_right jk2 _)
                clear zv3 hC30 jk2 zT2 zT3 zH3
                have KY30 := q8.mk zv4
                have KA30 := q8.mk zH2
                clear zv4 zH2
                replace q30 := eq_true q30
                refine jD8 (n := 11) (S := fun w' => True) (ds := []) #[false, false, false, false, false, false, false, false, false, false, false] (by kernel_rfl) rfl rfl trivial (fun hHeld => ?_); refine qO4 qF.Qi2 qF.zX4 (fun HT_ HW_ => ?_)
                generalize w27.drew = w28 at qV qi1 qw1 HB qM0 qM1 hHeld ⊢
                refine qf0 (i := 1) (N := some 40) (v := ?_) (a' := ?_) #[false, true, false, false, false, false, false, false, false, false, false] rfl rfl (qb3 HT_.out (by kernel_rfl)) (fun _ _ _ h => h) (Or.inl ⟨by rfl, ?_⟩) ?_ ?_
                rotate_left
                ·intro w'
                 go_simp
                 with_reducible rfl
                rotate_left
                ·simp only [Act.put, List.setIfInBounds_toArray, List.set_cons_zero, List.set_cons_succ, qa1, qa3]
                 rfl
                refine qf0 (i := 2) (N := some 41) (v := ?_) (a' := ?_) #[false, true, true, false, false, false, false, false, false, false, false] rfl rfl (qb3 HT_.out (by kernel_rfl)) (fun _ _ _ h => h) (Or.inl ⟨by rfl, ?_⟩) ?_ ?_
                rotate_left
                ·intro w'
                 go_simp
                 with_reducible rfl
                rotate_left
                ·simp only [Act.put, List.setIfInBounds_toArray, List.set_cons_zero, List.set_cons_succ, qa1, qa3]
                 rfl
                refine qf0 (i := 3) (N := some 42) (v := ?_) (a' := ?_) #[false, true, true, true, false, false, false, false, false, false, false] rfl rfl (qb3 HT_.out (by kernel_rfl)) (fun _ _ _ h => h) (Or.inl ⟨by rfl, ?_⟩) ?_ ?_
                rotate_left
                ·intro w'
                 go_simp
                 with_reducible rfl
                rotate_left
                ·simp only [Act.put, List.setIfInBounds_toArray, List.set_cons_zero, List.set_cons_succ, qa1, qa3]
                 rfl
                refine qf0 (i := 5) (N := some 44) (v := ?_) (a' := ?_) #[false, true, true, true, false, true, false, false, false, false, false] rfl rfl (qb3 HT_.out (by kernel_rfl)) (fun _ _ _ h => h) (Or.inl ⟨by rfl, ?_⟩) ?_ ?_
                rotate_left
                ·intro w'
                 go_simp
                 with_reducible rfl
                rotate_left
                ·simp only [Act.put, List.setIfInBounds_toArray, List.set_cons_zero, List.set_cons_succ, qa1, qa3]
                 rfl
                refine qf0 (i := 6) (N := some 45) (v := ?_) (a' := ?_) #[false, true, true, true, false, true, true, false, false, false, false] rfl rfl (qb3 HT_.out (by kernel_rfl)) (fun _ _ _ h => h) (Or.inl ⟨by rfl, ?_⟩) ?_ ?_
                rotate_left
                ·intro w'
                 go_simp
                 with_reducible rfl
                rotate_left
                ·simp only [Act.put, List.setIfInBounds_toArray, List.set_cons_zero, List.set_cons_succ, qa1, qa3]
                 rfl
                refine qf0 (i := 7) (N := some 46) (v := ?_) (a' := ?_) #[false, true, true, true, false, true, true, true, false, false, false] rfl rfl (qb3 HT_.out (by kernel_rfl)) (fun _ _ _ h => h) (Or.inl ⟨by rfl, ?_⟩) ?_ ?_
                rotate_left
                ·intro w'
                 go_simp
                 with_reducible rfl
                rotate_left
                ·simp only [Act.put, List.setIfInBounds_toArray, List.set_cons_zero, List.set_cons_succ, qa1, qa3]
                 rfl
                refine qf0 (i := 8) (N := some 47) (v := ?_) (a' := ?_) #[false, true, true, true, false, true, true, true, true, false, false] rfl rfl (qb3 HT_.out (by kernel_rfl)) (fun _ _ _ h => h) (Or.inl ⟨by rfl, ?_⟩) ?_ ?_
                rotate_left
                ·intro w'
                 go_simp
                 with_reducible rfl
                rotate_left
                ·simp only [Act.put, List.setIfInBounds_toArray, List.set_cons_zero, List.set_cons_succ, qa1, qa3]
                 rfl
                refine jO3 (i := 0) (N := some 39) #[true, true, true, true, false, true, true, true, true, false, false] rfl rfl (qM2 HT_.out (by kernel_rfl)) (by decide) (fun K hK => ?_)
                refine Kd.jY7 k55 _ 55 ?hg (N' := 39) ?hd (xs := ([] : List (S55))) (inner := []) (ok := (fun k_ => (P0_ k_ ∨ w.heap.size ≤ k_) ∧ some k_ ≠ (.slice (some qs6) zA.length co9 : Value).ownBlock ∧ some k_ ≠ (v163 : Value).ownBlock)) (okp := (fun k_ => (P0_ k_ ∨ w.heap.size ≤ k_) ∧ some k_ ≠ (.slice (some qs6) zA.length co9 : Value).ownBlock ∧ some k_ ≠ (v163 : Value).ownBlock)) ?hr ?hp (fun _ hk => hk) ((show ∀ k_, w28.heap.size ≤ k_ → (fun k_ => (P0_ k_ ∨ w.heap.size ≤ k_) ∧ some k_ ≠ (.slice (some qs6) zA.length co9 : Value).ownBlock ∧ some k_ ≠ (v163 : Value).ownBlock) k_ from fun k_ hk => ⟨(.inr (Nat.le_trans (qM (by repeat (first | (with_reducible first | exact HB.out | apply qA | apply q9 | apply qB) | exact HB.out))) hk)), Kd.fresh' (Kd.jw0 (by (with_reducible repeat (first | apply Kd.jC | apply Kd.jD | apply Kd.jG)); exact qV.out)) k_ hk, Kd.fresh' (Kd.jw0 (by (with_reducible repeat (first | apply Kd.jC | apply Kd.jD | apply Kd.jG)); exact qw1.out)) k_ hk⟩) _ (Nat.le_refl _)) (Below.refl _ _) (Nat.le_refl _) (by simp) ?_; (case hd => rfl); (case hg => rfl); (case hr => first | (go_simp; done) | (go_simp; rfl)); (case hp => exact (qd6.none _ _))
                intro v166 w31 jw2 hb hg_ qA3
                clear hg_ qA3
                (first | rw [← zS8.out] at jw2 | (simp only [Int.reduceToNat] at jw2; rw [← zS8.out] at jw2))
                have n0_ := q8.mk (Kd.qq6 (by (with_reducible repeat (first | apply Kd.jC | apply Kd.jD | apply Kd.jG)); exact qV.out) (Kd.qA4 jw2) hb)
                have n1_ := q8.mk (Kd.qq5 (by (with_reducible repeat (first | apply Kd.jO | apply Kd.jP | apply Kd.z8)); exact qi1.out) (Kd.qA4 jw2) hb)
                have n2_ := q8.mk (Kd.qq6 (by (with_reducible repeat (first | apply Kd.jC | apply Kd.jD | apply Kd.jG)); exact qw1.out) (Kd.qA4 jw2) hb)
                have n3_ := q8.mk (Kd.qq5 (by (with_reducible repeat (first | apply Kd.jO | apply Kd.jP | apply Kd.z8)); exact qM0.out) (Kd.qA4 jw2) hb)
                have n4_ := q8.mk (Kd.qq5 (by (with_reducible repeat (first | apply Kd.jO | apply Kd.jP | apply Kd.z8)); exact qM1.out) (Kd.qA4 jw2) hb)
                have n5_ := q8.mk (Kd.qW2 jw2 (qM (by repeat (first | (with_reducible first | exact HB.out | apply qA | apply q9 | apply qB) | exact HB.out))))
                have n6_ := q8.mk (jM (by repeat (first | (with_reducible first | exact HB.out | apply qA | apply q9 | apply qB) | exact HB.out)) hb)
                clear qV
                clear qi1
                clear qw1
                clear qM0
                clear qM1
                clear HB
                have qV := n0_
                have qi1 := n1_
                have qw1 := n2_
                have qM0 := n3_
                have qM1 := n4_
                have zT4 := n5_
                have HB := n6_
                clear n0_ n1_ n2_ n3_ n4_ n5_ n6_
                clear hb jw2
                refine hK.out _ _ trivial (fun hHeld => ?_)
                clear hK K
                refine qA5 (a' := ?_) ?_ ?_
                rotate_left
                ·show Act.put _ (some 39) _ = _
                 simp only [Act.put, List.setIfInBounds_toArray, List.set_cons_zero, List.set_cons_succ, qa1, qa3]
                 rfl
                refine jO3 (i := 4) (N := some 43) #[true, true, true, true, true, true, true, true, true, false, false] rfl rfl (qM2 HT_.out (by kernel_rfl)) (by decide) (fun K hK => ?_)
                refine Kd.qA6 k55 (w0 := w) w.heap.size (by rfl) (.tmp 39) (.tmp 42) 22 55 (.agg #[(.int .i64 0), (.int .i64 0), (.int .i64 0), (.slice none 0 0)]) 48 rfl Try.underlying22 qS2 rfl (by decide) (by omega) v166 y165 y168 _ _ _ (fun k_ => (P0_ k_ ∨ w.heap.size ≤ k_) ∧ some k_ ≠ (v163 : Value).ownBlock) (fun k_ => ((fun k_ => (P0_ k_ ∨ w.heap.size ≤ k_) ∧ some k_ ≠ (v163 : Value).ownBlock)) k_ ∧ some k_ ≠ (v166 : Value).ownBlock) rfl rfl ?aO ?aR (fun _ hk => hk) ?aF ?aB ?aS ?aL ?_
                (case aR => exact (by skip; exact Kd.V_F (Kd.zJ (ok' := (fun k_ => ((fun k_ => (P0_ k_ ∨ w.heap.size ≤ k_) ∧ some k_ ≠ (v163 : Value).ownBlock)) k_ ∧ some k_ ≠ (v166 : Value).ownBlock)) (qM0.out) (fun k_ hk => ⟨⟨hk.1.1, hk.1.2⟩, hk.2⟩))))
                (case aB => exact (by repeat (first | (with_reducible first | exact HB.out | apply qA | apply q9 | apply qB) | exact HB.out)))
                (case aF => exact (fun k_ hk => ⟨(.inr (Nat.le_trans (qM (by repeat (first | (with_reducible first | exact HB.out | apply qA | apply q9 | apply qB) | exact HB.out))) hk)), Kd.fresh' (Kd.jw0 (by (with_reducible repeat (first | apply Kd.jC | apply Kd.jD | apply Kd.jG)); exact qw1.out)) k_ hk⟩))
                (case aO => exact (by (with_reducible repeat (first | apply Kd.jC | apply Kd.jD | apply Kd.jG)); exact Kd.jZ zT4.out (fun _ hk => ⟨hk.1, hk.2.2⟩)))
                (case aS => exact (qM (by repeat (first | (with_reducible first | exact HB.out | apply qA | apply q9 | apply qB) | exact HB.out))))
                (case aL => have := Qj1.out; omega)
                intro v174 w33 ho hb hg hat
                rw [← Qj2.out] at ho
                have n0_ := q8.mk (Kd.qo5 (ok := (fun k_ => (P0_ k_ ∨ w.heap.size ≤ k_) ∧ some k_ ≠ (v163 : Value).ownBlock)) (by (with_reducible repeat (first | apply Kd.jC | apply Kd.jD | apply Kd.jG)); exact qV.out) hg hat)
                have n1_ := q8.mk (Kd.qm6 (ok := (fun k_ => (P0_ k_ ∨ w.heap.size ≤ k_) ∧ some k_ ≠ (.slice (some qs6) zA.length co9 : Value).ownBlock ∧ some k_ ≠ (v163 : Value).ownBlock)) (by (with_reducible repeat (first | apply Kd.jO | apply Kd.jP | apply Kd.z8)); exact Kd.zJ qi1.out (fun _ hk => ⟨⟨hk.1.1.1, ⟨hk.1.1.2, hk.1.2⟩⟩, hk.2⟩)) hg hat)
                have n2_ := q8.mk (Kd.qo5 (ok := (fun k_ => (P0_ k_ ∨ w.heap.size ≤ k_) ∧ some k_ ≠ (.slice (some qs6) zA.length co9 : Value).ownBlock)) (by (with_reducible repeat (first | apply Kd.jC | apply Kd.jD | apply Kd.jG)); exact qw1.out) hg hat)
                have n3_ := q8.mk (Kd.qm6 (ok := (fun k_ => (P0_ k_ ∨ w.heap.size ≤ k_) ∧ some k_ ≠ (v163 : Value).ownBlock)) (by (with_reducible repeat (first | apply Kd.jO | apply Kd.jP | apply Kd.z8)); exact qM0.out) hg hat)
                have n4_ := q8.mk (Kd.qm6 (ok := (fun k_ => (P0_ k_ ∨ w.heap.size ≤ k_) ∧ some k_ ≠ (v163 : Value).ownBlock)) (by (with_reducible repeat (first | apply Kd.jO | apply Kd.jP | apply Kd.z8)); exact qM1.out) hg hat)
                have n5_ := q8.mk (hb)
                have n6_ := q8.mk (ho)
                clear qV
                clear qi1
                clear qw1
                clear qM0
                clear qM1
                clear HB
                clear zT4
                have qV := n0_
                have qi1 := n1_
                have qw1 := n2_
                have qM0 := n3_
                have qM1 := n4_
                have HB := n5_
                have zT5 := n6_
                clear n0_ n1_ n2_ n3_ n4_ n5_ n6_
                clear ho hb hg hat
                refine hK.out _ _ trivial (fun hHeld => ?_)
                clear hK K
                refine qA5 (a' := ?_) ?_ ?_
                rotate_left
                ·show Act.put _ (some 43) _ = _
                 simp only [Act.put, List.setIfInBounds_toArray, List.set_cons_zero, List.set_cons_succ, qa1, qa3]
                 rfl
                refine jO3 (i := 9) (N := some 48) #[true, true, true, true, true, true, true, true, true, true, false] rfl rfl (qM2 HT_.out (by kernel_rfl)) (by decide) (fun K hK => ?_)
                refine Kd.qA6 k55 (w0 := w) w.heap.size (by rfl) (.tmp 43) (.tmp 47) 22 55 (.agg #[(.int .i64 0), (.int .i64 0), (.int .i64 0), (.slice none 0 0)]) 48 rfl Try.underlying22 qS2 rfl (by decide) (by omega) v174 y173 y176 _ _ _ (fun k_ => (P0_ k_ ∨ w.heap.size ≤ k_) ∧ some k_ ≠ (v163 : Value).ownBlock) (fun k_ => ((fun k_ => (P0_ k_ ∨ w.heap.size ≤ k_) ∧ some k_ ≠ (v163 : Value).ownBlock)) k_ ∧ some k_ ≠ (v174 : Value).ownBlock) rfl rfl ?aO ?aR (fun _ hk => hk) ?aF ?aB ?aS ?aL ?_
                (case aR => exact (by skip; exact Kd.V_F (Kd.zJ (ok' := (fun k_ => ((fun k_ => (P0_ k_ ∨ w.heap.size ≤ k_) ∧ some k_ ≠ (v163 : Value).ownBlock)) k_ ∧ some k_ ≠ (v174 : Value).ownBlock)) (qM1.out) (fun k_ hk => ⟨⟨hk.1.1, hk.1.2⟩, hk.2⟩))))
                (case aB => exact (by repeat (first | (with_reducible first | exact HB.out | apply qA | apply q9 | apply qB) | exact HB.out)))
                (case aF => exact (fun k_ hk => ⟨(.inr (Nat.le_trans (qM (by repeat (first | (with_reducible first | exact HB.out | apply qA | apply q9 | apply qB) | exact HB.out))) hk)), Kd.fresh' (Kd.jw0 (by (with_reducible repeat (first | apply Kd.jC | apply Kd.jD | apply Kd.jG)); exact qw1.out)) k_ hk⟩))
                (case aO => exact (by (with_reducible repeat (first | apply Kd.jC | apply Kd.jD | apply Kd.jG)); exact zT5.out))
                (case aS => exact (qM (by repeat (first | (with_reducible first | exact HB.out | apply qA | apply q9 | apply qB) | exact HB.out))))
                (case aL => have := Qj3.out; omega)
                intro v182 w34 ho hb hg hat
                rw [← Qj4.out] at ho
                have n0_ := q8.mk (Kd.qo5 (ok := (fun k_ => (P0_ k_ ∨ w.heap.size ≤ k_) ∧ some k_ ≠ (v163 : Value).ownBlock)) (by (with_reducible repeat (first | apply Kd.jC | apply Kd.jD | apply Kd.jG)); exact qV.out) hg hat)
                have n1_ := q8.mk (Kd.qm6 (ok := (fun k_ => (P0_ k_ ∨ w.heap.size ≤ k_) ∧ some k_ ≠ (.slice (some qs6) zA.length co9 : Value).ownBlock ∧ some k_ ≠ (v163 : Value).ownBlock)) (by (with_reducible repeat (first | apply Kd.jO | apply Kd.jP | apply Kd.z8)); exact qi1.out) hg hat)
                have n2_ := q8.mk (Kd.qo5 (ok := (fun k_ => (P0_ k_ ∨ w.heap.size ≤ k_) ∧ some k_ ≠ (.slice (some qs6) zA.length co9 : Value).ownBlock)) (by (with_reducible repeat (first | apply Kd.jC | apply Kd.jD | apply Kd.jG)); exact qw1.out) hg hat)
                have n3_ := q8.mk (Kd.qm6 (ok := (fun k_ => (P0_ k_ ∨ w.heap.size ≤ k_) ∧ some k_ ≠ (v163 : Value).ownBlock)) (by (with_reducible repeat (first | apply Kd.jO | apply Kd.jP | apply Kd.z8)); exact qM0.out) hg hat)
                have n4_ := q8.mk (Kd.qm6 (ok := (fun k_ => (P0_ k_ ∨ w.heap.size ≤ k_) ∧ some k_ ≠ (v163 : Value).ownBlock)) (by (with_reducible repeat (first | apply Kd.jO | apply Kd.jP | apply Kd.z8)); exact qM1.out) hg hat)
                have n5_ := q8.mk (hb)
                have n6_ := q8.mk (ho)
                clear qV
                clear qi1
                clear qw1
                clear qM0
                clear qM1
                clear HB
                clear zT5
                have qV := n0_
                have qi1 := n1_
                have qw1 := n2_
                have qM0 := n3_
                have qM1 := n4_
                have HB := n5_
                have Qj7 := n6_
                clear n0_ n1_ n2_ n3_ n4_ n5_ n6_
                clear ho hb hg hat
                refine hK.out _ _ trivial (fun hHeld => ?_)
                clear hK K
                refine qA5 (a' := ?_) ?_ ?_
                rotate_left
                ·show Act.put _ (some 48) _ = _
                 simp only [Act.put, List.setIfInBounds_toArray, List.set_cons_zero, List.set_cons_succ, qa1, qa3]
                 rfl
                refine qf0 (i := 10) (N := some 4) (v := ?_) (a' := ?_) #[true, true, true, true, true, true, true, true, true, true, true] rfl rfl (qb3 HT_.out (by kernel_rfl)) (fun _ _ _ h => h) (Or.inl ⟨by rfl, ?_⟩) ?_ ?_
                rotate_left
                ·intro w'
                 go_simp
                 with_reducible rfl
                rotate_left
                ·simp only [Act.put, List.setIfInBounds_toArray, List.set_cons_zero, List.set_cons_succ, qa1, qa3]
                 rfl
                refine zh1 (jk0 HT_.out (by kernel_rfl)) ?_
                try go_wp2
                go_roundg k2
                case measure => have := HK1.out; have := HK2.out; omega
                case rel => exact ⟨(y162), (y181), H', ⟨by have := HK1.out; have := HK2.out; omega⟩, ⟨by (with_reducible repeat (first | apply Kd.jC | apply Kd.jD | apply Kd.jG)); exact Kd.jZ qw1.out (fun _ hk => ⟨hk.1.1, hk.2⟩)⟩, ⟨by (with_reducible repeat (first | apply Kd.jC | apply Kd.jD | apply Kd.jG)); exact Qj7.out⟩, ⟨by repeat (first | (with_reducible first | exact HB.out | apply qA | apply q9 | apply qB) | exact HB.out)⟩⟩
               ·rw [if_neg c26] at H
                exact absurd H (by simp)
              ·rw [if_neg c25] at H
               exact absurd H (by simp)
             ·rw [if_neg c24] at H
              exact absurd H (by simp)
            ·rw [if_neg c22] at H
             exact absurd H (by simp)
           ·rw [if_neg c21] at H
            exact absurd H (by simp)
          ·rw [if_neg c19] at H
           exact absurd H (by simp)
         ·rw [if_neg c18] at H
          exact absurd H (by simp)
        ·rw [if_neg c17] at H
         exact absurd H (by simp)
    ·rw [if_neg c8] at H
     have qS3 : decide (0 < (zA.length : Int)) = false := decide_eq_false c8
     have c8b1 : decide (0 < zA.length) = false := decide_eq_false (by omega)
     clear c8
     obtain rfl := Option.some.inj H
     obtain ⟨Ao35, co35, eo35⟩ := Kd.qO3 qV.out
     subst eo35
     go_wp2
     go_ret
     exact ⟨_, by first | rfl | (simp [jI, jJ] <;> rfl) | (simp [*, jI, jJ] <;> rfl), by (with_reducible repeat (first | apply Kd.jC | apply Kd.jD | apply Kd.jG)); exact Kd.jZ qa5.out (fun _ hk => hk.1), by repeat (first | (with_reducible first | exact HB.out | apply qA | apply q9 | apply qB) | exact HB.out)⟩
 ·rw [if_neg c2] at H
  exact absurd H (by simp)
end Go.Proofs.Ytngkneknopenmaa.T
end
section
namespace Go.Proofs.Ytngkneknopenmaa.T
open Go.Proofs.Ytngkneknopenmaa Go.Proofs.Ytngkneknopenmaa.jX3 Go.Proofs.Ytngkneknopenmaa.K
open Go.RowKit Go.Proofs.YtngkneknopenmaaW.jH Go.Proofs.YtngkneknopenmaaW.qh6 Go.Proofs.YtngkneknopenmaaW.qk1
attribute [local go_sem] qq1 qq2 qv6 qv7 qm9 qn0 qq3 qq4   -- for this text's walks alone
set_option linter.unusedVariables false
set_option linter.unusedSimpArgs false
def j6.l0 : Nat → List (S55) → Int → Int → Int → Option (Int)
 | 0, _, _, _, _ => none
 | k + 1, x0, x1, x5, x6 => if x6 < (x0.length : Int) then (if 0 ≤ x6 then (if ((qD x0 x6).f1) < x1 then (if ((qD x0 x6).f2) < x1 then (j6.l0 k x0 x1 (wrap64 ((wrap64 (x5 + 1)) + 1)) (wrap64 (x6 + 1))) else (j6.l0 k x0 x1 (wrap64 (x5 + 1)) (wrap64 (x6 + 1)))) else (if ((qD x0 x6).f2) < x1 then (j6.l0 k x0 x1 (wrap64 (x5 + 1)) (wrap64 (x6 + 1))) else (j6.l0 k x0 x1 x5 (wrap64 (x6 + 1))))) else (none)) else (some x5)
def j6.f (k : Nat) (l0 : List (S55)) (a1 : Int) : Option (Int) := j6.l0 k l0 a1 0 0
set_option maxHeartbeats 8000000 in
set_option maxRecDepth 100000 in
theorem j6.calls (k : Nat) (A0 : Option Addr) (c0 : Nat) (l0 : List (S55)) (a1 : Int) (r : Int) (w : World) (hr0 : Kd.C k55 w A0 l0.length l0) (hc0 : l0.length ≤ c0) (h : j6.f k l0 a1 = some r) :
  Calls Try.prog 44 #[.slice A0 l0.length c0, .int .i64 a1] w fun e w' => e = .returned (.int .i64 r) ∧ zY w w' := by
 have HR0 := q8.mk hr0
 have HC0 := q8.mk hc0
 clear hr0 hc0
 have H : (j6.l0 k l0 a1 0 0) = some r := h
 clear h
 have H' := q8.mk H
 clear H
 go_enter Try.func44, Try.ntmps44
 go_wp2
 go_loopg [5, 6] k (fun kq v5 v6 w' => ∃ (qx5 : Int) (jW : Int), v5 = .int .i64 qx5 ∧ v6 = .int .i64 jW ∧ q8 (j6.l0 kq l0 a1 qx5 jW = some r) ∧ q8 (kq ≤ k) ∧ zY w w')
 case atStart => exact ⟨(0), (0), (by first | rfl | (simp; done) | (simp [*]; done)), (by first | rfl | (simp; done) | (simp [*]; done)), H', ⟨Nat.le_refl _⟩, by repeat (first | exact zY.refl _ | apply zY.step)⟩
 case round =>
  clear H'
  try clear p2
  obtain ⟨qx5, jW, rfl, rfl, HA, HK1, ⟨m1, rfl⟩⟩ := hrel
  cases gk with
  | zero => exact absurd HA.out (by simp [j6.l0])
  | succ k1 =>
   have H := HA.out
   clear HA
   simp only [j6.l0] at H
   by_cases c3 : jW < (l0.length : Int)
   ·rw [if_pos c3] at H
    have jO4 : decide (jW < (l0.length : Int)) = true := decide_eq_true c3
    clear c3
    by_cases c4 : 0 ≤ jW
    ·rw [if_pos c4] at H
     have qB4 : decide (0 ≤ jW) = true := decide_eq_true c4
     clear c4
     by_cases c5 : ((qD l0 jW).f1) < a1
     ·rw [if_pos c5] at H
      have jE1 : decide (((qD l0 jW).f1) < a1) = true := decide_eq_true c5
      clear c5
      by_cases c6 : ((qD l0 jW).f2) < a1
      ·rw [if_pos c6] at H
       have ji8 : decide (((qD l0 jW).f2) < a1) = true := decide_eq_true c6
       clear c6
       have H' := q8.mk H
       clear H
       have qS4 : 0 ≤ (jW : Int) := of_decide_eq_true (by first | (with_reducible assumption) | assumption)
       have qS5 : jW < (l0.length : Int) := of_decide_eq_true (by first | (with_reducible assumption) | assumption)
       obtain ⟨jn8, jY8, jY9, jZ0, jE2, jE3, jE4, qH2, qs7, qs8⟩ := qa6 HR0.out jW qS4 qS5
       cases jZ0
       have jE5 := q8.mk qs8
       have jE6 := q8.mk qs7
       clear qs8 qs7
       replace qS4 := eq_true qS4
       replace qS5 := eq_true qS5
       have jZ1 : 0 ≤ (jW : Int) := of_decide_eq_true (by first | (with_reducible assumption) | assumption)
       have jZ2 : jW < (l0.length : Int) := of_decide_eq_true (by first | (with_reducible assumption) | assumption)
       obtain ⟨zv5, zY6, zY7, e185, zH4, zH5, zH6, jE7, qX5, qX6⟩ := qa6 HR0.out jW jZ1 jZ2
       obtain rfl : jn8 = zv5 := (by injection e185)
       have zH7 := q8.mk qX6
       have zH8 := q8.mk qX5
       clear qX6 qX5
       replace jZ1 := eq_true jZ1
       replace jZ2 := eq_true jZ2
       have ea_ := Option.some.inj (qH2.symm.trans jE7)
       injection ea_ with ea_ en_ ec_
       subst ea_
       subst ec_
       clear en_
       go_wp2
       go_roundg k1
       case measure => have := HK1.out; omega
       case rel => exact ⟨(wrap64 ((wrap64 (qx5 + 1)) + 1)), (wrap64 (jW + 1)), (by first | rfl | (simp; done) | (simp [*]; done)), (by first | rfl | (simp; done) | (simp [*]; done)), H', ⟨by have := HK1.out; omega⟩, by repeat (first | exact zY.refl _ | apply zY.step)⟩
      ·rw [if_neg c6] at H
       have ji8 : decide (((qD l0 jW).f2) < a1) = false := decide_eq_false c6
       clear c6
       have H' := q8.mk H
       clear H
       have qS4 : 0 ≤ (jW : Int) := of_decide_eq_true (by first | (with_reducible assumption) | assumption)
       have qS5 : jW < (l0.length : Int) := of_decide_eq_true (by first | (with_reducible assumption) | assumption)
       obtain ⟨jn8, jY8, jY9, jZ0, jE2, jE3, jE4, qH2, qs7, qs8⟩ := qa6 HR0.out jW qS4 qS5
       cases jZ0
       have jE5 := q8.mk qs8
       have jE6 := q8.mk qs7
       clear qs8 qs7
       replace qS4 := eq_true qS4
       replace qS5 := eq_true qS5
       have jZ1 : 0 ≤ (jW : Int) := of_decide_eq_true (by first | (with_reducible assumption) | assumption)
       have jZ2 : jW < (l0.length : Int) := of_decide_eq_true (by first | (with_reducible assumption) | assumption)
       obtain ⟨zv5, zY6, zY7, e185, zH4, zH5, zH6, jE7, qX5, qX6⟩ := qa6 HR0.out jW jZ1 jZ2
       obtain rfl : jn8 = zv5 := (by injection e185)
       have zH7 := q8.mk qX6
       have zH8 := q8.mk qX5
       clear qX6 qX5
       replace jZ1 := eq_true jZ1
       replace jZ2 := eq_true jZ2
       have ea_ := Option.some.inj (qH2.symm.trans jE7)
       injection ea_ with ea_ en_ ec_
       subst ea_
       subst ec_
       clear en_
       go_wp2
       go_roundg k1
       case measure => have := HK1.out; omega
       case rel => exact ⟨(wrap64 (qx5 + 1)), (wrap64 (jW + 1)), (by first | rfl | (simp; done) | (simp [*]; done)), (by first | rfl | (simp; done) | (simp [*]; done)), H', ⟨by have := HK1.out; omega⟩, by repeat (first | exact zY.refl _ | apply zY.step)⟩
     ·rw [if_neg c5] at H
      have jE1 : decide (((qD l0 jW).f1) < a1) = false := decide_eq_false c5
      clear c5
      by_cases c7 : ((qD l0 jW).f2) < a1
      ·rw [if_pos c7] at H
       have zH9 : decide (((qD l0 jW).f2) < a1) = true := decide_eq_true c7
       clear c7
       have H' := q8.mk H
       clear H
       have qS4 : 0 ≤ (jW : Int) := of_decide_eq_true (by first | (with_reducible assumption) | assumption)
       have qS5 : jW < (l0.length : Int) := of_decide_eq_true (by first | (with_reducible assumption) | assumption)
       obtain ⟨jn8, jY8, jY9, jZ0, jE2, jE3, jE4, qH2, qs7, qs8⟩ := qa6 HR0.out jW qS4 qS5
       cases jZ0
       have jE5 := q8.mk qs8
       have jE6 := q8.mk qs7
       clear qs8 qs7
       replace qS4 := eq_true qS4
       replace qS5 := eq_true qS5
       have jZ3 : 0 ≤ (jW : Int) := of_decide_eq_true (by first | (with_reducible assumption) | assumption)
       have jZ4 : jW < (l0.length : Int) := of_decide_eq_true (by first | (with_reducible assumption) | assumption)
       obtain ⟨zv6, zY8, zY9, zZ0, zI0, zI1, zI2, jE8, qX7, qX8⟩ := qa6 HR0.out jW jZ3 jZ4
       obtain rfl : jn8 = zv6 := (by injection zZ0)
       have zI3 := q8.mk qX8
       have zI4 := q8.mk qX7
       clear qX8 qX7
       replace jZ3 := eq_true jZ3
       replace jZ4 := eq_true jZ4
       have ea_ := Option.some.inj (qH2.symm.trans jE8)
       injection ea_ with ea_ en_ ec_
       subst ea_
       subst ec_
       clear en_
       go_wp2
       go_roundg k1
       case measure => have := HK1.out; omega
       case rel => exact ⟨(wrap64 (qx5 + 1)), (wrap64 (jW + 1)), (by first | rfl | (simp; done) | (simp [*]; done)), (by first | rfl | (simp; done) | (simp [*]; done)), H', ⟨by have := HK1.out; omega⟩, by repeat (first | exact zY.refl _ | apply zY.step)⟩
      ·rw [if_neg c7] at H
       have zH9 : decide (((qD l0 jW).f2) < a1) = false := decide_eq_false c7
       clear c7
       have H' := q8.mk H
       clear H
       have qS4 : 0 ≤ (jW : Int) := of_decide_eq_true (by first | (with_reducible assumption) | assumption)
       have qS5 : jW < (l0.length : Int) := of_decide_eq_true (by first | (with_reducible assumption) | assumption)
       obtain ⟨jn8, jY8, jY9, jZ0, jE2, jE3, jE4, qH2, qs7, qs8⟩ := qa6 HR0.out jW qS4 qS5
       cases jZ0
       have jE5 := q8.mk qs8
       have jE6 := q8.mk qs7
       clear qs8 qs7
       replace qS4 := eq_true qS4
       replace qS5 := eq_true qS5
       have jZ3 : 0 ≤ (jW : Int) := of_decide_eq_true (by first | (with_reducible assumption) | assumption)
       have jZ4 : jW < (l0.length : Int) := of_decide_eq_true (by first | (with_reducible assumption) | assumption)
       obtain ⟨zv6, zY8, zY9, zZ0, zI0, zI1, zI2, jE8, qX7, qX8⟩ := qa6 HR0.out jW jZ3 jZ4
       obtain rfl : jn8 = zv6 := (by injection zZ0)
       have zI3 := q8.mk qX8
       have zI4 := q8.mk qX7
       clear qX8 qX7
       replace jZ3 := eq_true jZ3
       replace jZ4 := eq_true jZ4
       have ea_ := Option.some.inj (qH2.symm.trans jE8)
       injection ea_ with ea_ en_ ec_
       subst ea_
       subst ec_
       clear en_
       go_wp2
       go_roundg k1
       case measure => have := HK1.out; omega
       case rel => exact ⟨(qx5), (wrap64 (jW + 1)), (by first | rfl | (simp; done) | (simp [*]; done)), (by first | rfl | (simp; done) | (simp [*]; done)), H', ⟨by have := HK1.out; omega⟩, by repeat (first | exact zY.refl _ | apply zY.step)⟩
    ·rw [if_neg c4] at H
     exact absurd H (by simp)
   ·rw [if_neg c3] at H
    have jO4 : decide (jW < (l0.length : Int)) = false := decide_eq_false c3
    clear c3
    obtain rfl := Option.some.inj H
    go_wp2
    go_ret
    exact ⟨by first | rfl | (simp; done) | (simp [*]; done), by repeat (first | exact zY.refl _ | apply zY.step)⟩
def jA.l0 : Nat → List Int → Int → Int → Option (List Int × Int)
 | 0, _, _, _ => none
 | k + 1, x0, x1, x6 => if x6 < (x0.length : Int) then (if 0 ≤ x6 then (if (rd x0 x6) = x1 then (some (x0, x6)) else (jA.l0 k x0 x1 (wrap64 (x6 + 1)))) else (none)) else ((some (([] : List Int) : List Int)).bind fun y188 => (if y188.length + x0.length < 17592186044416 then ((some (y188 ++ x0 : List Int)).bind fun y191 => (if y191.length < 17592186044416 then (some ((y191 ++ [x1]), (x0.length : Int))) else (none))) else (none)))
def jA.f (k : Nat) (l0 : List Int) (a1 : Int) : Option (List Int × Int) := jA.l0 k l0 a1 0
set_option maxHeartbeats 8000000 in
set_option maxRecDepth 100000 in
theorem jA.calls (k : Nat) (P0_ : Nat → Prop) (jE9 : Value) (l0 : List Int) (a1 : Int) (r1 : List Int) (r2 : Int) (w0 w : World) (hB : Below w0.heap.size w0 w) (ho0 : Kd.R (Kd.int .i64) 3 w w0.heap.size P0_ jE9 l0) (h : jA.f k l0 a1 = some (r1, r2)) :
  Calls Try.prog 45 #[jE9, .int .i64 a1] w fun e w' => ∃ v0_ : Value, e = .returned (.tuple #[v0_, .int .i64 r2]) ∧ Kd.R (Kd.int .i64) 3 w' w0.heap.size (fun k_ => (P0_ k_ ∨ w.heap.size ≤ k_)) v0_ r1 ∧ Below w0.heap.size w0 w' ∧ Kept w w' (fun k_ => P0_ k_) := by
 have HO0 := q8.mk (show Kd.R (Kd.int .i64) 3 w w0.heap.size (fun k_ => (P0_ k_ ∨ w.heap.size ≤ k_)) jE9 l0 from Kd.jK ho0 (fun k_ hk => (.inl hk)))
 have HK := q8.mk (Kept.refl w (fun k_ => P0_ k_))
 have HW0 := q8.mk hB.size
 have HB := q8.mk hB
 clear hB
 have H : (jA.l0 k l0 a1 0) = some (r1, r2) := h
 clear h
 have H' := q8.mk H
 clear H
 go_enter Try.func45, Try.ntmps45
 go_wp2
 go_loopg [6] k (fun kq v6 w' => ∃ (jW : Int), v6 = .int .i64 jW ∧ q8 (jA.l0 kq l0 a1 jW = some (r1, r2)) ∧ q8 (kq ≤ k) ∧ q8 (Kd.R (Kd.int .i64) 3 w' w0.heap.size (fun k_ => (P0_ k_ ∨ w.heap.size ≤ k_)) jE9 l0) ∧ q8 (Kept w w' (fun k_ => P0_ k_)) ∧ q8 (Below w0.heap.size w0 w'))
 case atStart => exact ⟨(0), (by first | rfl | (simp; done) | (simp [*]; done)), H', ⟨Nat.le_refl _⟩, ⟨by (with_reducible repeat (first | apply Kd.qW | apply Kd.qX | apply Kd.jB)); exact HO0.out⟩, ⟨by repeat (first | (with_reducible first | exact HK.out | apply Kept.alloc | apply Kept.drewN | apply Kept.drew) | exact HK.out)⟩, ⟨by repeat (first | (with_reducible first | exact HB.out | apply qA | apply q9 | apply qB) | exact HB.out)⟩⟩
 case round =>
  clear H'
  try clear p2
  obtain ⟨jW, rfl, HA, HK1, zZ, HK, HB⟩ := hrel
  cases gk with
  | zero => exact absurd HA.out (by simp [jA.l0])
  | succ k1 =>
   have H := HA.out
   clear HA
   simp only [jA.l0] at H
   by_cases c3 : jW < (l0.length : Int)
   ·rw [if_pos c3] at H
    have jO4 : decide (jW < (l0.length : Int)) = true := decide_eq_true c3
    clear c3
    by_cases c4 : 0 ≤ jW
    ·rw [if_pos c4] at H
     have qB4 : decide (0 ≤ jW) = true := decide_eq_true c4
     clear c4
     by_cases c5 : (rd l0 jW) = a1
     ·rw [if_pos c5] at H
      have jE1 : ((rd l0 jW) == a1) = true := beq_iff_eq.mpr c5
      have c5b1 : ((rd l0 jW) != a1) = false := bne_eq_false_iff_eq.mpr c5
      clear c5
      simp only [Option.some.injEq, Prod.mk.injEq] at H
      obtain ⟨rfl, rfl⟩ := H
      obtain ⟨Ao6, co6, eo6⟩ := Kd.qs9 zZ.out
      subst eo6
      have jZ5 : 0 ≤ (jW : Int) := of_decide_eq_true (by first | (with_reducible assumption) | assumption)
      have jZ6 : jW < (l0.length : Int) := of_decide_eq_true (by first | (with_reducible assumption) | assumption)
      obtain ⟨Qj8, e187, zI5⟩ := Kd.zv7 (Kd.qw2 zZ.out).2.2 jW jZ5 jZ6
      cases e187
      replace jZ5 := eq_true jZ5
      replace jZ6 := eq_true jZ6
      go_wp2
      go_ret2
      exact ⟨_, by first | rfl | (simp [jI, jJ] <;> rfl) | (simp [*, jI, jJ] <;> rfl), by (with_reducible repeat (first | apply Kd.qW | apply Kd.qX | apply Kd.jB)); exact zZ.out, by repeat (first | (with_reducible first | exact HB.out | apply qA | apply q9 | apply qB) | exact HB.out), by repeat (first | (with_reducible first | exact HK.out | apply Kept.alloc | apply Kept.drewN | apply Kept.drew) | exact HK.out)⟩
     ·rw [if_neg c5] at H
      have jE1 : ((rd l0 jW) == a1) = false := beq_eq_false_iff_ne.mpr c5
      have c5b1 : ((rd l0 jW) != a1) = true := bne_iff_ne.mpr c5
      have H' := q8.mk H
      clear H
      obtain ⟨Ao7, co7, eo7⟩ := Kd.qs9 zZ.out
      subst eo7
      have jZ5 : 0 ≤ (jW : Int) := of_decide_eq_true (by first | (with_reducible assumption) | assumption)
      have jZ6 : jW < (l0.length : Int) := of_decide_eq_true (by first | (with_reducible assumption) | assumption)
      obtain ⟨Qj8, e187, zI5⟩ := Kd.zv7 (Kd.qw2 zZ.out).2.2 jW jZ5 jZ6
      cases e187
      replace jZ5 := eq_true jZ5
      replace jZ6 := eq_true jZ6
      go_wp2
      go_roundg k1
      case measure => have := HK1.out; omega
      case rel => exact ⟨(wrap64 (jW + 1)), (by first | rfl | (simp; done) | (simp [*]; done)), H', ⟨by have := HK1.out; omega⟩, ⟨by (with_reducible repeat (first | apply Kd.qW | apply Kd.qX | apply Kd.jB)); exact zZ.out⟩, ⟨by repeat (first | (with_reducible first | exact HK.out | apply Kept.alloc | apply Kept.drewN | apply Kept.drew) | exact HK.out)⟩, ⟨by repeat (first | (with_reducible first | exact HB.out | apply qA | apply q9 | apply qB) | exact HB.out)⟩⟩
    ·rw [if_neg c4] at H
     exact absurd H (by simp)
   ·rw [if_neg c3] at H
    have jO4 : decide (jW < (l0.length : Int)) = false := decide_eq_false c3
    clear c3
    obtain ⟨y188, jO5⟩ : ∃ y_ : List Int, y_ = (([] : List Int)) := ⟨_, rfl⟩
    replace H : (if y188.length + l0.length < 17592186044416 then ((some (y188 ++ l0 : List Int)).bind fun y191 => (if y191.length < 17592186044416 then (some ((y191 ++ [a1]), (l0.length : Int))) else (none))) else (none)) = some (r1, r2) := by first | (rw [jO5]; with_reducible exact H) | (have H2_ := (Option.bind_some _ _).symm.trans H; rw [jO5]; with_reducible exact H2_) | (have H2_ := (Option.bind_some _ _).symm.trans H; with_reducible exact H2_) | with_reducible exact H | (rw [jO5]; exact H) | exact H
    have zT6 := q8.mk jO5
    clear jO5
    by_cases c8 : y188.length + l0.length < 17592186044416
    ·rw [if_pos c8] at H
     have LMc8 := q8.mk c8
     clear c8
     obtain ⟨y191, jO6⟩ : ∃ y_ : List Int, y_ = (y188 ++ l0) := ⟨_, rfl⟩
     replace H : (if y191.length < 17592186044416 then (some ((y191 ++ [a1]), (l0.length : Int))) else (none)) = some (r1, r2) := by first | (rw [jO6]; with_reducible exact H) | (have H2_ := (Option.bind_some _ _).symm.trans H; rw [jO6]; with_reducible exact H2_) | (have H2_ := (Option.bind_some _ _).symm.trans H; with_reducible exact H2_) | with_reducible exact H | (rw [jO6]; exact H) | exact H
     have Qj9 := q8.mk jO6
     clear jO6
     by_cases c9 : y191.length < 17592186044416
     ·rw [if_pos c9] at H
      have LMc9 := q8.mk c9
      clear c9
      obtain ⟨y194, jO7⟩ : ∃ y_ : List Int, y_ = (y191 ++ [a1]) := ⟨_, rfl⟩
      replace H : (some (y194, (l0.length : Int))) = some (r1, r2) := by first | (rw [jO7]; with_reducible exact H) | (have H2_ := (Option.bind_some _ _).symm.trans H; rw [jO7]; with_reducible exact H2_) | (have H2_ := (Option.bind_some _ _).symm.trans H; with_reducible exact H2_) | with_reducible exact H | (rw [jO7]; exact H) | exact H
      have Qk0 := q8.mk jO7
      clear jO7
      simp only [Option.some.injEq, Prod.mk.injEq] at H
      obtain ⟨rfl, rfl⟩ := H
      obtain ⟨Ao10, co10, eo10⟩ := Kd.qs9 zZ.out
      subst eo10
      go_wp2_with (first | ((with_reducible refine qa0 (N := 21) rfl ?_); refine Kd.jO8 (Kd.int .i64) _ 3 ?hg (N := 21) ?hd (xs := ([] : List Int)) (inner := []) (ok := fun _ => True) (okp := fun _ => True) ?hr ?hp (fun _ hk => hk) trivial (Below.refl _ _) (Nat.le_refl _) (by simp) ?_; (case hd => rfl); (case hg => rfl); (case hr => first | (go_simp; done) | (go_simp; rfl)); (case hp => exact (qd6.none _ _)); intro v189 w11 zn7 hb hg_ qA3; clear hg_ qA3; (first | rw [← zT6.out] at zn7 | (simp only [Int.reduceToNat] at zn7; rw [← zT6.out] at zn7)); have n0_ := q8.mk (Kd.qX9 (by (with_reducible repeat (first | apply Kd.qW | apply Kd.qX | apply Kd.jB)); exact zZ.out) (Kd.qt0 zn7) hb); have n1_ := q8.mk (Kd.qO5 (Kd.jF0 (Kd.jF1 (M := fun k_ => (P0_ k_ ∨ w.heap.size ≤ k_)) zn7 (by first | exact HK.out.1 | exact (show Kept w _ (fun k_ => P0_ k_) from by repeat (first | (with_reducible first | exact HK.out | apply Kept.alloc | apply Kept.drewN | apply Kept.drew) | exact HK.out)).1) (fun k_ h_ => .inr h_)) (Kd.qK9 (by (with_reducible repeat (first | apply Kd.qW | apply Kd.qX | apply Kd.jB)); exact zZ.out))) (qM (by repeat (first | (with_reducible first | exact HB.out | apply qA | apply q9 | apply qB) | exact HB.out)))); have n2_ := q8.mk (Kept.below (S := (fun k_ => P0_ k_)) (by repeat (first | (with_reducible first | exact HK.out | apply Kept.alloc | apply Kept.drewN | apply Kept.drew) | exact HK.out)) hb); have n3_ := q8.mk (jM (by repeat (first | (with_reducible first | exact HB.out | apply qA | apply q9 | apply qB) | exact HB.out)) hb); clear zZ; clear HK; clear HB; have zZ := n0_; have zv8 := n1_; have HK := n2_; have HB := n3_; clear n0_ n1_ n2_ n3_; clear hb zn7) | ((with_reducible refine ql1 (b := .append) (xs := #[.tmp 21, .tmp 22]) rfl ?_); at_builtin; refine Kd.qP9 (Kd.int .i64) (w0 := w0) w0.heap.size rfl (.tmp 21) (.tmp 22) 29 3 (.int .i64 0) 8 rfl Try.underlying29 info3 rfl (by decide) (by omega) v189 y188 l0 _ _ _ (fun k_ => (P0_ k_ ∨ w.heap.size ≤ k_) ∧ some k_ ≠ (.slice Ao10 l0.length co10 : Value).ownBlock) (fun _ => False) rfl rfl ?aO ?aR (fun _ _ h => h) (fun _ h => h.elim) ?aF ?aB ?aS ?aL ?_; (case aR => repeat (first | exact (Kd.qw2 zZ.out).2.2 | (with_reducible refine Kd.qi2 ?_ _) | (with_reducible refine Kd.qi3 ?_ _) | (with_reducible refine Kd.qn2 ?_))); (case aB => exact (by repeat (first | (with_reducible first | exact HB.out | apply qA | apply q9 | apply qB) | exact HB.out))); (case aF => exact (fun k_ hk => ⟨(.inr (Nat.le_trans (by first | exact HK.out.1 | exact (show Kept w _ (fun k_ => P0_ k_) from by repeat (first | (with_reducible first | exact HK.out | apply Kept.alloc | apply Kept.drewN | apply Kept.drew) | exact HK.out)).1) hk)), Kd.fresh' (Kd.qK9 (by (with_reducible repeat (first | apply Kd.qW | apply Kd.qX | apply Kd.jB)); exact zZ.out)) k_ hk⟩)); (case aO => exact (by (with_reducible repeat (first | apply Kd.qW | apply Kd.qX | apply Kd.jB)); exact Kd.jK zv8.out (fun _ hk => ⟨hk.1.1, hk.2⟩))); (case aS => exact (qM (by repeat (first | (with_reducible first | exact HB.out | apply qA | apply q9 | apply qB) | exact HB.out)))); (case aL => have := LMc8.out; omega); intro v192 w13 ho hb hg hat; rw [← Qj9.out] at ho; have n0_ := q8.mk (Kd.zh6 (ok := (fun k_ => (P0_ k_ ∨ w.heap.size ≤ k_))) (by (with_reducible repeat (first | apply Kd.qW | apply Kd.qX | apply Kd.jB)); exact zZ.out) hg hat); have n1_ := q8.mk (hb); have n2_ := q8.mk (Kept.qw0 (S := (fun k_ => P0_ k_)) hg (by repeat (first | (with_reducible first | exact HK.out | apply Kept.alloc | apply Kept.drewN | apply Kept.drew) | exact HK.out)) (fun k_ e_ => (zv8.out.1 k_ e_).1.1)); have n3_ := q8.mk (ho); clear zZ; clear HB; clear HK; clear zv8; have zZ := n0_; have HB := n1_; have HK := n2_; have zv9 := n3_; clear n0_ n1_ n2_ n3_; clear ho hb hg hat) | ((with_reducible refine ql1 (b := .append) (xs := #[.tmp 23, .tmp 25]) rfl ?_); at_builtin; refine Kd.qY0 (Kd.int .i64) (w0 := w0) w0.heap.size rfl (.tmp 23) (.tmp 25) 29 3 (.int .i64 0) 8 rfl Try.underlying29 info3 rfl (by decide) (by omega) v192 y191 a1 [.int .i64 a1] (fun k_ => (P0_ k_ ∨ w.heap.size ≤ k_) ∧ some k_ ≠ (.slice Ao10 l0.length co10 : Value).ownBlock) (fun _ => False) rfl rfl ?aP (fun _ hk => hk.elim) ?aF ?aO ?aB ?aS ?aL ?_; (case aP => exact rfl); (case aB => exact (by repeat (first | (with_reducible first | exact HB.out | apply qA | apply q9 | apply qB) | exact HB.out))); (case aF => exact (fun k_ hk => ⟨(.inr (Nat.le_trans (by first | exact HK.out.1 | exact (show Kept w _ (fun k_ => P0_ k_) from by repeat (first | (with_reducible first | exact HK.out | apply Kept.alloc | apply Kept.drewN | apply Kept.drew) | exact HK.out)).1) hk)), Kd.fresh' (Kd.qK9 (by (with_reducible repeat (first | apply Kd.qW | apply Kd.qX | apply Kd.jB)); exact zZ.out)) k_ hk⟩)); (case aO => exact (by (with_reducible repeat (first | apply Kd.qW | apply Kd.qX | apply Kd.jB)); exact zv9.out)); (case aS => exact (qM (by repeat (first | (with_reducible first | exact HB.out | apply qA | apply q9 | apply qB) | exact HB.out)))); (case aL => have := LMc9.out; omega); intro v195 w14 ho hb hg hat; rw [← Qk0.out] at ho; have n0_ := q8.mk (Kd.zh6 (ok := (fun k_ => (P0_ k_ ∨ w.heap.size ≤ k_))) (by (with_reducible repeat (first | apply Kd.qW | apply Kd.qX | apply Kd.jB)); exact zZ.out) hg hat); have n1_ := q8.mk (hb); have n2_ := q8.mk (Kept.qw0 (S := (fun k_ => P0_ k_)) hg (by repeat (first | (with_reducible first | exact HK.out | apply Kept.alloc | apply Kept.drewN | apply Kept.drew) | exact HK.out)) (fun k_ e_ => (zv9.out.1 k_ e_).1)); have n3_ := q8.mk (ho); clear zZ; clear HB; clear HK; clear zv9; have zZ := n0_; have HB := n1_; have HK := n2_; have Qk1 := n3_; clear n0_ n1_ n2_ n3_; clear ho hb hg hat))
      go_ret2
      exact ⟨_, by first | rfl | (simp [jI, jJ] <;> rfl) | (simp [*, jI, jJ] <;> rfl), by (with_reducible repeat (first | apply Kd.qW | apply Kd.qX | apply Kd.jB)); exact Kd.jK Qk1.out (fun _ hk => hk.1), by repeat (first | (with_reducible first | exact HB.out | apply qA | apply q9 | apply qB) | exact HB.out), by repeat (first | (with_reducible first | exact HK.out | apply Kept.alloc | apply Kept.drewN | apply Kept.drew) | exact HK.out)⟩
     ·rw [if_neg c9] at H
      exact absurd H (by simp)
    ·rw [if_neg c8] at H
     exact absurd H (by simp)
end Go.Proofs.Ytngkneknopenmaa.T
end
