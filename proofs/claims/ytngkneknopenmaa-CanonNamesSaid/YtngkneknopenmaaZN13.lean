/- Texts of this claim, joined by a program of this session: the declarations that its theorem uses. -/
import Derived.Test.YtngkneknopenmaaZN0
import Derived.Test.YtngkneknopenmaaZN1
import Derived.Test.YtngkneknopenmaaZN4
import Derived.Test.YtngkneknopenmaaZN6
import Derived.Test.YtngkneknopenmaaZN9
import Derived.Test.YtngkneknopenmaaZN10
import Derived.Test.YtngkneknopenmaaZN12
import Derived.Sort.OwnSortedInts
import Derived.Deep.DeepCutAuto
import Derived.Deep.RegionWith
import Derived.Test.YtngkneknopenmaaProg
import Derived.Below
import Derived.Deep.Draws
import Derived.Deep.AppendLies
import Derived.Maps.AppendAt
import Derived.OwnWalk
import Derived.Laws.BytesArg
import Derived.Laws.MakeOwn
import Derived.Laws.OwnMore
import Derived.Deep.OwnRows
import Derived.Tactics
import Derived.Lib.ConvBytes
import Derived.Laws.Slices
import Derived.WalkKit
import Derived.KernelRfl
import Derived.RowKit3
import Derived.Deep.LoopGhost
import Derived.Deep.QuietTactic
import Derived.BigQuiet
import Derived.WideLaws
import Derived.Deep.CutBlock
import Derived.Deep.RegionHeld3
import Derived.Laws.Rows
import Derived.Lib.AppendStr
import Derived.ArgAppend
import Derived.Laws.IdiomCopy
import Derived.OrdersHeld
import Derived.Laws.BitsLemmas
import Derived.RowKit
section
namespace Go.Proofs.Ytngkneknopenmaa.Hist
open Go Go.RowKit Go.Proofs.Ytngkneknopenmaa.Row3 Go.Sort Go.Shelf
instance : Inhabited TR := ⟨⟨0, 0, 0, 0, 0, 0⟩⟩
theorem cells_length (r : TR) : (TR.cells r).length = 4 := rfl
theorem cells_one (r : TR) : ∀ v ∈ TR.cells r, v.oneCell' = true := by
 intro v hv
 simp [TR.cells] at hv
 rcases hv with rfl | rfl | rfl | rfl <;> rfl
theorem flatK_list (rows : Array TR) : (flatK TR.cells 4 rows).toList = qby rows.toList := by
 apply List.ext_getElem (by simp [flatT_length])
 intro t h1 h2
 have ht : t < rows.size * 4 := by simpa using h1
 have hd : t / 4 < rows.size := by omega
 have e1 : (flatK TR.cells 4 rows).toList[t] = (TR.cells rows[t / 4]!)[t % 4]! := by
  rw [← get_flatK _ _ _ _ ht, Array.getElem_toList, getElem!_pos]
 rw [e1, getElem!_pos rows _ hd]
 obtain ⟨a, b, c, d⟩ := flatT_get rows.toList [] (t / 4) rows[t / 4] (by rw [Array.getElem?_toList, Array.getElem?_eq_getElem hd])
 rw [List.append_nil] at a b c d
 obtain ⟨r, hr⟩ : ∃ r, rows[t / 4] = r := ⟨_, rfl⟩
 rw [hr] at a b c d ⊢
 have h4 : t % 4 < 4 := Nat.mod_lt _ (by omega)
 have htm : t = t / 4 * 4 + t % 4 := by omega
 have key : (qby rows.toList)[t]? = some (TR.cells r)[t % 4]! := by
  obtain ⟨m, hm⟩ : ∃ m, t % 4 = m := ⟨_, rfl⟩
  rw [hm] at htm h4 ⊢
  match m, h4 with
  | 0, _ => rw [htm, Nat.add_zero, a]; rfl
  | 1, _ => rw [htm, b]; rfl
  | 2, _ => rw [htm, c]; rfl
  | 3, _ => rw [htm, d]; rfl
 rw [List.getElem?_eq_getElem h2] at key
 exact (Option.some.inj key).symm
theorem holds_block {w : World} {g : Nat} {cur : Array Value} {e : TypeId} {D : Array Value} (hb : w.heap[g]? = some (.cells cur e (0, 0))) (ht : cur.toList.take D.size = D.toList) : Holds id w g 0 D := by
 intro j hj
 refine ⟨?_, by simp [World.frozen?, hb]⟩
 have h1 : (cur.toList.take D.size)[j]? = D.toList[j]? := by rw [ht]
 rw [List.getElem?_take_of_lt hj] at h1
 simp only [World.cell?, hb, Nat.zero_add]
 simp only [Option.isSome_none, Bool.false_eq_true, if_false]
 rw [← Array.getElem?_toList, h1]
 simp [hj]
theorem heap_put {w : World} {g n : Nat} {os : Array Obj} {cur : Array Value} {e : TypeId} {fr : Nat × Nat} (D : Array Value) (hb : w.heap[g]? = some (.cells cur e fr)) :
  (grow (putRow id (Sort.ahead w n) g 0 D) os).heap[g]? = some (.cells (putCells id 0 D cur) e fr) := by
 have hg : g < w.heap.size := (Array.getElem?_eq_some_iff.1 hb).1
 rw [heap_grow_old _ _ (by simpa using hg)]
 simp [putRow, mapBlock, Sort.ahead, Array.getElem?_modify, hb, onCells]
theorem grown_put {w : World} {g n : Nat} {os : Array Obj} (D : Array Value) : w.grownBy (grow (putRow id (Sort.ahead w n) g 0 D) os) (some g) := by
 refine ⟨rfl, rfl, rfl, by simp, fun k hk hne => ?_⟩
 rw [heap_grow_old _ _ (by simpa using hk)]
 have : g ≠ k := fun e => hne (by rw [e])
 simp [putRow, mapBlock, Sort.ahead, Array.getElem?_modify, this]
theorem take_put (cur D : Array Value) (h : D.size ≤ cur.size) : (putCells id 0 D cur).toList.take D.size = D.toList := by
 apply List.ext_getElem?
 intro j
 by_cases hj : j < D.size
 ·rw [List.getElem?_take_of_lt hj, Array.getElem?_toList]
  simp [putCells, hj, show j < cur.size by omega]
 ·rw [List.getElem?_take_eq_none (by omega), List.getElem?_eq_none (by simp; omega)]
theorem ltB (x y : TR) : ltOf (fun x y : TR => Lib.compareInt x.b y.b) x y = decide (x.b < y.b) := by
 unfold ltOf Lib.compareInt
 by_cases h1 : x.b < y.b
 ·simp [h1]
 ·by_cases h2 : y.b < x.b <;> simp [h1, h2]
theorem swoB : SWO (ltOf fun x y : TR => Lib.compareInt x.b y.b) where
 irrefl x := by rw [ltB]; simp
 trans x y z h1 h2 := by rw [ltB] at *; simp at *; omega
 ntrans x y z h1 h2 := by rw [ltB] at *; simp at *; omega
set_option maxHeartbeats 1000000 in
theorem closure_calls (x y : TR) (W : World) : Calls Try.prog 38 #[.agg x.cells.toArray, .agg y.cells.toArray] W fun e w' => e = .returned (.int .i64 (Lib.compareInt x.b y.b)) ∧ ∃ q os', w' = grow (W.drewN q) os' := by
 have hcon := fun W' => Try.cmp_Compare_int x.b y.b W'
 generalize Lib.compareInt x.b y.b = r at hcon ⊢
 have e1 : x.cells.toArray = #[.int .i64 x.s, .int .i64 x.b, .int .i64 x.c, .slice (some ⟨x.g, 0, none⟩) x.n x.cp] := rfl
 have e2 : y.cells.toArray = #[.int .i64 y.s, .int .i64 y.b, .int .i64 y.c, .slice (some ⟨y.g, 0, none⟩) y.n y.cp] := rfl
 rw [e1, e2]
 clear e1 e2
 go_enter Try.func38, Try.ntmps38
 go_wp2_with (go_at_call 39; refine (hcon _).mono ?_; rintro e w' ⟨rfl, rfl⟩)
 go_ret
 exact ⟨rfl, 0, _, by rw [alloc_eq_grow, alloc_eq_grow, grow_grow]; rfl⟩
theorem txn_agg (w : World) : (isAgg 55).run Try.prog w = .ok true w := by kernel_rfl
theorem txn_size (w : World) : (Go.sizeOf 55).run Try.prog w = .ok 4 w := by kernel_rfl
set_option maxHeartbeats 1000000 in
theorem sortTxn_calls (g cap : Nat) (base : Nat) (rows : List TR) (hlen : rows.length ≤ 4611686018427387903) (w : World) (hown : w.ownsRow base 55 4 (.slice (some ⟨g, 0, none⟩) rows.length cap) rows.length (qby rows)) :
  Calls Try.prog 37 #[.slice (some ⟨g, 0, none⟩) rows.length cap, .func (.func 38) #[] #[]] w fun e w' =>
   e = .returned (.tuple #[]) ∧ ∃ rows' : List TR, rows'.Perm rows ∧ rows'.Pairwise (fun x y => x.b ≤ y.b) ∧ w'.ownsRow base 55 4 (.slice (some ⟨g, 0, none⟩) rows.length cap) rows.length (qby rows') ∧ w.grownBy w' (some g) := by
 by_cases h0 : rows.length = 0
 ·have hn := AnyF.slices_SortFunc_none Try.sortTxn (some ⟨g, 0, none⟩) cap (.func (.func 38) #[] #[]) w
  rw [h0]
  refine hn.mono ?_
  rintro e w' ⟨rfl, rfl⟩
  exact ⟨rfl, rows, List.Perm.refl _, by rw [List.eq_nil_of_length_eq_zero h0]; exact .nil, by rw [h0] at hown; exact hown, below_grown (Below.refl _ _)⟩
 ·rcases hown.2 with ⟨h, _⟩ | ⟨g', cp, cur, he, hg, hh, h1, h2, h3, h4⟩
  ·cases h
  ·cases he
   have hflat : (flatK TR.cells 4 rows.toArray).toList = qby rows := flatK_list rows.toArray
   have hsz : (flatK TR.cells 4 rows.toArray).size = rows.length * 4 := by simp
   have hH : HoldsK TR.cells 4 w g 0 rows.toArray := holds_block hh (by rw [hsz, h4, hflat])
   have eg : ∀ args w, (callFunc 38 args).run Try.prog w = .ok (.enter 38 args) w := enters_of Try.func38 (by kernel_rfl) rfl
   have hcon := AnyQ.slices_SortFunc Try.sortTxn 4 txn_agg txn_size TR.cells cells_length cells_one (fun x y => Lib.compareInt x.b y.b) swoB 38 #[] g 0 cap rows.toArray w eg (fun _ _ _ _ x y => closure_calls x y _) hH (Array.getElem?_eq_some_iff.1 hh).1 (by simp; omega)
   have hcon' : Calls Try.prog 37 #[.slice (some ⟨g, 0, none⟩) rows.length cap, .func (.func 38) #[] #[]] w _ := hcon
   refine hcon'.mono ?_
   rintro e w' ⟨rfl, d', n, os, hp, hs, rfl⟩
   obtain ⟨hp1, _, hp3⟩ := hp
   have hpl : d'.toList.Perm rows := by
    have e1 : d'.extract 0 rows.toArray.size = d' := by rw [← hp1]; simp
    have e2 : rows.toArray.extract 0 rows.toArray.size = rows.toArray := by simp
    rw [e1, e2] at hp3
    exact hp3
   have hfl' : (flatK TR.cells 4 d').toList = qby d'.toList := flatK_list d'
   have hds : d'.size = rows.length := by rw [hp1]; simp
   have hsz' : (flatK TR.cells 4 d').size = rows.length * 4 := by simp [hds]
   refine ⟨rfl, d'.toList, hpl, ?_, ⟨by rw [flatT_length]; simp [hds], .inr ⟨g, cap, _, rfl, hg, heap_put _ hh, h1, h2, by simp [putCells, h3], ?_⟩⟩, grown_put _⟩
   ·rw [List.pairwise_iff_getElem]
    intro i j hi hj hij
    have hij2 := hs i j (Nat.zero_le _) hij (by rw [← hp1]; simpa using hj)
    rw [ltB, decide_eq_false_iff_not] at hij2
    have hi' : i < d'.size := by simpa using hi
    have hj' : j < d'.size := by simpa using hj
    rw [getElem!_pos d' i hi', getElem!_pos d' j hj'] at hij2
    simpa using hij2
   ·rw [← hfl', ← hsz']
    exact take_put _ _ (by rw [hsz', h3]; exact Nat.mul_le_mul_right _ h1)
end Go.Proofs.Ytngkneknopenmaa.Hist
end
section
namespace Go.Proofs.Ytngkneknopenmaa.Hist
open Go Go.RowKit Go.Proofs.Ytngkneknopenmaa.Row3 Go.Proofs.Ytngkneknopenmaa.IntMap Go.Proofs.YtngkneknopenmaaW.PrintWords
def qap (h : List T4) : List Int := h.flatMap fun t => [t.b, t.c]
theorem stampsL_snoc (h : List T4) (t : T4) : qap (h ++ [t]) = qap h ++ [t.b, t.c] := by simp [qap, List.flatMap_append]
theorem stampsL_length (h : List T4) : (qap h).length = h.length * 2 := by
 induction h with
 | nil => rfl
 | cons t h ih =>
  have : qap (t :: h) = [t.b, t.c] ++ qap h := rfl
  rw [this, List.length_append, ih]
  simp
  omega
def qch (l : List Int) : List Int := l.mergeSort fun x y => decide (x ≤ y)
def placesFrom : Nat → List Int → (Int → Option Int) → Int → Option Int
 | _, [], f => f
 | i, x :: l, f => placesFrom (i + 1) l fun y => if y = x then some (i : Int) else f y
def places (l : List Int) : Int → Option Int := placesFrom 0 l fun _ => none
def qcf (h : List T4) : Int → Option Int := places (qch (qap h))
def intV (f : Int → Option Int) : Int → Option Value := fun x => (f x).map (Value.int .i64)
theorem intV_upd (f : Int → Option Int) (x i : Int) : intV (fun y => if y = x then some i else f y) = upd (intV f) x (.int .i64 i) := by
 funext y
 unfold intV upd
 by_cases h : y = x <;> simp [h]
theorem intinfo : (Try.prog.info? 3).map (fun i => (i.zero, i.size, i.bytes)) = some (some (.int .i64 0), 1, 8) := by kernel_rfl
def RelR1 (h : List T4) (w : World) (x v : Value) (wr : World) : Prop :=
 ∃ i : Nat, i ≤ h.length ∧ v = .int .i64 ((i : Nat) : Int) ∧ wr.ownsRow w.heap.size 3 1 x (i * 2) ((qap (h.take i)).map (Value.int .i64)) ∧ Below w.heap.size w wr
set_option maxHeartbeats 8000000 in
set_option maxRecDepth 100000 in
theorem ranks_calls (A : Option Addr) (cap : Nat) (h : List T4) (hlen : h.length ≤ 64) (hok : ∀ t ∈ h, OkS t) (w : World) (hr : RdT w A h) :
  Calls Try.prog 40 #[.slice A h.length cap] w fun e w' => ∃ b s, e = .returned (.map (some b)) ∧ IM Try.prog 3 w' b (intV (qcf h)) s ∧ w.heap.size ≤ b ∧ Below w.heap.size w w' := by
 obtain ⟨n, hn⟩ : ∃ n, h.length = n := ⟨_, rfl⟩
 have HN := Lib.hid hn
 rw [hn] at hlen ⊢
 have HR := Lib.hid hr
 have HOK := Lib.hid hok
 clear hn hr hok
 have hmm := @run_makeMap Try.prog
 obtain ⟨i0, hii, hz0, hz1, hz2⟩ := info_parts intinfo
 go_enter Try.func40, Try.ntmps40
 go_wp2_with fail
 go_loopw [3, 11] (fun x v wr => RelR1 h w x v wr) (fun _ v _ => n - (intOf v).toNat)
 case atStart => exact ⟨0, Nat.zero_le _, rfl, World.ownsRow_nil _ _ _ _, Below.refl _ _⟩
 case round =>
  obtain ⟨i, hi, rfl, hown, hb⟩ := hrel
  rw [HN.out] at hi
  by_cases hlt : i < n
  ·have hltz : (i : Int) < (n : Int) := by omega
   have hil : i < h.length := by rw [HN.out]; exact hlt
   obtain ⟨ad, rfl, hc⟩ := HR.out (by omega)
   obtain ⟨t, ht⟩ : ∃ t, h[i]? = some t := ⟨_, List.getElem?_eq_getElem hil⟩
   obtain ⟨A3, c3, t0, t1, t2, t3, hl3, hro⟩ := hc i t ht
   have hto : qap (h.take (i + 1)) = qap (h.take i) ++ [t.b, t.c] := by rw [List.take_add_one, ht]; exact stampsL_snoc _ _
   replace t0 := cell_below hb t0
   replace t1 := cell_below hb t1
   replace t2 := cell_below hb t2
   replace t3 := cell_below hb t3
   have HTO := Lib.hid hto
   have HB := Lib.hid hb
   have HOWN := Lib.hid hown
   have hbz := hb.size
   obtain ⟨m, hm⟩ : ∃ m, t.ops.length = m := ⟨_, rfl⟩
   rw [hm] at t3
   clear hc ht hro hil hm hto hb hown hl3
   have hsl : (qap (h.take i)).length = i * 2 := by rw [stampsL_length, List.length_take, HN.out]; omega
   go_wp2_with (at_builtin; refine wpList_append_own_at _ rfl _ _ 29 rfl w.heap.size 3 i0 (.int .i64 0) 1 8 Try.underlying29 hii hz0 hz1 hz2 rfl (by decide) _ (i * 2) ((qap (h.take i)).map (Value.int .i64)) rfl ((HOWN.out.alloc _).alloc _) ⟨wr.heap.size + 1, 0, none⟩ 2 2 [.int .i64 t.b, .int .i64 t.c] rfl rfl ?c1 ?c2 (by unfold maxLen; omega) (by omega) (by simp; omega) ?_)
   case c1 =>
    intro j u hj
    have h := alloc_at (wr.alloc (.cells #[.int .i64 t.s, .int .i64 t.b, .int .i64 t.c, .slice A3 m c3] 55)) (.cells #[.int .i64 t.b, .int .i64 t.c] 3)
    rw [show (wr.alloc (.cells #[.int .i64 t.s, .int .i64 t.b, .int .i64 t.c, .slice A3 m c3] 55)).heap.size = wr.heap.size + 1 by simp] at h
    rw [add_zero, Lib.cell_of_heap h]
    simpa using hj
   case c2 =>
    intro u hu
    simp at hu
    rcases hu with rfl | rfl <;> rfl
   intro v8 w8 hown8 hgr8 hnil8 hat8
   have hb8 : Below w.heap.size w w8 := ((HB.out.alloc HB.out.size _).alloc (HB.out.alloc HB.out.size _).size _).grown hgr8 ((HB.out.alloc HB.out.size _).alloc (HB.out.alloc HB.out.size _).size _).size (fun j hj => (HOWN.out.lt j hj).1)
   clear hgr8 hnil8 hat8 t0 t1 t2 t3
   go_wp2_with fail
   go_roundw
   case rel => exact ⟨i + 1, by rw [HN.out]; omega, by go_num, by rw [HTO.out, List.map_append, Nat.add_mul]; exact hown8, hb8⟩
   case measure => (simp [intOf]; try omega)
  ·have hin : i = n := by omega
   subst hin
   rw [List.take_of_length_le (by rw [HN.out]; exact Nat.le_refl _)] at hown
   have hsl : (qap h).length = i * 2 := by rw [stampsL_length, HN.out]
   have hLl : (qch (qap h)).length = i * 2 := by unfold qch; rw [List.length_mergeSort, hsl]
   have hLm : ∀ x ∈ qch (qap h), 0 ≤ x ∧ x ≤ 2147483647 := by
    intro x hx
    unfold qch at hx
    rw [List.mem_mergeSort] at hx
    unfold qap at hx
    rw [List.mem_flatMap] at hx
    obtain ⟨t, ht, hx⟩ := hx
    obtain ⟨o1, o2, o3, o4, o5, o6⟩ := HOK.out t ht
    simp at hx
    rcases hx with rfl | rfl
    ·exact ⟨o3, o4⟩
    ·exact ⟨o5, o6⟩
   have hsort : Calls Try.prog 63 #[u3] wr fun e w' => e = .returned (.tuple #[]) ∧ w'.ownsRow w.heap.size 3 1 u3 (i * 2) ((qch (qap h)).map (Value.int .i64)) ∧ wr.grownBy w' u3.ownBlock := by
    rcases hown.2 with ⟨rfl, h0⟩ | ⟨g, cp, cur, rfl, hg, hh, h1, h2, h3, h4⟩
    ·refine (Try.slices_Sort_int_none none 0 wr).mono ?_
     rintro e w' ⟨rfl, rfl⟩
     have hnil : qap h = [] := List.eq_nil_of_length_eq_zero (by omega)
     refine ⟨rfl, ?_, below_grown (Below.refl _ _)⟩
     have hsn : qch [] = [] := by simp [qch]
     rw [hnil] at hown ⊢
     rw [hsn]
     exact hown
    ·have hH := holds_of_blockI (ss := qap h) hh (by rw [hsl]; simpa using h4)
     have hcon := Try.slices_Sort_int g 0 cp (qap h) wr hH (Array.getElem?_eq_some_iff.1 hh).1 (by omega)
     rw [hsl] at hcon
     refine hcon.mono ?_
     rintro e w' ⟨rfl, k, os, rfl⟩
     refine ⟨rfl, ?_, grownBy_sortedI _⟩
     have := ownsRow_sortedI (os := os) (n := k) (ss := qap h) (ts := qch (qap h)) (by rw [hLl, hsl]) hg hh (by omega) h2 h3
     rw [hsl] at this
     exact this
   have hlow : ∀ j, u3.ownBlock = some j → w.heap.size ≤ j := fun j hj => (hown.lt j hj).1
   obtain ⟨A9, cp9, rfl, hA9⟩ : ∃ A9 cp9, u3 = .slice A9 (i * 2) cp9 ∧ (0 < i * 2 → ∃ g, A9 = some ⟨g, 0, none⟩) := by
    rcases hown.2 with ⟨rfl, h0⟩ | ⟨g, cp, cur, rfl, _⟩
    ·exact ⟨none, 0, by rw [h0], by omega⟩
    ·exact ⟨_, _, rfl, fun _ => ⟨g, rfl⟩⟩
   have HL := Lib.hid hLm
   have HLL := Lib.hid hLl
   have HS := Lib.hid hsort
   have HB := Lib.hid hb
   have HRF := Lib.hid (show qcf h = places (qch (qap h)) from rfl)
   clear hown hLm hLl hsort hb hsl hz0 hz1 hz2 hii
   generalize qch (qap h) = L at HL HLL HS HRF
   go_wp2_with (go_at_call 63; (with_reducible refine HS.out.mono ?_); rintro e w5 ⟨rfl, hown5, hgr5⟩)
   have hb5 := HB.out.grown hgr5 HB.out.size hlow
   have him5 := IM.made w5 Try.prog 3
   have hown6 := hown5.alloc (.map #[] 0)
   have hb6 := hb5.alloc hb5.size (.map #[] 0)
   have HBB := Lib.hid hb5.size
   clear hown5 hb5 hgr5 hmm HS HB hlow
   obtain ⟨b, hbb⟩ : ∃ b, w5.heap.size = b := ⟨_, rfl⟩
   rw [hbb] at him5 HBB ⊢
   clear hbb
   go_loopw [28] (fun v wr => ∃ (j s : Nat) (f : Int → Option Int), j ≤ L.length ∧ v = .int .i64 ((j : Nat) : Int) ∧ s ≤ j ∧ IM Try.prog 3 wr b (intV f) s ∧ Below w.heap.size w wr ∧ wr.ownsRow w.heap.size 3 1 (.slice A9 (i * 2) cp9) (i * 2) (L.map (Value.int .i64)) ∧ placesFrom j (L.drop j) f = places L) (fun v _ => i * 2 - (intOf v).toNat)
   case atStart => exact ⟨0, 0, fun _ => none, Nat.zero_le _, rfl, Nat.zero_le _, him5, hb6, hown6, rfl⟩
   case round =>
    clear him5 hb6 hown6
    obtain ⟨j, s, f, hj, rfl, hs, him, hb, hown, hpl⟩ := hrel
    rw [HLL.out] at hj
    have HIM := Lib.hid him
    clear him
    by_cases hlt : j < i * 2
    ·have hltz : (j : Int) < (i : Int) * 2 := by omega
     obtain ⟨g, rfl⟩ := hA9 (by omega)
     obtain ⟨x, hx⟩ : ∃ x, L[j]? = some x := ⟨_, List.getElem?_eq_getElem (by rw [HLL.out]; exact hlt)⟩
     have hcell : wr.cell? ⟨g, j, none⟩ = some (.int .i64 x) := by
      rw [hown.cellAt j (by omega)]
      simp [hx]
     have hxb := HL.out x (List.mem_of_getElem? hx)
     have HW := Lib.hid (wf64 (x := x) (by omega) (by omega))
     have hdr : L.drop j = x :: L.drop (j + 1) := by
      rw [List.drop_eq_getElem_cons (by rw [HLL.out]; exact hlt)]
      congr 1
      exact Option.some.inj ((List.getElem?_eq_getElem (by rw [HLL.out]; exact hlt)).symm.trans hx)
     rw [hdr] at hpl
     have HPL := Lib.hid (show placesFrom (j + 1) (L.drop (j + 1)) (fun y => if y = x then some (j : Int) else f y) = places L from hpl)
     have hgne : g ≠ b := by
      rintro rfl
      have hh := HIM.out
      rcases hown.2 with ⟨h, _⟩ | ⟨g', cp, cur, he, hg, hh2, _⟩
      ·cases h
      ·cases he
       obtain ⟨D, ⟨es, clock, hb', _⟩, _⟩ := hh
       rw [hb'] at hh2
       cases hh2
     have HOWN := Lib.hid hown
     have HB := Lib.hid hb
     clear hx hdr hpl hown hb hxb
     go_wp2_with (at_mapUpdate; refine wpList_store HIM.out rfl _ _ _ 34 3 rfl Try.underlying34 Try.underlying3 (by unfold maxLen; omega) rfl x (.int .i64 (j : Int)) rfl rfl HW.out ?_; intro w7 him7 hg7)
     rw [← intV_upd] at him7
     have hb7 := HB.out.grown hg7 HB.out.size (fun k hk => by cases hk; exact HBB.out)
     have hown7 := HOWN.out.kept hg7 (.inr (by simp [Value.ownBlock]; exact hgne))
     clear hg7 hcell HIM
     go_wp2_with fail
     go_roundw
     case rel => exact ⟨j + 1, _, _, by rw [HLL.out]; omega, by go_num, by split <;> omega, him7, hb7, hown7, HPL.out⟩
     case measure => (simp [intOf]; try omega)
    ·have hji : j = i * 2 := by omega
     subst hji
     rw [List.drop_of_length_le (by rw [HLL.out]; exact Nat.le_refl _)] at hpl
     have HPL := Lib.hid hpl
     clear hpl
     go_wp2_with fail
     go_ret
     exact ⟨b, s, rfl, by rw [HRF.out, ← HPL.out]; exact HIM.out, HBB.out, hb⟩
end Go.Proofs.Ytngkneknopenmaa.Hist
end
section
namespace Go.Proofs.Ytngkneknopenmaa.Hist
open Go Go.RowKit Go.Proofs.Ytngkneknopenmaa.Row3 Go.Proofs.Ytngkneknopenmaa.IntMap
def idxL (l : List Int) (x : Int) : Nat := l.findIdx (· == x)
def qba (l : List Int) (x : Int) : List Int := if x ∈ l then l else l ++ [x]
theorem idxL_lt {l : List Int} {x : Int} (h : x ∈ l) : idxL l x < l.length := List.findIdx_lt_length_of_exists ⟨x, h, by simp⟩
theorem idxL_new {l : List Int} {x : Int} (h : x ∉ l) : idxL (l ++ [x]) x = l.length := by
 unfold idxL
 rw [List.findIdx_append]
 have : ¬ l.findIdx (· == x) < l.length := fun hh => by
  have := List.findIdx_getElem (w := hh)
  simp at this
  exact h (this ▸ List.getElem_mem hh)
 rw [if_neg this]
 simp
theorem idxL_old {l : List Int} {x y : Int} (h : x ∈ l) : idxL (l ++ [y]) x = idxL l x := by
 have hh := idxL_lt h
 unfold idxL at hh ⊢
 rw [List.findIdx_append, if_pos hh]
def qb8 (first : Int) (l : List Int) : Int → Option Value := fun x => if x ∈ l then some (.int .i64 (first + (idxL l x : Int))) else none
theorem nameV_new (first : Int) (l : List Int) (x : Int) (h : x ∉ l) : qb8 first (l ++ [x]) = upd (qb8 first l) x (.int .i64 (first + (l.length : Int))) := by
 funext y
 unfold qb8 upd
 by_cases hy : y = x
 ·subst hy
  rw [if_pos (by simp), if_pos rfl, idxL_new h]
 ·rw [if_neg hy]
  show _ = if y ∈ l then _ else none
  by_cases hl : y ∈ l
  ·rw [if_pos (by simp [hl]), if_pos hl, idxL_old hl]
  ·rw [if_neg (by simp [hl, hy]), if_neg hl]
def NM (w : World) (p : Nat) (m : Option Nat) (first : Int) (l : List Int) : Prop :=
 w.heap[p]? = some (.cells #[.map m, .int .i64 first] 77 (0, 0)) ∧ (m = none → l = []) ∧ ∀ b, m = some b → IM Try.prog 3 w b (qb8 first l) l.length
def Trn (w w' : World) (S : Nat → Prop) : Prop := w'.os = w.os ∧ w'.tape = w.tape ∧ w'.output = w.output ∧ w.heap.size ≤ w'.heap.size ∧ ∀ k, k < w.heap.size → ¬ S k → w'.heap[k]? = w.heap[k]?
theorem Trn.of_grown {w w' : World} {row : Option Nat} (h : w.grownBy w' row) : Trn w w' (fun k => row = some k) :=
 ⟨h.os, h.tape, h.output, h.size, fun k hk hn => h.block k hk (fun e => hn e.symm)⟩
theorem Trn.of_below {w w' : World} {S : Nat → Prop} (h : Below w.heap.size w w') : Trn w w' S := ⟨h.os, h.tape, h.output, h.size, fun k hk _ => h.block k hk⟩
theorem Trn.trans {a b c : World} {S T : Nat → Prop} (h : Trn a b S) (k : Trn b c T) : Trn a c (fun x => S x ∨ T x) :=
 ⟨k.1.trans h.1, k.2.1.trans h.2.1, k.2.2.1.trans h.2.2.1, Nat.le_trans h.2.2.2.1 k.2.2.2.1, fun x hx hn => (k.2.2.2.2 x (by have := h.2.2.2.1; omega) (fun e => hn (.inr e))).trans (h.2.2.2.2 x hx (fun e => hn (.inl e)))⟩
theorem Trn.mono {a b : World} {S T : Nat → Prop} (h : Trn a b S) (k : ∀ x, x < a.heap.size → S x → T x) : Trn a b T :=
 ⟨h.1, h.2.1, h.2.2.1, h.2.2.2.1, fun x hx hn => h.2.2.2.2 x hx (fun e => hn (k x hx e))⟩
theorem Trn.size {a b : World} {S : Nat → Prop} (h : Trn a b S) : a.heap.size ≤ b.heap.size := h.2.2.2.1
theorem Trn.block {a b : World} {S : Nat → Prop} (h : Trn a b S) {k : Nat} (hk : k < a.heap.size) (hn : ¬ S k) : b.heap[k]? = a.heap[k]? := h.2.2.2.2 k hk hn
theorem Trn.below {w a b : World} {S : Nat → Prop} (hb : Below w.heap.size w a) (h : Trn a b S) (hS : ∀ k, S k → w.heap.size ≤ k) : Below w.heap.size w b := by
 refine ⟨h.1.trans hb.os, h.2.1.trans hb.tape, h.2.2.1.trans hb.output, Nat.le_trans hb.size h.size, fun k hk => (h.block (by have := hb.size; omega) (fun e => ?_)).trans (hb.block k hk)⟩
 have := hS k e
 omega
theorem look_nil (w : World) (x : Int) : (Instr.lookup 34 (.map none) (.int .i64 x) true).run Try.prog w = .ok (.tuple #[.int .i64 0, .bool false]) w := by
 have h1 : Instr.findNow (.int .i64) (.int .i64 x) ([] : List MapEntry) 0 = some none := rfl
 have hz : (zeroValue 3).run Try.prog w = .ok (.int .i64 0) w := by kernel_rfl
 have hk : MapKept.IsKey (.int .i64) (.int .i64 x) := by simp [MapKept.IsKey]
 simp [Instr.lookup, run_underlying Try.underlying34, MapKept.run_checkKey Try.underlying3 hk, MapKept.run_findKey Try.underlying3 h1, hz, Result.andThen]
theorem eq_nil (w : World) : (binOp BinOp.eql 34 (.map none) (.map none)).run Try.prog w = .ok (.bool true) w := by kernel_rfl
theorem eq_some (w : World) (b : Nat) : (binOp BinOp.eql 34 (.map (some b)) (.map none)).run Try.prog w = .ok (.bool false) w := by kernel_rfl
set_option maxHeartbeats 8000000 in
set_option maxRecDepth 100000 in
theorem name_calls (p : Nat) (m : Option Nat) (first : Int) (l : List Int) (x : Int) (hx : 0 ≤ x ∧ x ≤ 2147483647) (hf : 0 ≤ first ∧ first ≤ 1) (hl : l.length ≤ 5000) (hmp : m ≠ some p) (w : World) (hn : NM w p m first l) :
  Calls Try.prog 41 #[.pointer (some ⟨p, 0, none⟩), .int .i64 x] w fun e w' => e = .returned (.int .i64 (first + (idxL (qba l x) x : Int))) ∧
   ∃ m', NM w' p m' first (qba l x) ∧ (m' = m ∨ ∃ b, m' = some b ∧ w.heap.size ≤ b) ∧ Trn w w' (fun k => k = p ∨ m = some k) := by
 obtain ⟨hp, hm0, hm1⟩ := hn
 have hmm := @run_makeMap Try.prog
 have c0 := Lib.cell_of_heap hp 0
 have c1 := Lib.cell_of_heap hp 1
 have f0 := Lib.frozen_of_heap hp 0
 simp only [List.getElem?_toArray, List.getElem?_cons_zero, List.getElem?_cons_succ] at c0 c1
 have HW := Lib.hid (wf64 (x := x) (by omega) (by omega))
 cases m with
 | none =>
  obtain rfl := hm0 rfl
  clear hm0 hm1
  have hpl := (Array.getElem?_eq_some_iff.1 hp).1
  have hln := look_nil w x
  have heq := eq_nil w
  go_enter Try.func41, Try.ntmps41
  go_wp2_with fail
  obtain ⟨b, hb⟩ : ∃ b, w.heap.size = b := ⟨_, rfl⟩
  have hpb : p < b := by omega
  have hsz4 : (w.setCell ⟨p, 0, none⟩ (.map (some b))).heap.size = b := by simp [hb]
  have hp4 := qay w p 0 _ _ _ (.map (some b)) hp
  simp only [List.setIfInBounds_toArray, List.set_cons_zero] at hp4
  have hbe := (Below.refl (w.setCell ⟨p, 0, none⟩ (.map (some b))).heap.size (w.setCell ⟨p, 0, none⟩ (.map (some b)))).alloc (Nat.le_refl _) (.map #[] 0)
  have hp5 := (hbe.block p (by rw [hsz4]; exact hpb)).trans hp4
  have him5 : IM Try.prog 3 ((w.setCell ⟨p, 0, none⟩ (.map (some b))).alloc (.map #[] 0)) b (qb8 first []) 0 := by
   have := IM.made (w.setCell ⟨p, 0, none⟩ (.map (some b))) Try.prog 3
   rw [hsz4] at this
   exact this
  have ht5 := (Trn.of_grown (qas w p 0 (.map (some b)))).trans (Trn.of_below (S := fun _ => False) hbe)
  rw [hb]
  clear hmm hln heq c0 c1 f0 hbe hp4
  obtain ⟨W, hW⟩ : ∃ W, (w.setCell ⟨p, 0, none⟩ (.map (some b))).alloc (.map #[] 0) = W := ⟨_, rfl⟩
  rw [hW] at hp5 him5 ht5 ⊢
  clear hW
  have c0 := Lib.cell_of_heap hp5 0
  have c1 := Lib.cell_of_heap hp5 1
  simp only [List.getElem?_toArray, List.getElem?_cons_zero, List.getElem?_cons_succ] at c0 c1
  have him6 : IM Try.prog 3 W.drew b (qb8 first []) 0 := him5.below ((Below.refl _ _).drew)
  have hln := him6.len Try.underlying34
  obtain ⟨w6, hrun, him7, hg7⟩ := him6.store Try.underlying34 Try.underlying3 (by unfold maxLen; omega) HW.out (.int .i64 first)
  have hp7 := (hg7.block p (by rw [World.size_drew]; exact (Array.getElem?_eq_some_iff.1 hp5).1) (by intro e; injection e; omega)).trans hp5
  have ht7 := (ht5.trans (Trn.of_below (S := fun _ => False) (Below.refl _ W).drew)).trans (Trn.of_grown hg7)
  have him8 : IM Try.prog 3 w6 b (qb8 first [x]) 1 := by
   have := nameV_new first [] x (by simp)
   rw [List.nil_append] at this
   rw [this]
   simpa [qb8] using him7
  go_region
  clear hrun hln him5 him6 him7 hg7 ht5 c0 c1
  have c0 := Lib.cell_of_heap hp7 0
  simp only [List.getElem?_toArray, List.getElem?_cons_zero] at c0
  go_wp2_with (at_lookup; refine qav him8 rfl _ _ 34 3 false rfl Try.underlying34 Try.underlying3 (.int .i64 0) (fun _ => by kernel_rfl) rfl x rfl HW.out (.int .i64 first) (by simp [qb8, idxL]) ?_)
  go_ret
  have e1 : qba [] x = [x] := by simp [qba]
  have e2 : idxL [x] x = 0 := by simp [idxL]
  refine ⟨by rw [e1, e2]; simp, some b, ⟨hp7, by simp, fun c hc => by cases hc; rw [e1]; exact him8⟩, .inr ⟨b, rfl, by omega⟩, ht7.mono ?_⟩
  rintro k hk (((e | e) | e) | e)
  ·injection e with e; exact .inl e.symm
  ·exact e.elim
  ·exact e.elim
  ·injection e with e; omega
 | some b =>
  have him := hm1 b rfl
  have HIM := Lib.hid him
  have hbp : b ≠ p := fun e => hmp (by rw [e])
  have heq := eq_some w b
  have hpl := (Array.getElem?_eq_some_iff.1 hp).1
  clear hm0 hm1 him
  by_cases hxl : x ∈ l
  ·have HV := Lib.hid (show (if true = true then (.tuple #[(qb8 first l x).getD (.int .i64 0), .bool (qb8 first l x).isSome] : Value) else (qb8 first l x).getD (.int .i64 0)) = .tuple #[.int .i64 (first + (idxL l x : Int)), .bool true] by simp [qb8, hxl])
   have HV2 := Lib.hid (show (if false = true then (.tuple #[(qb8 first l x).getD (.int .i64 0), .bool (qb8 first l x).isSome] : Value) else (qb8 first l x).getD (.int .i64 0)) = .int .i64 (first + (idxL l x : Int)) by simp [qb8, hxl])
   go_enter Try.func41, Try.ntmps41
   go_wp2_with (first
    | (at_lookup; refine qav HIM.out rfl _ _ 34 3 true rfl Try.underlying34 Try.underlying3 (.int .i64 0) (fun _ => by kernel_rfl) rfl x rfl HW.out _ HV.out ?_)
    | (at_lookup; refine qav HIM.out rfl _ _ 34 3 false rfl Try.underlying34 Try.underlying3 (.int .i64 0) (fun _ => by kernel_rfl) rfl x rfl HW.out _ HV2.out ?_))
   go_ret
   have e1 : qba l x = l := by simp [qba, hxl]
   exact ⟨by rw [e1]; rfl, some b, ⟨hp, by simp, fun c hc => by cases hc; rw [e1]; exact HIM.out⟩, .inl rfl, Trn.of_below (Below.refl _ _)⟩
  ·have HV := Lib.hid (show (if true = true then (.tuple #[(qb8 first l x).getD (.int .i64 0), .bool (qb8 first l x).isSome] : Value) else (qb8 first l x).getD (.int .i64 0)) = .tuple #[.int .i64 0, .bool false] by simp [qb8, hxl])
   have him6 : IM Try.prog 3 w.drew b (qb8 first l) l.length := HIM.out.below ((Below.refl _ _).drew)
   have hln := him6.len Try.underlying34
   obtain ⟨n, hnl⟩ : ∃ n, l.length = n := ⟨_, rfl⟩
   have HNL := Lib.hid hnl
   rw [hnl] at hln hl him6
   obtain ⟨w6, hrun, him7, hg7⟩ := him6.store Try.underlying34 Try.underlying3 (by unfold maxLen; omega) HW.out (.int .i64 (first + (n : Int)))
   have hp7 := (hg7.block p (by rw [World.size_drew]; exact hpl) (by intro e; injection e; omega)).trans hp
   have ht7 := (Trn.of_below (S := fun _ => False) (Below.refl _ w).drew).trans (Trn.of_grown hg7)
   have e1 : qba l x = l ++ [x] := by simp [qba, hxl]
   have him8 : IM Try.prog 3 w6 b (qb8 first (l ++ [x])) (l.length + 1) := by
    rw [nameV_new first l x hxl, hnl]
    simpa [qb8, hxl] using him7
   have hnv : qb8 first (l ++ [x]) x = some (.int .i64 (first + (n : Int))) := by
    rw [nameV_new first l x hxl, hnl]
    unfold upd
    rw [if_pos rfl]
   have HIM8 := Lib.hid him8
   have HNV := Lib.hid hnv
   clear him6 him7 him8 hnl hnv
   go_enter Try.func41, Try.ntmps41
   go_wp2_with (at_lookup; refine qav HIM.out rfl _ _ 34 3 true rfl Try.underlying34 Try.underlying3 (.int .i64 0) (fun _ => by kernel_rfl) rfl x rfl HW.out _ HV.out ?_)
   go_region
   clear hrun hln c0 c1 hg7
   have c0 := Lib.cell_of_heap hp7 0
   simp only [List.getElem?_toArray, List.getElem?_cons_zero] at c0
   go_wp2_with (at_lookup; refine qav HIM8.out rfl _ _ 34 3 false rfl Try.underlying34 Try.underlying3 (.int .i64 0) (fun _ => by kernel_rfl) rfl x rfl HW.out (.int .i64 (first + (n : Int))) (by rw [HNV.out]; rfl) ?_)
   go_ret
   refine ⟨by rw [e1, idxL_new hxl, HNL.out]; rfl, some b, ⟨hp7, by simp, fun c hc => by cases hc; rw [e1, List.length_append]; exact HIM8.out⟩, .inl rfl, ht7.mono ?_⟩
   rintro k hk (e | e)
   ·exact e.elim
   ·exact .inr e
end Go.Proofs.Ytngkneknopenmaa.Hist
end
section
namespace Go.Proofs.Ytngkneknopenmaa.Hist
open Go Go.RowKit Go.Proofs.Ytngkneknopenmaa.Row3 Go.Proofs.Ytngkneknopenmaa.IntMap
def names (l : List Int) : List Int := l.foldl qba []
theorem names_snoc (l : List Int) (x : Int) : names (l ++ [x]) = qba (names l) x := by simp [names, List.foldl_append]
theorem mem_nameF {l : List Int} {x y : Int} : y ∈ qba l x ↔ y ∈ l ∨ y = x := by
 unfold qba
 split
 ·rename_i h
  exact ⟨.inl, fun e => e.elim id (fun e => e ▸ h)⟩
 ·simp
theorem mem_foldl {l : List Int} : ∀ {acc : List Int} {y : Int}, y ∈ l.foldl qba acc ↔ y ∈ acc ∨ y ∈ l := by
 induction l with
 | nil => simp
 | cons x l ih =>
  intro acc y
  rw [List.foldl_cons, ih, mem_nameF, List.mem_cons, or_assoc]
theorem mem_names {l : List Int} {y : Int} : y ∈ names l ↔ y ∈ l := by unfold names; rw [mem_foldl]; simp
theorem idx_nameF {l : List Int} {x y : Int} (h : y ∈ l) : idxL (qba l x) y = idxL l y := by
 unfold qba
 split
 ·rfl
 ·exact idxL_old h
theorem idx_foldl {r : List Int} : ∀ {l : List Int} {y : Int}, y ∈ l → idxL (r.foldl qba l) y = idxL l y := by
 induction r with
 | nil => intro l y _; rfl
 | cons x r ih =>
  intro l y h
  rw [List.foldl_cons, ih (mem_nameF.2 (.inl h)), idx_nameF h]
theorem idx_names {l r : List Int} {y : Int} (h : y ∈ l) : idxL (names (l ++ r)) y = idxL (names l) y := by
 have := idx_foldl (r := r) (l := names l) (mem_names.2 h)
 unfold names at this ⊢
 rw [List.foldl_append]
 exact this
theorem nameF_length (l : List Int) (x : Int) : (qba l x).length ≤ l.length + 1 := by unfold qba; split <;> simp
theorem foldl_length {l : List Int} : ∀ acc : List Int, (l.foldl qba acc).length ≤ acc.length + l.length := by
 induction l with
 | nil => intro acc; simp
 | cons x l ih =>
  intro acc
  have := ih (qba acc x)
  have := nameF_length acc x
  simp only [List.foldl_cons, List.length_cons]
  omega
theorem names_length (l : List Int) : (names l).length ≤ l.length := by have := foldl_length (l := l) []; simpa [names] using this
def qb5 (ops : List O3) : List Int := ops.map (·.k)
def qbv (ops : List O3) : List Int := (ops.filter fun o => decide (o.v ≠ 0)).map (·.v)
def qa4 (l : List T4) : List Int := l.flatMap fun t => qb5 t.ops
def qa6 (l : List T4) : List Int := l.flatMap fun t => qbv t.ops
def qbk (l : List T4) : List Int := l.map (·.s)
def canO (KK VV : List Int) (o : O3) : O3 := ⟨o.w, (idxL KK o.k : Int), if o.v = 0 then 0 else 1 + (idxL VV o.v : Int)⟩
def canT (SS KK VV : List Int) (R : Int → Int) (t : T4) : T4 := ⟨(idxL SS t.s : Int), R t.b, R t.c, t.ops.map (canO KK VV)⟩
def canonL (R : Int → Int) (l : List T4) : List T4 := l.map (canT (names (qbk l)) (names (qa4 l)) (names (qa6 l)) R)
theorem flat_setk (xs : List O3) (rest : List Value) : ∀ (i : Nat) (o : O3) (k : Int), xs[i]? = some o → (flat xs ++ rest).set (i * 3 + 1) (.int .i64 k) = flat (xs.set i { o with k := k }) ++ rest := by
 induction xs with
 | nil => intro i o k h; simp at h
 | cons x xs ih =>
  intro i o k h
  have e : flat (x :: xs) ++ rest = .bool x.w :: .int .i64 x.k :: .int .i64 x.v :: (flat xs ++ rest) := rfl
  rw [e]
  cases i with
  | zero => simp at h; subst h; rfl
  | succ i =>
   have e1 : (i + 1) * 3 + 1 = i * 3 + 1 + 1 + 1 + 1 := by omega
   rw [e1]
   simp only [List.set_cons_succ]
   rw [ih i o k (by simpa using h)]
   rfl
theorem flat_setv (xs : List O3) (rest : List Value) : ∀ (i : Nat) (o : O3) (v : Int), xs[i]? = some o → (flat xs ++ rest).set (i * 3 + 2) (.int .i64 v) = flat (xs.set i { o with v := v }) ++ rest := by
 induction xs with
 | nil => intro i o k h; simp at h
 | cons x xs ih =>
  intro i o v h
  have e : flat (x :: xs) ++ rest = .bool x.w :: .int .i64 x.k :: .int .i64 x.v :: (flat xs ++ rest) := rfl
  rw [e]
  cases i with
  | zero => simp at h; subst h; rfl
  | succ i =>
   have e1 : (i + 1) * 3 + 2 = i * 3 + 2 + 1 + 1 + 1 := by omega
   rw [e1]
   simp only [List.set_cons_succ]
   rw [ih i o v (by simpa using h)]
   rfl
structure CS (w : World) (base B : Nat) (rest : List Value) (rows : List TR) (hs : List T4) (P : Nat → Nat) (M : Nat → Option Nat) (F : Nat → Int) (L : Nat → List Int) (bR sR : Nat) (fR : Int → Option Int) : Prop where
 row : w.heap[B]? = some (.cells (qby rows ++ rest).toArray 55 (0, 0))
 says : SaysAll w base rows hs
 nm : ∀ c, c < 3 → NM w (P c) (M c) (F c) (L c)
 rk : IM Try.prog 3 w bR (intV fR) sR
 loB : base ≤ B
 loP : ∀ c, c < 3 → base ≤ P c
 loM : ∀ c k, c < 3 → M c = some k → base ≤ k
 apP : ∀ c d, c < 3 → d < 3 → c ≠ d → P c ≠ P d
 apM : ∀ c d k, c < 3 → d < 3 → c ≠ d → M c = some k → M d ≠ some k
 apR : ∀ c, c < 3 → M c ≠ some bR
variable {w w' : World} {base B bR sR : Nat} {rest : List Value} {rows : List TR} {hs : List T4} {P : Nat → Nat} {M : Nat → Option Nat} {F : Nat → Int} {L : Nat → List Int} {fR : Int → Option Int}
theorem im_map {b s : Nat} {f : Int → Option Value} (h : IM Try.prog 3 w b f s) : ∃ es clock, w.heap[b]? = some (.map es clock) := by
 obtain ⟨D, ⟨es, clock, hb, _⟩, _⟩ := h
 exact ⟨es, clock, hb⟩
theorem NM.move {p : Nat} {m : Option Nat} {first : Int} {l : List Int} {S : Nat → Prop} (h : NM w p m first l) (ht : Trn w w' S) (hp : ¬ S p) (hm : ∀ k, m = some k → ¬ S k) : NM w' p m first l :=
 ⟨(ht.block (Array.getElem?_eq_some_iff.1 h.1).1 hp).trans h.1, h.2.1, fun b e => (h.2.2 b e).move (ht.block (h.2.2 b e).lt (hm b e))⟩
theorem SaysAll.trn {S : Nat → Prop} (hs' : SaysAll w base rows hs) (ht : Trn w w' S) (hne : ∀ r ∈ rows, ¬ S r.g) : SaysAll w' base rows hs :=
 ⟨hs'.1, fun i r t hr ht' => (hs'.2.1 i r t hr ht').move (ht.block (by obtain ⟨_, _, _, _, _, _, h⟩ := hs'.2.1 i r t hr ht'; exact h.lt) (hne r (List.mem_of_getElem? hr))), hs'.2.2⟩
theorem CS.gcells (h : CS w base B rest rows hs P M F L bR sR fR) {r : TR} (hr : r ∈ rows) : ∃ cs, w.heap[r.g]? = some (.cells cs 51 (0, 0)) := by
 obtain ⟨i, hi⟩ := List.mem_iff_getElem?.1 hr
 have hil := (List.getElem?_eq_some_iff.1 hi).1
 obtain ⟨_, _, _, _, _, _, rst, g, _⟩ := h.says.2.1 i r _ hi (List.getElem?_eq_getElem (by rw [← h.says.1]; exact hil))
 exact ⟨_, g⟩
theorem CS.move {S : Nat → Prop} (h : CS w base B rest rows hs P M F L bR sR fR) (ht : Trn w w' S) (hB : ¬ S B) (hg : ∀ r ∈ rows, ¬ S r.g) (hp : ∀ c, c < 3 → ¬ S (P c) ∧ ∀ k, M c = some k → ¬ S k) (hR : ¬ S bR) : CS w' base B rest rows hs P M F L bR sR fR where
 row := (ht.block (Array.getElem?_eq_some_iff.1 h.row).1 hB).trans h.row
 says := h.says.trn ht hg
 nm := fun c hc => (h.nm c hc).move ht (hp c hc).1 (hp c hc).2
 rk := h.rk.move (ht.block h.rk.lt hR)
 loB := h.loB
 loP := h.loP
 loM := h.loM
 apP := h.apP
 apM := h.apM
 apR := h.apR
theorem CS.below (h : CS w base B rest rows hs P M F L bR sR fR) (hb : Below w.heap.size w w') : CS w' base B rest rows hs P M F L bR sR fR :=
 h.move (Trn.of_below (S := fun _ => False) hb) id (fun _ _ => id) (fun _ _ => ⟨id, fun _ _ => id⟩) id
theorem CS.name (h : CS w base B rest rows hs P M F L bR sR fR) (hb : base ≤ w.heap.size) (c : Nat) (hc : c < 3) (x : Int) {m' : Option Nat} (hn : NM w' (P c) m' (F c) (qba (L c) x)) (hm : m' = M c ∨ ∃ b, m' = some b ∧ w.heap.size ≤ b) (ht : Trn w w' (fun k => k = P c ∨ M c = some k)) :
  CS w' base B rest rows hs P (fun d => if d = c then m' else M d) F (fun d => if d = c then qba (L c) x else L d) bR sR fR := by
 obtain ⟨esR, clR, hR⟩ := im_map h.rk
 have hmap : ∀ d k, d < 3 → M d = some k → ∃ es clock, w.heap[k]? = some (.map es clock) := fun d k hd e => im_map ((h.nm d hd).2.2 k e)
 have hmlt : ∀ d k, d < 3 → M d = some k → k < w.heap.size := fun d k hd e => ((h.nm d hd).2.2 k e).lt
 have hB : ¬ (B = P c ∨ M c = some B) := by
  rintro (e | e)
  ·have h1 := h.row
   rw [e, (h.nm c hc).1] at h1
   simp at h1
  ·obtain ⟨es, cl, h2⟩ := hmap c B hc e
   have h1 := h.row
   rw [h2] at h1
   cases h1
 have hg : ∀ r ∈ rows, ¬ (r.g = P c ∨ M c = some r.g) := by
  intro r hr
  obtain ⟨cs, h1⟩ := h.gcells hr
  rintro (e | e)
  ·rw [e, (h.nm c hc).1] at h1
   simp at h1
  ·obtain ⟨es, cl, h2⟩ := hmap c _ hc e
   rw [h2] at h1
   cases h1
 have hR2 : ¬ (bR = P c ∨ M c = some bR) := by
  rintro (e | e)
  ·rw [e, (h.nm c hc).1] at hR
   cases hR
  ·exact h.apR c hc e
 have hpm : ∀ d k, d < 3 → M d = some k → k ≠ P c := by
  intro d k hd e e2
  obtain ⟨es, cl, h2⟩ := hmap d k hd e
  rw [e2, (h.nm c hc).1] at h2
  cases h2
 constructor
 ·exact (ht.block (Array.getElem?_eq_some_iff.1 h.row).1 hB).trans h.row
 ·exact h.says.trn ht hg
 ·intro d hd
  by_cases e : d = c
  ·subst e
   simpa using hn
  ·simp only [if_neg e]
   refine (h.nm d hd).move ht ?_ ?_
   ·rintro (e2 | e2)
    ·exact h.apP d c hd hc e e2
    ·exact hpm c _ hc e2 (by
      obtain ⟨es, cl, h2⟩ := hmap c _ hc e2
      rw [(h.nm d hd).1] at h2
      cases h2)
   ·rintro k hk (e2 | e2)
    ·exact hpm d k hd hk e2
    ·exact h.apM d c k hd hc e hk e2
 ·exact h.rk.move (ht.block h.rk.lt hR2)
 ·exact h.loB
 ·exact h.loP
 ·intro d k hd e
  by_cases e2 : d = c
  ·simp only [if_pos e2] at e
   rcases hm with hm | ⟨b, hm, hlo⟩
   ·exact h.loM c k hc (by rw [← hm]; exact e)
   ·rw [hm] at e
    cases e
    omega
  ·simp only [if_neg e2] at e
   exact h.loM d k hd e
 ·exact h.apP
 ·intro d e k hd he hne
  by_cases h1 : d = c
  ·have h2 : e ≠ c := fun h2 => hne (h1.trans h2.symm)
   simp only [if_pos h1, if_neg h2]
   intro hk hk2
   rcases hm with hm | ⟨b, hm, hlo⟩
   ·rw [hm] at hk
    exact h.apM e c k he hc h2 hk2 hk
   ·rw [hm] at hk
    cases hk
    have := hmlt e _ he hk2
    omega
  ·simp only [if_neg h1]
   by_cases h2 : e = c
   ·simp only [if_pos h2]
    intro hk hk2
    rcases hm with hm | ⟨b, hm, hlo⟩
    ·rw [hm] at hk2
     exact h.apM d c k hd hc h1 hk hk2
    ·rw [hm] at hk2
     cases hk2
     have := hmlt d _ hd hk
     omega
   ·simp only [if_neg h2]
    exact h.apM d e k hd he hne
 ·intro d hd
  by_cases e2 : d = c
  ·simp only [if_pos e2]
   rcases hm with hm | ⟨b, hm, hlo⟩
   ·rw [hm]; exact h.apR c hc
   ·rw [hm]
    intro e
    cases e
    have := h.rk.lt
    omega
  ·simp only [if_neg e2]
   exact h.apR d hd
theorem CS.sep (h : CS w base B rest rows hs P M F L bR sR fR) : (∀ r ∈ rows, r.g ≠ B) ∧ (∀ c, c < 3 → P c ≠ B ∧ ∀ k, M c = some k → k ≠ B) ∧ bR ≠ B ∧ ∀ r ∈ rows, (∀ c, c < 3 → P c ≠ r.g ∧ ∀ k, M c = some k → k ≠ r.g) ∧ bR ≠ r.g := by
 have hmap : ∀ d k, d < 3 → M d = some k → ∃ es clock, w.heap[k]? = some (.map es clock) := fun d k hd e => im_map ((h.nm d hd).2.2 k e)
 obtain ⟨esR, clR, hR⟩ := im_map h.rk
 have hrow := h.row
 refine ⟨fun r hr e => ?_, fun c hc => ⟨fun e => ?_, fun k hk e => ?_⟩, fun e => ?_, fun r hr => ⟨fun c hc => ⟨fun e => ?_, fun k hk e => ?_⟩, fun e => ?_⟩⟩
 ·obtain ⟨cs, h1⟩ := h.gcells hr
  rw [e, hrow] at h1
  simp at h1
 ·have h1 := (h.nm c hc).1
  rw [e, hrow] at h1
  simp at h1
 ·obtain ⟨es, cl, h1⟩ := hmap c k hc hk
  rw [e, hrow] at h1
  cases h1
 ·rw [e, hrow] at hR
  cases hR
 ·obtain ⟨cs, h1⟩ := h.gcells hr
  have h2 := (h.nm c hc).1
  rw [e, h1] at h2
  simp at h2
 ·obtain ⟨cs, h1⟩ := h.gcells hr
  obtain ⟨es, cl, h2⟩ := hmap c k hc hk
  rw [e, h1] at h2
  cases h2
 ·obtain ⟨cs, h1⟩ := h.gcells hr
  rw [e, h1] at hR
  cases hR
theorem set_map_g {l : List TR} {i : Nat} {r r' : TR} (h : l[i]? = some r) (e : r'.g = r.g) : (l.set i r').map (·.g) = l.map (·.g) := by
 rw [List.map_set, e]
 refine List.ext_getElem? fun j => ?_
 rw [List.getElem?_set]
 split
 ·rename_i hj
  subst hj
  obtain ⟨hi, hl⟩ := List.getElem?_eq_some_iff.1 h
  simp [hi, hl]
 ·rfl
def putNum (w : World) (B i : Nat) (s b c : Int) : World := ((w.setCell ⟨B, i * 4, none⟩ (.int .i64 s)).setCell ⟨B, i * 4 + 1, none⟩ (.int .i64 b)).setCell ⟨B, i * 4 + 2, none⟩ (.int .i64 c)
theorem putNum_grown (w : World) (B i : Nat) (s b c : Int) : w.grownBy (putNum w B i s b c) (some B) :=
 World.grownBy.trans (World.grownBy.trans (qas _ _ _ _) (qas _ _ _ _)) (qas _ _ _ _)
theorem CS.setNum (h : CS w base B rest rows hs P M F L bR sR fR) {i : Nat} {r : TR} {t : T4} (hr : rows[i]? = some r) (ht : hs[i]? = some t) (s b c : Int) :
  CS (putNum w B i s b c) base B rest (rows.set i { r with s := s, b := b, c := c }) (hs.set i { t with s := s, b := b, c := c }) P M F L bR sR fR := by
 have hg := Trn.of_grown (putNum_grown w B i s b c)
 obtain ⟨a1, a2, a3, a4⟩ := h.sep
 have ho : CS (putNum w B i s b c) base B rest rows hs P M F L bR sR fR ∨ True := .inr trivial
 constructor
 ·unfold putNum
  rw [qay _ _ _ _ _ _ _ (qay _ _ _ _ _ _ _ (qay _ _ _ _ _ _ _ h.row)), ← flatT_set rows rest i r s b c hr]
  simp
 ·have hs1 := h.says.trn hg (fun x hx e => a1 x hx (by injection e with e; exact e.symm))
  refine ⟨by simp [hs1.1], fun j x y hx hy => ?_, by rw [set_map_g (r' := { r with s := s, b := b, c := c }) hr rfl]; exact hs1.2.2⟩
  rw [List.getElem?_set] at hx hy
  by_cases hj : i = j
  ·subst hj
   rw [if_pos rfl, if_pos (List.getElem?_eq_some_iff.1 hr).1] at hx
   rw [if_pos rfl, if_pos (List.getElem?_eq_some_iff.1 ht).1] at hy
   cases hx
   cases hy
   obtain ⟨b1, b2, b3, b4, b5, b6, b7⟩ := hs1.2.1 i r t hr ht
   exact ⟨rfl, rfl, rfl, b4, b5, b6, b7⟩
  ·rw [if_neg hj] at hx hy
   exact hs1.2.1 j x y hx hy
 ·exact fun c hc => (h.nm c hc).move hg (fun e => (a2 c hc).1 (by injection e with e; exact e.symm)) (fun k hk e => (a2 c hc).2 k hk (by injection e with e; exact e.symm))
 ·exact h.rk.move (hg.block h.rk.lt (fun e => a3 (by injection e with e; exact e.symm)))
 ·exact h.loB
 ·exact h.loP
 ·exact h.loM
 ·exact h.apP
 ·exact h.apM
 ·exact h.apR
theorem CS.setOp (h : CS w base B rest rows hs P M F L bR sR fR) {i a : Nat} {v : Value} {r : TR} {t : T4} {ops' : List O3} (hr : rows[i]? = some r) (ht : hs[i]? = some t) (hl : ops'.length = t.ops.length)
  (hf : ∀ rst, (flat t.ops ++ rst).set a v = flat ops' ++ rst) : CS (w.setCell ⟨r.g, a, none⟩ v) base B rest rows (hs.set i { t with ops := ops' }) P M F L bR sR fR := by
 have hg := Trn.of_grown (qas w r.g a v)
 have hrm := List.mem_of_getElem? hr
 obtain ⟨a1, a2, a3, a4⟩ := h.sep
 obtain ⟨c1, c2⟩ := a4 r hrm
 constructor
 ·exact (hg.block (Array.getElem?_eq_some_iff.1 h.row).1 (fun e => a1 r hrm (by injection e))).trans h.row
 ·refine ⟨by simp [h.says.1], fun k x y hx hy => ?_, h.says.2.2⟩
  rw [List.getElem?_set] at hy
  by_cases hk : i = k
  ·subst hk
   rw [if_pos rfl, if_pos (List.getElem?_eq_some_iff.1 ht).1] at hy
   cases hy
   rw [hr] at hx
   cases hx
   obtain ⟨b1, b2, b3, b4, b5, b6, rst, b7, b8, b9⟩ := h.says.2.1 i r t hr ht
   refine ⟨b1, b2, b3, by rw [b4]; exact hl.symm, b5, b6, rst, ?_, by rw [← hf rst, List.length_set]; exact b8, b9⟩
   have h7 : w.heap[r.g]? = some (.cells (flat t.ops ++ rst).toArray 51 (0, 0)) := b7
   unfold RW
   rw [qay _ _ _ _ _ _ _ h7, ← hf rst]
   simp
  ·rw [if_neg hk] at hy
   have hne : x.g ≠ r.g := by
    intro e
    have hnd := List.pairwise_iff_getElem.1 h.says.2.2
    obtain ⟨hkl, hkx⟩ := List.getElem?_eq_some_iff.1 hx
    obtain ⟨hil, hir⟩ := List.getElem?_eq_some_iff.1 hr
    rcases Nat.lt_or_gt_of_ne hk with hlt | hlt
    ·exact hnd i k (by simpa using hil) (by simpa using hkl) hlt (by simp [hkx, hir, e])
    ·exact hnd k i (by simpa using hkl) (by simpa using hil) hlt (by simp [hkx, hir, e])
   exact (h.says.2.1 k x y hx hy).move (hg.block (by obtain ⟨_, _, _, _, _, _, g⟩ := h.says.2.1 k x y hx hy; exact g.lt) (fun e => hne (by injection e with e; exact e.symm)))
 ·exact fun c hc => (h.nm c hc).move hg (fun e => (c1 c hc).1 (by injection e with e; exact e.symm)) (fun k hk e => (c1 c hc).2 k hk (by injection e with e; exact e.symm))
 ·exact h.rk.move (hg.block h.rk.lt (fun e => c2 (by injection e with e; exact e.symm)))
 ·exact h.loB
 ·exact h.loP
 ·exact h.loM
 ·exact h.apP
 ·exact h.apM
 ·exact h.apR
end Go.Proofs.Ytngkneknopenmaa.Hist
end
section
namespace Go.Proofs.Ytngkneknopenmaa.Hist
open Go Go.RowKit Go.Proofs.Ytngkneknopenmaa.Row3
def qaz (l : List Int) (x : Int) : Nat := l.countP fun y => decide (y < x)
theorem placesFrom_not : ∀ (l : List Int) (i : Nat) (f : Int → Option Int) (x : Int), x ∉ l → placesFrom i l f x = f x
 | [], _, _, _, _ => rfl
 | y :: l, i, f, x, h => by
  simp only [List.mem_cons, not_or] at h
  unfold placesFrom
  rw [placesFrom_not l (i + 1) _ x h.2, if_neg h.1]
theorem placesFrom_sorted : ∀ (l : List Int) (i : Nat) (f : Int → Option Int) (x : Int), l.Pairwise (· < ·) → x ∈ l → placesFrom i l f x = some ((i + qaz l x : Nat) : Int)
 | [], _, _, _, _, h => by cases h
 | y :: l, i, f, x, hp, h => by
  obtain ⟨h1, h2⟩ := List.pairwise_cons.1 hp
  unfold placesFrom
  by_cases hx : x ∈ l
  ·rw [placesFrom_sorted l (i + 1) _ x h2 hx]
   have := h1 x hx
   unfold qaz
   rw [List.countP_cons, if_pos (by simpa using this)]
   congr 1
   omega
  ·have hxy : x = y := by
    rcases List.mem_cons.1 h with e | e
    ·exact e
    ·exact absurd e hx
   subst hxy
   rw [placesFrom_not l _ _ x hx, if_pos rfl]
   have h0 : qaz (x :: l) x = 0 := by
    unfold qaz
    rw [List.countP_eq_zero]
    intro z hz
    simp only [decide_eq_true_eq]
    rcases List.mem_cons.1 hz with e | e
    ·omega
    ·have := h1 z e
     omega
   rw [h0]
   rfl
theorem sortL_sorted (l : List Int) (hn : l.Nodup) : (qch l).Pairwise (· < ·) := by
 have hs : (qch l).Pairwise fun x y => decide (x ≤ y) = true := List.pairwise_mergeSort (fun a b c h1 h2 => by simp at *; omega) (fun a b => by simp; omega) l
 have hn2 : (qch l).Nodup := (List.mergeSort_perm l _).nodup_iff.2 hn
 have := hs.and hn2
 exact this.imp fun ⟨h1, h2⟩ => by simp at h1; omega
theorem ranks_count {h : List T4} (hn : (qap h).Nodup) {x : Int} (hx : x ∈ qap h) : qcf h x = some (qaz (qap h) x : Int) := by
 unfold qcf places
 rw [placesFrom_sorted _ 0 _ x (sortL_sorted _ hn) ((List.mergeSort_perm _ _).mem_iff.2 hx), Nat.zero_add]
 have := (List.mergeSort_perm (qap h) fun x y => decide (x ≤ y)).countP_eq (fun y => decide (y < x))
 unfold qaz qch
 rw [this]
theorem may_stamps : ∀ {h : List T4}, (∀ t ∈ h, qbj t = true) → h.Pairwise qcm → (qap h).Nodup
 | [], _, _ => by simp [qap]
 | t :: h, hr, hp => by
  obtain ⟨h1, h2⟩ := List.pairwise_cons.1 hp
  have e : qap (t :: h) = [t.b, t.c] ++ qap h := rfl
  have ih := may_stamps (fun u hu => hr u (by simp [hu])) h2
  have hlt := right_lt (hr t (by simp))
  rw [e, List.nodup_append]
  refine ⟨by simp; omega, ih, fun a ha b hb => ?_⟩
  unfold qap at hb
  rw [List.mem_flatMap] at hb
  obtain ⟨u, hu, hb⟩ := hb
  have hpu := h1 u hu
  simp at ha hb
  rcases ha with rfl | rfl <;> rcases hb with rfl | rfl
  ·exact hpu.1
  ·exact hpu.2.1
  ·exact hpu.2.2.1
  ·exact hpu.2.2.2.1
theorem mem_stampsL {h : List T4} {t : T4} (ht : t ∈ h) : t.b ∈ qap h ∧ t.c ∈ qap h := by
 unfold qap
 rw [List.mem_flatMap, List.mem_flatMap]
 exact ⟨⟨t, ht, by simp⟩, ⟨t, ht, by simp⟩⟩
theorem sorted_unique {l l' : List T4} (hp : l.Perm l') (h1 : l.Pairwise fun x y => x.b ≤ y.b) (h2 : l'.Pairwise fun x y => x.b ≤ y.b) (hd : ∀ x ∈ l, ∀ y ∈ l, x.b = y.b → x = y) : l = l' :=
 List.Perm.eq_of_pairwise (fun a b ha hb h1 h2 => hd a ha b (hp.mem_iff.2 hb) (by omega)) h1 h2 hp
def insB (t : T4) : List T4 → List T4
 | [] => [t]
 | u :: r => if t.b ≤ u.b then t :: u :: r else u :: insB t r
def qcc : List T4 → List T4
 | [] => []
 | t :: r => insB t (qcc r)
theorem insB_perm (t : T4) : ∀ l, (insB t l).Perm (t :: l)
 | [] => List.Perm.refl _
 | u :: r => by
  unfold insB
  split
  ·exact List.Perm.refl _
  ·exact ((insB_perm t r).cons u).trans (List.Perm.swap t u r)
theorem qbh : ∀ l, (qcc l).Perm l
 | [] => List.Perm.refl _
 | t :: r => (insB_perm t (qcc r)).trans ((qbh r).cons t)
theorem insB_sorted (t : T4) : ∀ l : List T4, l.Pairwise (fun x y => x.b ≤ y.b) → (insB t l).Pairwise (fun x y => x.b ≤ y.b)
 | [], _ => by simp [insB]
 | u :: r, h => by
  obtain ⟨h1, h2⟩ := List.pairwise_cons.1 h
  unfold insB
  split
  ·rename_i hle
   rw [List.pairwise_cons]
   refine ⟨fun x hx => ?_, h⟩
   rcases List.mem_cons.1 hx with rfl | hx
   ·exact hle
   ·exact Int.le_trans hle (h1 x hx)
  ·rename_i hle
   rw [List.pairwise_cons]
   refine ⟨fun x hx => ?_, insB_sorted t r h2⟩
   rcases List.mem_cons.1 ((insB_perm t r).mem_iff.1 hx) with rfl | hx
   ·omega
   ·exact h1 x hx
theorem sortB_sorted : ∀ l : List T4, (qcc l).Pairwise (fun x y => x.b ≤ y.b)
 | [] => by simp [qcc]
 | t :: r => insB_sorted t _ (sortB_sorted r)
theorem may_begins {h : List T4} (hm : MayP h) : ∀ x ∈ h, ∀ y ∈ h, x.b = y.b → x = y := by
 intro x hx y hy e
 obtain ⟨i, hi⟩ := List.mem_iff_getElem?.1 hx
 obtain ⟨j, hj⟩ := List.mem_iff_getElem?.1 hy
 obtain ⟨hil, rfl⟩ := List.getElem?_eq_some_iff.1 hi
 obtain ⟨hjl, rfl⟩ := List.getElem?_eq_some_iff.1 hj
 have hp := List.pairwise_iff_getElem.1 hm.2.1
 rcases Nat.lt_trichotomy i j with hlt | heq | hgt
 ·exact absurd e (hp i j hil hjl hlt).1
 ·subst heq; rfl
 ·exact absurd e.symm (hp j i hjl hil hgt).1
def cntI (h : List T4) : Int → Int := fun x => (qaz (qap h) x : Int)
def qbg (h : List T4) : List T4 := canonL (cntI h) (qcc h)
def qcg (h : List T4) : Int → Int := fun x => (qcf h x).getD 0
theorem rank_cnt {h : List T4} (hm : MayP h) {x : Int} (hx : x ∈ qap h) : qcg h x = cntI h x := by
 unfold qcg cntI
 rw [ranks_count (may_stamps hm.1 hm.2.1) hx]
 rfl
theorem canon_result {h l : List T4} (hm : MayP h) (hp : l.Perm h) (hs : l.Pairwise fun x y => x.b ≤ y.b) : canonL (qcg h) l = qbg h := by
 have hl : l = qcc h := sorted_unique (hp.trans (qbh h).symm) hs (sortB_sorted h) (fun x hx y hy e => may_begins hm x (hp.mem_iff.1 hx) y (hp.mem_iff.1 hy) e)
 subst hl
 unfold qbg canonL
 refine List.map_congr_left fun t ht => ?_
 have ht2 := (qbh h).mem_iff.1 ht
 obtain ⟨m1, m2⟩ := mem_stampsL ht2
 unfold canT
 rw [rank_cnt hm m1, rank_cnt hm m2]
end Go.Proofs.Ytngkneknopenmaa.Hist
end
section
namespace Go.Proofs.Ytngkneknopenmaa.Hist
open Go Go.RowKit Go.Proofs.Ytngkneknopenmaa.Row3
structure Ren where
 S : Int → Int
 K : Int → Int
 V : Int → Int
 R : Int → Int
def renO (ρ : Ren) (o : O3) : O3 := ⟨o.w, ρ.K o.k, if o.v = 0 then 0 else ρ.V o.v⟩
def renT (ρ : Ren) (t : T4) : T4 := ⟨ρ.S t.s, ρ.R t.b, ρ.R t.c, t.ops.map (renO ρ)⟩
def InjL (f : Int → Int) (l : List Int) : Prop := ∀ x ∈ l, ∀ y ∈ l, f x = f y → x = y
structure OkRen (ρ : Ren) (h : List T4) : Prop where
 s : InjL ρ.S (qbk h)
 k : InjL ρ.K (qa4 h)
 v : InjL ρ.V (qa6 h)
 z : ∀ x ∈ qa6 h, ρ.V x ≠ 0
 r : ∀ x ∈ qap h, ∀ y ∈ qap h, x < y → ρ.R x < ρ.R y
theorem mem_sessL {h : List T4} {x : Int} : x ∈ qbk h ↔ ∃ t ∈ h, t.s = x := by unfold qbk; rw [List.mem_map]
theorem mem_keysL {h : List T4} {x : Int} : x ∈ qa4 h ↔ ∃ t ∈ h, ∃ o ∈ t.ops, o.k = x := by
 unfold qa4 qb5
 rw [List.mem_flatMap]
 constructor
 ·rintro ⟨t, ht, hx⟩; obtain ⟨o, ho, e⟩ := List.mem_map.1 hx; exact ⟨t, ht, o, ho, e⟩
 ·rintro ⟨t, ht, o, ho, e⟩; exact ⟨t, ht, List.mem_map.2 ⟨o, ho, e⟩⟩
theorem mem_valsO {ops : List O3} {x : Int} : x ∈ qbv ops ↔ ∃ o ∈ ops, o.v ≠ 0 ∧ o.v = x := by
 unfold qbv
 rw [List.mem_map]
 constructor
 ·rintro ⟨o, ho, e⟩
  rw [List.mem_filter] at ho
  exact ⟨o, ho.1, of_decide_eq_true ho.2, e⟩
 ·rintro ⟨o, ho, hn, e⟩; exact ⟨o, List.mem_filter.2 ⟨ho, decide_eq_true hn⟩, e⟩
theorem mem_valsL {h : List T4} {x : Int} : x ∈ qa6 h ↔ ∃ t ∈ h, ∃ o ∈ t.ops, o.v ≠ 0 ∧ o.v = x := by
 unfold qa6
 rw [List.mem_flatMap]
 constructor
 ·rintro ⟨t, ht, hx⟩; exact ⟨t, ht, mem_valsO.1 hx⟩
 ·rintro ⟨t, ht, hx⟩; exact ⟨t, ht, mem_valsO.2 hx⟩
theorem mem_stamps {h : List T4} {x : Int} : x ∈ qap h ↔ ∃ t ∈ h, t.b = x ∨ t.c = x := by
 unfold qap
 rw [List.mem_flatMap]
 constructor
 ·rintro ⟨t, ht, hx⟩
  simp at hx
  exact ⟨t, ht, hx.imp Eq.symm Eq.symm⟩
 ·rintro ⟨t, ht, hx⟩
  exact ⟨t, ht, by simp; exact hx.imp Eq.symm Eq.symm⟩
theorem OkRen.perm {ρ : Ren} {h h' : List T4} (k : OkRen ρ h) (hp : h'.Perm h) : OkRen ρ h' := by
 have e1 : ∀ x, x ∈ qbk h' → x ∈ qbk h := fun x hx => by
  obtain ⟨t, ht, e⟩ := mem_sessL.1 hx; exact mem_sessL.2 ⟨t, hp.mem_iff.1 ht, e⟩
 have e2 : ∀ x, x ∈ qa4 h' → x ∈ qa4 h := fun x hx => by
  obtain ⟨t, ht, e⟩ := mem_keysL.1 hx; exact mem_keysL.2 ⟨t, hp.mem_iff.1 ht, e⟩
 have e3 : ∀ x, x ∈ qa6 h' → x ∈ qa6 h := fun x hx => by
  obtain ⟨t, ht, e⟩ := mem_valsL.1 hx; exact mem_valsL.2 ⟨t, hp.mem_iff.1 ht, e⟩
 have e4 : ∀ x, x ∈ qap h' → x ∈ qap h := fun x hx => by
  obtain ⟨t, ht, e⟩ := mem_stamps.1 hx; exact mem_stamps.2 ⟨t, hp.mem_iff.1 ht, e⟩
 exact ⟨fun x hx y hy => k.s x (e1 x hx) y (e1 y hy), fun x hx y hy => k.k x (e2 x hx) y (e2 y hy), fun x hx y hy => k.v x (e3 x hx) y (e3 y hy), fun x hx => k.z x (e3 x hx), fun x hx y hy => k.r x (e4 x hx) y (e4 y hy)⟩
theorem sessL_ren (ρ : Ren) (h : List T4) : qbk (h.map (renT ρ)) = (qbk h).map ρ.S := by
 unfold qbk; rw [List.map_map, List.map_map]; rfl
theorem keysL_ren (ρ : Ren) (h : List T4) : qa4 (h.map (renT ρ)) = (qa4 h).map ρ.K := by
 unfold qa4
 rw [List.flatMap_map, List.map_flatMap]
 congr 1
 funext t
 show qb5 (t.ops.map (renO ρ)) = _
 unfold qb5
 rw [List.map_map, List.map_map]; rfl
theorem valsO_ren (ρ : Ren) : ∀ ops : List O3, (∀ x ∈ qbv ops, ρ.V x ≠ 0) → qbv (ops.map (renO ρ)) = (qbv ops).map ρ.V
 | [], _ => rfl
 | o :: ops, hz => by
  have ih := valsO_ren ρ ops (fun x hx => hz x (by
   obtain ⟨u, hu, a, b⟩ := mem_valsO.1 hx; exact mem_valsO.2 ⟨u, List.mem_cons_of_mem _ hu, a, b⟩))
  unfold qbv at ih ⊢
  by_cases h0 : o.v = 0
  ·have : (renO ρ o).v = 0 := by simp [renO, h0]
   rw [List.map_cons, List.filter_cons_of_neg (by simp [this]), List.filter_cons_of_neg (by simp [h0]), ih]
  ·have e : (renO ρ o).v = ρ.V o.v := by simp [renO, h0]
   have hn : ρ.V o.v ≠ 0 := hz o.v (mem_valsO.2 ⟨o, List.mem_cons_self, h0, rfl⟩)
   rw [List.map_cons, List.filter_cons_of_pos (by simp [e, hn]), List.filter_cons_of_pos (by simp [h0]), List.map_cons, List.map_cons, List.map_cons, ih, e]
theorem valsL_ren (ρ : Ren) : ∀ h : List T4, (∀ x ∈ qa6 h, ρ.V x ≠ 0) → qa6 (h.map (renT ρ)) = (qa6 h).map ρ.V
 | [], _ => rfl
 | t :: h, hz => by
  have ih := valsL_ren ρ h (fun x hx => hz x (by
   obtain ⟨u, hu, a⟩ := mem_valsL.1 hx; exact mem_valsL.2 ⟨u, List.mem_cons_of_mem _ hu, a⟩))
  have e1 : qa6 ((t :: h).map (renT ρ)) = qbv (t.ops.map (renO ρ)) ++ qa6 (h.map (renT ρ)) := rfl
  have e2 : qa6 (t :: h) = qbv t.ops ++ qa6 h := rfl
  rw [e1, e2, ih, List.map_append, valsO_ren ρ t.ops (fun x hx => hz x (by rw [e2]; exact List.mem_append_left _ hx))]
theorem stampsL_ren (ρ : Ren) (h : List T4) : qap (h.map (renT ρ)) = (qap h).map ρ.R := by
 unfold qap
 rw [List.flatMap_map, List.map_flatMap]
 rfl
theorem nameF_map {f : Int → Int} {l : List Int} {x : Int} (hi : ∀ y ∈ l, f y = f x → y = x) : qba (l.map f) (f x) = (qba l x).map f := by
 unfold qba
 by_cases h : x ∈ l
 ·rw [if_pos h, if_pos (List.mem_map.2 ⟨x, h, rfl⟩)]
 ·rw [if_neg h, if_neg (fun hm => by
   obtain ⟨y, hy, e⟩ := List.mem_map.1 hm
   exact h (hi y hy e ▸ hy)), List.map_append]
  rfl
theorem foldl_map {f : Int → Int} : ∀ (l acc : List Int), InjL f (acc ++ l) → (l.map f).foldl qba (acc.map f) = (l.foldl qba acc).map f
 | [], _, _ => rfl
 | x :: l, acc, hi => by
  rw [List.map_cons, List.foldl_cons, List.foldl_cons, nameF_map (fun y hy e => hi y (by simp [hy]) x (by simp) e)]
  refine foldl_map l (qba acc x) (fun y hy z hz e => hi y ?_ z ?_ e)
  ·rcases List.mem_append.1 hy with h | h
   ·rcases mem_nameF.1 h with h | rfl <;> simp [*]
   ·simp [h]
  ·rcases List.mem_append.1 hz with h | h
   ·rcases mem_nameF.1 h with h | rfl <;> simp [*]
   ·simp [h]
theorem names_map {f : Int → Int} {l : List Int} (hi : InjL f l) : names (l.map f) = (names l).map f := by
 have := foldl_map (f := f) l [] (by simpa using hi)
 exact this
theorem idxL_map {f : Int → Int} {x : Int} : ∀ l : List Int, (∀ y ∈ l, f y = f x → y = x) → idxL (l.map f) (f x) = idxL l x
 | [], _ => rfl
 | y :: l, hi => by
  have ih := idxL_map (f := f) (x := x) l (fun z hz => hi z (by simp [hz]))
  unfold idxL at ih ⊢
  rw [List.map_cons, List.findIdx_cons, List.findIdx_cons, ih]
  by_cases e : y = x
  ·subst e; simp
  ·have : ¬ f y = f x := fun h => e (hi y (by simp) h)
   have a : (f y == f x) = false := by simpa using this
   have b : (y == x) = false := by simpa using e
   rw [a, b]
theorem idx_ren {f : Int → Int} {l : List Int} (hi : InjL f l) {x : Int} (hx : x ∈ l) : idxL (names (l.map f)) (f x) = idxL (names l) x := by
 rw [names_map hi]
 exact idxL_map _ (fun y hy e => hi y (mem_names.1 hy) x hx e)
theorem mono_iff {R : Int → Int} {l : List Int} (hr : ∀ x ∈ l, ∀ y ∈ l, x < y → R x < R y) {x y : Int} (hx : x ∈ l) (hy : y ∈ l) : R x < R y ↔ x < y := by
 constructor
 ·intro h
  rcases Int.lt_trichotomy x y with k | k | k
  ·exact k
  ·subst k; omega
  ·have := hr y hy x hx k; omega
 ·exact hr x hx y hy
theorem mono_le {R : Int → Int} {l : List Int} (hr : ∀ x ∈ l, ∀ y ∈ l, x < y → R x < R y) {x y : Int} (hx : x ∈ l) (hy : y ∈ l) : R x ≤ R y ↔ x ≤ y := by
 have := mono_iff hr hy hx
 omega
theorem countBelow_map {R : Int → Int} {l : List Int} (hr : ∀ x ∈ l, ∀ y ∈ l, x < y → R x < R y) {x : Int} (hx : x ∈ l) : qaz (l.map R) (R x) = qaz l x := by
 unfold qaz
 rw [List.countP_map]
 refine List.countP_congr fun y hy => ?_
 simp only [Function.comp, decide_eq_true_eq]
 exact mono_iff hr hy hx
theorem insB_ren {ρ : Ren} {t : T4} : ∀ l : List T4, (∀ u ∈ l, ρ.R t.b ≤ ρ.R u.b ↔ t.b ≤ u.b) → insB (renT ρ t) (l.map (renT ρ)) = (insB t l).map (renT ρ)
 | [], _ => rfl
 | u :: l, h => by
  have ih := insB_ren (ρ := ρ) (t := t) l (fun v hv => h v (by simp [hv]))
  rw [List.map_cons]
  unfold insB
  by_cases k : t.b ≤ u.b
  ·rw [if_pos k, if_pos (show (renT ρ t).b ≤ (renT ρ u).b from (h u (by simp)).2 k)]; rfl
  ·rw [if_neg k, if_neg (show ¬ (renT ρ t).b ≤ (renT ρ u).b from fun e => k ((h u (by simp)).1 e)), ih]; rfl
theorem sortB_ren {ρ : Ren} : ∀ l : List T4, (∀ t ∈ l, ∀ u ∈ l, ρ.R t.b ≤ ρ.R u.b ↔ t.b ≤ u.b) → qcc (l.map (renT ρ)) = (qcc l).map (renT ρ)
 | [], _ => rfl
 | t :: l, h => by
  have ih := sortB_ren (ρ := ρ) l (fun a ha b hb => h a (by simp [ha]) b (by simp [hb]))
  rw [List.map_cons]
  unfold qcc
  rw [ih]
  exact insB_ren _ (fun u hu => h t (by simp) u (by simp [(qbh l).mem_iff.1 hu]))
theorem canon_ren {ρ : Ren} {h : List T4} (k : OkRen ρ h) : qbg (h.map (renT ρ)) = qbg h := by
 have k2 := k.perm (qbh h)
 have hs : qcc (h.map (renT ρ)) = (qcc h).map (renT ρ) :=
  sortB_ren h fun t ht u hu => mono_le k.r (mem_stampsL ht).1 (mem_stampsL hu).1
 unfold qbg
 rw [hs]
 unfold canonL
 rw [List.map_map]
 refine List.map_congr_left fun t ht => ?_
 have ht2 := (qbh h).mem_iff.1 ht
 obtain ⟨m1, m2⟩ := mem_stampsL ht2
 have hc : ∀ x ∈ qap h, cntI (h.map (renT ρ)) (ρ.R x) = cntI h x := fun x hx => by
  unfold cntI; rw [stampsL_ren, countBelow_map k.r hx]
 show canT _ _ _ _ (renT ρ t) = canT _ _ _ _ t
 rw [sessL_ren, keysL_ren, valsL_ren ρ _ k2.z]
 have e1 : ∀ SS KK VV R, canT SS KK VV R (renT ρ t) = ⟨(idxL SS (ρ.S t.s) : Int), R (ρ.R t.b), R (ρ.R t.c), (t.ops.map (renO ρ)).map (canO KK VV)⟩ := fun _ _ _ _ => rfl
 rw [e1]
 unfold canT
 rw [idx_ren k2.s (mem_sessL.2 ⟨t, ht, rfl⟩), hc _ m1, hc _ m2, List.map_map]
 congr 1
 refine List.map_congr_left fun o ho => ?_
 show canO _ _ (renO ρ o) = canO _ _ o
 unfold canO renO
 dsimp only
 rw [idx_ren k2.k (mem_keysL.2 ⟨t, ht, o, ho, rfl⟩)]
 by_cases h0 : o.v = 0
 ·simp [h0]
 ·have hm : o.v ∈ qa6 (qcc h) := mem_valsL.2 ⟨t, ht, o, ho, h0, rfl⟩
  have hn := k2.z _ hm
  simp only [if_neg h0, if_neg hn]
  rw [idx_ren k2.v hm]
theorem canon_perm {h h' : List T4} (hm : MayP h) (hp : h'.Perm h) : qbg h' = qbg h := by
 have hs : qcc h' = qcc h := sorted_unique ((qbh h').trans (hp.trans (qbh h).symm)) (sortB_sorted h') (sortB_sorted h) (fun x hx y hy e => may_begins hm x (hp.mem_iff.1 ((qbh h').mem_iff.1 hx)) y (hp.mem_iff.1 ((qbh h').mem_iff.1 hy)) e)
 have hc : cntI h' = cntI h := by
  funext x
  unfold cntI qaz
  have : (qap h').Perm (qap h) := hp.flatMap_right _
  rw [this.countP_eq]
 unfold qbg
 rw [hs, hc]
theorem rightT_iff (t : T4) : qbj t = true ↔ 0 ≤ t.s ∧ t.s < 64 ∧ 0 ≤ t.b ∧ t.b < t.c ∧ t.c ≤ 2147483647 ∧ 1 ≤ t.ops.length ∧ t.ops.length ≤ 64 ∧ ∀ o ∈ t.ops, qb6 o = true := by
 unfold qbj
 simp only [Bool.and_eq_true, decide_eq_true_eq, List.all_eq_true]
 constructor
 ·rintro ⟨⟨⟨⟨⟨⟨⟨a, b⟩, c⟩, d⟩, e⟩, f⟩, g⟩, i⟩; exact ⟨a, b, c, d, e, f, g, i⟩
 ·rintro ⟨a, b, c, d, e, f, g, i⟩; exact ⟨⟨⟨⟨⟨⟨⟨a, b⟩, c⟩, d⟩, e⟩, f⟩, g⟩, i⟩
theorem rightO_iff (o : O3) : qb6 o = true ↔ 0 ≤ o.k ∧ o.k < 64 ∧ 0 ≤ o.v ∧ o.v ≤ 2147483647 ∧ (o.w = true → 0 < o.v) := by
 unfold qb6
 simp only [Bool.and_eq_true, decide_eq_true_eq, Bool.or_eq_true, Bool.not_eq_true']
 constructor
 ·rintro ⟨⟨⟨⟨a, b⟩, c⟩, d⟩, e⟩; exact ⟨a, b, c, d, fun h => by rcases e with e | e; (rw [h] at e; cases e); exact e⟩
 ·rintro ⟨a, b, c, d, e⟩; refine ⟨⟨⟨⟨a, b⟩, c⟩, d⟩, ?_⟩; cases hw : o.w; exact .inl rfl; exact .inr (e hw)
def canRen (h : List T4) : Ren := ⟨fun x => (idxL (names (qbk (qcc h))) x : Int), fun x => (idxL (names (qa4 (qcc h))) x : Int), fun x => 1 + (idxL (names (qa6 (qcc h))) x : Int), cntI h⟩
theorem canonF_ren (h : List T4) : qbg h = (qcc h).map (renT (canRen h)) := by
 unfold qbg canonL
 refine List.map_congr_left fun t _ => ?_
 rfl
theorem below_length {l : List Int} {n : Nat} (hn : l.Nodup) (hb : ∀ x ∈ l, 0 ≤ x ∧ x < n) : l.length ≤ n := by
 induction n generalizing l with
 | zero =>
  cases l with
  | nil => simp
  | cons x l => have := hb x (by simp); omega
 | succ n ih =>
  have h1 := ih (l := l.filter fun x => decide (x ≠ (n : Int))) (hn.sublist List.filter_sublist) (fun x hx => by
   rw [List.mem_filter] at hx
   have := hb x hx.1
   have := of_decide_eq_true hx.2
   omega)
  have h2 : (l.filter fun x => decide (x = (n : Int))).length ≤ 1 := by
   have hf : (l.filter fun x => decide (x = (n : Int))).Nodup := hn.sublist List.filter_sublist
   cases e : l.filter fun x => decide (x = (n : Int)) with
   | nil => simp
   | cons a r =>
    cases r with
    | nil => simp
    | cons b r =>
     rw [e] at hf
     have ha : a ∈ l.filter fun x => decide (x = (n : Int)) := by rw [e]; simp
     have hb2 : b ∈ l.filter fun x => decide (x = (n : Int)) := by rw [e]; simp
     rw [List.mem_filter] at ha hb2
     have h1 := of_decide_eq_true ha.2
     have h2 := of_decide_eq_true hb2.2
     simp [h1, h2] at hf
  have h3 : l.length = (l.filter fun x => decide (x = (n : Int))).length + (l.filter fun x => decide (x ≠ (n : Int))).length := by
   have := List.length_eq_countP_add_countP (l := l) (fun x => decide (x = (n : Int)))
   rw [this, List.countP_eq_length_filter, List.countP_eq_length_filter]
   congr 2
   refine List.filter_congr fun x _ => ?_
   by_cases q : x = (n : Int) <;> simp [q]
  omega
theorem countT_ren (ρ : Ren) (h : List T4) : qar (h.map (renT ρ)) = qar h := by
 unfold qar
 rw [List.map_map]
 congr 1
 refine List.map_congr_left fun t _ => ?_
 simp [renT]
theorem count_perm {l h : List T4} (hp : l.Perm h) : qar l = qar h := by unfold qar; exact (hp.map _).sum_nat
theorem canonF_length (h : List T4) : (qbg h).length = h.length := by rw [canonF_ren, List.length_map, (qbh h).length_eq]
theorem canonF_count (h : List T4) : qar (qbg h) = qar h := by rw [canonF_ren, countT_ren, count_perm (qbh h)]
theorem check_zero' {h : List T4} (hc : qa3 h = 0) : h.length ≤ 64 ∧ qar h ≤ 1024 ∧ MayP h := by
 by_cases hb : h.length > 64 ∨ qar h > 1024
 ·unfold qa3 at hc
  rw [if_pos hb] at hc
  cases hc
 ·exact ⟨by omega, by omega, (checkF_may h (by omega) (by omega)).1 hc⟩
end Go.Proofs.Ytngkneknopenmaa.Hist
end
section
namespace Go.Proofs.Ytngkneknopenmaa.Hist
set_option linter.unusedSimpArgs false
open Go Go.RowKit Go.Proofs.Ytngkneknopenmaa.Row3 Go.Proofs.Ytngkneknopenmaa.IntMap
theorem perm_lift {α β : Type} {f : α → β} {m' m : List β} (h : m'.Perm m) : ∀ l : List α, l.map f = m → ∃ l' : List α, l'.Perm l ∧ m' = l'.map f := by
 induction h with
 | nil => intro l hl; exact ⟨[], by rw [List.map_eq_nil_iff.1 hl], rfl⟩
 | cons x p ih =>
  intro l hl
  cases l with
  | nil => cases hl
  | cons y l =>
   simp only [List.map_cons, List.cons.injEq] at hl
   obtain ⟨l', hp, e⟩ := ih l hl.2
   exact ⟨y :: l', hp.cons y, by rw [e, List.map_cons, hl.1]⟩
 | swap x y a =>
  intro l hl
  match l, hl with
  | u :: v :: l, hl =>
   simp only [List.map_cons, List.cons.injEq] at hl
   exact ⟨v :: u :: l, List.Perm.swap u v l, by simp [hl]⟩
 | trans p1 p2 ih1 ih2 =>
  intro l hl
  obtain ⟨l2, hp2, e2⟩ := ih2 l hl
  obtain ⟨l1, hp1, e1⟩ := ih1 l2 e2.symm
  exact ⟨l1, hp1.trans hp2, e1⟩
theorem SaysAll.perm {w : World} {base : Nat} {rows rows' : List TR} {h : List T4} (hs : SaysAll w base rows h) (hp : rows'.Perm rows) : ∃ h' : List T4, h'.Perm h ∧ SaysAll w base rows' h' := by
 have hz : (rows.zip h).map Prod.fst = rows := by rw [List.map_fst_zip]; rw [hs.1]; exact Nat.le_refl _
 have hz2 : (rows.zip h).map Prod.snd = h := by rw [List.map_snd_zip]; rw [hs.1]; exact Nat.le_refl _
 obtain ⟨z, hzp, e⟩ := perm_lift hp (rows.zip h) hz
 refine ⟨z.map Prod.snd, by have := hzp.map Prod.snd; rw [hz2] at this; exact this, by rw [e]; simp, fun i r t hr ht => ?_, ?_⟩
 ·rw [e, List.getElem?_map] at hr
  rw [List.getElem?_map] at ht
  obtain ⟨x, hx, rfl⟩ := Option.map_eq_some_iff.1 hr
  rw [hx] at ht
  cases ht
  have hm : x ∈ rows.zip h := hzp.mem_iff.1 (List.mem_of_getElem? hx)
  obtain ⟨j, hj⟩ := List.mem_iff_getElem?.1 hm
  rw [List.getElem?_zip_eq_some] at hj
  exact hs.2.1 j x.1 x.2 hj.1 hj.2
 ·have := hp.map (·.g)
  rw [this.nodup_iff]
  exact hs.2.2
theorem check_zero {h : List T4} (hc : qa3 h = 0) : h.length ≤ 64 ∧ qar h ≤ 1024 ∧ MayP h := by
 by_cases hb : h.length > 64 ∨ qar h > 1024
 ·unfold qa3 at hc
  rw [if_pos hb] at hc
  cases hc
 ·exact ⟨by omega, by omega, (checkF_may h (by omega) (by omega)).1 hc⟩
def Lst (l : List T4) (i : Nat) : Nat → List Int := fun c => if c = 0 then names (qbk (l.take i)) else if c = 1 then names (qa4 (l.take i)) else if c = 2 then names (qa6 (l.take i)) else []
def qbi (h l : List T4) : T4 → T4 := canT (names (qbk l)) (names (qa4 l)) (names (qa6 l)) (qcg h)
def Fst : Nat → Int := fun c => if c = 2 then 1 else 0
def Pst (p0 p1 p2 : Nat) : Nat → Nat := fun c => if c = 0 then p0 else if c = 1 then p1 else p2
theorem Lst_zero (l : List T4) : Lst l 0 = fun _ => [] := by
 funext c
 unfold Lst
 simp [qbk, qa4, qa6, names]
theorem alloc3 (w : World) (o0 o1 o2 : Obj) : (((w.alloc o0).alloc o1).alloc o2).heap[w.heap.size]? = some o0 ∧ (((w.alloc o0).alloc o1).alloc o2).heap[w.heap.size + 1]? = some o1 ∧ (((w.alloc o0).alloc o1).alloc o2).heap[w.heap.size + 1 + 1]? = some o2 := by
 have e : (((w.alloc o0).alloc o1).alloc o2).heap = ((w.heap.push o0).push o1).push o2 := rfl
 rw [e]
 refine ⟨?_, ?_, ?_⟩
 ·rw [Array.getElem?_push, if_neg (by simp; omega), Array.getElem?_push, if_neg (by simp), Array.getElem?_push, if_pos rfl]
 ·rw [Array.getElem?_push, if_neg (by simp), Array.getElem?_push, if_pos (by simp)]
 ·rw [Array.getElem?_push, if_pos (by simp)]
theorem mid_get {α : Type} {l : List α} {C : α → α} {i : Nat} {t : α} (h : l[i]? = some t) : ((l.take i).map C ++ l.drop i)[i]? = some t := by
 have hi := (List.getElem?_eq_some_iff.1 h).1
 rw [List.getElem?_append_right (by simp; omega)]
 simp [h, Nat.min_eq_left (Nat.le_of_lt hi)]
theorem mid_set {α : Type} {l : List α} {C : α → α} {i : Nat} {t : α} (h : l[i]? = some t) : ((l.take i).map C ++ l.drop i).set i (C t) = (l.take (i + 1)).map C ++ l.drop (i + 1) := by
 have hi := (List.getElem?_eq_some_iff.1 h).1
 have e : i - ((l.take i).map C).length = 0 := by simp [Nat.min_eq_left (Nat.le_of_lt hi)]
 have e2 : (l.drop i).set 0 (C t) = C t :: l.drop (i + 1) := by rw [List.drop_eq_getElem_cons hi]; rfl
 rw [List.set_append_right _ _ (by simp; omega), List.take_add_one, h, e, e2]
 simp
def LstI (l : List T4) (i : Nat) (t : T4) (j : Nat) : Nat → List Int := fun c => if c = 0 then names (qbk (l.take (i + 1))) else if c = 1 then names (qa4 (l.take i) ++ qb5 (t.ops.take j)) else if c = 2 then names (qa6 (l.take i) ++ qbv (t.ops.take j)) else []
theorem qbn {α : Type} {l : List α} {i : Nat} {t : α} (h : l[i]? = some t) : l.take (i + 1) = l.take i ++ [t] := by rw [List.take_add_one, h]; rfl
theorem lst_s {l : List T4} {i : Nat} {t : T4} (h : l[i]? = some t) : (fun d => if d = 0 then qba (Lst l i 0) t.s else Lst l i d) = LstI l i t 0 := by
 funext c
 unfold LstI Lst
 by_cases h0 : c = 0
 ·simp only [h0, if_true]
  rw [qbn h]
  have : qbk (l.take i ++ [t]) = qbk (l.take i) ++ [t.s] := by simp [qbk]
  rw [this, names_snoc]
 ·simp [h0, qb5, qbv]
theorem lst_end {l : List T4} {i : Nat} {t : T4} (h : l[i]? = some t) : LstI l i t t.ops.length = Lst l (i + 1) := by
 funext c
 unfold LstI Lst
 have e1 : qa4 (l.take (i + 1)) = qa4 (l.take i) ++ qb5 t.ops := by rw [qbn h]; simp [qa4]
 have e2 : qa6 (l.take (i + 1)) = qa6 (l.take i) ++ qbv t.ops := by rw [qbn h]; simp [qa6]
 rw [e1, e2, List.take_length]
theorem keysO_snoc {ops : List O3} {j : Nat} {o : O3} (h : ops[j]? = some o) : qb5 (ops.take (j + 1)) = qb5 (ops.take j) ++ [o.k] := by rw [qbn h]; simp [qb5]
theorem valsO_snoc {ops : List O3} {j : Nat} {o : O3} (h : ops[j]? = some o) (hv : o.v ≠ 0) : qbv (ops.take (j + 1)) = qbv (ops.take j) ++ [o.v] := by rw [qbn h]; simp [qbv, List.filter_append, hv]
theorem valsO_same {ops : List O3} {j : Nat} {o : O3} (h : ops[j]? = some o) (hv : o.v = 0) : qbv (ops.take (j + 1)) = qbv (ops.take j) := by rw [qbn h]; simp [qbv, List.filter_append, hv]
theorem lst_k0 {l : List T4} {i j : Nat} {t : T4} {o : O3} (h : t.ops[j]? = some o) (hv : o.v = 0) : (fun d => if d = 1 then qba (LstI l i t j 1) o.k else LstI l i t j d) = LstI l i t (j + 1) := by
 funext c
 unfold LstI
 rw [keysO_snoc h, valsO_same h hv, ← List.append_assoc, names_snoc]
 by_cases h1 : c = 1
 ·simp [h1]
 ·simp [h1]
theorem lst_kv {l : List T4} {i j : Nat} {t : T4} {o : O3} (h : t.ops[j]? = some o) (hv : o.v ≠ 0) : (fun d => if d = 2 then qba (LstI l i t j 2) o.v else (if d = 1 then qba (LstI l i t j 1) o.k else LstI l i t j d)) = LstI l i t (j + 1) := by
 funext c
 unfold LstI
 rw [keysO_snoc h, valsO_snoc h hv, ← List.append_assoc, names_snoc, ← List.append_assoc, names_snoc]
 by_cases h1 : c = 1
 ·subst h1
  simp
 ·by_cases h2 : c = 2
  ·subst h2
   simp
  ·by_cases h0 : c = 0
   ·subst h0
    simp
   ·simp [h0, h1, h2]
theorem idx_s {l : List T4} {i : Nat} {t : T4} (h : l[i]? = some t) : idxL (qba (Lst l i 0) t.s) t.s = idxL (names (qbk l)) t.s := by
 have e : qbk l = qbk (l.take i ++ [t]) ++ qbk (l.drop (i + 1)) := by rw [← qbn h]; unfold qbk; rw [← List.map_append, List.take_append_drop]
 have e2 : qbk (l.take i ++ [t]) = qbk (l.take i) ++ [t.s] := by simp [qbk]
 rw [e, idx_names (by rw [e2]; simp), e2, names_snoc]
 rfl
theorem idx_k {l : List T4} {i j : Nat} {t : T4} {o : O3} (h : l[i]? = some t) (ho : t.ops[j]? = some o) : idxL (qba (LstI l i t j 1) o.k) o.k = idxL (names (qa4 l)) o.k := by
 have e : qa4 l = (qa4 (l.take i) ++ qb5 (t.ops.take (j + 1))) ++ (qb5 (t.ops.drop (j + 1)) ++ qa4 (l.drop (i + 1))) := by
  have e1 : qa4 l = qa4 (l.take (i + 1)) ++ qa4 (l.drop (i + 1)) := by unfold qa4; rw [← List.flatMap_append, List.take_append_drop]
  have e2 : qa4 (l.take (i + 1)) = qa4 (l.take i) ++ qb5 t.ops := by rw [qbn h]; simp [qa4]
  have e3 : qb5 t.ops = qb5 (t.ops.take (j + 1)) ++ qb5 (t.ops.drop (j + 1)) := by unfold qb5; rw [← List.map_append, List.take_append_drop]
  rw [e1, e2, e3]
  simp
 rw [e, idx_names (by rw [keysO_snoc ho]; simp), keysO_snoc ho, ← List.append_assoc, names_snoc]
 rfl
theorem idx_v {l : List T4} {i j : Nat} {t : T4} {o : O3} (h : l[i]? = some t) (ho : t.ops[j]? = some o) (hv : o.v ≠ 0) : idxL (qba (LstI l i t j 2) o.v) o.v = idxL (names (qa6 l)) o.v := by
 have e : qa6 l = (qa6 (l.take i) ++ qbv (t.ops.take (j + 1))) ++ (qbv (t.ops.drop (j + 1)) ++ qa6 (l.drop (i + 1))) := by
  have e1 : qa6 l = qa6 (l.take (i + 1)) ++ qa6 (l.drop (i + 1)) := by unfold qa6; rw [← List.flatMap_append, List.take_append_drop]
  have e2 : qa6 (l.take (i + 1)) = qa6 (l.take i) ++ qbv t.ops := by rw [qbn h]; simp [qa6]
  have e3 : qbv t.ops = qbv (t.ops.take (j + 1)) ++ qbv (t.ops.drop (j + 1)) := by unfold qbv; rw [← List.map_append, ← List.filter_append, List.take_append_drop]
  rw [e1, e2, e3]
  simp
 rw [e, idx_names (by rw [valsO_snoc ho hv]; simp), valsO_snoc ho hv, ← List.append_assoc, names_snoc]
 rfl
theorem CS.txn {w : World} {base B bR sR : Nat} {rest : List Value} {rows : List TR} {hs : List T4} {P : Nat → Nat} {M : Nat → Option Nat} {F : Nat → Int} {L : Nat → List Int} {fR : Int → Option Int} (h : CS w base B rest rows hs P M F L bR sR fR) {i : Nat} {r : TR} {t : T4} (hr : rows[i]? = some r) (ht : hs[i]? = some t) :
  w.cell? ⟨B, i * 4, none⟩ = some (.int .i64 t.s) ∧ w.cell? ⟨B, i * 4 + 1, none⟩ = some (.int .i64 t.b) ∧ w.cell? ⟨B, i * 4 + 2, none⟩ = some (.int .i64 t.c) ∧ w.cell? ⟨B, i * 4 + 3, none⟩ = some (.slice (some ⟨r.g, 0, none⟩) t.ops.length r.cp) ∧
   w.frozen? ⟨B, i * 4, none⟩ = false ∧ w.frozen? ⟨B, i * 4 + 1, none⟩ = false ∧ w.frozen? ⟨B, i * 4 + 2, none⟩ = false := by
 obtain ⟨a1, a2, a3, a4, a5, a6, a7⟩ := h.says.2.1 i r t hr ht
 obtain ⟨y0, y1, y2, y3⟩ := flatT_get rows rest i r hr
 rw [a1] at y0
 rw [a2] at y1
 rw [a3] at y2
 rw [a4] at y3
 refine ⟨?_, ?_, ?_, ?_, Lib.frozen_of_heap h.row _, Lib.frozen_of_heap h.row _, Lib.frozen_of_heap h.row _⟩
 ·rw [Lib.cell_of_heap h.row, List.getElem?_toArray, y0]
 ·rw [Lib.cell_of_heap h.row, List.getElem?_toArray, y1]
 ·rw [Lib.cell_of_heap h.row, List.getElem?_toArray, y2]
 ·rw [Lib.cell_of_heap h.row, List.getElem?_toArray, y3]
theorem CS.op {w : World} {base B bR sR : Nat} {rest : List Value} {rows : List TR} {hs : List T4} {P : Nat → Nat} {M : Nat → Option Nat} {F : Nat → Int} {L : Nat → List Int} {fR : Int → Option Int} (h : CS w base B rest rows hs P M F L bR sR fR) {i j : Nat} {r : TR} {t : T4} {o : O3} (hr : rows[i]? = some r) (ht : hs[i]? = some t) (ho : t.ops[j]? = some o) :
  w.cell? ⟨r.g, j * 3 + 1, none⟩ = some (.int .i64 o.k) ∧ w.cell? ⟨r.g, j * 3 + 2, none⟩ = some (.int .i64 o.v) ∧ w.frozen? ⟨r.g, j * 3 + 1, none⟩ = false ∧ w.frozen? ⟨r.g, j * 3 + 2, none⟩ = false := by
 obtain ⟨_, _, _, _, _, _, rst, g, _⟩ := h.says.2.1 i r t hr ht
 obtain ⟨y0, y1, y2⟩ := g.cells j o ho
 exact ⟨y1, y2, g.free _, g.free _⟩
theorem rank_val (h : List T4) (x : Int) : (intV (qcf h) x).getD (.int .i64 0) = .int .i64 (qcg h x) := by
 unfold intV qcg
 cases qcf h x <;> rfl
def RelO (h l : List T4) (w : World) (B p0 p1 p2 bR n : Nat) (rest : List Value) (v : Value) (wr : World) : Prop :=
 ∃ (i sR : Nat) (rows : List TR) (M : Nat → Option Nat), i ≤ n ∧ v = .int .i64 ((i : Nat) : Int) ∧ CS wr w.heap.size B rest rows ((l.take i).map (qbi h l) ++ l.drop i) (Pst p0 p1 p2) M Fst (Lst l i) bR sR (qcf h) ∧ Below w.heap.size w wr
theorem keysL_split {l : List T4} {i : Nat} {t : T4} (h : l[i]? = some t) (j : Nat) : qa4 l = (qa4 (l.take i) ++ qb5 (t.ops.take j)) ++ (qb5 (t.ops.drop j) ++ qa4 (l.drop (i + 1))) := by
 have e1 : qa4 l = qa4 (l.take (i + 1)) ++ qa4 (l.drop (i + 1)) := by unfold qa4; rw [← List.flatMap_append, List.take_append_drop]
 have e2 : qa4 (l.take (i + 1)) = qa4 (l.take i) ++ qb5 t.ops := by rw [qbn h]; simp [qa4]
 have e3 : qb5 t.ops = qb5 (t.ops.take j) ++ qb5 (t.ops.drop j) := by unfold qb5; rw [← List.map_append, List.take_append_drop]
 rw [e1, e2, e3]
 simp
theorem valsL_split {l : List T4} {i : Nat} {t : T4} (h : l[i]? = some t) (j : Nat) : qa6 l = (qa6 (l.take i) ++ qbv (t.ops.take j)) ++ (qbv (t.ops.drop j) ++ qa6 (l.drop (i + 1))) := by
 have e1 : qa6 l = qa6 (l.take (i + 1)) ++ qa6 (l.drop (i + 1)) := by unfold qa6; rw [← List.flatMap_append, List.take_append_drop]
 have e2 : qa6 (l.take (i + 1)) = qa6 (l.take i) ++ qbv t.ops := by rw [qbn h]; simp [qa6]
 have e3 : qbv t.ops = qbv (t.ops.take j) ++ qbv (t.ops.drop j) := by unfold qbv; rw [← List.map_append, ← List.filter_append, List.take_append_drop]
 rw [e1, e2, e3]
 simp
theorem keysL_length : ∀ l : List T4, (qa4 l).length = qar l
 | [] => rfl
 | t :: l => by
  have : qa4 (t :: l) = qb5 t.ops ++ qa4 l := rfl
  rw [this, List.length_append, keysL_length l, countT_cons]
  simp [qb5]
theorem valsL_length : ∀ l : List T4, (qa6 l).length ≤ qar l
 | [] => Nat.le_refl _
 | t :: l => by
  have : qa6 (t :: l) = qbv t.ops ++ qa6 l := rfl
  have h1 := valsL_length l
  have h2 : (qbv t.ops).length ≤ t.ops.length := by unfold qbv; rw [List.length_map]; exact List.length_filter_le _ _
  rw [this, List.length_append, countT_cons]
  omega
theorem countT_perm {l h : List T4} (hp : l.Perm h) : qar l = qar h := by unfold qar; exact (hp.map _).sum_nat
theorem lstI1_length {l : List T4} {i : Nat} {t : T4} (h : l[i]? = some t) (j : Nat) : (LstI l i t j 1).length ≤ qar l := by
 have h1 := names_length (qa4 (l.take i) ++ qb5 (t.ops.take j))
 have h2 := keysL_length l
 rw [keysL_split h j, List.length_append] at h2
 show (names _).length ≤ _
 omega
theorem lstI2_length {l : List T4} {i : Nat} {t : T4} (h : l[i]? = some t) (j : Nat) : (LstI l i t j 2).length ≤ qar l := by
 have h1 := names_length (qa6 (l.take i) ++ qbv (t.ops.take j))
 have h2 := valsL_length l
 rw [valsL_split h j, List.length_append] at h2
 show (names _).length ≤ _
 omega
def curJ (h l : List T4) (t : T4) (j : Nat) : T4 := { qbi h l t with ops := (t.ops.take j).map (canO (names (qa4 l)) (names (qa6 l))) ++ t.ops.drop j }
theorem curJ_step {h l : List T4} {t : T4} {j : Nat} {o : O3} (ho : t.ops[j]? = some o) : { curJ h l t j with ops := (curJ h l t j).ops.set j (canO (names (qa4 l)) (names (qa6 l)) o) } = curJ h l t (j + 1) := by
 have := mid_set (C := canO (names (qa4 l)) (names (qa6 l))) ho
 unfold curJ
 dsimp only
 rw [this]
theorem curJ_zero (h l : List T4) (t : T4) : curJ h l t 0 = { t with s := (qbi h l t).s, b := (qbi h l t).b, c := (qbi h l t).c } := by simp [curJ, qbi, canT]
theorem curJ_end (h l : List T4) (t : T4) : curJ h l t t.ops.length = qbi h l t := by simp [curJ, qbi, canT]
set_option maxHeartbeats 8000000 in
set_option maxRecDepth 100000 in
theorem of_calls (A : Option Addr) (cap : Nat) (h : List T4) (hcap : h.length ≤ cap) (hm : h.length ≤ 4611686018427387904) (hcnt : qar h ≤ 4611686018427387904) (w : World) (hr : RdT w A h) :
  Calls Try.prog 13 #[.slice A h.length cap] w fun e w' => Below w.heap.size w w' ∧ ((qa3 h ≠ 0 ∧ e = .returned (.slice none 0 0)) ∨ qa3 h = 0 ∧ ∃ v rows l, l.Perm h ∧ l.Pairwise (fun x y => x.b ≤ y.b) ∧ e = .returned v ∧ H2 w' w.heap.size v rows (canonL (qcg h) l)) := by
 have CC := check_calls A cap h hcap hm hcnt w hr
 obtain ⟨n, hn⟩ : ∃ n, h.length = n := ⟨_, rfl⟩
 have HN := Lib.hid hn
 rw [hn] at hm hcap CC ⊢
 have HCC := Lib.hid CC
 clear hn CC
 by_cases hck : qa3 h = 0
 ·obtain ⟨hl64, hcn, hmay⟩ := check_zero hck
  have hright := hmay.1
  have CPC := fun (w' : World) (k : Below w.heap.size w w') => copy_calls A cap h hl64 (fun t ht => by
   have := hright t ht
   unfold qbj at this
   simp only [Bool.and_eq_true, decide_eq_true_eq] at this
   omega) w' (hr.below k)
  have RKC := fun (w' : World) (k : Below w.heap.size w w') => ranks_calls A cap h hl64 (fun t ht => OkS_of_right (hright t ht)) w' (hr.below k)
  rw [HN.out] at hl64 CPC RKC
  have HCPC := Lib.hid CPC
  have HRKC := Lib.hid RKC
  have HMAY := Lib.hid hmay
  have HCN := Lib.hid hcn
  have HCK := Lib.hid hck
  rw [hck] at HCC
  clear CPC RKC hmay hright hcn hck hr
  go_enter Try.func13, Try.ntmps13
  go_wp2_with (first
   | (go_at_call 32; (with_reducible refine HCC.out.mono ?_); rintro e w1 ⟨rfl, k1⟩)
   | (go_at_call 36; (with_reducible refine (HCPC.out _ k1).mono ?_); rintro e w2 ⟨v2, rows2, rfl, h2, hnn2, k2⟩))
  have hb2 : Below w.heap.size w w2 := k1.trans (k2.mono k1.size)
  obtain ⟨hown2, hsay2⟩ := h2
  have hrl : rows2.length = n := by rw [hsay2.1, HN.out]
  rcases hown2.2 with ⟨e, _⟩ | ⟨B, cp, cur2, rfl, hB2, hh2, hcp, _, _, _⟩
  ·exact absurd e hnn2
  have SC := sortTxn_calls B cp w1.heap.size rows2 (by omega) w2 hown2
  rw [hrl] at SC ⊢
  with_reducible refine SC.mono ?_
  rintro e w3 ⟨rfl, rows3, hp3, hpw3, hown3, hgr3⟩
  have hB : w.heap.size ≤ B := by have := k1.size; omega
  obtain ⟨l, hlp, hsay3⟩ := (hsay2.grown hgr3 (fun r hr e => by
   have := hsay2.row_ne hown2 r hr
   exact this e)).perm hp3
  have hb3 : Below w.heap.size w w3 := hb2.grown hgr3 hb2.size (fun j hj => by cases hj; exact hB)
  have hll : l.length = n := by rw [hlp.length_eq, HN.out]
  have hr3 : rows3.length = n := by rw [hp3.length_eq, hrl]
  have hpl : l.Pairwise (fun x y => x.b ≤ y.b) := by
   rw [List.pairwise_iff_getElem] at hpw3 ⊢
   intro i j hi hj hij
   have h1 := hpw3 i j (by omega) (by omega) hij
   obtain ⟨_, e1, _⟩ := hsay3.2.1 i rows3[i] l[i] (List.getElem?_eq_getElem _) (List.getElem?_eq_getElem _)
   obtain ⟨_, e2, _⟩ := hsay3.2.1 j rows3[j] l[j] (List.getElem?_eq_getElem _) (List.getElem?_eq_getElem _)
   rw [← e1, ← e2]
   exact h1
  obtain ⟨rest, hrow3, hrest, hcpm, hncp⟩ : ∃ rest, w3.heap[B]? = some (.cells (qby rows3 ++ rest).toArray 55 (0, 0)) ∧ n * 4 + rest.length = cp * 4 ∧ cp ≤ maxLen ∧ n ≤ cp := by
   rcases hown3.2 with ⟨e, _⟩ | ⟨g, c, cur, he, _, hh, h1, h2, h3, h4⟩
   ·cases e
   ·cases he
    refine ⟨cur.toList.drop (n * 4), ?_, by rw [List.length_drop, Array.length_toList, h3]; omega, h2, h1⟩
    rw [hh, ← hr3, ← (show cur.toList.take (rows3.length * 4) = qby rows3 by rw [hr3]; exact h4), List.take_append_drop]
  have HSAY := Lib.hid (show SaysAll w3 w.heap.size rows3 l from ⟨hsay3.1, fun i r t hr ht => by
   obtain ⟨a1, a2, a3, a4, a5, a6, a7⟩ := hsay3.2.1 i r t hr ht
   exact ⟨a1, a2, a3, a4, a5, by have := k1.size; omega, a7⟩, hsay3.2.2⟩)
  have HROW := Lib.hid hrow3
  have HB3 := Lib.hid hb3
  have HPL := Lib.hid hpl
  have HLP := Lib.hid hlp
  have HLL := Lib.hid hll
  have HOW3 := Lib.hid hown3
  clear hb2 hown2 hsay2 hh2 hcp SC hp3 hpw3 hown3 hgr3 hsay3 hb3 hpl hlp hll hrow3 k1 k2 hnn2 hB2 HCC HCPC
  go_wp2_with (go_at_call 40; (with_reducible refine (HRKC.out _ HB3.out).mono ?_); rintro e w4 ⟨bR, sR, rfl, himR, hloR, k4⟩)
  have hCS : CS (((w4.alloc (.cells #[.map none, .int .i64 0] 77)).alloc (.cells #[.map none, .int .i64 0] 77)).alloc (.cells #[.map none, .int .i64 1] 77)) w.heap.size B rest rows3 ((l.take 0).map (qbi h l) ++ l.drop 0) (Pst w4.heap.size (w4.heap.size + 1) (w4.heap.size + 1 + 1)) (fun _ => none) Fst (Lst l 0) bR sR (qcf h) := by
   obtain ⟨a0, a1, a2⟩ := alloc3 w4 (.cells #[.map none, .int .i64 0] 77) (.cells #[.map none, .int .i64 0] 77) (.cells #[.map none, .int .i64 1] 77)
   have hb5 : Below w4.heap.size w4 (((w4.alloc (.cells #[.map none, .int .i64 0] 77)).alloc (.cells #[.map none, .int .i64 0] 77)).alloc (.cells #[.map none, .int .i64 1] 77)) := (((Below.refl _ _).alloc (Nat.le_refl _) _).alloc (by simp) _).alloc (by simp; omega) _
   have hB4 := k4.block B (Array.getElem?_eq_some_iff.1 HROW.out).1
   have hs3 := HB3.out.size
   have hs4 := k4.size
   rw [Lst_zero]
   constructor
   ·exact (hb5.block B (by have := (Array.getElem?_eq_some_iff.1 HROW.out).1; omega)).trans (hB4.trans HROW.out)
   ·exact (HSAY.out.below k4).below hb5
   ·intro c hc
    unfold Pst Fst
    match c, hc with
    | 0, _ => exact ⟨a0, fun _ => rfl, by simp⟩
    | 1, _ => exact ⟨a1, fun _ => rfl, by simp⟩
    | 2, _ => exact ⟨a2, fun _ => rfl, by simp⟩
   ·exact himR.below hb5
   ·exact hB
   ·intro c hc
    unfold Pst
    split
    ·omega
    ·split <;> omega
   ·simp
   ·intro c d hc hd hne
    unfold Pst
    match c, d, hc, hd with
    | 0, 0, _, _ => exact absurd rfl hne
    | 0, 1, _, _ => simp
    | 0, 2, _, _ => simp; omega
    | 1, 0, _, _ => simp
    | 1, 1, _, _ => exact absurd rfl hne
    | 1, 2, _, _ => simp
    | 2, 0, _, _ => simp; omega
    | 2, 1, _, _ => simp
    | 2, 2, _, _ => exact absurd rfl hne
   ·simp
   ·simp
  have hb5 : Below w.heap.size w (((w4.alloc (.cells #[.map none, .int .i64 0] 77)).alloc (.cells #[.map none, .int .i64 0] 77)).alloc (.cells #[.map none, .int .i64 1] 77)) := by
   have hb4 := HB3.out.trans (k4.mono HB3.out.size)
   exact ((hb4.alloc hb4.size _).alloc (by simp; have := hb4.size; omega) _).alloc (by simp; have := hb4.size; omega) _
  have HCS := Lib.hid hCS
  have HB5 := Lib.hid hb5
  clear hCS hb5 HROW HSAY HB3 HOW3 himR hloR k4 HRKC
  obtain ⟨W5, hW5⟩ : ∃ W5, (((w4.alloc (.cells #[.map none, .int .i64 0] 77)).alloc (.cells #[.map none, .int .i64 0] 77)).alloc (.cells #[.map none, .int .i64 1] 77)) = W5 := ⟨_, rfl⟩
  rw [hW5] at HCS HB5 ⊢
  clear hW5
  obtain ⟨p2, hp2⟩ : ∃ p2, w4.heap.size + 1 + 1 = p2 := ⟨_, rfl⟩
  rw [hp2] at HCS ⊢
  obtain ⟨p1, hp1⟩ : ∃ p1, w4.heap.size + 1 = p1 := ⟨_, rfl⟩
  rw [hp1] at HCS ⊢
  obtain ⟨p0, hp0⟩ : ∃ p0, w4.heap.size = p0 := ⟨_, rfl⟩
  rw [hp0] at HCS ⊢
  clear hp0 hp1 hp2
  go_loopw [26] (fun v wr => RelO h l w B p0 p1 p2 bR n rest v wr) (fun v _ => n - (intOf v).toNat)
  case atStart => exact ⟨0, sR, rows3, _, Nat.zero_le _, rfl, HCS.out, HB5.out⟩
  case round =>
   clear HCS HB5
   obtain ⟨i, sR, rows, M, hi, rfl, cs, hb⟩ := hrel
   by_cases hlt : i < n
   ·have hltz : (i : Int) < (n : Int) := by omega
    obtain ⟨t, ht⟩ : ∃ t, l[i]? = some t := ⟨_, List.getElem?_eq_getElem (by rw [HLL.out]; exact hlt)⟩
    have htm := mid_get (C := qbi h l) ht
    obtain ⟨r, hrr⟩ : ∃ r, rows[i]? = some r := ⟨_, List.getElem?_eq_getElem (by rw [cs.says.1]; exact (List.getElem?_eq_some_iff.1 htm).1)⟩
    obtain ⟨c0, c1, c2, c3, f0, f1, f2⟩ := cs.txn hrr htm
    have hrt := HMAY.out.1 t (HLP.out.mem_iff.1 (List.mem_of_getElem? ht))
    obtain ⟨o1, o2, o3, o4, o5, o6⟩ := OkS_of_right hrt
    have NC := fun (W : World) (k : Below wr.heap.size wr W) => name_calls p0 (M 0) 0 (Lst l i 0) t.s (by omega) (by omega) (by
     have := names_length (qbk (l.take i))
     unfold Lst
     simp [qbk] at this ⊢
     have := HLL.out
     omega) (fun e => by
      obtain ⟨es, cl, h2⟩ := im_map ((cs.nm 0 (by omega)).2.2 p0 e)
      have h1 := (cs.nm 0 (by omega)).1
      rw [show Pst p0 p1 p2 0 = p0 from rfl, h2] at h1
      cases h1) W ((cs.nm 0 (by omega)).move (Trn.of_below (S := fun _ => False) k) id (fun _ _ => id))
    have LK := fun (W : World) (hR : IM Try.prog 3 W bR (intV (qcf h)) sR) (x : Int) (hx : (Lit.int .i64 x).wf = true) => hR.look Try.underlying34 Try.underlying3 (z := .int .i64 0) (t := 34) (e := 3) (by kernel_rfl) false hx
    have WB := wf64 (x := t.b) (by omega) (by omega)
    have WC := wf64 (x := t.c) (by omega) (by omega)
    simp only [Bool.false_eq_true, if_false, rank_val] at LK
    have lk1 := LK wr.drew (cs.rk.below ((Below.refl _ _).drew)) t.b WB
    have lk2 := LK wr.drew (cs.rk.below ((Below.refl _ _).drew)) t.c WC
    have HNC := Lib.hid (NC wr.drew ((Below.refl _ _).drew))
    have HLK := Lib.hid LK
    have HCS := Lib.hid cs
    have HB := Lib.hid hb
    have HW1 := Lib.hid WB
    have HW2 := Lib.hid WC
    have HT := Lib.hid ht
    have HTM := Lib.hid htm
    have HRR := Lib.hid hrr
    clear NC LK cs hb WB WC hrt o1 o2 o3 o4 o5 o6 ht htm hrr
    go_upto_region 11 with fail
    go_cut [26] from 26 to 94 (fun v26 wx => v26 = .int .i64 (i : Int) ∧ ∃ M' : Nat → Option Nat, CS wx w.heap.size B rest (rows.set i { r with s := (qbi h l t).s, b := (qbi h l t).b, c := (qbi h l t).c }) (((l.take i).map (qbi h l) ++ l.drop i).set i { t with s := (qbi h l t).s, b := (qbi h l t).b, c := (qbi h l t).c }) (Pst p0 p1 p2) M' Fst (LstI l i t 0) bR sR (qcf h) ∧ Below w.heap.size w wx)
    case first =>
     have hA : ∀ W : World, CS W w.heap.size B rest rows ((l.take i).map (qbi h l) ++ l.drop i) (Pst p0 p1 p2) M Fst (Lst l i) bR sR (qcf h) → W.cell? ⟨B, i * 4, none⟩ = some (.int .i64 t.s) := fun W c => (c.txn HRR.out HTM.out).1
     refine TailRegion.wp_region_tail [20, 21, 22, 23, 24, 25, 26, 27, 28] (fun W => W.cell? ⟨B, i * 4, none⟩ = some (.int .i64 t.s) ∧ W.cell? ⟨B, i * 4 + 1, none⟩ = some (.int .i64 t.b) ∧ W.cell? ⟨B, i * 4 + 2, none⟩ = some (.int .i64 t.c) ∧ (Instr.lookup 34 (.map (some bR)) (.int .i64 t.b) false).run Try.prog W = .ok (.int .i64 (qcg h t.b)) W ∧ (Instr.lookup 34 (.map (some bR)) (.int .i64 t.c) false).run Try.prog W = .ok (.int .i64 (qcg h t.c)) W) (by kernel_rfl) ?_
     have hAA : (fun W : World => W.cell? ⟨B, i * 4, none⟩ = some (.int .i64 t.s) ∧ W.cell? ⟨B, i * 4 + 1, none⟩ = some (.int .i64 t.b) ∧ W.cell? ⟨B, i * 4 + 2, none⟩ = some (.int .i64 t.c) ∧ (Instr.lookup 34 (.map (some bR)) (.int .i64 t.b) false).run Try.prog W = .ok (.int .i64 (qcg h t.b)) W ∧ (Instr.lookup 34 (.map (some bR)) (.int .i64 t.c) false).run Try.prog W = .ok (.int .i64 (qcg h t.c)) W) wr.drew := ⟨c0, c1, c2, lk1, lk2⟩
     refine TailRegion.wpAnyT_pure (i := 0) (v := .pointer (some ⟨B, i * 4, none⟩)) rfl (by kernel_rfl) (by kernel_rfl) (by kernel_rfl) (fun _ _ _ h => h) (.inl ⟨rfl, fun W hW => ?_⟩) ?_
     ·(try obtain ⟨q0, q1, q2, q3, q4⟩ := hW); go_simp
     simp only [Act.put, List.setIfInBounds_toArray, List.set_cons_zero, List.set_cons_succ]
     refine TailRegion.wpAnyT_pure (i := 1) (v := .pointer (some ⟨B, i * 4, none⟩)) rfl (by kernel_rfl) (by kernel_rfl) (by kernel_rfl) (fun _ _ _ h => h) (.inl ⟨rfl, fun W hW => ?_⟩) ?_
     ·(try obtain ⟨q0, q1, q2, q3, q4⟩ := hW); go_simp
     simp only [Act.put, List.setIfInBounds_toArray, List.set_cons_zero, List.set_cons_succ]
     refine TailRegion.wpAnyT_pure (i := 2) (v := .pointer (some ⟨B, i * 4, none⟩)) rfl (by kernel_rfl) (by kernel_rfl) (by kernel_rfl) (fun _ _ _ h => h) (.inl ⟨rfl, fun W hW => ?_⟩) ?_
     ·(try obtain ⟨q0, q1, q2, q3, q4⟩ := hW); go_simp
     simp only [Act.put, List.setIfInBounds_toArray, List.set_cons_zero, List.set_cons_succ]
     refine TailRegion.wpAnyT_pure (i := 3) (v := .pointer (some ⟨B, i * 4, none⟩)) rfl (by kernel_rfl) (by kernel_rfl) (by kernel_rfl) (fun _ _ _ h => h) (.inl ⟨rfl, fun W hW => ?_⟩) ?_
     ·(try obtain ⟨q0, q1, q2, q3, q4⟩ := hW); go_simp
     simp only [Act.put, List.setIfInBounds_toArray, List.set_cons_zero, List.set_cons_succ]
     refine TailRegion.wpAnyT_pure (i := 4) (v := .pointer (some ⟨B, i * 4, none⟩)) rfl (by kernel_rfl) (by kernel_rfl) (by kernel_rfl) (fun _ _ _ h => h) (.inl ⟨rfl, fun W hW => ?_⟩) ?_
     ·(try obtain ⟨q0, q1, q2, q3, q4⟩ := hW); go_simp
     simp only [Act.put, List.setIfInBounds_toArray, List.set_cons_zero, List.set_cons_succ]
     refine TailRegion.wpAnyT_pure (i := 5) (v := .pointer (some ⟨B, i * 4, none⟩)) rfl (by kernel_rfl) (by kernel_rfl) (by kernel_rfl) (fun _ _ _ h => h) (.inl ⟨rfl, fun W hW => ?_⟩) ?_
     ·(try obtain ⟨q0, q1, q2, q3, q4⟩ := hW); go_simp
     simp only [Act.put, List.setIfInBounds_toArray, List.set_cons_zero, List.set_cons_succ]
     refine TailRegion.wpAnyT_take (i := 6) (v := .int .i64 t.s) rfl (by kernel_rfl) (by kernel_rfl) (by kernel_rfl) (by kernel_rfl) (fun _ _ _ h => h) (.inl ⟨rfl, fun W hW => ?_⟩) hAA ?_
     ·(try obtain ⟨q0, q1, q2, q3, q4⟩ := hW); go_simp
     simp only [Act.put, List.setIfInBounds_toArray, List.set_cons_zero, List.set_cons_succ]
     refine TailRegion.wpAnyT_pure (i := 8) (v := .map (some bR)) rfl (by kernel_rfl) (by kernel_rfl) (by kernel_rfl) (fun _ _ _ h => h) (.inl ⟨rfl, fun W hW => ?_⟩) ?_
     ·(try obtain ⟨q0, q1, q2, q3, q4⟩ := hW); go_simp
     simp only [Act.put, List.setIfInBounds_toArray, List.set_cons_zero, List.set_cons_succ]
     refine TailRegion.wpAnyT_pure (i := 9) (v := .pointer (some ⟨B, i * 4, none⟩)) rfl (by kernel_rfl) (by kernel_rfl) (by kernel_rfl) (fun _ _ _ h => h) (.inl ⟨rfl, fun W hW => ?_⟩) ?_
     ·(try obtain ⟨q0, q1, q2, q3, q4⟩ := hW); go_simp
     simp only [Act.put, List.setIfInBounds_toArray, List.set_cons_zero, List.set_cons_succ]
     refine TailRegion.wpAnyT_pure (i := 10) (v := .pointer (some ⟨B, i * 4, none⟩)) rfl (by kernel_rfl) (by kernel_rfl) (by kernel_rfl) (fun _ _ _ h => h) (.inl ⟨rfl, fun W hW => ?_⟩) ?_
     ·(try obtain ⟨q0, q1, q2, q3, q4⟩ := hW); go_simp
     simp only [Act.put, List.setIfInBounds_toArray, List.set_cons_zero, List.set_cons_succ]
     refine TailRegion.wpAnyT_pure (i := 11) (v := .pointer (some ⟨B, i * 4 + 1, none⟩)) rfl (by kernel_rfl) (by kernel_rfl) (by kernel_rfl) (fun _ _ _ h => h) (.inl ⟨rfl, fun W hW => ?_⟩) ?_
     ·(try obtain ⟨q0, q1, q2, q3, q4⟩ := hW); go_simp
     simp only [Act.put, List.setIfInBounds_toArray, List.set_cons_zero, List.set_cons_succ]
     refine TailRegion.wpAnyT_take (i := 12) (v := .int .i64 t.b) rfl (by kernel_rfl) (by kernel_rfl) (by kernel_rfl) (by kernel_rfl) (fun _ _ _ h => h) (.inl ⟨rfl, fun W hW => ?_⟩) hAA ?_
     ·(try obtain ⟨q0, q1, q2, q3, q4⟩ := hW); go_simp
     simp only [Act.put, List.setIfInBounds_toArray, List.set_cons_zero, List.set_cons_succ]
     refine TailRegion.wpAnyT_take (i := 13) (v := .int .i64 (qcg h t.b)) rfl (by kernel_rfl) (by kernel_rfl) (by kernel_rfl) (by kernel_rfl) (fun _ _ _ h => h) (.inl ⟨rfl, fun W hW => ?_⟩) hAA ?_
     ·(try obtain ⟨q0, q1, q2, q3, q4⟩ := hW); go_simp
     simp only [Act.put, List.setIfInBounds_toArray, List.set_cons_zero, List.set_cons_succ]
     refine TailRegion.wpAnyT_pure (i := 14) (v := .map (some bR)) rfl (by kernel_rfl) (by kernel_rfl) (by kernel_rfl) (fun _ _ _ h => h) (.inl ⟨rfl, fun W hW => ?_⟩) ?_
     ·(try obtain ⟨q0, q1, q2, q3, q4⟩ := hW); go_simp
     simp only [Act.put, List.setIfInBounds_toArray, List.set_cons_zero, List.set_cons_succ]
     refine TailRegion.wpAnyT_pure (i := 15) (v := .pointer (some ⟨B, i * 4, none⟩)) rfl (by kernel_rfl) (by kernel_rfl) (by kernel_rfl) (fun _ _ _ h => h) (.inl ⟨rfl, fun W hW => ?_⟩) ?_
     ·(try obtain ⟨q0, q1, q2, q3, q4⟩ := hW); go_simp
     simp only [Act.put, List.setIfInBounds_toArray, List.set_cons_zero, List.set_cons_succ]
     refine TailRegion.wpAnyT_pure (i := 16) (v := .pointer (some ⟨B, i * 4, none⟩)) rfl (by kernel_rfl) (by kernel_rfl) (by kernel_rfl) (fun _ _ _ h => h) (.inl ⟨rfl, fun W hW => ?_⟩) ?_
     ·(try obtain ⟨q0, q1, q2, q3, q4⟩ := hW); go_simp
     simp only [Act.put, List.setIfInBounds_toArray, List.set_cons_zero, List.set_cons_succ]
     refine TailRegion.wpAnyT_pure (i := 17) (v := .pointer (some ⟨B, i * 4 + 2, none⟩)) rfl (by kernel_rfl) (by kernel_rfl) (by kernel_rfl) (fun _ _ _ h => h) (.inl ⟨rfl, fun W hW => ?_⟩) ?_
     ·(try obtain ⟨q0, q1, q2, q3, q4⟩ := hW); go_simp
     simp only [Act.put, List.setIfInBounds_toArray, List.set_cons_zero, List.set_cons_succ]
     refine TailRegion.wpAnyT_take (i := 18) (v := .int .i64 t.c) rfl (by kernel_rfl) (by kernel_rfl) (by kernel_rfl) (by kernel_rfl) (fun _ _ _ h => h) (.inl ⟨rfl, fun W hW => ?_⟩) hAA ?_
     ·(try obtain ⟨q0, q1, q2, q3, q4⟩ := hW); go_simp
     simp only [Act.put, List.setIfInBounds_toArray, List.set_cons_zero, List.set_cons_succ]
     refine TailRegion.wpAnyT_take (i := 19) (v := .int .i64 (qcg h t.c)) rfl (by kernel_rfl) (by kernel_rfl) (by kernel_rfl) (by kernel_rfl) (fun _ _ _ h => h) (.inl ⟨rfl, fun W hW => ?_⟩) hAA ?_
     ·(try obtain ⟨q0, q1, q2, q3, q4⟩ := hW); go_simp
     simp only [Act.put, List.setIfInBounds_toArray, List.set_cons_zero, List.set_cons_succ]
     refine TailRegion.wpAnyT_next (i := 7) rfl (by kernel_rfl) rfl ?_
     intro K7 hK7
     have HK7 := Lib.hid hK7
     clear hK7
     simp only [List.getElem_toArray, List.getElem_cons_succ, List.getElem_cons_zero]
     unfold Oper.wp
     go_simp
     go_at_call 41
     refine HNC.out.mono ?_
     rintro e w6 ⟨rfl, m6, hn6, hm6, ht6⟩
     have cs6 := (HCS.out.below ((Below.refl _ _).drew)).name (by have := HB.out.size; simpa using this) 0 (by omega) t.s hn6 hm6 ht6
     obtain ⟨d0, d1, d2, d3, g0, g1, g2⟩ := cs6.txn HRR.out HTM.out
     have lk3 := HLK.out w6 cs6.rk t.b HW1.out
     have lk4 := HLK.out w6 cs6.rk t.c HW2.out
     have CS6 := Lib.hid cs6
     have HT6 := Lib.hid ht6
     refine HK7.out _ _ ⟨fun _ _ => ⟨d0, d1, d2, lk3, lk4⟩, ?_⟩
     clear cs6 ht6 hn6 hm6 lk1 lk2 lk3 lk4 c0 c1 c2 c3 f0 f1 f2 hAA hA HK7 K7
     refine TailRegion.wpAnyT_next (i := 20) rfl (by kernel_rfl) rfl ?_
     intro K7 hK7
     have HK7 := Lib.hid hK7
     clear hK7
     (try simp only [List.getElem_toArray, List.getElem_cons_succ, List.getElem_cons_zero])
     unfold Oper.wp
     go_simp
     refine HK7.out _ _ ⟨fun h => (by simp at h), ?_⟩
     clear HK7 K7
     (try simp only [Act.put, List.setIfInBounds_toArray, List.set_cons_zero, List.set_cons_succ])
     refine TailRegion.wpAnyT_next (i := 21) rfl (by kernel_rfl) rfl ?_
     intro K7 hK7
     have HK7 := Lib.hid hK7
     clear hK7
     (try simp only [List.getElem_toArray, List.getElem_cons_succ, List.getElem_cons_zero])
     unfold Oper.wp
     go_simp
     refine HK7.out _ _ ⟨fun h => (by simp at h), ?_⟩
     clear HK7 K7
     (try simp only [Act.put, List.setIfInBounds_toArray, List.set_cons_zero, List.set_cons_succ])
     refine TailRegion.wpAnyT_next (i := 22) rfl (by kernel_rfl) rfl ?_
     intro K7 hK7
     have HK7 := Lib.hid hK7
     clear hK7
     (try simp only [List.getElem_toArray, List.getElem_cons_succ, List.getElem_cons_zero])
     unfold Oper.wp
     go_simp
     refine HK7.out _ _ ⟨fun h => (by simp at h), ?_⟩
     clear HK7 K7
     (try simp only [Act.put, List.setIfInBounds_toArray, List.set_cons_zero, List.set_cons_succ])
     refine TailRegion.wpAnyT_next (i := 23) rfl (by kernel_rfl) rfl ?_
     intro K7 hK7
     have HK7 := Lib.hid hK7
     clear hK7
     (try simp only [List.getElem_toArray, List.getElem_cons_succ, List.getElem_cons_zero])
     unfold Oper.wp
     go_simp
     refine HK7.out _ _ ⟨fun h => (by simp at h), ?_⟩
     clear HK7 K7
     (try simp only [Act.put, List.setIfInBounds_toArray, List.set_cons_zero, List.set_cons_succ])
     refine TailRegion.wpAnyT_next (i := 24) rfl (by kernel_rfl) rfl ?_
     intro K7 hK7
     have HK7 := Lib.hid hK7
     clear hK7
     (try simp only [List.getElem_toArray, List.getElem_cons_succ, List.getElem_cons_zero])
     unfold Oper.wp
     go_simp
     refine HK7.out _ _ ⟨fun h => (by simp at h), ?_⟩
     clear HK7 K7
     (try simp only [Act.put, List.setIfInBounds_toArray, List.set_cons_zero, List.set_cons_succ])
     refine TailRegion.wpAnyT_next (i := 25) rfl (by kernel_rfl) rfl ?_
     intro K7 hK7
     have HK7 := Lib.hid hK7
     clear hK7
     (try simp only [List.getElem_toArray, List.getElem_cons_succ, List.getElem_cons_zero])
     unfold Oper.wp
     go_simp
     refine HK7.out _ _ ⟨fun h => (by simp at h), ?_⟩
     clear HK7 K7
     (try simp only [Act.put, List.setIfInBounds_toArray, List.set_cons_zero, List.set_cons_succ])
     refine TailRegion.wpAnyT_next (i := 26) rfl (by kernel_rfl) rfl ?_
     intro K7 hK7
     have HK7 := Lib.hid hK7
     clear hK7
     (try simp only [List.getElem_toArray, List.getElem_cons_succ, List.getElem_cons_zero])
     unfold Oper.wp
     go_simp
     refine HK7.out _ _ ⟨fun h => (by simp at h), ?_⟩
     clear HK7 K7
     (try simp only [Act.put, List.setIfInBounds_toArray, List.set_cons_zero, List.set_cons_succ])
     refine TailRegion.wpAnyT_next (i := 27) rfl (by kernel_rfl) rfl ?_
     intro K7 hK7
     have HK7 := Lib.hid hK7
     clear hK7
     (try simp only [List.getElem_toArray, List.getElem_cons_succ, List.getElem_cons_zero])
     unfold Oper.wp
     go_simp
     refine HK7.out _ _ ⟨fun h => (by simp at h), ?_⟩
     clear HK7 K7
     (try simp only [Act.put, List.setIfInBounds_toArray, List.set_cons_zero, List.set_cons_succ])
     refine TailRegion.wpAnyT_next (i := 28) rfl (by kernel_rfl) rfl ?_
     intro K7 hK7
     have HK7 := Lib.hid hK7
     clear hK7
     (try simp only [List.getElem_toArray, List.getElem_cons_succ, List.getElem_cons_zero])
     unfold Oper.wp
     go_simp
     refine HK7.out _ _ ⟨fun h => (by simp at h), ?_⟩
     clear HK7 K7
     (try simp only [Act.put, List.setIfInBounds_toArray, List.set_cons_zero, List.set_cons_succ])
     refine TailRegion.wpAnyT_done (by kernel_rfl) ?_ _
     have cs7 := CS6.out.setNum HRR.out HTM.out (idxL (qba (Lst l i 0) t.s) t.s : Int) (qcg h t.b) (qcg h t.c)
     rw [lst_s HT.out, idx_s HT.out] at cs7
     rw [idx_s HT.out]
     have hlo := CS6.out.loB
     have hb6 : Below w.heap.size w w6 := Trn.below (HB.out.trans ((Below.refl _ _).drew.mono HB.out.size)) HT6.out (fun k hk => by
      rcases hk with rfl | hk
      ·exact HCS.out.loP 0 (by omega)
      ·exact HCS.out.loM 0 k (by omega) hk)
     have hb7 := hb6.grown (putNum_grown w6 B i (idxL (names (qbk l)) t.s : Int) (qcg h t.b) (qcg h t.c)) hb6.size (fun j hj => by cases hj; exact hlo)
     have CS7 := Lib.hid cs7
     have HB7 := Lib.hid hb7
     clear cs7 hb7 hb6 d0 d1 d2 d3 g0 g1 g2
     go_wp2_with fail
     go_meet
     case rel => exact ⟨rfl, _, CS7.out, HB7.out⟩
    case rest =>
     clear HNC HLK HCS HB HW1 HW2 lk1 lk2 c0 c1 c2 c3 f0 f1 f2
     obtain ⟨rfl, M1, cs1, hb1⟩ := hcut
     rw [← curJ_zero] at cs1
     have hr1 : (rows.set i { r with s := (qbi h l t).s, b := (qbi h l t).b, c := (qbi h l t).c })[i]? = some { r with s := (qbi h l t).s, b := (qbi h l t).b, c := (qbi h l t).c } := by
      rw [List.getElem?_set_self (List.getElem?_eq_some_iff.1 HRR.out).1]
     have hil := (List.getElem?_eq_some_iff.1 HTM.out).1
     have ht1 : ∀ x, (((l.take i).map (qbi h l) ++ l.drop i).set i x)[i]? = some x := fun x => List.getElem?_set_self hil
     obtain ⟨m, hm1⟩ : ∃ m, t.ops.length = m := ⟨_, rfl⟩
     have HMM := Lib.hid hm1
     have hm64 : m ≤ 64 := by rw [← hm1]; exact (OkT_of_right (HMAY.out.1 t (HLP.out.mem_iff.1 (List.mem_of_getElem? HT.out)))).1
     obtain ⟨_, _, _, c3, _, _, _⟩ := cs1.txn hr1 (ht1 _)
     rw [show (curJ h l t 0).ops.length = m by rw [← hm1]; simp [curJ]] at c3
     dsimp only at c3
     have HCS1 := Lib.hid cs1
     have HB1 := Lib.hid hb1
     have HR1 := Lib.hid hr1
     have HT1 := Lib.hid ht1
     clear cs1 hb1 hr1 ht1 hm1 hil
     go_wp2_with fail
     go_loopw [63] (fun v wr => ∃ (j : Nat) (M' : Nat → Option Nat), j ≤ m ∧ v = .int .i64 ((j : Nat) : Int) ∧ CS wr w.heap.size B rest (rows.set i { r with s := (qbi h l t).s, b := (qbi h l t).b, c := (qbi h l t).c }) (((l.take i).map (qbi h l) ++ l.drop i).set i (curJ h l t j)) (Pst p0 p1 p2) M' Fst (LstI l i t j) bR sR (qcf h) ∧ Below w.heap.size w wr) (fun v _ => m - (intOf v).toNat)
     case atStart => exact ⟨0, M1, Nat.zero_le _, rfl, HCS1.out, HB1.out⟩
     case round =>
      clear HCS1 HB1 c3
      obtain ⟨j, M2, hj, rfl, cs, hb⟩ := hrel
      by_cases hjm : j < m
      ·have hjz : (j : Int) < (m : Int) := by omega
       obtain ⟨o, ho⟩ : ∃ o, t.ops[j]? = some o := ⟨_, List.getElem?_eq_getElem (by rw [HMM.out]; exact hjm)⟩
       have hcur : (curJ h l t j).ops[j]? = some o := mid_get ho
       obtain ⟨_, _, _, c3, _, _, _⟩ := cs.txn HR1.out (HT1.out _)
       rw [show (curJ h l t j).ops.length = m by rw [← HMM.out]; simp [curJ]; omega] at c3
       obtain ⟨k1, v1, fk1, fv1⟩ := cs.op HR1.out (HT1.out _) hcur
       dsimp only at c3 k1 v1 fk1 fv1
       have hoo := (OkT_of_right (HMAY.out.1 t (HLP.out.mem_iff.1 (List.mem_of_getElem? HT.out)))).2 o (List.mem_of_getElem? ho)
       obtain ⟨hk0, hk1, hv0, hv1⟩ := hoo
       have hcl : qar l ≤ 1024 := by rw [countT_perm HLP.out]; exact HCN.out
       have N1 := name_calls p1 (M2 1) 0 (LstI l i t j 1) o.k (by omega) (by omega) (by have := lstI1_length HT.out j; omega) (fun e => by
        obtain ⟨es, cl, h2⟩ := im_map ((cs.nm 1 (by omega)).2.2 p1 e)
        have h1 := (cs.nm 1 (by omega)).1
        rw [show Pst p0 p1 p2 1 = p1 from rfl, h2] at h1
        cases h1) wr (cs.nm 1 (by omega))
       have HN1 := Lib.hid N1
       have HCS2 := Lib.hid cs
       have HB2 := Lib.hid hb
       have HO := Lib.hid ho
       have HCUR := Lib.hid hcur
       have hgB : w.heap.size ≤ r.g := by
        have := (cs.says.lt { r with s := (qbi h l t).s, b := (qbi h l t).b, c := (qbi h l t).c } (List.mem_of_getElem? HR1.out)).1
        exact this
       clear N1 cs hb ho hcur
       by_cases hvz : o.v = 0
       ·go_wp2_with (go_at_call 41; (with_reducible refine HN1.out.mono ?_); rintro e w6 ⟨rfl, m6, hn6, hm6, ht6⟩; have cs6 := HCS2.out.name HB2.out.size 1 (by omega) o.k hn6 hm6 ht6; obtain ⟨k6, v6, fk6, fv6⟩ := cs6.op HR1.out (HT1.out _) HCUR.out; dsimp only at k6 v6 fk6 fv6; have HC6 := Lib.hid cs6; have HT6 := Lib.hid ht6; clear cs6 ht6 hn6 hm6)
        have hb6 : Below w.heap.size w w6 := Trn.below HB2.out HT6.out (fun k hk => by
         rcases hk with rfl | hk
         ·exact HCS2.out.loP 1 (by omega)
         ·exact HCS2.out.loM 1 k (by omega) hk)
        have cs7 := HC6.out.setOp HR1.out (HT1.out _) (ops' := (curJ h l t j).ops.set j { o with k := (idxL (qba (LstI l i t j 1) o.k) o.k : Int) }) (by simp) (fun rst => flat_setk _ rst j o _ HCUR.out)
        have e1 : ({ o with k := (idxL (qba (LstI l i t j 1) o.k) o.k : Int) } : O3) = canO (names (qa4 l)) (names (qa6 l)) o := by
         rw [idx_k HT.out HO.out]
         unfold canO
         rw [if_pos hvz, ← hvz]
        rw [e1, List.set_set, curJ_step HO.out, lst_k0 HO.out hvz] at cs7
        have hb7 := hb6.grown (qas w6 r.g (j * 3 + 1) (.int .i64 (idxL (qba (LstI l i t j 1) o.k) o.k : Int))) hb6.size (fun q hq => by cases hq; exact hgB)
        go_roundw
        case rel => exact ⟨j + 1, _, by omega, by go_num, cs7, hb7⟩
        case measure => (simp [intOf]; try omega)
       ·have hvb : (o.v != 0) = true := by simp [hvz]
        have hjl : j < (curJ h l t j).ops.length := (List.getElem?_eq_some_iff.1 HCUR.out).1
        have HJL := Lib.hid hjl
        clear hjl
        go_wp2_with (first
         | (go_at_call 41; (with_reducible refine HN1.out.mono ?_); rintro e w6 ⟨rfl, m6, hn6, hm6, ht6⟩; have cs6 := HCS2.out.name HB2.out.size 1 (by omega) o.k hn6 hm6 ht6; obtain ⟨k6, v6, fk6, fv6⟩ := cs6.op HR1.out (HT1.out _) HCUR.out; dsimp only at k6 v6 fk6 fv6; have hb6 : Below w.heap.size w w6 := Trn.below HB2.out ht6 (fun k hk => by
           rcases hk with rfl | hk
           ·exact HCS2.out.loP 1 (by omega)
           ·exact HCS2.out.loM 1 k (by omega) hk); have cs7 := cs6.setOp HR1.out (HT1.out _) (ops' := (curJ h l t j).ops.set j { o with k := (idxL (qba (LstI l i t j 1) o.k) o.k : Int) }) (by simp) (fun rst => flat_setk _ rst j o _ HCUR.out); rw [List.set_set] at cs7; have hb7 := hb6.grown (qas w6 r.g (j * 3 + 1) (.int .i64 (idxL (qba (LstI l i t j 1) o.k) o.k : Int))) hb6.size (fun q hq => by cases hq; exact hgB); have hset : ((curJ h l t j).ops.set j { o with k := (idxL (qba (LstI l i t j 1) o.k) o.k : Int) })[j]? = some { o with k := (idxL (qba (LstI l i t j 1) o.k) o.k : Int) } := List.getElem?_set_self HJL.out; obtain ⟨k7, v7, fk7, fv7⟩ := cs7.op HR1.out (HT1.out _) hset; dsimp only at k7 v7 fk7 fv7; have N2 := name_calls p2 (M2 2) 1 (LstI l i t j 2) o.v (by omega) (by omega) (by have := lstI2_length HT.out j; omega) (fun e => by
            obtain ⟨es, cl, h2⟩ := im_map ((HCS2.out.nm 2 (by omega)).2.2 p2 e)
            have h1 := (HCS2.out.nm 2 (by omega)).1
            rw [show Pst p0 p1 p2 2 = p2 from rfl, h2] at h1
            cases h1) _ (cs7.nm 2 (by omega)); have HN2 := Lib.hid N2; have HC7 := Lib.hid cs7; have HB7 := Lib.hid hb7; have HSET := Lib.hid hset; clear cs6 cs7 ht6 hn6 hm6 hb6 hb7 N2 k7 fk7 hset)
         | (go_at_call 41; (with_reducible refine HN2.out.mono ?_); rintro e w8 ⟨rfl, m8, hn8, hm8, ht8⟩; have cs8 := HC7.out.name HB7.out.size 2 (by omega) o.v hn8 hm8 ht8; obtain ⟨k8, v8, fk8, fv8⟩ := cs8.op HR1.out (HT1.out _) HSET.out; dsimp only at k8 v8 fk8 fv8; have HC8 := Lib.hid cs8; have HT8 := Lib.hid ht8; clear cs8 hn8 hm8 ht8))
        have hb8 : Below w.heap.size w w8 := Trn.below HB7.out HT8.out (fun k hk => by
         rcases hk with rfl | hk
         ·exact HC7.out.loP 2 (by omega)
         ·exact HC7.out.loM 2 k (by omega) hk)
        have cs9 := HC8.out.setOp HR1.out (HT1.out _) (ops' := ((curJ h l t j).ops.set j { o with k := (idxL (qba (LstI l i t j 1) o.k) o.k : Int) }).set j { ({ o with k := (idxL (qba (LstI l i t j 1) o.k) o.k : Int) } : O3) with v := 1 + (idxL (qba (LstI l i t j 2) o.v) o.v : Int) }) (by simp) (fun rst => flat_setv _ rst j _ _ HSET.out)
        have e1 : ({ ({ o with k := (idxL (qba (LstI l i t j 1) o.k) o.k : Int) } : O3) with v := 1 + (idxL (qba (LstI l i t j 2) o.v) o.v : Int) } : O3) = canO (names (qa4 l)) (names (qa6 l)) o := by
         rw [idx_k HT.out HO.out, idx_v HT.out HO.out hvz]
         unfold canO
         rw [if_neg hvz]
        rw [e1, List.set_set, List.set_set] at cs9
        have e2 := curJ_step (h := h) (l := l) HO.out
        have hL := lst_kv (l := l) (i := i) HO.out hvz
        have hb9 := hb8.grown (qas w8 r.g (j * 3 + 2) (.int .i64 (1 + (idxL (qba (LstI l i t j 2) o.v) o.v : Int)))) hb8.size (fun q hq => by cases hq; exact hgB)
        go_roundw
        case rel => exact ⟨j + 1, _, by omega, by go_num, by rw [← hL, ← e2]; exact cs9, hb9⟩
        case measure => (simp [intOf]; try omega)
      ·have hjm2 : j = m := by omega
       subst hjm2
       have cs5 := cs
       rw [← HMM.out, curJ_end, mid_set HT.out, lst_end HT.out] at cs5
       have HC5 := Lib.hid cs5
       have HB5 := Lib.hid hb
       clear cs cs5 hb
       go_wp2_with fail
       go_roundw
       case rel => exact ⟨i + 1, sR, _, M2, by omega, by go_num, HC5.out, HB5.out⟩
       case measure => (simp [intOf]; try omega)
   ·have hin : i = n := by omega
    subst hin
    have hcl : (l.take i).map (qbi h l) ++ l.drop i = canonL (qcg h) l := by
     rw [List.take_of_length_le (by rw [HLL.out]; exact Nat.le_refl _), List.drop_of_length_le (by rw [HLL.out]; exact Nat.le_refl _), List.append_nil]
     rfl
    rw [hcl] at cs
    have hrl2 : rows.length = i := by rw [cs.says.1]; simp [canonL, HLL.out]
    have hown : wr.ownsRow w.heap.size 55 4 (.slice (some ⟨B, 0, none⟩) i cp) rows.length (qby rows) := by
     rw [hrl2]
     refine ⟨by rw [flatT_length, hrl2], .inr ⟨B, cp, _, rfl, hB, cs.row, hncp, hcpm, by simp [flatT_length, hrl2]; omega, ?_⟩⟩
     rw [← hrl2, ← flatT_length rows]
     simp
    have HH := Lib.hid (show H2 wr w.heap.size (.slice (some ⟨B, 0, none⟩) i cp) rows (canonL (qcg h) l) from ⟨hown, cs.says⟩)
    have HB := Lib.hid hb
    clear cs hown hb
    go_wp2_with fail
    go_ret
    exact ⟨HB.out, .inr ⟨HCK.out, _, rows, l, HLP.out, HPL.out, rfl, HH.out⟩⟩
 ·have HCK := Lib.hid hck
  have hcz : (qa3 h != 0) = true := by simp [hck]
  clear hr hcnt
  obtain ⟨q, hq⟩ : ∃ q, qa3 h = q := ⟨_, rfl⟩
  rw [hq] at HCC HCK hcz hck ⊢
  clear hq
  go_enter Try.func13, Try.ntmps13
  go_wp2_with (go_at_call 32; (with_reducible refine HCC.out.mono ?_); rintro e w1 ⟨rfl, k1⟩)
  go_ret
  exact ⟨k1, .inl ⟨HCK.out, rfl⟩⟩
end Go.Proofs.Ytngkneknopenmaa.Hist
end
section
namespace Go.Proofs.Ytngkneknopenmaa.Hist
set_option linter.unusedSimpArgs false
open Go.TailRegion (pu ta sa sz ss)
open Go Go.RowKit Go.Proofs.Ytngkneknopenmaa.Row3 Go.Proofs.Ytngkneknopenmaa.IntMap
structure Maps4 (w : World) (bK bS bV bR : Nat) (gK gS gV gR : Int → Option Int) : Prop where
 K : ∃ s, IM Try.prog 3 w bK (nI gK) s
 S : ∃ s, IM Try.prog 3 w bS (nI gS) s
 V : ∃ s, IM Try.prog 3 w bV (nI gV) s
 R : ∃ s, IM Try.prog 3 w bR (nI gR) s
 wK : WfM gK
 wS : WfM gS
 wV : WfM gV
 wR : WfM gR
theorem Maps4.below {w w' : World} {bK bS bV bR : Nat} {gK gS gV gR : Int → Option Int} (h : Maps4 w bK bS bV bR gK gS gV gR) (hb : Below w.heap.size w w') : Maps4 w' bK bS bV bR gK gS gV gR :=
 ⟨h.K.imp fun _ k => k.below hb, h.S.imp fun _ k => k.below hb, h.V.imp fun _ k => k.below hb, h.R.imp fun _ k => k.below hb, h.wK, h.wS, h.wV, h.wR⟩
def qbp (gK gS gV gR : Int → Option Int) : Ren := ⟨toF gS, toF gK, toF gV, toF gR⟩
def WfTx (t : T4) : Prop := Wf t.s ∧ Wf t.b ∧ Wf t.c ∧ ∀ o ∈ t.ops, Wf o.k ∧ Wf o.v
def put4 (w : World) (q : Nat) (s b c : Int) (v : Value) : World := (((w.setCell ⟨q, 0, none⟩ (.int .i64 s)).setCell ⟨q, 1, none⟩ (.int .i64 b)).setCell ⟨q, 2, none⟩ (.int .i64 c)).setCell ⟨q, 3, none⟩ v
theorem put4_heap {w : World} {q : Nat} {x0 x1 x2 x3 : Value} (h : w.heap[q]? = some (.cells #[x0, x1, x2, x3] 55 (0, 0))) (s b c : Int) (v : Value) : (put4 w q s b c v).heap[q]? = some (.cells #[.int .i64 s, .int .i64 b, .int .i64 c, v] 55 (0, 0)) := by
 have h1 := qay w q 0 _ _ _ (.int .i64 s) h
 have h2 := qay _ q 1 _ _ _ (.int .i64 b) h1
 have h3 := qay _ q 2 _ _ _ (.int .i64 c) h2
 have h4 := qay _ q 3 _ _ _ v h3
 unfold put4
 simpa using h4
theorem put4_grown (w : World) (q : Nat) (s b c : Int) (v : Value) : w.grownBy (put4 w q s b c v) (some q) :=
 World.grownBy.trans (World.grownBy.trans (World.grownBy.trans (qas _ _ _ _) (qas _ _ _ _)) (qas _ _ _ _)) (qas _ _ _ _)
def TB (p q pO bK bS bV bR : Nat) (gK gV : Int → Option Int) (sl : Value) (o : O3) (v : Value) (W : World) : Prop :=
 W.cell? ⟨p, 0, none⟩ = some (.map (some bK)) ∧ W.cell? ⟨p, 1, none⟩ = some (.map (some bS)) ∧ W.cell? ⟨p, 2, none⟩ = some (.map (some bV)) ∧ W.cell? ⟨p, 3, none⟩ = some (.map (some bR)) ∧ W.cell? ⟨p, 4, none⟩ = some sl ∧
  W.cell? ⟨q, 3, none⟩ = some v ∧ W.cell? ⟨pO, 0, none⟩ = some (.bool o.w) ∧ W.cell? ⟨pO, 1, none⟩ = some (.int .i64 o.k) ∧ W.cell? ⟨pO, 2, none⟩ = some (.int .i64 o.v) ∧ (∃ s, IM Try.prog 3 W bK (nI gK) s) ∧ ∃ s, IM Try.prog 3 W bV (nI gV) s
theorem TB.grown {p q pO bK bS bV bR : Nat} {gK gV : Int → Option Int} {sl : Value} {o : O3} {v : Value} {W W' : World} {row : Option Nat} (h : TB p q pO bK bS bV bR gK gV sl o v W) (hg : W.grownBy W' row) (hp : some p ≠ row) (hq : some q ≠ row) (hO : some pO ≠ row) (hK : some bK ≠ row) (hV : some bV ≠ row) :
  TB p q pO bK bS bV bR gK gV sl o v W' := by
 obtain ⟨a0, a1, a2, a3, a4, a5, a6, a7, a8, ⟨s9, a9⟩, ⟨s10, a10⟩⟩ := h
 exact ⟨hg.cell a0 hp, hg.cell a1 hp, hg.cell a2 hp, hg.cell a3 hp, hg.cell a4 hp, hg.cell a5 hq, hg.cell a6 hO, hg.cell a7 hO, hg.cell a8 hO, ⟨s9, a9.kept hg hK⟩, ⟨s10, a10.kept hg hV⟩⟩
def TA (p : Nat) (bS bR : Nat) (gS gR : Int → Option Int) (t : T4) (W : World) : Prop :=
 W.cell? ⟨p, 1, none⟩ = some (.map (some bS)) ∧ W.cell? ⟨p, 3, none⟩ = some (.map (some bR)) ∧ W.cell? ⟨p + 1, 0, none⟩ = some (.int .i64 t.s) ∧ W.cell? ⟨p + 1, 1, none⟩ = some (.int .i64 t.b) ∧ W.cell? ⟨p + 1, 2, none⟩ = some (.int .i64 t.c) ∧ (∃ s, IM Try.prog 3 W bS (nI gS) s) ∧ ∃ s, IM Try.prog 3 W bR (nI gR) s
set_option maxHeartbeats 8000000 in
set_option maxRecDepth 100000 in
theorem txn_calls {bK bS bV bR c3 n : Nat} {gK gS gV gR : Int → Option Int} {sl : Value} {A3 : Option Addr} {t : T4} {w : World} (hw : WfTx t) (hM : Maps4 w bK bS bV bR gK gS gV gR) (hn : t.ops.length = n) (h1 : 1 ≤ n) (h2 : n ≤ 64) (hr : RdO w A3 t.ops) :
  Calls Try.prog 47 #[.agg #[.map (some bK), .map (some bS), .map (some bV), .map (some bR), sl], .agg #[.int .i64 t.s, .int .i64 t.b, .int .i64 t.c, .slice A3 n c3]] w fun e w' =>
   (∃ g cp, e = .returned (.agg #[.int .i64 (toF gS t.s), .int .i64 (toF gR t.b), .int .i64 (toF gR t.c), .slice (some ⟨g, 0, none⟩) n cp]) ∧ OW w' g cp (t.ops.map (renO (qbp gK gS gV gR))) ∧ n ≤ cp ∧ w.heap.size ≤ g) ∧ Below w.heap.size w w' := by
 have HN := Lib.hid hn
 have HR := Lib.hid hr
 have HW := Lib.hid hw
 have HM := Lib.hid hM
 clear hn hr hw hM
 go_enter Try.func47, Try.ntmps47
 go_upto_region 1 with fail
 obtain ⟨W3, hW3⟩ : ∃ W3, ((w.alloc (.cells #[.map (some bK), .map (some bS), .map (some bV), .map (some bR), sl] 36)).alloc (.cells #[.int .i64 t.s, .int .i64 t.b, .int .i64 t.c, .slice A3 n c3] 55)).alloc (.cells #[.int .i64 0, .int .i64 0, .int .i64 0, .slice none 0 0] 55) = W3 := ⟨_, rfl⟩
 obtain ⟨e0, e1, e2⟩ := alloc3 w (.cells #[.map (some bK), .map (some bS), .map (some bV), .map (some bR), sl] 36) (.cells #[.int .i64 t.s, .int .i64 t.b, .int .i64 t.c, .slice A3 n c3] 55) (.cells #[.int .i64 0, .int .i64 0, .int .i64 0, .slice none 0 0] 55)
 have hb3 : Below w.heap.size w W3 := by rw [← hW3]; exact (((Below.refl _ _).alloc (Nat.le_refl _) _).alloc (by simp) _).alloc (by simp; omega) _
 have hs3 : W3.heap.size = w.heap.size + 3 := by rw [← hW3]; simp
 rw [hW3] at e0 e1 e2 ⊢
 have HM3 := Lib.hid (HM.out.below hb3)
 have HB3 := Lib.hid hb3
 have HS3 := Lib.hid hs3
 have HE0 := Lib.hid e0
 have HE1 := Lib.hid e1
 have HE2 := Lib.hid e2
 clear e0 e1 e2 hb3 hs3 hW3
 have hA0 : W3.heap[w.heap.size]? = some (.cells #[.map (some bK), .map (some bS), .map (some bV), .map (some bR), sl] 36 (0, 0)) ∧ W3.heap[w.heap.size + 1]? = some (.cells #[.int .i64 t.s, .int .i64 t.b, .int .i64 t.c, .slice A3 n c3] 55 (0, 0)) := ⟨HE0.out, HE1.out⟩
 have HAB := Lib.hid (show ∀ W : World, Below W3.heap.size W3 W → TA w.heap.size bS bR gS gR t W from fun W hb => by
  have a0 := (hb.block _ (by have := HS3.out; omega)).trans hA0.1
  have a1 := (hb.block _ (by have := HS3.out; omega)).trans hA0.2
  have x1 := Lib.cell_of_heap a0 1
  have x3 := Lib.cell_of_heap a0 3
  have y0 := Lib.cell_of_heap a1 0
  have y1 := Lib.cell_of_heap a1 1
  have y2 := Lib.cell_of_heap a1 2
  simp only [List.getElem?_toArray, List.getElem?_cons_zero, List.getElem?_cons_succ] at x1 x3 y0 y1 y2
  have hm := HM3.out.below hb
  exact ⟨x1, x3, y0, y1, y2, hm.S, hm.R⟩)
 clear hA0
 refine TailRegion.wp_region_tail [17] (TA w.heap.size bS bR gS gR t) (by kernel_rfl) ?_
 have hAA : TA w.heap.size bS bR gS gR t W3.drew := HAB.out _ (Below.refl _ _).drew
 refine pu (i := 0) (v := .pointer (some ⟨w.heap.size, 1, none⟩)) rfl (fun _ => by go_simp) ?_
 simp only [Act.put, sa, sz, ss]
 refine ta (i := 1) (v := .map (some bS)) rfl (fun _ hW => by obtain ⟨q0, q1, q2, q3, q4, ⟨q5, q5'⟩, ⟨q6, q6'⟩⟩ := hW; go_simp) hAA ?_
 simp only [Act.put, sa, sz, ss]
 refine pu (i := 2) (v := .pointer (some ⟨w.heap.size + 1, 0, none⟩)) rfl (fun _ => by go_simp) ?_
 simp only [Act.put, sa, sz, ss]
 refine ta (i := 3) (v := .int .i64 t.s) rfl (fun _ hW => by obtain ⟨q0, q1, q2, q3, q4, ⟨q5, q5'⟩, ⟨q6, q6'⟩⟩ := hW; go_simp) hAA ?_
 simp only [Act.put, sa, sz, ss]
 refine TailRegion.wpAnyT_call (i := 4) (v := .int .i64 (toF gS t.s)) rfl (by kernel_rfl) (by kernel_rfl) (by kernel_rfl) (by kernel_rfl) (fun _ _ _ h => h) ⟨rfl, 66, #[.map (some bS), .int .i64 t.s], fun W hW => ⟨?_, ?_⟩⟩ hAA ?_
 ·go_simp
 ·obtain ⟨q0, q1, q2, q3, q4, ⟨q5, q5'⟩, ⟨q6, q6'⟩⟩ := hW; exact to_calls HW.out.1 q5'
 simp only [Act.put, sa, sz, ss]
 refine pu (i := 5) (v := .pointer (some ⟨w.heap.size, 3, none⟩)) rfl (fun _ => by go_simp) ?_
 simp only [Act.put, sa, sz, ss]
 refine ta (i := 6) (v := .map (some bR)) rfl (fun _ hW => by obtain ⟨q0, q1, q2, q3, q4, ⟨q5, q5'⟩, ⟨q6, q6'⟩⟩ := hW; go_simp) hAA ?_
 simp only [Act.put, sa, sz, ss]
 refine pu (i := 7) (v := .pointer (some ⟨w.heap.size + 1, 1, none⟩)) rfl (fun _ => by go_simp) ?_
 simp only [Act.put, sa, sz, ss]
 refine ta (i := 8) (v := .int .i64 t.b) rfl (fun _ hW => by obtain ⟨q0, q1, q2, q3, q4, ⟨q5, q5'⟩, ⟨q6, q6'⟩⟩ := hW; go_simp) hAA ?_
 simp only [Act.put, sa, sz, ss]
 refine TailRegion.wpAnyT_call (i := 9) (v := .int .i64 (toF gR t.b)) rfl (by kernel_rfl) (by kernel_rfl) (by kernel_rfl) (by kernel_rfl) (fun _ _ _ h => h) ⟨rfl, 66, #[.map (some bR), .int .i64 t.b], fun W hW => ⟨?_, ?_⟩⟩ hAA ?_
 ·go_simp
 ·obtain ⟨q0, q1, q2, q3, q4, ⟨q5, q5'⟩, ⟨q6, q6'⟩⟩ := hW; exact to_calls HW.out.2.1 q6'
 simp only [Act.put, sa, sz, ss]
 refine pu (i := 10) (v := .pointer (some ⟨w.heap.size, 3, none⟩)) rfl (fun _ => by go_simp) ?_
 simp only [Act.put, sa, sz, ss]
 refine ta (i := 11) (v := .map (some bR)) rfl (fun _ hW => by obtain ⟨q0, q1, q2, q3, q4, ⟨q5, q5'⟩, ⟨q6, q6'⟩⟩ := hW; go_simp) hAA ?_
 simp only [Act.put, sa, sz, ss]
 refine pu (i := 12) (v := .pointer (some ⟨w.heap.size + 1, 2, none⟩)) rfl (fun _ => by go_simp) ?_
 simp only [Act.put, sa, sz, ss]
 refine ta (i := 13) (v := .int .i64 t.c) rfl (fun _ hW => by obtain ⟨q0, q1, q2, q3, q4, ⟨q5, q5'⟩, ⟨q6, q6'⟩⟩ := hW; go_simp) hAA ?_
 simp only [Act.put, sa, sz, ss]
 refine TailRegion.wpAnyT_call (i := 14) (v := .int .i64 (toF gR t.c)) rfl (by kernel_rfl) (by kernel_rfl) (by kernel_rfl) (by kernel_rfl) (fun _ _ _ h => h) ⟨rfl, 66, #[.map (some bR), .int .i64 t.c], fun W hW => ⟨?_, ?_⟩⟩ hAA ?_
 ·go_simp
 ·obtain ⟨q0, q1, q2, q3, q4, ⟨q5, q5'⟩, ⟨q6, q6'⟩⟩ := hW; exact to_calls HW.out.2.2.1 q6'
 simp only [Act.put, sa, sz, ss]
 refine pu (i := 15) (v := .agg #[.int .i64 (toF gS t.s), .int .i64 (toF gR t.b), .int .i64 (toF gR t.c), .slice none 0 0]) rfl (fun _ => by go_simp) ?_
 simp only [Act.put, sa, sz, ss]
 refine TailRegion.wpAnyT_next (i := 16) rfl (by kernel_rfl) rfl ?_
 intro K7 hK7
 have HK7 := Lib.hid hK7
 clear hK7
 unfold Oper.wp
 go_simp
 obtain ⟨q, hq⟩ : ∃ q, W3.heap.size = q := ⟨_, rfl⟩
 have hq3 : q = w.heap.size + 3 := by rw [← hq]; exact HS3.out
 have hz := alloc_at W3 (.cells #[.int .i64 0, .int .i64 0, .int .i64 0, .slice none 0 0] 55)
 replace hz : (W3.alloc (.cells #[.int .i64 0, .int .i64 0, .int .i64 0, .slice none 0 0] 55)).drew.heap[W3.heap.size]? = _ := hz
 have hbz : Below W3.heap.size W3 (W3.alloc (.cells #[.int .i64 0, .int .i64 0, .int .i64 0, .slice none 0 0] 55)).drew := ((Below.refl _ _).alloc (Nat.le_refl _) _).drew
 obtain ⟨W4, hW4⟩ : ∃ W4, (W3.alloc (.cells #[.int .i64 0, .int .i64 0, .int .i64 0, .slice none 0 0] 55)).drew = W4 := ⟨_, rfl⟩
 rw [hW4] at hz hbz ⊢
 rw [hq] at hz ⊢
 refine HK7.out _ _ ⟨fun _ _ => HAB.out _ hbz, ?_⟩
 have HB4 := Lib.hid hbz
 have HQ := Lib.hid hq3
 clear HK7 K7 hq hq3 hW4 hbz hAA
 have c0 := Lib.cell_of_heap hz 0
 have c1 := Lib.cell_of_heap hz 1
 have c2 := Lib.cell_of_heap hz 2
 have c3' := Lib.cell_of_heap hz 3
 have f0 := Lib.frozen_of_heap hz 0
 have f1 := Lib.frozen_of_heap hz 1
 have f2 := Lib.frozen_of_heap hz 2
 have f3 := Lib.frozen_of_heap hz 3
 simp only [List.getElem?_toArray, List.getElem?_cons_zero, List.getElem?_cons_succ] at c0 c1 c2 c3'
 have HZ := Lib.hid hz
 clear hz
 refine TailRegion.wpAnyT_next (i := 17) rfl (by kernel_rfl) rfl ?_
 intro K7 hK7
 have HK7 := Lib.hid hK7
 clear hK7
 unfold Oper.wp
 go_simp
 obtain ⟨W5, hW5⟩ : ∃ W5, put4 W4 q (toF gS t.s) (toF gR t.b) (toF gR t.c) (.slice none 0 0) = W5 := ⟨_, rfl⟩
 have hW5' := hW5
 unfold put4 at hW5'
 rw [hW5']
 have hq5 : W5.heap[q]? = some (.cells #[.int .i64 (toF gS t.s), .int .i64 (toF gR t.b), .int .i64 (toF gR t.c), .slice none 0 0] 55 (0, 0)) := by rw [← hW5]; exact put4_heap HZ.out _ _ _ _
 have hg5 : W4.grownBy W5 (some q) := by rw [← hW5]; exact put4_grown W4 q _ _ _ _
 have hb5 : Below W3.heap.size W3 W5 := HB4.out.grown hg5 HB4.out.size (fun k hk => by cases hk; have := HQ.out; have := HS3.out; omega)
 have hs5 : q < W5.heap.size := (Array.getElem?_eq_some_iff.1 hq5).1
 refine HK7.out _ _ ⟨fun h => by simp at h, ?_⟩
 have HB5 := Lib.hid hb5
 have HQ5 := Lib.hid hq5
 clear HK7 K7 c0 c1 c2 c3' f0 f1 f2 f3 HZ HB4 hg5 hq5 hW5 hW5' hb5
 refine TailRegion.wpAnyT_done (by kernel_rfl) ?_ _
 have hb5 := HB5.out
 have x3 := Lib.cell_of_heap ((hb5.block _ (by have := HS3.out; omega)).trans HE1.out) 3
 simp only [List.getElem?_toArray, List.getElem?_cons_zero, List.getElem?_cons_succ] at x3
 clear hb5
 go_wp2_with fail
 clear x3
 go_loopw [27] (fun x wr => ∃ (i : Nat) (v : Value), i ≤ n ∧ x = .int .i64 ((i : Nat) : Int) ∧ wr.heap[q]? = some (.cells #[.int .i64 (toF gS t.s), .int .i64 (toF gR t.b), .int .i64 (toF gR t.c), v] 55 (0, 0)) ∧ wr.ownsRow (q + 1) 51 3 v i (flat ((t.ops.take i).map (renO (qbp gK gS gV gR)))) ∧ Below W3.heap.size W3 wr) (fun x _ => n - (intOf x).toNat)
 case atStart => exact ⟨0, _, Nat.zero_le _, rfl, HQ5.out, World.ownsRow_nil _ _ _ _, HB5.out⟩
 case round =>
  clear HQ5 HB5 hs5
  obtain ⟨i, v, hi, rfl, hq5, hown, hbe⟩ := hrel
  have HB5 := Lib.hid hbe
  have HQ5 := Lib.hid hq5
  have HOWN := Lib.hid hown
  clear hown hq5
  by_cases hlt : i < n
  ·have hltz : (i : Int) < (n : Int) := by omega
   obtain ⟨ad, rfl, hc⟩ := HR.out (by rw [HN.out]; omega)
   obtain ⟨o, ho⟩ : ∃ o, t.ops[i]? = some o := ⟨_, List.getElem?_eq_getElem (by rw [HN.out]; exact hlt)⟩
   obtain ⟨y0, y1, y2⟩ := hc i o ho
   replace y0 := cell_below hbe (cell_below HB3.out y0)
   replace y1 := cell_below hbe (cell_below HB3.out y1)
   replace y2 := cell_below hbe (cell_below HB3.out y2)
   have HO := Lib.hid ho
   have HWO := Lib.hid (HW.out.2.2.2 o (List.mem_of_getElem? ho))
   clear hc ho hbe
   go_upto_region 5 with fail
   clear y0 y1 y2
   have hA0 : ∀ W : World, Below (wr.heap.size + 1) (wr.alloc (.cells #[.bool o.w, .int .i64 o.k, .int .i64 o.v] 51)) W → TB w.heap.size q wr.heap.size bK bS bV bR gK gV sl o v W := fun W hb => by
    have hbO : Below wr.heap.size wr W := ((Below.refl _ _).alloc (Nat.le_refl _) _).trans (hb.mono (Nat.le_succ _))
    have hb3 : Below W3.heap.size W3 W := HB5.out.trans (hbO.mono HB5.out.size)
    have a0 := (hb3.block _ (by have := HS3.out; omega)).trans HE0.out
    have a1 := (hbO.block _ (Array.getElem?_eq_some_iff.1 HQ5.out).1).trans HQ5.out
    have a2 : W.heap[wr.heap.size]? = _ := (hb.block _ (Nat.lt_succ_self _)).trans (alloc_at wr (.cells #[.bool o.w, .int .i64 o.k, .int .i64 o.v] 51))
    have x0 := Lib.cell_of_heap a0 0
    have x1 := Lib.cell_of_heap a0 1
    have x2 := Lib.cell_of_heap a0 2
    have x3 := Lib.cell_of_heap a0 3
    have x4 := Lib.cell_of_heap a0 4
    have y3 := Lib.cell_of_heap a1 3
    have z0 := Lib.cell_of_heap a2 0
    have z1 := Lib.cell_of_heap a2 1
    have z2 := Lib.cell_of_heap a2 2
    simp only [List.getElem?_toArray, List.getElem?_cons_zero, List.getElem?_cons_succ] at x0 x1 x2 x3 x4 y3 z0 z1 z2
    have hm := HM3.out.below hb3
    exact ⟨x0, x1, x2, x3, x4, y3, z0, z1, z2, hm.K, hm.V⟩
   have HAB := Lib.hid hA0
   clear hA0
   refine TailRegion.wp_region_tail [17] (TB w.heap.size q wr.heap.size bK bS bV bR gK gV sl o v) (by kernel_rfl) ?_
   have hAA : TB w.heap.size q wr.heap.size bK bS bV bR gK gV sl o v (wr.alloc (.cells #[.bool o.w, .int .i64 o.k, .int .i64 o.v] 51)).drew := HAB.out _ (Below.refl _ _).drew
   refine pu (i := 0) (v := .pointer (some ⟨q, 3, none⟩)) rfl (fun _ => by go_simp) ?_
   simp only [Act.put, sa, sz, ss]
   refine ta (i := 1) (v := v) rfl (fun _ hW => by obtain ⟨q0, q1, q2, q3, q4, q5, q6, q7, q8, ⟨q9, q9'⟩, q10⟩ := hW; go_simp) hAA ?_
   simp only [Act.put, sa, sz, ss]
   refine pu (i := 2) (v := .pointer (some ⟨wr.heap.size, 0, none⟩)) rfl (fun _ => by go_simp) ?_
   simp only [Act.put, sa, sz, ss]
   refine ta (i := 3) (v := .bool o.w) rfl (fun _ hW => by obtain ⟨q0, q1, q2, q3, q4, q5, q6, q7, q8, ⟨q9, q9'⟩, q10⟩ := hW; go_simp) hAA ?_
   simp only [Act.put, sa, sz, ss]
   refine pu (i := 4) (v := .pointer (some ⟨w.heap.size, 0, none⟩)) rfl (fun _ => by go_simp) ?_
   simp only [Act.put, sa, sz, ss]
   refine ta (i := 5) (v := .map (some bK)) rfl (fun _ hW => by obtain ⟨q0, q1, q2, q3, q4, q5, q6, q7, q8, ⟨q9, q9'⟩, q10⟩ := hW; go_simp) hAA ?_
   simp only [Act.put, sa, sz, ss]
   refine pu (i := 6) (v := .pointer (some ⟨wr.heap.size, 1, none⟩)) rfl (fun _ => by go_simp) ?_
   simp only [Act.put, sa, sz, ss]
   refine ta (i := 7) (v := .int .i64 o.k) rfl (fun _ hW => by obtain ⟨q0, q1, q2, q3, q4, q5, q6, q7, q8, ⟨q9, q9'⟩, q10⟩ := hW; go_simp) hAA ?_
   simp only [Act.put, sa, sz, ss]
   refine TailRegion.wpAnyT_call (i := 8) (v := .int .i64 (toF gK o.k)) rfl (by kernel_rfl) (by kernel_rfl) (by kernel_rfl) (by kernel_rfl) (fun _ _ _ h => h) ⟨rfl, 66, #[.map (some bK), .int .i64 o.k], fun W hW => ⟨?_, ?_⟩⟩ hAA ?_
   ·go_simp
   ·obtain ⟨q0, q1, q2, q3, q4, q5, q6, q7, q8, ⟨q9, q9'⟩, q10⟩ := hW; exact to_calls HWO.out.1 q9'
   simp only [Act.put, sa, sz, ss]
   refine ta (i := 9) (v := .agg #[.map (some bK), .map (some bS), .map (some bV), .map (some bR), sl]) rfl (fun _ hW => by obtain ⟨q0, q1, q2, q3, q4, q5, q6, q7, q8, ⟨q9, q9'⟩, q10⟩ := hW; go_simp) hAA ?_
   simp only [Act.put, sa, sz, ss]
   refine pu (i := 10) (v := .pointer (some ⟨wr.heap.size, 2, none⟩)) rfl (fun _ => by go_simp) ?_
   simp only [Act.put, sa, sz, ss]
   refine ta (i := 11) (v := .int .i64 o.v) rfl (fun _ hW => by obtain ⟨q0, q1, q2, q3, q4, q5, q6, q7, q8, ⟨q9, q9'⟩, q10⟩ := hW; go_simp) hAA ?_
   simp only [Act.put, sa, sz, ss]
   refine TailRegion.wpAnyT_next (i := 12) rfl (by kernel_rfl) rfl ?_
   intro K7 hK7
   have HK7 := Lib.hid hK7
   clear hK7
   unfold Oper.wp
   go_simp
   go_at_call 67
   obtain ⟨sV, hV⟩ : ∃ s, IM Try.prog 3 (wr.alloc (.cells #[.bool o.w, .int .i64 o.k, .int .i64 o.v] 51)).drew bV (nI gV) s := by obtain ⟨_, _, _, _, _, _, _, _, _, _, h⟩ := hAA; exact h
   refine (value_calls HWO.out.2 hV).mono ?_
   rintro e w6 ⟨rfl, hb6⟩
   have hb6' : Below (wr.heap.size + 1) (wr.alloc (.cells #[.bool o.w, .int .i64 o.k, .int .i64 o.v] 51)) w6 := (Below.refl _ _).drew.trans (hb6.mono (by simp))
   refine HK7.out _ _ ⟨fun _ _ => HAB.out _ hb6', ?_⟩
   have hbw6 : Below wr.heap.size wr w6 := ((Below.refl _ _).alloc (Nat.le_refl _) _).trans (hb6'.mono (Nat.le_succ _))
   have HB6 := Lib.hid hbw6
   have HB6' := Lib.hid hb6'
   clear HK7 K7 hAA hV hb6 hb6' hbw6
   (try simp only [Act.put, sa, sz, ss])
   refine pu (i := 13) (v := .agg #[.bool o.w, .int .i64 (toF gK o.k), .int .i64 (valF gV o.v)]) rfl (fun _ => by go_simp) ?_
   simp only [Act.put, sa, sz, ss]
   refine TailRegion.wpAnyT_next (i := 14) rfl (by kernel_rfl) rfl ?_
   intro K7 hK7
   have HK7 := Lib.hid hK7
   clear hK7
   unfold Oper.wp
   go_simp
   obtain ⟨j0, hjj, hy0, hy1, hy2⟩ := info_parts opinfo
   have hown6 : w6.ownsRow (q + 1) 51 3 v i (flat ((t.ops.take i).map (renO (qbp gK gS gV gR)))) := HOWN.out.kept (row := none) (below_grown HB6.out) (by
    cases hu : v.ownBlock with
    | none => exact .inl rfl
    | some k => exact .inr (by simp))
   have hc6 := op_cells (w6.heap.size) w6 rfl o.w (toF gK o.k) (valF gV o.v)
   have hbs6 := HB6.out.size
   have hqs : q < wr.heap.size := (Array.getElem?_eq_some_iff.1 HQ5.out).1
   obtain ⟨v8, w8, hr8, hown8, hgr8, hnil8, hat8⟩ := run_append_own_at (P := Try.prog) (w6.alloc (.cells #[.bool o.w, .int .i64 (toF gK o.k), .int .i64 (valF gV o.v)] 51)) (q + 1) 53 53 51 j0 (.agg #[.bool false, .int .i64 0, .int .i64 0]) 3 24 Try.underlying53 hjj hy0 hy1 hy2 rfl (by decide) v i _ (hown6.alloc _) ⟨w6.heap.size, 0, none⟩ 1 1 [.bool o.w, .int .i64 (toF gK o.k), .int .i64 (valF gV o.v)] rfl hc6 (op_one _ _ _) (by unfold maxLen; omega) (by omega) (by simp; omega)
   obtain ⟨g8, cp8, rfl⟩ : ∃ g cp, v8 = .slice (some ⟨g, 0, none⟩) (i + 1) cp := by
    rcases hown8.2 with ⟨_, h0⟩ | ⟨g, cp, cur, e, _⟩
    ·omega
    ·exact ⟨g, cp, e⟩
   have hb7' : Below (wr.heap.size + 1) (wr.alloc (.cells #[.bool o.w, .int .i64 o.k, .int .i64 o.v] 51)) (w6.alloc (.cells #[.bool o.w, .int .i64 (toF gK o.k), .int .i64 (valF gV o.v)] 51)) := HB6'.out.alloc (by have := HB6'.out.size; simpa using this) _
   refine HK7.out _ _ ⟨fun _ _ => HAB.out _ hb7', ?_⟩
   have HTO := Lib.hid (show t.ops.take (i + 1) = t.ops.take i ++ [o] by rw [List.take_add_one, HO.out]; rfl)
   have hvq : v.ownBlock ≠ some q := fun e => by have := (HOWN.out.lt q e).1; omega
   have hq7 : (w6.alloc (.cells #[.bool o.w, .int .i64 (toF gK o.k), .int .i64 (valF gV o.v)] 51)).heap[q]? = _ := (((HB6.out.alloc hbs6 _).block q hqs).trans HQ5.out)
   have hq8 := (hgr8.block q (by simp; omega) (fun e => hvq e.symm)).trans hq7
   have hb8 : Below W3.heap.size W3 w8 := (HB5.out.trans ((HB6.out.alloc hbs6 _).mono HB5.out.size)).grown hgr8 (by have := HB5.out.size; simp; omega) (fun k hk => by have := (HOWN.out.lt k hk).1; have := HQ.out; have := HS3.out; omega)
   have HR8 := Lib.hid hr8
   have HG8 := Lib.hid hgr8
   have HVQ := Lib.hid hvq
   have HOWN8 := Lib.hid hown8
   have HQ8 := Lib.hid hq8
   have HB8 := Lib.hid hb8
   have HQS8 := Lib.hid (show q < w8.heap.size from (Array.getElem?_eq_some_iff.1 hq8).1)
   clear HK7 K7 hown6 hc6 hr8 hown8 hgr8 hnil8 hat8 hb7' hjj hy0 hy1 hy2 hq7 hq8 hb8 hvq HQ5 HB6 HB6' HAB
   (try simp only [Act.put, sa, sz, ss])
   refine TailRegion.wpAnyT_next (i := 15) rfl (by kernel_rfl) rfl ?_
   intro K7 hK7
   have HK7 := Lib.hid hK7
   clear hK7
   refine TailRegion.wp_append_run _ _ _ rfl _ _ rfl rfl _ rfl HR8.out ?_
   refine HK7.out _ _ ⟨fun _ h => h.grown HG8.out (fun e => ?_) (fun e => HVQ.out e.symm) (fun e => ?_) (fun e => ?_) (fun e => ?_), ?_⟩
   ·have := (HOWN.out.lt _ e.symm).1; have := HQ.out; omega
   ·have := (HOWN.out.lt _ e.symm).2; omega
   ·have := (HOWN.out.lt _ e.symm).1
    obtain ⟨_, hk⟩ := HM.out.K
    have := hk.lt
    have := HQ.out
    omega
   ·have := (HOWN.out.lt _ e.symm).1
    obtain ⟨_, hk⟩ := HM.out.V
    have := hk.lt
    have := HQ.out
    omega
   clear HK7 K7
   simp only [Act.put, sa, sz, ss]
   refine pu (i := 16) (v := .pointer (some ⟨q, 3, none⟩)) rfl (fun _ => by go_simp) ?_
   simp only [Act.put, sa, sz, ss]
   have c3' := Lib.cell_of_heap HQ8.out 3
   have f3 := Lib.frozen_of_heap HQ8.out 3
   simp only [List.getElem?_toArray, List.getElem?_cons_zero, List.getElem?_cons_succ] at c3'
   refine TailRegion.wpAnyT_next (i := 17) rfl (by kernel_rfl) rfl ?_
   intro K7 hK7
   have HK7 := Lib.hid hK7
   clear hK7
   unfold Oper.wp
   go_simp
   refine HK7.out _ _ ⟨fun h => by simp at h, ?_⟩
   clear HK7 K7 c3' f3
   (try simp only [Act.put, sa, sz, ss])
   refine TailRegion.wpAnyT_done (by kernel_rfl) ?_ _
   have hq9 := qay _ q 3 _ _ _ (.slice (some ⟨g8, 0, none⟩) (i + 1) cp8) HQ8.out
   simp only [sa, sz, ss] at hq9
   have hg9 := qas w8 q 3 (.slice (some ⟨g8, 0, none⟩) (i + 1) cp8)
   have hv8 : (Value.slice (some ⟨g8, 0, none⟩) (i + 1) cp8).ownBlock ≠ some q := fun e => by have := (HOWN8.out.lt q e).1; omega
   have HQ9 := Lib.hid hq9
   have HOWN9 := Lib.hid (HOWN8.out.kept hg9 (.inr hv8))
   have HB9 := Lib.hid (HB8.out.grown hg9 HB8.out.size (fun k hk => by cases hk; have := HQ.out; have := HS3.out; omega))
   clear hq9 hg9 hv8
   go_wp2_with fail
   go_roundw
   case rel =>
    refine ⟨i + 1, _, by omega, by go_num, HQ9.out, ?_, HB9.out⟩
    rw [HTO.out, List.map_append, List.map_cons, List.map_nil, flat_snoc]
    exact HOWN9.out
   case measure => (simp [intOf]; try omega)
  ·have hin : i = n := by omega
   subst hin
   rw [List.take_of_length_le (by rw [HN.out]; exact Nat.le_refl _)] at HOWN
   obtain ⟨g, cp, rfl⟩ : ∃ g cp, v = .slice (some ⟨g, 0, none⟩) i cp := by
    rcases HOWN.out.2 with ⟨_, h0⟩ | ⟨g, cp, cur, e, _⟩
    ·omega
    ·exact ⟨g, cp, e⟩
   have hqx := HQ5.out
   have c0 := Lib.cell_of_heap hqx 0
   have c1 := Lib.cell_of_heap hqx 1
   have c2 := Lib.cell_of_heap hqx 2
   have c3' := Lib.cell_of_heap hqx 3
   have r0 := (hbe.block _ (by have := HS3.out; omega)).trans HE2.out
   have d0 := Lib.cell_of_heap r0 0
   have d1 := Lib.cell_of_heap r0 1
   have d2 := Lib.cell_of_heap r0 2
   have d3 := Lib.cell_of_heap r0 3
   have f0 := Lib.frozen_of_heap r0 0
   have f1 := Lib.frozen_of_heap r0 1
   have f2 := Lib.frozen_of_heap r0 2
   have f3 := Lib.frozen_of_heap r0 3
   simp only [List.getElem?_toArray, List.getElem?_cons_zero, List.getElem?_cons_succ] at c0 c1 c2 c3' d0 d1 d2 d3
   have HR0 := Lib.hid r0
   clear hqx r0 hbe
   go_wp2_with fail
   obtain ⟨o1, o2, o3⟩ := OW.of_owns HOWN.out
   have hg := put4_grown wr (w.heap.size + 1 + 1) (toF gS t.s) (toF gR t.b) (toF gR t.c) (.slice (some ⟨g, 0, none⟩) i cp)
   refine bodyPost_ret (results_cell_row rfl _ _ (w.heap.size + 1 + 1) 55 _ (0, 0) _ rfl (put4_heap HR0.out _ _ _ _) Try.underlying55 rfl (by kernel_rfl)) rfl ?_
   refine ⟨⟨g, cp, rfl, o1.move (hg.block g o1.lt (by intro e; injection e; have := HQ.out; omega)), o3, by have := HQ.out; omega⟩, ?_⟩
   exact (HB3.out.trans (HB5.out.mono HB3.out.size)).grown hg (HB3.out.trans (HB5.out.mono HB3.out.size)).size (fun k hk => by cases hk; omega)
end Go.Proofs.Ytngkneknopenmaa.Hist
end
section
namespace Go.Proofs.Ytngkneknopenmaa.Hist
set_option linter.unusedSimpArgs false
open Go.TailRegion (pu ta sa sz ss)
open Go Go.RowKit Go.Proofs.Ytngkneknopenmaa.Row3 Go.Proofs.Ytngkneknopenmaa.IntMap
def put5 (w : World) (q : Nat) (x0 x1 x2 x3 x4 : Value) : World := ((((w.setCell ⟨q, 0, none⟩ x0).setCell ⟨q, 1, none⟩ x1).setCell ⟨q, 2, none⟩ x2).setCell ⟨q, 3, none⟩ x3).setCell ⟨q, 4, none⟩ x4
theorem put5_heap {w : World} {q : Nat} {y0 y1 y2 y3 y4 : Value} (h : w.heap[q]? = some (.cells #[y0, y1, y2, y3, y4] 36 (0, 0))) (x0 x1 x2 x3 x4 : Value) : (put5 w q x0 x1 x2 x3 x4).heap[q]? = some (.cells #[x0, x1, x2, x3, x4] 36 (0, 0)) := by
 have h1 := qay w q 0 _ _ _ x0 h
 have h2 := qay _ q 1 _ _ _ x1 h1
 have h3 := qay _ q 2 _ _ _ x2 h2
 have h4 := qay _ q 3 _ _ _ x3 h3
 have h5 := qay _ q 4 _ _ _ x4 h4
 unfold put5
 simpa using h5
theorem put5_grown (w : World) (q : Nat) (x0 x1 x2 x3 x4 : Value) : w.grownBy (put5 w q x0 x1 x2 x3 x4) (some q) :=
 World.grownBy.trans (World.grownBy.trans (World.grownBy.trans (World.grownBy.trans (qas _ _ _ _) (qas _ _ _ _)) (qas _ _ _ _)) (qas _ _ _ _)) (qas _ _ _ _)
def TM (p : Nat) (v0 v1 v2 v3 v4 : Value) (W : World) : Prop :=
 W.cell? ⟨p, 0, none⟩ = some v0 ∧ W.cell? ⟨p, 1, none⟩ = some v1 ∧ W.cell? ⟨p, 2, none⟩ = some v2 ∧ W.cell? ⟨p, 3, none⟩ = some v3 ∧ W.cell? ⟨p, 4, none⟩ = some v4
set_option maxHeartbeats 8000000 in
set_option maxRecDepth 100000 in
theorem Map_calls {A0 A1 A2 A3 A4 : Option Addr} {c0 c1 c2 c3 m c4 : Nat} {l0 l1 l2 l3 : List (Int × Int)} {w : World} (h0 : l0.length ≤ 1000) (h1 : l1.length ≤ 1000) (h2 : l2.length ≤ 1000) (h3 : l3.length ≤ 1000)
  (w0 : ∀ p ∈ l0, Wf p.1 ∧ Wf p.2) (w1 : ∀ p ∈ l1, Wf p.1 ∧ Wf p.2) (w2 : ∀ p ∈ l2, Wf p.1 ∧ Wf p.2) (w3 : ∀ p ∈ l3, Wf p.1 ∧ Wf p.2) (r0 : RdP w A0 l0) (r1 : RdP w A1 l1) (r2 : RdP w A2 l2) (r3 : RdP w A3 l3) :
  Calls Try.prog 20 #[.agg #[.slice A0 l0.length c0, .slice A1 l1.length c1, .slice A2 l2.length c2, .slice A3 l3.length c3, .slice A4 m c4]] w fun e w' =>
   (∃ bK bS bV bR gK gS gV gR, e = .returned (.agg #[.map (some bK), .map (some bS), .map (some bV), .map (some bR), .slice A4 m c4]) ∧ Maps4 w' bK bS bV bR gK gS gV gR) ∧ Below w.heap.size w w' := by
 have HR0 := Lib.hid r0
 have HR1 := Lib.hid r1
 have HR2 := Lib.hid r2
 have HR3 := Lib.hid r3
 have HW0 := Lib.hid w0
 have HW1 := Lib.hid w1
 have HW2 := Lib.hid w2
 have HW3 := Lib.hid w3
 clear r0 r1 r2 r3 w0 w1 w2 w3
 go_enter Try.func20, Try.ntmps20
 go_upto_region 1 with fail
 obtain ⟨W0, hW0⟩ : ∃ W0, (w.alloc (.cells #[.slice A0 l0.length c0, .slice A1 l1.length c1, .slice A2 l2.length c2, .slice A3 l3.length c3, .slice A4 m c4] 31)).alloc (.cells #[.map none, .map none, .map none, .map none, .slice none 0 0] 36) = W0 := ⟨_, rfl⟩
 have e0 : W0.heap[w.heap.size]? = some (.cells #[.slice A0 l0.length c0, .slice A1 l1.length c1, .slice A2 l2.length c2, .slice A3 l3.length c3, .slice A4 m c4] 31 (0, 0)) := by rw [← hW0]; exact (heap_alloc_old _ _ (by simp)).trans (alloc_at w _)
 have e1 : W0.heap[w.heap.size + 1]? = some (.cells #[.map none, .map none, .map none, .map none, .slice none 0 0] 36 (0, 0)) := by rw [← hW0]; exact heap_alloc2_new w _ _
 have hb0 : Below w.heap.size w W0 := by rw [← hW0]; exact ((Below.refl _ _).alloc (Nat.le_refl _) _).alloc (by simp) _
 have hs0 : W0.heap.size = w.heap.size + 2 := by rw [← hW0]; simp
 rw [hW0]
 have HE0 := Lib.hid e0
 have HE1 := Lib.hid e1
 have HS0 := Lib.hid hs0
 have HBB0 := Lib.hid hb0.drew
 have HBX0 := Lib.hid ((Below.refl W0.heap.size W0).drew)
 have HAB := Lib.hid (show ∀ W : World, Below W0.heap.size W0 W → TM w.heap.size (.slice A0 l0.length c0) (.slice A1 l1.length c1) (.slice A2 l2.length c2) (.slice A3 l3.length c3) (.slice A4 m c4) W from fun W hb => by
  have a0 := (hb.block _ (by have := HS0.out; omega)).trans HE0.out
  have x0 := Lib.cell_of_heap a0 0
  have x1 := Lib.cell_of_heap a0 1
  have x2 := Lib.cell_of_heap a0 2
  have x3 := Lib.cell_of_heap a0 3
  have x4 := Lib.cell_of_heap a0 4
  simp only [List.getElem?_toArray, List.getElem?_cons_zero, List.getElem?_cons_succ] at x0 x1 x2 x3 x4
  exact ⟨x0, x1, x2, x3, x4⟩)
 clear e0 e1 hb0 hs0 hW0
 refine TailRegion.wp_region_tail [15] (TM w.heap.size (.slice A0 l0.length c0) (.slice A1 l1.length c1) (.slice A2 l2.length c2) (.slice A3 l3.length c3) (.slice A4 m c4)) (by kernel_rfl) ?_
 have hAA : TM w.heap.size (.slice A0 l0.length c0) (.slice A1 l1.length c1) (.slice A2 l2.length c2) (.slice A3 l3.length c3) (.slice A4 m c4) W0.drew := HAB.out _ (Below.refl _ _).drew
 refine pu (i := 0) (v := .pointer (some ⟨w.heap.size, 0, none⟩)) rfl (fun _ => by go_simp) ?_
 simp only [Act.put, sa, sz, ss]
 refine ta (i := 1) (v := .slice A0 l0.length c0) rfl (fun _ hW => by obtain ⟨q0, q1, q2, q3, q4⟩ := hW; go_simp) hAA ?_
 simp only [Act.put, sa, sz, ss]
 refine pu (i := 3) (v := .pointer (some ⟨w.heap.size, 1, none⟩)) rfl (fun _ => by go_simp) ?_
 simp only [Act.put, sa, sz, ss]
 refine ta (i := 4) (v := .slice A1 l1.length c1) rfl (fun _ hW => by obtain ⟨q0, q1, q2, q3, q4⟩ := hW; go_simp) hAA ?_
 simp only [Act.put, sa, sz, ss]
 refine pu (i := 6) (v := .pointer (some ⟨w.heap.size, 2, none⟩)) rfl (fun _ => by go_simp) ?_
 simp only [Act.put, sa, sz, ss]
 refine ta (i := 7) (v := .slice A2 l2.length c2) rfl (fun _ hW => by obtain ⟨q0, q1, q2, q3, q4⟩ := hW; go_simp) hAA ?_
 simp only [Act.put, sa, sz, ss]
 refine pu (i := 9) (v := .pointer (some ⟨w.heap.size, 3, none⟩)) rfl (fun _ => by go_simp) ?_
 simp only [Act.put, sa, sz, ss]
 refine ta (i := 10) (v := .slice A3 l3.length c3) rfl (fun _ hW => by obtain ⟨q0, q1, q2, q3, q4⟩ := hW; go_simp) hAA ?_
 simp only [Act.put, sa, sz, ss]
 refine pu (i := 12) (v := .pointer (some ⟨w.heap.size, 4, none⟩)) rfl (fun _ => by go_simp) ?_
 simp only [Act.put, sa, sz, ss]
 refine ta (i := 13) (v := (.slice A4 m c4)) rfl (fun _ hW => by obtain ⟨q0, q1, q2, q3, q4⟩ := hW; go_simp) hAA ?_
 simp only [Act.put, sa, sz, ss]
 clear hAA
 refine TailRegion.wpAnyT_next (i := 2) rfl (by kernel_rfl) rfl ?_
 intro K7 hK7
 have HK7 := Lib.hid hK7
 clear hK7
 (try simp only [List.getElem_toArray, List.getElem_cons_succ, List.getElem_cons_zero])
 unfold Oper.wp
 go_simp
 go_at_call 50
 refine (ofp_calls A0 c0 l0 (by omega) HW0.out _ (HR0.out.below HBB0.out)).mono ?_
 rintro e w1 ⟨b0, s0, g0, rfl, him0, hs0, hg0, hlo0, hb1⟩
 have HBB1 := Lib.hid (HBB0.out.trans (hb1.mono HBB0.out.size))
 have HBS1 := Lib.hid hb1
 refine HK7.out _ _ ⟨fun _ _ => HAB.out _ (HBX0.out.trans (hb1.mono HBX0.out.size)), ?_⟩
 have HBX1 := Lib.hid (HBX0.out.trans (hb1.mono HBX0.out.size))
 have HI0 := Lib.hid him0
 have HG0 := Lib.hid hg0
 clear HK7 K7 him0 hs0 hg0 hb1 hlo0
 (try simp only [Act.put, sa, sz, ss])
 refine TailRegion.wpAnyT_next (i := 5) rfl (by kernel_rfl) rfl ?_
 intro K7 hK7
 have HK7 := Lib.hid hK7
 clear hK7
 (try simp only [List.getElem_toArray, List.getElem_cons_succ, List.getElem_cons_zero])
 unfold Oper.wp
 go_simp
 go_at_call 50
 refine (ofp_calls A1 c1 l1 (by omega) HW1.out _ (HR1.out.below HBB1.out)).mono ?_
 rintro e w2 ⟨b1, s1, g1, rfl, him1, hs1, hg1, hlo1, hb2⟩
 have HBB2 := Lib.hid (HBB1.out.trans (hb2.mono HBB1.out.size))
 have HBS2 := Lib.hid hb2
 refine HK7.out _ _ ⟨fun _ _ => HAB.out _ (HBX1.out.trans (hb2.mono HBX1.out.size)), ?_⟩
 have HBX2 := Lib.hid (HBX1.out.trans (hb2.mono HBX1.out.size))
 have HI1 := Lib.hid him1
 have HG1 := Lib.hid hg1
 clear HK7 K7 him1 hs1 hg1 hb2 hlo1
 (try simp only [Act.put, sa, sz, ss])
 refine TailRegion.wpAnyT_next (i := 8) rfl (by kernel_rfl) rfl ?_
 intro K7 hK7
 have HK7 := Lib.hid hK7
 clear hK7
 (try simp only [List.getElem_toArray, List.getElem_cons_succ, List.getElem_cons_zero])
 unfold Oper.wp
 go_simp
 go_at_call 50
 refine (ofp_calls A2 c2 l2 (by omega) HW2.out _ (HR2.out.below HBB2.out)).mono ?_
 rintro e w3 ⟨b2, s2, g2, rfl, him2, hs2, hg2, hlo2, hb3⟩
 have HBB3 := Lib.hid (HBB2.out.trans (hb3.mono HBB2.out.size))
 have HBS3 := Lib.hid hb3
 refine HK7.out _ _ ⟨fun _ _ => HAB.out _ (HBX2.out.trans (hb3.mono HBX2.out.size)), ?_⟩
 have HBX3 := Lib.hid (HBX2.out.trans (hb3.mono HBX2.out.size))
 have HI2 := Lib.hid him2
 have HG2 := Lib.hid hg2
 clear HK7 K7 him2 hs2 hg2 hb3 hlo2
 (try simp only [Act.put, sa, sz, ss])
 refine TailRegion.wpAnyT_next (i := 11) rfl (by kernel_rfl) rfl ?_
 intro K7 hK7
 have HK7 := Lib.hid hK7
 clear hK7
 (try simp only [List.getElem_toArray, List.getElem_cons_succ, List.getElem_cons_zero])
 unfold Oper.wp
 go_simp
 go_at_call 50
 refine (ofp_calls A3 c3 l3 (by omega) HW3.out _ (HR3.out.below HBB3.out)).mono ?_
 rintro e w4 ⟨b3, s3, g3, rfl, him3, hs3, hg3, hlo3, hb4⟩
 have HBB4 := Lib.hid (HBB3.out.trans (hb4.mono HBB3.out.size))
 have HBS4 := Lib.hid hb4
 refine HK7.out _ _ ⟨fun _ _ => HAB.out _ (HBX3.out.trans (hb4.mono HBX3.out.size)), ?_⟩
 have HBX4 := Lib.hid (HBX3.out.trans (hb4.mono HBX3.out.size))
 have HI3 := Lib.hid him3
 have HG3 := Lib.hid hg3
 clear HK7 K7 him3 hs3 hg3 hb4 hlo3
 (try simp only [Act.put, sa, sz, ss])
 refine pu (i := 14) (v := .agg #[.map (some b0), .map (some b1), .map (some b2), .map (some b3), (.slice A4 m c4)]) rfl (fun _ => by go_simp) ?_
 simp only [Act.put, sa, sz, ss]
 have r0 := (HBX4.out.block _ (by have := HS0.out; omega)).trans HE1.out
 have d0 := Lib.cell_of_heap r0 0
 have d1 := Lib.cell_of_heap r0 1
 have d2 := Lib.cell_of_heap r0 2
 have d3 := Lib.cell_of_heap r0 3
 have d4 := Lib.cell_of_heap r0 4
 have f0 := Lib.frozen_of_heap r0 0
 have f1 := Lib.frozen_of_heap r0 1
 have f2 := Lib.frozen_of_heap r0 2
 have f3 := Lib.frozen_of_heap r0 3
 have f4 := Lib.frozen_of_heap r0 4
 simp only [List.getElem?_toArray, List.getElem?_cons_zero, List.getElem?_cons_succ] at d0 d1 d2 d3 d4
 have HR := Lib.hid r0
 clear r0
 refine TailRegion.wpAnyT_next (i := 15) rfl (by kernel_rfl) rfl ?_
 intro K7 hK7
 have HK7 := Lib.hid hK7
 clear hK7
 unfold Oper.wp
 go_simp
 refine HK7.out _ _ ⟨fun h => by simp at h, ?_⟩
 clear HK7 K7 d0 d1 d2 d3 d4 f0 f1 f2 f3 f4
 (try simp only [Act.put, sa, sz, ss])
 refine TailRegion.wpAnyT_done (by kernel_rfl) ?_ _
 go_wp2_with fail
 have hg := put5_grown w4 (w.heap.size + 1) (.map (some b0)) (.map (some b1)) (.map (some b2)) (.map (some b3)) (.slice A4 m c4)
 refine bodyPost_ret (results_cell_row rfl _ _ (w.heap.size + 1) 36 _ (0, 0) _ rfl (put5_heap HR.out _ _ _ _ _) Try.underlying36 rfl (by kernel_rfl)) rfl ?_
 have hk : ∀ (b s : Nat) (f : Int → Option Value), IM Try.prog 3 w4 b f s → IM Try.prog 3 (put5 w4 (w.heap.size + 1) (.map (some b0)) (.map (some b1)) (.map (some b2)) (.map (some b3)) (.slice A4 m c4)) b f s := fun b s f hi => by
  refine hi.kept hg (fun e => ?_)
  injection e with e
  subst e
  obtain ⟨es, cl, h⟩ := im_map hi
  rw [HR.out] at h
  cases h
 refine ⟨⟨b0, b1, b2, b3, g0, g1, g2, g3, rfl, ⟨s0, hk _ _ _ (((HI0.out.below HBS2.out).below HBS3.out).below HBS4.out)⟩, ⟨s1, hk _ _ _ ((HI1.out.below HBS3.out).below HBS4.out)⟩, ⟨s2, hk _ _ _ (HI2.out.below HBS4.out)⟩, ⟨s3, hk _ _ _ HI3.out⟩, HG0.out, HG1.out, HG2.out, HG3.out⟩, ?_⟩
 exact HBB4.out.grown hg HBB4.out.size (fun k hk => by cases hk; omega)
end Go.Proofs.Ytngkneknopenmaa.Hist
end
section
namespace Go.Proofs.Ytngkneknopenmaa.Hist
open Go Go.RowKit Go.Proofs.Ytngkneknopenmaa.Row3
theorem cast_nodup {l : List Nat} (h : l.Nodup) : (l.map fun i : Nat => (i : Int)).Nodup := by
 unfold List.Nodup at h ⊢
 rw [List.pairwise_map]
 exact h.imp fun {a b} hab e => hab (by omega)
theorem perm_range {ix : List Nat} {n : Nat} (hn : ix.Nodup) (hb : ∀ i ∈ ix, i < n) (hl : ix.length = n) : ix.Perm (List.range n) := by
 rw [List.perm_iff_count]
 intro a
 by_cases ha : a < n
 ·have hm : a ∈ ix := by
   by_cases hm : a ∈ ix
   ·exact hm
   ·have h1 : (a :: ix).Nodup := List.nodup_cons.2 ⟨hm, hn⟩
    have h2 := below_length (n := n) (cast_nodup h1) (fun x hx => by
     obtain ⟨i, hi, rfl⟩ := List.mem_map.1 hx
     rcases List.mem_cons.1 hi with rfl | hi
     ·exact ⟨Int.natCast_nonneg _, by omega⟩
     ·exact ⟨Int.natCast_nonneg _, by have := hb i hi; omega⟩)
    simp only [List.length_map, List.length_cons] at h2
    omega
  rw [hn.count, List.nodup_range.count, if_pos hm, if_pos (List.mem_range.2 ha)]
 ·rw [List.count_eq_zero_of_not_mem (fun h => ha (hb a h)), List.count_eq_zero_of_not_mem (fun h => ha (List.mem_range.1 h))]
def pick (h : List T4) (ix : List Nat) : List T4 := ix.map fun i => h.getD i default
theorem pick_range (h : List T4) : pick h (List.range h.length) = h := by
 unfold pick
 apply List.ext_getElem?
 intro i
 rw [List.getElem?_map]
 by_cases hi : i < h.length
 ·rw [List.getElem?_range hi]; simp [hi]
 ·rw [List.getElem?_eq_none (by simpa using hi), List.getElem?_eq_none (by simpa using hi)]; rfl
theorem pick_perm {h : List T4} {ix : List Nat} (hp : ix.Perm (List.range h.length)) : (pick h ix).Perm h := by
 have := hp.map fun i => h.getD i default
 rw [show (List.range h.length).map (fun i => h.getD i default) = h from pick_range h] at this
 exact this
theorem pick_snoc (h : List T4) (ix : List Nat) (i : Nat) : pick h (ix ++ [i]) = pick h ix ++ [h.getD i default] := by simp [pick]
def valR (ρ : Ren) (v : Int) : Int := if v = 0 then 0 else ρ.V v
theorem renO_v (ρ : Ren) (o : O3) : (renO ρ o).v = valR ρ o.v := rfl
def allV (h : List T4) : List Int := h.flatMap fun t => t.ops.map (·.v)
theorem mem_allV {h : List T4} {x : Int} : x ∈ allV h ↔ ∃ t ∈ h, ∃ o ∈ t.ops, o.v = x := by
 unfold allV
 rw [List.mem_flatMap]
 constructor
 ·rintro ⟨t, ht, hx⟩; obtain ⟨o, ho, e⟩ := List.mem_map.1 hx; exact ⟨t, ht, o, ho, e⟩
 ·rintro ⟨t, ht, o, ho, e⟩; exact ⟨t, ht, List.mem_map.2 ⟨o, ho, e⟩⟩
theorem applied {h d : List T4} {ρ : Ren} (hm : MayP h) (hp : d.Perm h) (hs : InjL ρ.S (qbk d)) (hk : InjL ρ.K (qa4 d)) (hv : InjL (valR ρ) (allV d))
  (hr : ∀ x ∈ qap d, ∀ y ∈ qap d, (x < y ↔ ρ.R x < ρ.R y)) (hc : qa3 (d.map (renT ρ)) = 0) : qbg (d.map (renT ρ)) = qbg h := by
 have hm2 := (check_zero' hc).2.2
 have hw : ∀ t ∈ d, ∀ o ∈ t.ops, o.w = true → valR ρ o.v ≠ 0 := by
  intro t ht o ho hw
  have h1 := (rightT_iff _).1 (hm2.1 (renT ρ t) (List.mem_map.2 ⟨t, ht, rfl⟩))
  have h2 := (rightO_iff _).1 (h1.2.2.2.2.2.2.2 (renO ρ o) (List.mem_map.2 ⟨o, ho, rfl⟩))
  have := h2.2.2.2.2 hw
  rw [renO_v] at this
  omega
 have hz : ∀ x ∈ qa6 d, ρ.V x ≠ 0 := by
  intro x hx
  obtain ⟨t, ht, o, ho, hn, rfl⟩ := mem_valsL.1 hx
  have key : ∃ t ∈ d, ∃ p ∈ t.ops, p.w = true ∧ p.v = o.v := by
   cases hww : o.w with
   | true => exact ⟨t, ht, o, ho, hww, rfl⟩
   | false =>
    obtain ⟨u, hu, p, hpo, h1, _, h2⟩ := hm.2.2.2 t (hp.mem_iff.1 ht) o ho hww hn
    exact ⟨u, hp.mem_iff.2 hu, p, hpo, h1, h2⟩
  obtain ⟨u, hu, p, hpo, h1, h2⟩ := key
  have := hw u hu p hpo h1
  rw [h2] at this
  unfold valR at this
  rwa [if_neg hn] at this
 have hv2 : InjL ρ.V (qa6 d) := by
  intro x hx y hy e
  obtain ⟨t, ht, o, ho, hn, rfl⟩ := mem_valsL.1 hx
  obtain ⟨u, hu, p, hpo, hn2, rfl⟩ := mem_valsL.1 hy
  refine hv _ (mem_allV.2 ⟨t, ht, o, ho, rfl⟩) _ (mem_allV.2 ⟨u, hu, p, hpo, rfl⟩) ?_
  unfold valR
  rw [if_neg hn, if_neg hn2, e]
 rw [canon_ren (h := d) ⟨hs, hk, hv2, hz, fun x hx y hy hxy => (hr x hx y hy).1 hxy⟩]
 exact canon_perm hm hp
end Go.Proofs.Ytngkneknopenmaa.Hist
end
section
namespace Go.Proofs.Ytngkneknopenmaa.Hist
open Go Go.RowKit Go.Proofs.Ytngkneknopenmaa Go.Proofs.Ytngkneknopenmaa.Row3 Go.Proofs.Ytngkneknopenmaa.K Go.Proofs.YtngkneknopenmaaW.PrintWords
theorem H2.isS {w : World} {base : Nat} {v : Value} {rows : List TR} {h : List T4} (hh : H2 w base v rows h) : Kd.S k55 55 w base (fun k => base ≤ k) v (h.map ofT) := by
 obtain ⟨ho, hl, hsay, hnd⟩ := hh
 refine ⟨fun g => (rows.map (·.g)).findIdx (· == g), fun k hk => (ho.lt k hk).1, qby rows, ?_, ?_, ?_⟩
 ·rw [List.length_zipIdx, List.length_map, ← hl]
  exact ho
 ·rw [List.length_zipIdx, List.length_map, ← hl, flatT_length]
  rfl
 ·intro j p hp
  rw [List.getElem?_zipIdx, Nat.zero_add] at hp
  obtain ⟨x, hx, rfl⟩ := Option.map_eq_some_iff.1 hp
  rw [List.getElem?_map] at hx
  obtain ⟨t, ht, rfl⟩ := Option.map_eq_some_iff.1 hx
  have hj : j < rows.length := by rw [hl]; exact (List.getElem?_eq_some_iff.1 ht).1
  obtain ⟨e0, e1, e2, e3, e4, e5, e6⟩ := hsay j rows[j] t (List.getElem?_eq_getElem hj) ht
  have hne := SaysAll.row_ne ⟨hl, hsay, hnd⟩ ho rows[j] (List.getElem_mem hj)
  have hcut : ((qby rows).drop (j * 4)).take 4 = rows[j].cells := by
   obtain ⟨a, b, c, d⟩ := flatT_get rows [] j rows[j] (List.getElem?_eq_getElem hj)
   rw [List.append_nil] at a b c d
   apply List.ext_getElem?
   intro m
   rw [List.getElem?_take, List.getElem?_drop]
   match m with
   | 0 => simpa [TR.cells] using a
   | 1 => simpa [TR.cells] using b
   | 2 => simpa [TR.cells] using c
   | 3 => simpa [TR.cells] using d
   | m + 4 => simp only [TR.cells]; rw [if_neg (by omega)]; simp
  have hidx : (rows.map (·.g)).findIdx (· == rows[j].g) = j := by
   have hjl : j < (rows.map (·.g)).length := by simpa using hj
   rw [List.findIdx_eq hjl]
   refine ⟨by simp, fun i hi => ?_⟩
   have := List.pairwise_iff_getElem.1 hnd i j (by omega) hjl hi
   simpa using this
  show (Kd.tag _ k55).M w base _ (ofT t, j) (((qby rows).drop (j * 4)).take 4)
  rw [hcut]
  have hc : rows[j].cells = [.int .i64 (ofT t).f0, .int .i64 (ofT t).f1, .int .i64 (ofT t).f2, .slice (some ⟨rows[j].g, 0, none⟩) t.ops.length rows[j].cp] := by
   unfold TR.cells
   rw [e0, e1, e2, e3]
   rfl
  rw [hc]
  refine k55_mkM w base _ (ofT t) ⟨fun k hk => ?_, flat t.ops, ?_, ?_, ?_⟩
  ·simp [Value.ownBlock] at hk
   subst hk
   exact ⟨⟨e5, hne⟩, hidx⟩
  ·rw [show (ofT t).f3.length = t.ops.length by simp [ofT]]
   exact e6.owns e5 (by omega)
  ·rw [flat_length]
   simp [ofT]
   rfl
  ·intro m q hq
   unfold ofT at hq
   rw [List.getElem?_map] at hq
   obtain ⟨o, ho', rfl⟩ := Option.map_eq_some_iff.1 hq
   have hcut3 : ((flat t.ops).drop (m * 3)).take 3 = o.cells := by
    obtain ⟨a, b, c⟩ := flat_get t.ops [] m o ho'
    rw [List.append_nil] at a b c
    apply List.ext_getElem?
    intro x
    rw [List.getElem?_take, List.getElem?_drop]
    match x with
    | 0 => simpa [O3.cells] using a
    | 1 => simpa [O3.cells] using b
    | 2 => simpa [O3.cells] using c
    | x + 3 => simp only [O3.cells]; rw [if_neg (by omega)]; simp
   show k51.M w base _ (ofO o) (((flat t.ops).drop (m * 3)).take 3)
   rw [hcut3]
   exact k51_mkM w base _ (ofO o)
end Go.Proofs.Ytngkneknopenmaa.Hist
namespace Go.Proofs.Ytngkneknopenmaa.Give
open Go Go.RowKit Go.Proofs.Ytngkneknopenmaa Go.Proofs.Ytngkneknopenmaa.Row3 Go.Proofs.Ytngkneknopenmaa.K Go.Proofs.Ytngkneknopenmaa.Hist Go.Proofs.YtngkneknopenmaaW.PrintWords
def Small (l : List S55) : Bool := decide (l.length ≤ 4611686018427387904) && decide (qar (l.map toT) ≤ 4611686018427387904)
def history_Check.f (_ : Nat) (l : List S55) : Option Int := if Small l then some (qa3 (l.map toT)) else none
theorem history_Check.mono : ∀ a0 k, LeO (history_Check.f k a0) (history_Check.f (k + 1) a0) := fun _ _ => LeO.refl _
def burgageref06_Check.f (_ : Nat) (l : List S55) : Option Int := if Small l then some (qbs (l.map toT)) else none
theorem burgageref06_Check.mono : ∀ a0 k, LeO (burgageref06_Check.f k a0) (burgageref06_Check.f (k + 1) a0) := fun _ _ => LeO.refl _
def ofF (h : List T4) : List T4 := if qa3 h = 0 then qbg h else []
def canon_Of.f (_ : Nat) (l : List S55) : Option (List S55) := if Small l then some ((ofF (l.map toT)).map ofT) else none
theorem canon_Of.mono : ∀ a0 k, LeO (canon_Of.f k a0) (canon_Of.f (k + 1) a0) := fun _ _ => LeO.refl _
theorem small_spec {l : List S55} (h : Small l = true) : l.length ≤ 4611686018427387904 ∧ qar (l.map toT) ≤ 4611686018427387904 := by
 unfold Small at h
 simpa using h
theorem history_Check.calls (k : Nat) (A0 : Option Addr) (c0 : Nat) (l0 : List S55) (r : Int) (w : World) (hr0 : Kd.C k55 w A0 l0.length l0) (hc0 : l0.length ≤ c0) (h : history_Check.f k l0 = some r) :
  Calls Try.prog 32 #[.slice A0 l0.length c0] w fun e w' => e = .returned (.int .i64 r) ∧ Below w.heap.size w w' := by
 unfold history_Check.f at h
 split at h
 ·rename_i hs
  cases h
  obtain ⟨h1, h2⟩ := small_spec hs
  have := check_calls A0 c0 (l0.map toT) (by simpa using hc0) (by simpa using h1) h2 w (RdT_of_C hr0)
  rw [List.length_map] at this
  exact this
 ·cases h
theorem canon_Of.calls (k : Nat) (A0 : Option Addr) (c0 : Nat) (l0 : List S55) (r : List S55) (w : World) (hr0 : Kd.C k55 w A0 l0.length l0) (hc0 : l0.length ≤ c0) (h : canon_Of.f k l0 = some r) :
  Calls Try.prog 13 #[.slice A0 l0.length c0] w fun e w' => ∃ v0_ : Value, e = .returned v0_ ∧ Kd.S k55 55 w' w.heap.size (fun k_ => w.heap.size ≤ k_) v0_ r ∧ Below w.heap.size w w' := by
 unfold canon_Of.f at h
 split at h
 ·rename_i hs
  cases h
  obtain ⟨h1, h2⟩ := small_spec hs
  have := of_calls A0 c0 (l0.map toT) (by simpa using hc0) (by simpa using h1) h2 w (RdT_of_C hr0)
  rw [List.length_map] at this
  refine this.mono ?_
  rintro e w' ⟨hb, ⟨hne, rfl⟩ | ⟨h0, v, rows, l, hp, hpw, rfl, hh⟩⟩
  ·refine ⟨_, rfl, ?_, hb⟩
   unfold ofF
   rw [if_neg hne]
   exact H2.isS (rows := []) (h := []) ⟨World.ownsRow_nil _ _ _ _, SaysAll.nil _ _⟩
  ·refine ⟨_, rfl, ?_, hb⟩
   unfold ofF
   rw [if_pos h0, ← canon_result (check_zero h0).2.2 hp hpw]
   exact hh.isS
 ·cases h
end Go.Proofs.Ytngkneknopenmaa.Give
end
section
namespace Go.Proofs.Ytngkneknopenmaa.T
open Go.Proofs.Ytngkneknopenmaa Go.Proofs.Ytngkneknopenmaa.Give Go.Proofs.Ytngkneknopenmaa.K
open Go.RowKit Go.Proofs.YtngkneknopenmaaW.PrintWords Go.Proofs.YtngkneknopenmaaW.PrintLast Go.Proofs.YtngkneknopenmaaW.PrintMore
attribute [local go_sem] qb3 qb1 qca qb9 qbu qbt qb2 qb0   -- for this text's walks alone
set_option linter.unusedVariables false
set_option linter.unusedSimpArgs false
theorem info51 : (Try.prog.info? 51).map (fun i => (i.zero, i.size, i.bytes)) = some (some (.agg #[(.bool false), (.int .i64 0), (.int .i64 0)]), 3, 24) := by kernel_rfl
end Go.Proofs.Ytngkneknopenmaa.T
end
section
namespace Go.Proofs.Ytngkneknopenmaa.T
open Go.Proofs.Ytngkneknopenmaa Go.Proofs.Ytngkneknopenmaa.Give Go.Proofs.Ytngkneknopenmaa.K
open Go.RowKit Go.Proofs.YtngkneknopenmaaW.PrintWords Go.Proofs.YtngkneknopenmaaW.PrintLast Go.Proofs.YtngkneknopenmaaW.PrintMore
attribute [local go_sem] qb3 qb1 qca qb9 qbu qbt qb2 qb0   -- for this text's walks alone
set_option linter.unusedVariables false
set_option linter.unusedSimpArgs false
theorem eqA51 (d : Nat) (w : World) (x0 y0 : Bool) (x1 y1 : Int) (x2 y2 : Int) :
  (Op.equalIn (d + 2) 51 (.agg #[.bool x0, .int .i64 x1, .int .i64 x2]) (.agg #[.bool y0, .int .i64 y1, .int .i64 y2])).run Try.prog w = .ok (x0 == y0 && (x1 == y1 && (x2 == y2))) w := by
 refine eqA_of Try.underlying51 (by kernel_rfl) ?_
 refine eqf_cons (by rfl) (by go_simp; rfl) (by go_simp; rfl) (by go_simp) ?_
 refine eqf_cons (by rfl) (by go_simp; rfl) (by go_simp; rfl) (by go_simp) ?_
 exact eqf_last (by rfl) (by go_simp; rfl) (by go_simp; rfl) (by go_simp)
end Go.Proofs.Ytngkneknopenmaa.T
end
