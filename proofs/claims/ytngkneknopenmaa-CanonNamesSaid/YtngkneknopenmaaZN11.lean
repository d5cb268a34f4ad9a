/- Texts of this claim, joined by a program of this session: the declarations that its theorem uses. -/
import Derived.Test.YtngkneknopenmaaZN8
import Derived.Test.YtngkneknopenmaaZN10
import Derived.Deep.SlicePairs
section
namespace Go.Proofs.Ytngkneknopenmaa.Hist
open Go Go.RowKit Go.ChangeShapes Go.WideShapes Go.Proofs.Ytngkneknopenmaa Go.Proofs.Ytngkneknopenmaa.Row3
theorem sl_shape {H : Type} {enc : TypeId × Value → H} {P : Program} {W : World} {n : Nat} {t e : TypeId} {c : Value} {y : DataW H × List MemPlace} (ht : P.underlying t = some (.slice e)) (h : DataW.trod enc P W 0 (fun _ => true) true n t [c] = some y) : ∃ a len cap, c = .slice a len cap := by
 rcases Go.Deep.open_slice ht h with ⟨hcs, _⟩ | ⟨ad, l, c, _, _, _, _, hcs, _⟩
 ·simp only [List.cons.injEq, and_true] at hcs
  exact ⟨_, _, _, hcs⟩
 ·simp only [List.cons.injEq, and_true] at hcs
  exact ⟨_, _, _, hcs⟩
theorem open_pairs {H : Type} {enc : TypeId × Value → H} {W : World} {n : Nat} {a : Option Addr} {len cap : Nat} {x : DataW H × List MemPlace} (h : DataW.trod enc Try.prog W 0 (fun _ => true) true n 28 [.slice a len cap] = some x)
  (hw : ∀ m ∈ x.1.weights Try.prog 28, m ≤ reachBytes) :
  ∃ l : List (Int × Int), l.length = len ∧ RdP W a l ∧ len ≤ 8796093022209 ∧ ∀ p ∈ l, Wf p.1 ∧ Wf p.2 := by
 have h2 : Try.prog.cellsOf 111 = 2 := by kernel_rfl
 have hi1 : Try.prog.cellsOf 3 = 1 := by kernel_rfl
 have hby : Try.prog.bytesOf 111 = 16 := by kernel_rfl
 rcases Go.Deep.open_slice_pairs Try.underlying28 Try.underlying111 h2 rfl rfl hi1 hi1 h with ⟨hcs, _⟩ | ⟨ad, l, c, m, f, V0, V1, D0, D1, P0, P1, hcs, _, hl, hm, hmm, hx1, hx⟩
 ·simp only [List.cons.injEq, and_true, Value.slice.injEq] at hcs
  obtain ⟨rfl, rfl, rfl⟩ := hcs
  exact ⟨[], rfl, fun h => absurd h (by simp), by omega, fun o h => by cases h⟩
 ·simp only [List.cons.injEq, and_true, Value.slice.injEq] at hcs
  obtain ⟨rfl, rfl, rfl⟩ := hcs
  have hlm : len ≤ m := by rw [hmm]; split <;> omega
  have hlen : len ≤ 8796093022209 := by
   have := hw ((len + (m - len)) * 16) (by
    rw [hx1]
    simp only [DataW.weights, Try.underlying28, hby, List.length_map, List.length_range]
    exact List.mem_cons_self)
   have : reachBytes = 140737488351232 := rfl
   omega
  have hx2 : ∀ i, i < len → ∃ p : Int × Int, (W.cell? (ad.add (i * 2)) = some (.int .i64 p.1) ∧ W.cell? (ad.add (i * 2 + 1)) = some (.int .i64 p.2)) ∧ Wf p.1 ∧ Wf p.2 := by
   intro i hi
   obtain ⟨c0, c1, t0, t1⟩ := hx i (by omega)
   obtain ⟨u, e0, _, w0⟩ := DataW.trod_int Try.underlying3 t0
   obtain ⟨v, e1, _, w1⟩ := DataW.trod_int Try.underlying3 t1
   simp only [List.cons.injEq, and_true] at e0 e1
   rw [e0] at c0
   rw [e1] at c1
   exact ⟨(u, v), ⟨c0, c1⟩, w0, w1⟩
  obtain ⟨V, hV⟩ := Go.Deep.choose_lt (α := Int × Int) (p := fun i p => (W.cell? (ad.add (i * 2)) = some (.int .i64 p.1) ∧ W.cell? (ad.add (i * 2 + 1)) = some (.int .i64 p.2)) ∧ Wf p.1 ∧ Wf p.2) hx2
  refine ⟨(List.range len).map V, by simp, fun _ => ⟨ad, rfl, fun j o hj => ?_⟩, hlen, fun o ho => ?_⟩
  ·rw [List.getElem?_map] at hj
   obtain ⟨i, hi, rfl⟩ := Option.map_eq_some_iff.1 hj
   obtain ⟨hjl, hji⟩ := List.getElem?_eq_some_iff.1 hi
   simp only [List.length_range] at hjl
   simp only [List.getElem_range] at hji
   subst hji
   exact ⟨(hV j hjl).1.1, (add_fld ad (j * 2) 1 (by omega)) ▸ (hV j hjl).1.2⟩
  ·obtain ⟨i, hi, rfl⟩ := List.mem_map.1 ho
   exact (hV i (List.mem_range.1 hi)).2
theorem open_nums {H : Type} {enc : TypeId × Value → H} {W : World} {n : Nat} {a : Option Addr} {len cap : Nat} {x : DataW H × List MemPlace} (h : DataW.trod enc Try.prog W 0 (fun _ => true) true n 29 [.slice a len cap] = some x)
  (hw : ∀ m ∈ x.1.weights Try.prog 29, m ≤ reachBytes) :
  ∃ l : List Int, l.length = len ∧ RdI W a l ∧ len ≤ cap ∧ len ≤ 17592186044419 := by
 have hi1 : Try.prog.cellsOf 3 = 1 := by kernel_rfl
 have hby : Try.prog.bytesOf 3 = 8 := by kernel_rfl
 rcases Go.Deep.open_slice1 Try.underlying29 hi1 h with ⟨hcs, _⟩ | ⟨ad, l, c, m, f, V, D, Pl, hcs, _, hl, hm, hmm, hx1, hx⟩
 ·simp only [List.cons.injEq, and_true, Value.slice.injEq] at hcs
  obtain ⟨rfl, rfl, rfl⟩ := hcs
  exact ⟨[], rfl, fun h => absurd h (by simp), by omega, by omega⟩
 ·simp only [List.cons.injEq, and_true, Value.slice.injEq] at hcs
  obtain ⟨rfl, rfl, rfl⟩ := hcs
  have hlm : len ≤ m := by rw [hmm]; split <;> omega
  have hlen : len ≤ 17592186044419 := by
   have := hw ((len + (m - len)) * 8) (by
    rw [hx1]
    simp only [DataW.weights, Try.underlying29, hby, List.length_map, List.length_range]
    exact List.mem_cons_self)
   have : reachBytes = 140737488351232 := rfl
   omega
  have hx2 : ∀ i, i < len → ∃ p : Int, W.cell? (ad.add i) = some (.int .i64 p) := by
   intro i hi
   obtain ⟨c0, t0⟩ := hx i (by omega)
   obtain ⟨u, e0, _, _⟩ := DataW.trod_int Try.underlying3 t0
   simp only [List.cons.injEq, and_true] at e0
   rw [e0] at c0
   exact ⟨u, c0⟩
  obtain ⟨U, hU⟩ := Go.Deep.choose_lt (α := Int) (p := fun i p => W.cell? (ad.add i) = some (.int .i64 p)) hx2
  refine ⟨(List.range len).map U, by simp, fun _ => ⟨ad, rfl, fun j o hj => ?_⟩, hl, hlen⟩
  rw [List.getElem?_map] at hj
  obtain ⟨i, hi, rfl⟩ := Option.map_eq_some_iff.1 hj
  obtain ⟨hjl, hji⟩ := List.getElem?_eq_some_iff.1 hi
  simp only [List.length_range] at hjl
  simp only [List.getElem_range] at hji
  subst hji
  exact hU j hjl
theorem list5 {l : List Value} (h : l.length = 5) : ∃ a b c d e, l = [a, b, c, d, e] := by
 match l, h with
 | [a, b, c, d, e], _ => exact ⟨a, b, c, d, e, rfl⟩
set_option maxRecDepth 100000 in
theorem names_shape {W : World} {r : Reach} {b0 : Nat} {v : Value} (hv : Value.okWide Try.prog W r b0 31 v) : ∃ c0 c1 c2 c3 c4, v = .agg #[c0, c1, c2, c3, c4] := by
 obtain ⟨cs, rfl, hsz⟩ := okWide_struct Try.underlying31 hv
 have h5 : Try.prog.cellsOf 31 = 5 := by kernel_rfl
 obtain ⟨l⟩ := cs
 rw [h5] at hsz
 have hsz' : l.length = 5 := hsz
 obtain ⟨a, b, c, d, e, rfl⟩ := list5 hsz'
 exact ⟨a, b, c, d, e, rfl⟩
theorem open_names {H : Type} {enc : TypeId × Value → H} {W : World} {v0 v1 v2 v3 v4 : Value} {d : DataW H} {p : List MemPlace} (h : DataW.Trod enc Try.prog W 0 (fun _ => true) true 31 (.agg #[v0, v1, v2, v3, v4]) d p)
  (hw : ∀ m ∈ d.weights Try.prog 31, m ≤ reachBytes) :
  ∃ (A0 : Option Addr) (c0 : Nat) (l0 : List (Int × Int)) (A1 : Option Addr) (c1 : Nat) (l1 : List (Int × Int)) (A2 : Option Addr) (c2 : Nat) (l2 : List (Int × Int)) (A3 : Option Addr) (c3 : Nat) (l3 : List (Int × Int)) (A4 : Option Addr) (c4 : Nat) (l4 : List Int),
   (v0 = .slice A0 l0.length c0 ∧ v1 = .slice A1 l1.length c1 ∧ v2 = .slice A2 l2.length c2 ∧ v3 = .slice A3 l3.length c3 ∧ v4 = .slice A4 l4.length c4) ∧
   (RdP W A0 l0 ∧ l0.length ≤ 8796093022209 ∧ ∀ p ∈ l0, Wf p.1 ∧ Wf p.2) ∧ (RdP W A1 l1 ∧ l1.length ≤ 8796093022209 ∧ ∀ p ∈ l1, Wf p.1 ∧ Wf p.2) ∧ (RdP W A2 l2 ∧ l2.length ≤ 8796093022209 ∧ ∀ p ∈ l2, Wf p.1 ∧ Wf p.2) ∧ (RdP W A3 l3 ∧ l3.length ≤ 8796093022209 ∧ ∀ p ∈ l3, Wf p.1 ∧ Wf p.2) ∧
   RdI W A4 l4 ∧ l4.length ≤ c4 ∧ l4.length ≤ 17592186044419 := by
 obtain ⟨fuel, hf⟩ := h
 have hf' : DataW.trod enc Try.prog W 0 (fun _ => true) true fuel 31 [v0, v1, v2, v3, v4] = some (d, p) := hf
 obtain ⟨xs, n, _, hxe, _, hlen, hfs⟩ := DataW.trod_struct Try.underlying31 hf'
 have hs1 : Try.prog.cellsOf 28 = 1 := by kernel_rfl
 have hs2 : Try.prog.cellsOf 29 = 1 := by kernel_rfl
 match xs, hlen with
 | [y0, y1, y2, y3, y4], _ =>
  have f0 : DataW.trod enc Try.prog W 0 (fun _ => true) true n 28 (([v0, v1, v2, v3, v4].drop 0).take (Try.prog.cellsOf 28)) = some y0 := hfs 0 _ rfl
  rw [hs1] at f0
  replace f0 : DataW.trod enc Try.prog W 0 (fun _ => true) true n 28 [v0] = some y0 := f0
  have f1 : DataW.trod enc Try.prog W 0 (fun _ => true) true n 28 (([v0, v1, v2, v3, v4].drop 1).take (Try.prog.cellsOf 28)) = some y1 := hfs 1 _ rfl
  rw [hs1] at f1
  replace f1 : DataW.trod enc Try.prog W 0 (fun _ => true) true n 28 [v1] = some y1 := f1
  have f2 : DataW.trod enc Try.prog W 0 (fun _ => true) true n 28 (([v0, v1, v2, v3, v4].drop 2).take (Try.prog.cellsOf 28)) = some y2 := hfs 2 _ rfl
  rw [hs1] at f2
  replace f2 : DataW.trod enc Try.prog W 0 (fun _ => true) true n 28 [v2] = some y2 := f2
  have f3 : DataW.trod enc Try.prog W 0 (fun _ => true) true n 28 (([v0, v1, v2, v3, v4].drop 3).take (Try.prog.cellsOf 28)) = some y3 := hfs 3 _ rfl
  rw [hs1] at f3
  replace f3 : DataW.trod enc Try.prog W 0 (fun _ => true) true n 28 [v3] = some y3 := f3
  have f4 : DataW.trod enc Try.prog W 0 (fun _ => true) true n 29 (([v0, v1, v2, v3, v4].drop 4).take (Try.prog.cellsOf 29)) = some y4 := hfs 4 _ rfl
  rw [hs2] at f4
  replace f4 : DataW.trod enc Try.prog W 0 (fun _ => true) true n 29 [v4] = some y4 := f4
  obtain rfl : d = .agg [y0.1, y1.1, y2.1, y3.1, y4.1] := by simpa using congrArg Prod.fst hxe
  have g0 : ∀ m ∈ y0.1.weights Try.prog 28, m ≤ reachBytes := fun m hm => hw m (by simp only [DataW.weights, Try.underlying31, List.map_cons, List.map_nil]; exact DataW.weights_mem_each (j := 0) (t := 28) rfl rfl m hm)
  obtain ⟨A0, n0, c0, rfl⟩ := sl_shape Try.underlying28 f0
  obtain ⟨l0, rfl, p0, q0, r0⟩ := open_pairs f0 g0
  have g1 : ∀ m ∈ y1.1.weights Try.prog 28, m ≤ reachBytes := fun m hm => hw m (by simp only [DataW.weights, Try.underlying31, List.map_cons, List.map_nil]; exact DataW.weights_mem_each (j := 1) (t := 28) rfl rfl m hm)
  obtain ⟨A1, n1, c1, rfl⟩ := sl_shape Try.underlying28 f1
  obtain ⟨l1, rfl, p1, q1, r1⟩ := open_pairs f1 g1
  have g2 : ∀ m ∈ y2.1.weights Try.prog 28, m ≤ reachBytes := fun m hm => hw m (by simp only [DataW.weights, Try.underlying31, List.map_cons, List.map_nil]; exact DataW.weights_mem_each (j := 2) (t := 28) rfl rfl m hm)
  obtain ⟨A2, n2, c2, rfl⟩ := sl_shape Try.underlying28 f2
  obtain ⟨l2, rfl, p2, q2, r2⟩ := open_pairs f2 g2
  have g3 : ∀ m ∈ y3.1.weights Try.prog 28, m ≤ reachBytes := fun m hm => hw m (by simp only [DataW.weights, Try.underlying31, List.map_cons, List.map_nil]; exact DataW.weights_mem_each (j := 3) (t := 28) rfl rfl m hm)
  obtain ⟨A3, n3, c3, rfl⟩ := sl_shape Try.underlying28 f3
  obtain ⟨l3, rfl, p3, q3, r3⟩ := open_pairs f3 g3
  have g4 : ∀ m ∈ y4.1.weights Try.prog 29, m ≤ reachBytes := fun m hm => hw m (by simp only [DataW.weights, Try.underlying31, List.map_cons, List.map_nil]; exact DataW.weights_mem_each (j := 4) (t := 29) rfl rfl m hm)
  obtain ⟨A4, n4, c4, rfl⟩ := sl_shape Try.underlying29 f4
  obtain ⟨l4, rfl, p4, q4, r4⟩ := open_nums f4 g4
  exact ⟨A0, c0, l0, A1, c1, l1, A2, c2, l2, A3, c3, l3, A4, c4, l4, ⟨rfl, rfl, rfl, rfl, rfl⟩, ⟨p0, q0, r0⟩, ⟨p1, q1, r1⟩, ⟨p2, q2, r2⟩, ⟨p3, q3, r3⟩, p4, q4, r4⟩
end Go.Proofs.Ytngkneknopenmaa.Hist
end
