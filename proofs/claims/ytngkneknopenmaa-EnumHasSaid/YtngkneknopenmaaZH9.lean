/- qr7 of this claim, joined by a program of this session: the zP that its theorem uses. -/
import Derived.Test.YtngkneknopenmaaZH4
import Derived.Deep.Slices
import Derived.Deep.Strs
import Derived.WalkKit
import Derived.ProofKit
import Derived.SizedLaws
section
namespace Go.Proofs.Ytngkneknopenmaa.Hist
open Go Go.RowKit Go.Proofs.Ytngkneknopenmaa Go.Proofs.Ytngkneknopenmaa.qb9
def WfO (o : O3) : Prop := (Lit.int .i64 o.k).wf = true ∧ (Lit.int .i64 o.v).wf = true
def WfT (t : T4) : Prop := (Lit.int .i64 t.s).wf = true ∧ (Lit.int .i64 t.b).wf = true ∧ (Lit.int .i64 t.c).wf = true ∧ t.ops.length ≤ 5864062014634 ∧ ∀ o ∈ t.ops, WfO o
theorem jh4 (ad : Addr) (j k : Nat) (hk : 0 < k) : ad.add (j + k) = ⟨(ad.add j).block, (ad.add j).off + k, none⟩ := by
 unfold Addr.add
 rw [if_neg (by omega)]
 by_cases h : j = 0
 ·subst h; simp
 ·rw [if_neg h]; simp; omega
theorem Qr8 {l : List Value} (h : l.length = 4) : ∃ a b c d, l = [a, b, c, d] := by
 match l, h with
 | [a, b, c, d], _ => exact ⟨a, b, c, d, rfl⟩
theorem zT5 {H : Type} {enc : TypeId × Value → H} {W : World} {B n : Nat} {sp : Nat → Bool} {hd : Bool} {cs : List Value} {x : DataW H × List MemPlace} (h : DataW.trod enc Try.prog W B sp hd n 51 cs = some x) :
  ∃ o : O3, cs = o.cells ∧ WfO o := by
 obtain ⟨y0, y1, y2, m, _, hlen, h0, h1, h2⟩ := Go.Deep.trod_struct3 Try.underlying51 h
 have h3 : Try.prog.cellsOf 51 = 3 := by kernel_rfl
 have hb1 : Try.prog.cellsOf 4 = 1 := by kernel_rfl
 have hi1 : Try.prog.cellsOf 3 = 1 := by kernel_rfl
 rw [h3] at hlen
 rw [hb1] at h0
 rw [hi1] at h1 h2
 clear h3 hb1 hi1 h
 match cs, hlen with
 | [c0, c1, c2], _ =>
  replace h0 : DataW.trod enc Try.prog W B sp hd m 4 [c0] = some y0 := h0
  replace h1 : DataW.trod enc Try.prog W B sp hd m 3 [c1] = some y1 := h1
  replace h2 : DataW.trod enc Try.prog W B sp hd m 3 [c2] = some y2 := h2
  obtain ⟨b, e0, _⟩ := DataW.trod_bool Try.underlying4 h0
  obtain ⟨k, e1, _, w1⟩ := DataW.trod_int Try.underlying3 h1
  obtain ⟨v, e2, _, w2⟩ := DataW.trod_int Try.underlying3 h2
  simp only [List.cons.injEq, and_true] at e0 e1 e2
  subst e0 e1 e2
  exact ⟨⟨b, k, v⟩, rfl, w1, w2⟩
theorem zH2 {H : Type} {enc : TypeId × Value → H} {W : World} {n : Nat} {a : Option Addr} {len cap : Nat} {x : DataW H × List MemPlace} (h : DataW.trod enc Try.prog W 0 (fun _ => true) true n 53 [.slice a len cap] = some x)
  (hw : ∀ m ∈ x.1.weights Try.prog 53, m ≤ reachBytes) :
  ∃ l : List O3, l.length = len ∧ RdO W a l ∧ len ≤ cap ∧ len ≤ 5864062014634 ∧ ∀ o ∈ l, WfO o := by
 rcases Go.Deep.open_slice Try.underlying53 h with ⟨hcs, _⟩ | ⟨ad, l, c, m, f, D, Pl, hcs, _, hl, hm, hmm, hx1, hx⟩
 ·simp only [List.cons.injEq, and_true, Value.slice.injEq] at hcs
  obtain ⟨rfl, rfl, rfl⟩ := hcs
  exact ⟨[], rfl, fun h => absurd h (by simp), by omega, by omega, fun o h => by cases h⟩
 ·simp only [List.cons.injEq, and_true, Value.slice.injEq] at hcs
  obtain ⟨rfl, rfl, rfl⟩ := hcs
  have h3 : Try.prog.cellsOf 51 = 3 := by kernel_rfl
  have hby : Try.prog.bytesOf 51 = 24 := by kernel_rfl
  rw [h3] at hx
  have hlm : len ≤ m := by rw [hmm]; split <;> omega
  have hlen : len ≤ 5864062014634 := by
   have := hw ((len + (m - len)) * 24) (by
    rw [hx1]
    simp only [DataW.weights, Try.underlying53, hby, List.length_map, List.length_range]
    exact List.mem_cons_self)
   have : reachBytes = 140737488351232 := rfl
   omega
  have hx2 : ∀ i, i < len → ∃ o : O3, (∀ j u, o.cells[j]? = some u → W.cell? (ad.add (i * 3 + j)) = some u) ∧ WfO o := by
   intro i hi
   obtain ⟨cs', hc1, hc2⟩ := hx i (by omega)
   obtain ⟨o, rfl, hw⟩ := zT5 hc2
   obtain ⟨_, _, hc⟩ := World.cells?_some hc1
   refine ⟨o, fun j u hj => ?_, hw⟩
   have hj3 : j < 3 := by
    have := (List.getElem?_eq_some_iff.1 hj).1
    simpa [O3.cells] using this
   have := hc j hj3
   rw [hj] at this
   rw [← this, Addr.add_add]
  obtain ⟨V, hV⟩ := Go.Deep.choose_lt (α := O3) (p := fun i o => (∀ j u, o.cells[j]? = some u → W.cell? (ad.add (i * 3 + j)) = some u) ∧ WfO o) hx2
  refine ⟨(List.range len).map V, by simp, fun _ => ⟨ad, rfl, fun j o hj => ?_⟩, hl, hlen, fun o ho => ?_⟩
  ·rw [List.getElem?_map] at hj
   obtain ⟨i, hi, rfl⟩ := Option.map_eq_some_iff.1 hj
   obtain ⟨hjl, hji⟩ := List.getElem?_eq_some_iff.1 hi
   simp only [List.length_range] at hjl
   simp only [List.getElem_range] at hji
   subst hji
   have h0 := (hV j hjl).1 0 _ rfl
   have h1 := (hV j hjl).1 1 _ rfl
   have h2 := (hV j hjl).1 2 _ rfl
   exact ⟨h0, (jh4 ad (j * 3) 1 (by omega)) ▸ h1, (jh4 ad (j * 3) 2 (by omega)) ▸ h2⟩
  ·obtain ⟨i, hi, rfl⟩ := List.mem_map.1 ho
   exact (hV i (List.mem_range.1 hi)).2
theorem trod_struct4 {H : Type} {enc : TypeId × Value → H} {P : Program} {w : World} {base : Nat} {spare : Nat → Bool} {held : Bool} {t : TypeId} {f0 f1 f2 f3 : Field} {fuel : Nat} {cs : List Value} {x : DataW H × List MemPlace} (ht : P.underlying t = some (.struct #[f0, f1, f2, f3])) (h : DataW.trod enc P w base spare held fuel t cs = some x) :
  ∃ y0 y1 y2 y3 n, x.1 = .agg [y0.1, y1.1, y2.1, y3.1] ∧ cs.length = P.cellsOf t ∧ DataW.trod enc P w base spare held n f0.type ((cs.drop f0.offset).take (P.cellsOf f0.type)) = some y0 ∧
   DataW.trod enc P w base spare held n f1.type ((cs.drop f1.offset).take (P.cellsOf f1.type)) = some y1 ∧ DataW.trod enc P w base spare held n f2.type ((cs.drop f2.offset).take (P.cellsOf f2.type)) = some y2 ∧ DataW.trod enc P w base spare held n f3.type ((cs.drop f3.offset).take (P.cellsOf f3.type)) = some y3 := by
 obtain ⟨xs, n, _, rfl, hl, hlen, hf⟩ := DataW.trod_struct ht h
 match xs, hlen with
 | [y0, y1, y2, y3], _ => exact ⟨y0, y1, y2, y3, n, by simp, hl, by simpa using hf 0 f0 rfl, by simpa using hf 1 f1 rfl, by simpa using hf 2 f2 rfl, by simpa using hf 3 f3 rfl⟩
theorem zH3 {H : Type} {enc : TypeId × Value → H} {W : World} {n : Nat} {cs : List Value} {x : DataW H × List MemPlace} (h : DataW.trod enc Try.prog W 0 (fun _ => true) true n 55 cs = some x)
  (hw : ∀ m ∈ x.1.weights Try.prog 55, m ≤ reachBytes) :
  ∃ (t : T4) (A3 : Option Addr) (c3 : Nat), cs = [.int .i64 t.s, .int .i64 t.b, .int .i64 t.c, .slice A3 t.ops.length c3] ∧ t.ops.length ≤ c3 ∧ RdO W A3 t.ops ∧ WfT t := by
 obtain ⟨y0, y1, y2, y3, m, hx1, hl, h0, h1, h2, h3⟩ := trod_struct4 Try.underlying55 h
 have hct : Try.prog.cellsOf 55 = 4 := by kernel_rfl
 have hi1 : Try.prog.cellsOf 3 = 1 := by kernel_rfl
 have hs1 : Try.prog.cellsOf 53 = 1 := by kernel_rfl
 rw [hct] at hl
 obtain ⟨c0, c1, c2, c3, rfl⟩ := Qr8 hl
 rw [hi1] at h0 h1 h2
 rw [hs1] at h3
 replace h0 : DataW.trod enc Try.prog W 0 (fun _ => true) true m 3 [c0] = some y0 := h0
 replace h1 : DataW.trod enc Try.prog W 0 (fun _ => true) true m 3 [c1] = some y1 := h1
 replace h2 : DataW.trod enc Try.prog W 0 (fun _ => true) true m 3 [c2] = some y2 := h2
 replace h3 : DataW.trod enc Try.prog W 0 (fun _ => true) true m 53 [c3] = some y3 := h3
 obtain ⟨s, e0, _, w0⟩ := DataW.trod_int Try.underlying3 h0
 obtain ⟨b, e1, _, w1⟩ := DataW.trod_int Try.underlying3 h1
 obtain ⟨c, e2, _, w2⟩ := DataW.trod_int Try.underlying3 h2
 simp only [List.cons.injEq, and_true] at e0 e1 e2
 subst e0 e1 e2
 have hsl : ∃ a len cap, c3 = .slice a len cap := by
  rcases Go.Deep.open_slice Try.underlying53 h3 with ⟨hcs, _⟩ | ⟨ad, l, c, _, _, _, _, hcs, _⟩
  ·simp only [List.cons.injEq, and_true] at hcs
   exact ⟨_, _, _, hcs⟩
  ·simp only [List.cons.injEq, and_true] at hcs
   exact ⟨_, _, _, hcs⟩
 obtain ⟨a, len, cap, rfl⟩ := hsl
 obtain ⟨l, rfl, hr, hc, hle, hwo⟩ := zH2 h3 (fun k hk => hw k (by
  rw [hx1]
  simp only [DataW.weights, Try.underlying55, List.map_cons, List.map_nil]
  exact DataW.weights_mem_each (j := 3) (t := 53) rfl rfl k hk))
 exact ⟨⟨s, b, c, l⟩, a, cap, rfl, hc, hr, w0, w1, w2, hle, hwo⟩
theorem qR8 {H : Type} {P : Program} {e : TypeId} : ∀ {l : List (DataW H)} {d : DataW H} {n : Nat}, d ∈ l → n ∈ d.weights P e → n ∈ DataW.weightsAll P e l
 | x :: l, d, n, hd, hn => by
  simp only [DataW.weightsAll, List.mem_append]
  rcases List.mem_cons.1 hd with rfl | hd
  ·exact .inl hn
  ·exact .inr (qR8 hd hn)
theorem open_txns {H : Type} {enc : TypeId × Value → H} {W : World} {n : Nat} {a : Option Addr} {len cap : Nat} {x : DataW H × List MemPlace} (h : DataW.trod enc Try.prog W 0 (fun _ => true) true n 22 [.slice a len cap] = some x)
  (hw : ∀ m ∈ x.1.weights Try.prog 22, m ≤ reachBytes) :
  ∃ l : List T4, l.length = len ∧ RdT W a l ∧ len ≤ cap ∧ len ≤ 2932031007317 ∧ ∀ t ∈ l, WfT t := by
 rcases Go.Deep.open_slice Try.underlying22 h with ⟨hcs, _⟩ | ⟨ad, l, c, m, f, D, Pl, hcs, _, hl, hm, hmm, hx1, hx⟩
 ·simp only [List.cons.injEq, and_true, Value.slice.injEq] at hcs
  obtain ⟨rfl, rfl, rfl⟩ := hcs
  exact ⟨[], rfl, fun h => absurd h (by simp), by omega, by omega, fun o h => by cases h⟩
 ·simp only [List.cons.injEq, and_true, Value.slice.injEq] at hcs
  obtain ⟨rfl, rfl, rfl⟩ := hcs
  have h3 : Try.prog.cellsOf 55 = 4 := by kernel_rfl
  have hby : Try.prog.bytesOf 55 = 48 := by kernel_rfl
  rw [h3] at hx
  have hlm : len ≤ m := by rw [hmm]; split <;> omega
  have hall : ∀ k, ((len + (m - len)) * 48 = k ∨ ∃ i, i < len ∧ k ∈ (D i).weights Try.prog 55) → k ≤ reachBytes := by
   intro k hk
   refine hw k ?_
   rw [hx1]
   simp only [DataW.weights, Try.underlying22, hby, List.length_map, List.length_range, List.mem_cons, List.mem_append]
   rcases hk with rfl | ⟨i, hi, hk⟩
   ·exact .inl rfl
   ·exact .inr (.inl (qR8 (List.mem_map.2 ⟨i, List.mem_range.2 hi, rfl⟩) hk))
  have hlen : len ≤ 2932031007317 := by
   have := hall _ (.inl rfl)
   have : reachBytes = 140737488351232 := rfl
   omega
  have hx2 : ∀ i, i < len → ∃ t : T4, (∃ A3 c3, (∀ j u, ([.int .i64 t.s, .int .i64 t.b, .int .i64 t.c, .slice A3 t.ops.length c3] : List Value)[j]? = some u → W.cell? (ad.add (i * 4 + j)) = some u) ∧ t.ops.length ≤ c3 ∧ RdO W A3 t.ops) ∧ WfT t := by
   intro i hi
   obtain ⟨cs', hc1, hc2⟩ := hx i (by omega)
   obtain ⟨t, A3, c3, rfl, hl3, hr, hwt⟩ := zH3 hc2 (fun k hk => hall k (.inr ⟨i, hi, hk⟩))
   obtain ⟨_, _, hc⟩ := World.cells?_some hc1
   refine ⟨t, ⟨A3, c3, fun j u hj => ?_, hl3, hr⟩, hwt⟩
   have hj4 : j < 4 := by
    have := (List.getElem?_eq_some_iff.1 hj).1
    simpa using this
   have := hc j hj4
   rw [hj] at this
   rw [← this, Addr.add_add]
  obtain ⟨V, hV⟩ := Go.Deep.choose_lt (α := T4) (p := fun i t => (∃ A3 c3, (∀ j u, ([.int .i64 t.s, .int .i64 t.b, .int .i64 t.c, .slice A3 t.ops.length c3] : List Value)[j]? = some u → W.cell? (ad.add (i * 4 + j)) = some u) ∧ t.ops.length ≤ c3 ∧ RdO W A3 t.ops) ∧ WfT t) hx2
  refine ⟨(List.range len).map V, by simp, fun _ => ⟨ad, rfl, fun j t hj => ?_⟩, hl, hlen, fun o ho => ?_⟩
  ·rw [List.getElem?_map] at hj
   obtain ⟨i, hi, rfl⟩ := Option.map_eq_some_iff.1 hj
   obtain ⟨hjl, hji⟩ := List.getElem?_eq_some_iff.1 hi
   simp only [List.length_range] at hjl
   simp only [List.getElem_range] at hji
   subst hji
   obtain ⟨A3, c3, hcell, hl3, hr⟩ := (hV j hjl).1
   exact ⟨A3, c3, hcell 0 _ rfl, (jh4 ad (j * 4) 1 (by omega)) ▸ hcell 1 _ rfl, (jh4 ad (j * 4) 2 (by omega)) ▸ hcell 2 _ rfl, (jh4 ad (j * 4) 3 (by omega)) ▸ hcell 3 _ rfl, hl3, hr⟩
  ·obtain ⟨i, hi, rfl⟩ := List.mem_map.1 ho
   exact (hV i (List.mem_range.1 hi)).2
end Go.Proofs.Ytngkneknopenmaa.Hist
end
