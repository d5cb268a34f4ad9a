/- qq5 of this claim, joined by a program of this session: the zO that its theorem uses. -/
import Derived.Test.YtngkneknopenmaaZQ0
import Derived.Test.YtngkneknopenmaaZQ11
import Derived.Test.YtngkneknopenmaaZQ12
import Derived.Test.YtngkneknopenmaaZQ14
import Derived.Deep.DeepCutAuto
import Derived.Deep.RegionWith
import Derived.WideKeyEntry
section
namespace Go.Proofs.Ytngkneknopenmaa.qj8
open Go Go.Maps Go.RowKit
open Go.ChangeMaps (setBlock heap_setBlock_same heap_setBlock_other modify_eq_set)
open Go.WideElems (Fit findIdx_born findIdx_arr modify_last set_self)
theorem jx7 {P : Program} {w : World} {t k e : TypeId} {H : Type} {R : Value → Option (DataW H × List MemPlace)} {b : Nat} {es : Array MapEntry} {clock : Nat} (K : Keyed P k) (ht : P.underlying t = some (.map k e)) {z : Value} (hz : ∀ u : World, (zeroValue e).run P u = .ok z u)
  (hb : w.heap[b]? = some (.map es clock)) (F : Fit P k R es clock) {key : Value} {kl : Lit} (hkey : keyOf P k key = some kl) :
  ∃ (v0 : Value) (st : Nat) (es1 : Array MapEntry) (c1 : Nat), (Instr.mapEntry t (.map (some b)) key).run P w = .ok (.tuple #[v0, goInt st]) (setBlock w b (.map es1 c1)) ∧
   ∀ (w2 : World) (val : Value), w2.heap[b]? = some (.map es1 c1) → ∃ es' c', (Instr.entryStore t (.map (some b)) (goInt st) val).run P w2 = .ok () (setBlock w2 b (.map es' c')) ∧ (Instr.mapUpdate t (.map (some b)) key val).run P w = .ok () (setBlock w b (.map es' c')) := by
 obtain ⟨s1, s2, _⟩ := F.stamped
 rcases K.find w hkey es.toList F.keys with ⟨h1, _⟩ | ⟨j, e0, h1, h2, h3⟩
 ·refine ⟨z, clock, es.push ⟨key, z, clock⟩, clock + 1, by simp [Instr.mapEntry, run_underlying ht, MapKept.run_getObj_map hb, K.check w false hkey, h1, hz, MapKept.run_setObj_map _ hb, Result.andThen, setBlock], fun w2 val hw2 => ⟨es.push ⟨key, val, clock⟩, clock + 1, ?_, by simp [Instr.mapUpdate, run_underlying ht, MapKept.run_getObj_map hb, K.check w false hkey, h1, MapKept.run_setObj_map _ hb, Result.andThen, setBlock]⟩⟩
  have hnd : ((es.push ⟨key, z, clock⟩).toList.map (·.born)).Nodup := by
   rw [Array.toList_push, List.map_append]
   refine List.nodup_append.2 ⟨s2, by simp, fun a ha c hc e1 => ?_⟩
   obtain ⟨x, hx, rfl⟩ := List.mem_map.1 ha
   have := s1 x hx
   simp at hc
   omega
  have hidx : (es.push ⟨key, z, clock⟩).findIdx? (fun e => ((e.born : Nat) : Int) == ((clock : Nat) : Int)) = some es.size := by
   rw [findIdx_arr]
   exact findIdx_born (e0 := ⟨key, z, clock⟩) hnd (by simp)
  have hmod : (es.push ⟨key, z, clock⟩).modify es.size (fun e => { e with val := val }) = es.push ⟨key, val, clock⟩ := by
   apply Array.ext'
   rw [Array.toList_modify, Array.toList_push, Array.toList_push, ← Array.length_toList, modify_last]
  simp [Instr.entryStore, MapKept.run_getObj_map hw2, asInt, asIntOf, goInt, hidx, hmod, MapKept.run_setObj_map _ hw2, Result.andThen, setBlock]
 ·have hj : es[j]? = some e0 := by simpa using h2
  have hsame : es.modify j (fun e => { e with key := key }) = es := by
   apply Array.ext'
   rw [Array.toList_modify, modify_eq_set _ _ _ _ h2, show ({ e0 with key := key } : MapEntry) = e0 by rw [← h3]]
   exact set_self _ _ _ h2
  refine ⟨e0.val, e0.born, es, clock, by simp [Instr.mapEntry, run_underlying ht, MapKept.run_getObj_map hb, K.check w false hkey, h1, hj, h3, K.stays w hkey, hsame, MapKept.run_setObj_map _ hb, Result.andThen, setBlock], fun w2 val hw2 => ⟨es.modify j (fun e' => { e' with key := key, val := val }), clock, ?_, by simp [Instr.mapUpdate, run_underlying ht, MapKept.run_getObj_map hb, K.check w false hkey, h1, hj, h3, K.stays w hkey, MapKept.run_setObj_map _ hb, Result.andThen, setBlock]⟩⟩
  have hidx : es.findIdx? (fun e => ((e.born : Nat) : Int) == ((e0.born : Nat) : Int)) = some j := by
   rw [findIdx_arr]
   exact findIdx_born s2 h2
  have hmod : es.modify j (fun e => { e with val := val }) = es.modify j (fun e' => { e' with key := key, val := val }) := by
   apply Array.ext'
   rw [Array.toList_modify, Array.toList_modify, modify_eq_set _ _ _ _ h2, modify_eq_set _ _ _ _ h2, ← h3]
  simp [Instr.entryStore, MapKept.run_getObj_map hw2, asInt, asIntOf, goInt, hidx, hmod, MapKept.run_setObj_map _ hw2, Result.andThen, setBlock]
theorem jq7 (w : World) (b : Nat) (o o' : Obj) : setBlock (setBlock w b o) b o' = setBlock w b o' := by
 unfold setBlock
 simp
theorem jq8 {w : World} {b : Nat} {es : Array MapEntry} {c : Nat} (hb : w.heap[b]? = some (.map es c)) (es' : Array MapEntry) (c' : Nat) : w.grownBy (setBlock w b (.map es' c')) (some b) :=
 ⟨rfl, rfl, rfl, by simp [setBlock], fun i _ hi => heap_setBlock_other hb _ (fun e => hi (by rw [e]))⟩
theorem IM.entry {P : Program} {w : World} {t k e : TypeId} {b s : Nat} {f : Int → Option Value} (h : IM P k w b f s) (ht : P.underlying t = some (.map k e)) (hk : P.underlying k = some (.int .i64)) {z : Value} (hz : ∀ u : World, (zeroValue e).run P u = .ok z u) (hs : s < maxLen) {x : Int} (hx : (Lit.int .i64 x).wf = true) (val : Value) :
  ∃ (v0 : Value) (st : Nat) (w1 w2 : World), (Instr.mapEntry t (.map (some b)) (.int .i64 x)).run P w = .ok (.tuple #[v0, goInt st]) w1 ∧ w.grownBy w1 (some b) ∧ w1.heap.size = w.heap.size ∧
   (Instr.entryStore t (.map (some b)) (goInt st) val).run P w1 = .ok () w2 ∧ w.grownBy w2 (some b) ∧ w2.heap.size = w.heap.size ∧ IM P k w2 b (upd f x val) (if (f x).isSome then s else s + 1) := by
 obtain ⟨w', hrun, him, hg⟩ := h.store ht hk hs hx val
 obtain ⟨D, ⟨es, clock, hb, F, hs', hD⟩, hsz, ha⟩ := h
 obtain ⟨v0, st, es1, c1, h1, h2⟩ := jx7 (int_keyed hk) ht hz hb F (zd2 hk hx)
 obtain ⟨es', c', h3, h4⟩ := h2 (setBlock w b (.map es1 c1)) val (heap_setBlock_same hb _)
 rw [jq7] at h3
 rw [hrun] at h4
 cases h4
 exact ⟨v0, st, _, _, h1, jq8 hb _ _, by simp [setBlock], h3, hg, by simp [setBlock], him⟩
end Go.Proofs.Ytngkneknopenmaa.qj8
end
section
namespace Go.Proofs.Ytngkneknopenmaa.Hist
open Go Go.RowKit Go.Proofs.Ytngkneknopenmaa.qb8 Go.Proofs.Ytngkneknopenmaa.qj8
theorem own_ne {w : World} {base n size p : Nat} {e e' : TypeId} {v : Value} {xs : List Value} {cs : Array Value} {fr : Nat × Nat} (h : w.ownsRow base e size v n xs) (hp : w.heap[p]? = some (.cells cs e' fr)) (hne : e ≠ e') : v.ownBlock ≠ some p := by
 rcases h.2 with ⟨rfl, _⟩ | ⟨g, cp, cur, rfl, _, hh, _⟩
 ·simp [Value.ownBlock]
 ·intro e2
  simp [Value.ownBlock] at e2
  subst e2
  rw [hh] at hp
  simp at hp
  exact hne hp.2.1
theorem qd0.ne_of {w : World} {base : Nat} {rows : List TR} {h : List T4} (hs : qd0 w base rows h) : ∀ r ∈ rows, ∃ cs, w.heap[r.g]? = some (.cells cs 51 (0, 0)) := by
 intro r hr
 obtain ⟨i, hi⟩ := List.mem_iff_getElem?.1 hr
 have hil := (List.getElem?_eq_some_iff.1 hi).1
 obtain ⟨_, _, _, _, _, _, rst, g, _⟩ := hs.2.1 i r _ hi (List.getElem?_eq_getElem (by rw [← hs.1]; exact hil))
 exact ⟨_, g⟩
variable {w0 W W' : World} {base bk bs bv sK sS sV : Nat} {y : List T4} {rows : List TR} {xo xw xi : Value} {lw li : List Int} {fK fS fV : Int → Option Int}
end Go.Proofs.Ytngkneknopenmaa.Hist
end
section
namespace Go.Proofs.Ytngkneknopenmaa.Enum
open Go Go.Lib Go.RowKit Go.Proofs.Ytngkneknopenmaa Go.Proofs.Ytngkneknopenmaa.Hist Go.Proofs.Ytngkneknopenmaa.qb8 Go.Proofs.Ytngkneknopenmaa.qd6 Go.Proofs.Ytngkneknopenmaa.qj8
def jb8 (l : List Int) : Int → Option Value := fun x => if x ∈ l then some (.int .i64 (l.count x : Int)) else none
theorem jB2 (l : List Int) (x : Int) : jb8 (l ++ [x]) = upd (jb8 l) x (.int .i64 ((l.count x : Int) + 1)) := by
 funext y
 unfold jb8 upd
 by_cases h : y = x
 ·subst h
  rw [if_pos (by simp), if_pos rfl, List.count_append]
  simp
 ·rw [if_neg h]
  show _ = if y ∈ l then _ else _
  by_cases hy : y ∈ l
  ·rw [if_pos (by simp [hy]), if_pos hy, List.count_append]
   have : List.count y [x] = 0 := List.count_eq_zero_of_not_mem (by simp [h])
   rw [this, Nat.add_zero]
  ·rw [if_neg (by simp [hy, h]), if_neg hy]
theorem jB3 (l : List Int) (x : Int) : (jb8 l x).getD (.int .i64 0) = .int .i64 (l.count x : Int) := by
 unfold jb8
 by_cases h : x ∈ l
 ·rw [if_pos h]; rfl
 ·rw [if_neg h, List.count_eq_zero_of_not_mem h]; rfl
theorem zr1 (l : List Int) (x : Int) : (jb8 l x).isSome = decide (x ∈ l) := by
 unfold jb8
 by_cases h : x ∈ l <;> simp [h]
theorem jB4 (l : List Int) (x : Int) : (if (jb8 l x).isSome = true then (names l).length else (names l).length + 1) = (names (l ++ [x])).length := by
 rw [zr1, qo8]
 unfold zG
 by_cases h : x ∈ l
 ·rw [if_pos (by simp [h]), if_pos (qf9.2 h)]
 ·rw [if_neg (by simp [h]), if_neg (fun h2 => h (qf9.1 h2)), List.length_append, List.length_singleton]
theorem zd3 (h : List T4) (i : Nat) : (jV (h.take i)).length ≤ jI h := by
 have e : (jV h).length = jI h := by rw [qC0, List.length_map, qp0]
 rw [← e]
 conv => rhs; rw [← List.take_append_drop i h]
 unfold jV
 rw [List.flatMap_append, List.length_append]
 omega
def jb9 (h : List T4) (S T O K : Int) : Int := if (h.length : Int) > max T 0 ∨ (jI h : Int) > max O 0 ∨ ((names (zT h)).length : Int) > max S 0 ∨ ((names (jV h)).length : Int) > max K 0 then 0 else 1
set_option maxHeartbeats 8000000 in
set_option maxRecDepth 100000 in
theorem jJ5 {A : Option Addr} {cap : Nat} {h : List T4} {S T O K : Int} {w : World} (hcap : h.length ≤ cap) (hc : zY h = 0) (hr : RdT w A h) :
  Calls Try.prog 34 #[.slice A h.length cap, .agg #[.int .i64 S, .int .i64 T, .int .i64 O, .int .i64 K]] w fun e w' => e = .returned (.int .i64 (jb9 h S T O K)) ∧ Below w.heap.size w w' := by
 obtain ⟨n, hn⟩ : ∃ n, h.length = n := ⟨_, rfl⟩
 have hz := qi0 hc
 have hn64 : n ≤ 64 := by rw [← hn]; exact hz.1
 have HN := Lib.hid hn
 have HZ := Lib.hid hz
 have HR := Lib.hid hr
 have HCAP := Lib.hid hcap
 rw [hn]
 have hmm := @run_makeMap Try.prog
 have hx := alloc_at w (.cells #[.int .i64 S, .int .i64 T, .int .i64 O, .int .i64 K] 41)
 have hb0 := (Below.refl w.heap.size w).alloc (Nat.le_refl _) (.cells #[.int .i64 S, .int .i64 T, .int .i64 O, .int .i64 K] 41)
 obtain ⟨W, hW⟩ : ∃ W, w.alloc (.cells #[.int .i64 S, .int .i64 T, .int .i64 O, .int .i64 K] 41) = W := ⟨_, rfl⟩
 rw [hW] at hx hb0
 have qA2 := (IM.made W Try.prog 3).alloc (.map #[] 0)
 have qI0 := IM.made (W.alloc (.map #[] 0)) Try.prog 3
 rw [show (W.alloc (.map #[] 0)).heap.size = W.heap.size + 1 by simp] at qI0
 have hb1 : Below W.heap.size W ((W.alloc (.map #[] 0)).alloc (.map #[] 0)) := ((Below.refl _ _).alloc (Nat.le_refl _) _).alloc (by simp) _
 have HX := Lib.hid hx
 have HB := Lib.hid hb0
 have HB1 := Lib.hid hb1
 have HI1 := Lib.hid qA2
 have HI2 := Lib.hid qI0
 clear hx hb0 qA2 qI0 hb1 hn hz hr hcap hc
 go_enter Try.func34, Try.ntmps34
 go_wp2_with fail
 clear hmm
 obtain ⟨b1, hb1⟩ : ∃ b, W.heap.size = b := ⟨_, rfl⟩
 obtain ⟨W3, hW3⟩ : ∃ W3, (W.alloc (.map #[] 0)).alloc (.map #[] 0) = W3 := ⟨_, rfl⟩
 rw [hb1] at HI1 HI2
 rw [hW3] at HI1 HI2 HB1
 rw [hb1, hW3]
 have HBW := Lib.hid hb1
 clear hb1 hW3 hW
 go_loopw [15] (fun v wr => ∃ i : Nat, i ≤ n ∧ v = .int .i64 ((i : Nat) : Int) ∧ IM Try.prog 3 wr b1 (jb8 (zT (h.take i))) (names (zT (h.take i))).length ∧ IM Try.prog 3 wr (b1 + 1) (jb8 (jV (h.take i))) (names (jV (h.take i))).length ∧ Below W.heap.size W wr) (fun v _ => n - (intOf v).toNat)
 case atStart => exact ⟨0, Nat.zero_le _, rfl, HI1.out, HI2.out, HB1.out⟩
 case round =>
  clear HI1 HI2 HB1
  obtain ⟨i, hi, rfl, qA2, qI0, hb⟩ := hrel
  have HI1 := Lib.hid qA2
  have HI2 := Lib.hid qI0
  have HB2 := Lib.hid hb
  clear qA2 qI0
  by_cases hlt : i < n
  ·have hltz : (i : Int) < (n : Int) := by omega
   obtain ⟨ad, rfl, hch⟩ := HR.out (by rw [HN.out]; omega)
   obtain ⟨t, ht⟩ : ∃ t, h[i]? = some t := ⟨_, List.getElem?_eq_getElem (by rw [HN.out]; exact hlt)⟩
   obtain ⟨A3, c3, y0, y1, y2, y3, hl3, hro⟩ := hch i t ht
   have hbw : Below w.heap.size w wr := HB.out.trans (hb.mono HB.out.size)
   replace y0 := cell_below hbw y0
   replace y1 := cell_below hbw y1
   replace y2 := cell_below hbw y2
   replace y3 := cell_below hbw y3
   obtain ⟨no, hno⟩ : ∃ no, t.ops.length = no := ⟨_, rfl⟩
   rw [hno] at y3 hl3
   have htm : t ∈ h := List.mem_of_getElem? ht
   obtain ⟨a1, a2, _, _, _, zM9, hno2, hop⟩ := (qi5 t).1 (HZ.out.2.2.1 t htm)
   have hno64 : no ≤ 64 := by omega
   have HNO := Lib.hid hno
   have HRO := Lib.hid hro
   have HTK := Lib.hid (show h.take (i + 1) = h.take i ++ [t] by rw [List.take_add_one, ht]; rfl)
   have HWS := Lib.hid (qX8 (x := t.s) (by omega) (by omega))
   have HOP := Lib.hid hop
   have hls : (zT (h.take i)).length ≤ 64 := by unfold zT; rw [List.length_map, List.length_take]; omega
   have hnl := qj5 (zT (h.take i))
   have hct := List.count_le_length (a := t.s) (l := zT (h.take i))
   obtain ⟨ct, zd4⟩ : ∃ c : Nat, (zT (h.take i)).count t.s = c := ⟨_, rfl⟩
   rw [zd4] at hct
   have HCT := Lib.hid zd4
   have HNM := Lib.hid (show (names (zT (h.take i))).length < maxLen from by unfold maxLen; omega)
   have HTX := Lib.hid (alloc_at wr (.cells #[.int .i64 t.s, .int .i64 t.b, .int .i64 t.c, .slice A3 no c3] 55))
   have HLT := Lib.hid (And.intro HI1.out.lt HI2.out.lt)
   clear hch ht hro hop htm hno hb zd4 a1 a2 zM9 hno2 hnl
   go_wp2_with (first
    | (at_lookup; refine zB (HI1.out.alloc _) rfl _ _ 34 3 false rfl Try.underlying34 Try.underlying3 (.int .i64 0) (fun _ => by kernel_rfl) rfl t.s rfl HWS.out (.int .i64 (ct : Int)) (by rw [if_neg (by simp), jB3, HCT.out]) ?_)
    | (at_mapUpdate; refine qf0 (HI1.out.alloc _) rfl _ _ _ 34 3 rfl Try.underlying34 Try.underlying3 HNM.out rfl t.s (.int .i64 ((ct : Int) + 1)) rfl rfl HWS.out ?_; intro w5 qr0 hg5; have jw6 := (hg5.block wr.heap.size (by simp) (by intro e; injection e; have := HLT.out; omega)).trans HTX.out; have z3 := Lib.cell_of_heap jw6 3; simp only [List.getElem?_toArray, List.getElem?_cons_zero, List.getElem?_cons_succ] at z3))
   rw [HCT.out.symm, ← jB2, jB4] at qr0
   have HI5 := Lib.hid (show IM Try.prog 3 w5 b1 (jb8 (zT (h.take (i + 1)))) (names (zT (h.take (i + 1)))).length from by
    rw [HTK.out, show zT (h.take i ++ [t]) = zT (h.take i) ++ [t.s] by simp [zT]]
    exact qr0)
   have HJ5 := Lib.hid ((HI2.out.alloc (.cells #[.int .i64 t.s, .int .i64 t.b, .int .i64 t.c, .slice A3 no c3] 55)).kept hg5 (by simp))
   have HB5 := Lib.hid ((HB2.out.alloc HB2.out.size (.cells #[.int .i64 t.s, .int .i64 t.b, .int .i64 t.c, .slice A3 no c3] 55)).grown hg5 (by have := HB2.out.size; simp; omega) (fun q hq => by cases hq; have := HBW.out; omega))
   clear qr0 hg5 jw6 z3 HI1 HI2 HB2 HTX
   go_loopw [27] (fun v ws => ∃ j : Nat, j ≤ no ∧ v = .int .i64 ((j : Nat) : Int) ∧ IM Try.prog 3 ws b1 (jb8 (zT (h.take (i + 1)))) (names (zT (h.take (i + 1)))).length ∧ IM Try.prog 3 ws (b1 + 1) (jb8 (jV (h.take i) ++ (t.ops.take j).map (·.k))) (names (jV (h.take i) ++ (t.ops.take j).map (·.k))).length ∧ Below W.heap.size W ws) (fun v _ => no - (intOf v).toNat)
   case atStart => exact ⟨0, Nat.zero_le _, rfl, HI5.out, by simpa using HJ5.out, HB5.out⟩
   case round =>
    clear HI5 HJ5 HB5
    obtain ⟨j, hj, rfl, qA2, qI0, hb⟩ := hrel
    have HI1 := Lib.hid qA2
    have HI2 := Lib.hid qI0
    have HB2 := Lib.hid hb
    clear qA2 qI0
    by_cases hjt : j < no
    ·have hjz : (j : Int) < (no : Int) := by omega
     obtain ⟨ao, rfl, hco⟩ := HRO.out (by rw [HNO.out]; omega)
     obtain ⟨o, ho⟩ : ∃ o, t.ops[j]? = some o := ⟨_, List.getElem?_eq_getElem (by rw [HNO.out]; exact hjt)⟩
     obtain ⟨y0, y1, y2⟩ := hco j o ho
     have hbw : Below w.heap.size w wr := HB.out.trans (hb.mono HB.out.size)
     replace y0 := cell_below hbw y0
     replace y1 := cell_below hbw y1
     replace y2 := cell_below hbw y2
     obtain ⟨k1, k2, _, _, _⟩ := (qj9 o).1 (HOP.out o (List.mem_of_getElem? ho))
     have hll : (jV (h.take i) ++ (t.ops.take j).map (·.k)).length ≤ 2000 := by
      have h1 := zd3 h i
      have h2 := HZ.out.2.1
      rw [List.length_append, List.length_map, List.length_take]
      omega
     have HOT := Lib.hid (show t.ops.take (j + 1) = t.ops.take j ++ [o] by rw [List.take_add_one, ho]; rfl)
     have HWK := Lib.hid (qX8 (x := o.k) (by omega) (by omega))
     have hnl := qj5 (jV (h.take i) ++ (t.ops.take j).map (·.k))
     have hct := List.count_le_length (a := o.k) (l := jV (h.take i) ++ (t.ops.take j).map (·.k))
     obtain ⟨ct2, zd4⟩ : ∃ c : Nat, (jV (h.take i) ++ (t.ops.take j).map (·.k)).count o.k = c := ⟨_, rfl⟩
     rw [zd4] at hct
     have hct2 : ct2 ≤ 2000 := Nat.le_trans hct hll
     have HCT2 := Lib.hid zd4
     have HNM2 := Lib.hid (show (names (jV (h.take i) ++ (t.ops.take j).map (·.k))).length < maxLen from by unfold maxLen; omega)
     have HBS := Lib.hid (show W.heap.size ≤ wr.heap.size from hb.size)
     clear hco ho hbw hb k1 k2 hct zd4 hll hnl
     go_wp2_with (first
      | (at_lookup; refine zB (HI2.out.alloc _) rfl _ _ 34 3 false rfl Try.underlying34 Try.underlying3 (.int .i64 0) (fun _ => by kernel_rfl) rfl o.k rfl HWK.out (.int .i64 (ct2 : Int)) (by rw [if_neg (by simp), jB3, HCT2.out]) ?_)
      | (at_mapUpdate; refine qf0 (HI2.out.alloc _) rfl _ _ _ 34 3 rfl Try.underlying34 Try.underlying3 HNM2.out rfl o.k (.int .i64 ((ct2 : Int) + 1)) rfl rfl HWK.out ?_; intro w6 qG6 hg6))
     rw [HCT2.out.symm, ← jB2, jB4] at qG6
     have HI6 := Lib.hid ((HI1.out.alloc (.cells #[.bool o.w, .int .i64 o.k, .int .i64 o.v] 51)).kept hg6 (by simp))
     have HB6 := Lib.hid ((HB2.out.alloc HB2.out.size (.cells #[.bool o.w, .int .i64 o.k, .int .i64 o.v] 51)).grown hg6 (by have := HB2.out.size; simp; omega) (fun q hq => by cases hq; have := HBW.out; omega))
     have HJ6 := Lib.hid qG6
     clear qG6 hg6 HI1 HI2 HB2 y0 y1 y2
     go_wp2_with fail
     go_roundw
     case rel => exact ⟨j + 1, by omega, by go_num, HI6.out, by rw [HOT.out, List.map_append, ← List.append_assoc]; exact HJ6.out, HB6.out⟩
     case measure => (simp [intOf]; try omega)
    ·have hjn : j = no := by omega
     subst hjn
     have HJE := Lib.hid (show IM Try.prog 3 wr (b1 + 1) (jb8 (jV (h.take (i + 1)))) (names (jV (h.take (i + 1)))).length from by
      rw [HTK.out, show jV (h.take i ++ [t]) = jV (h.take i) ++ t.ops.map (·.k) by simp [jV, qk1]]
      have := HI2.out
      rw [List.take_of_length_le (l := t.ops) (i := j) (by rw [HNO.out]; exact Nat.le_refl _)] at this
      exact this)
     clear hb HI2
     go_wp2_with fail
     go_roundw
     case rel => exact ⟨i + 1, by omega, by go_num, HI1.out, HJE.out, HB2.out⟩
     case measure => (simp [intOf]; try omega)
  ·have hin : i = n := by omega
   subst hin
   rw [List.take_of_length_le (by rw [HN.out]; exact Nat.le_refl _)] at HI1 HI2
   have hbx := (HB2.out.block w.heap.size (Array.getElem?_eq_some_iff.1 HX.out).1).trans HX.out
   have x0 := Lib.cell_of_heap hbx 0
   have x1 := Lib.cell_of_heap hbx 1
   have x2 := Lib.cell_of_heap hbx 2
   have x3 := Lib.cell_of_heap hbx 3
   simp only [List.getElem?_toArray, List.getElem?_cons_zero, List.getElem?_cons_succ] at x0 x1 x2 x3
   have z0 := fun dq os => cell_regrown x0 dq os
   have z1 := fun dq os => cell_regrown x1 dq os
   have z2 := fun dq os => cell_regrown x2 dq os
   have z3 := fun dq os => cell_regrown x3 dq os
   have hl1 := fun dq os => (HI1.out.below (below_regrown wr dq os)).len Try.underlying34 3
   have hl2 := fun dq os => (HI2.out.below (below_regrown wr dq os)).len Try.underlying34 3
   have jk6 := Lib.hid (HB.out.trans (HB2.out.mono HB.out.size))
   clear hbx x0 x1 x2 x3 hb HI1 HI2
   go_wp2_with fail
   have HCO := Lib.hid (fun dq os => qO5 A cap h (Go.Sort.grow (redrawn wr dq) os) (HR.out.below (jk6.out.trans ((below_regrown wr dq os).mono jk6.out.size))) HCAP.out (by have := HZ.out.1; omega) (by have := HZ.out.2.1; omega))
   rw [HN.out] at HCO
   obtain ⟨cn, hcn⟩ : ∃ cn : Int, (jI h : Int) = cn := ⟨_, rfl⟩
   obtain ⟨sn, hsn⟩ : ∃ sn : Int, ((names (zT h)).length : Int) = sn := ⟨_, rfl⟩
   obtain ⟨kn, hkn⟩ : ∃ kn : Int, ((names (jV h)).length : Int) = kn := ⟨_, rfl⟩
   have HWF := Lib.hid (show jb9 h S T O K = if (i : Int) > max T 0 ∨ cn > max O 0 ∨ sn > max S 0 ∨ kn > max K 0 then 0 else 1 from by unfold jb9; rw [HN.out, hcn, hsn, hkn])
   rw [hcn] at HCO
   rw [hsn] at hl1
   rw [hkn] at hl2
   clear hcn hsn hkn
   by_cases p1 : (i : Int) > max T 0
   ·refine wp_region_quiet_below (by kernel_rfl) (by kernel_rfl) ?_
    repeat (go_big_quiet_step (fail))
    refine wpQuiet_nil ?_
    intro w9 hw'
    obtain ⟨⟨dq, osq⟩, hw''⟩ := hw'
    have g9 : Below w.heap.size w w9 := hw'' ▸ (jk6.out.trans ((below_regrown wr dq osq).mono jk6.out.size))
    clear hw''
    go_wp2_with fail
    go_ret
    exact ⟨by rw [HWF.out, if_pos (Or.inl p1)]; rfl, g9⟩
   ·by_cases p2 : cn > max O 0
    ·refine wp_region_quiet_below (by kernel_rfl) (by kernel_rfl) ?_
     repeat (go_big_quiet_step ((go_at_call 33; with_reducible exact Calls.regrown_of (HCO.out _ _))))
     refine wpQuiet_nil ?_
     intro w9 hw'
     obtain ⟨⟨dq, osq⟩, hw''⟩ := hw'
     have g9 : Below w.heap.size w w9 := hw'' ▸ (jk6.out.trans ((below_regrown wr dq osq).mono jk6.out.size))
     clear hw''
     go_wp2_with fail
     go_ret
     exact ⟨by rw [HWF.out, if_pos (Or.inr (Or.inl p2))]; rfl, g9⟩
    ·by_cases p3 : sn > max S 0
     ·refine wp_region_quiet_below (by kernel_rfl) (by kernel_rfl) ?_
      repeat (go_big_quiet_step ((go_at_call 33; with_reducible exact Calls.regrown_of (HCO.out _ _))))
      refine wpQuiet_nil ?_
      intro w9 hw'
      obtain ⟨⟨dq, osq⟩, hw''⟩ := hw'
      have g9 : Below w.heap.size w w9 := hw'' ▸ (jk6.out.trans ((below_regrown wr dq osq).mono jk6.out.size))
      clear hw''
      go_wp2_with fail
      go_ret
      exact ⟨by rw [HWF.out, if_pos (Or.inr (Or.inr (Or.inl p3)))]; rfl, g9⟩
     ·by_cases p4 : kn > max K 0
      ·refine wp_region_quiet_below (by kernel_rfl) (by kernel_rfl) ?_
       repeat (go_big_quiet_step ((go_at_call 33; with_reducible exact Calls.regrown_of (HCO.out _ _))))
       refine wpQuiet_nil ?_
       intro w9 hw'
       obtain ⟨⟨dq, osq⟩, hw''⟩ := hw'
       have g9 : Below w.heap.size w w9 := hw'' ▸ (jk6.out.trans ((below_regrown wr dq osq).mono jk6.out.size))
       clear hw''
       go_wp2_with fail
       go_ret
       exact ⟨by rw [HWF.out, if_pos (Or.inr (Or.inr (Or.inr p4)))]; rfl, g9⟩
      ·refine wp_region_quiet_below (by kernel_rfl) (by kernel_rfl) ?_
       repeat (go_big_quiet_step ((go_at_call 33; with_reducible exact Calls.regrown_of (HCO.out _ _))))
       refine wpQuiet_nil ?_
       intro w9 hw'
       obtain ⟨⟨dq, osq⟩, hw''⟩ := hw'
       have g9 : Below w.heap.size w w9 := hw'' ▸ (jk6.out.trans ((below_regrown wr dq osq).mono jk6.out.size))
       clear hw''
       go_wp2_with fail
       go_ret
       exact ⟨by rw [HWF.out, if_neg (by omega)]; rfl, g9⟩
end Go.Proofs.Ytngkneknopenmaa.Enum
end
section
namespace Go.Proofs.Ytngkneknopenmaa.Hist
open Go Go.RowKit Go.Proofs.Ytngkneknopenmaa.qb8 Go.Proofs.Ytngkneknopenmaa.qj8
def zV7 (f : Int → Option Int) (l : List Int) (g : Int → Int) : Prop := (∀ x ∈ l, f x = some (g x)) ∧ WfM f
theorem zV7.inj {f : Int → Option Int} {l : List Int} {g : Int → Int} (h : zV7 f l g) (hw : ∀ x ∈ l, Wf x) (hi : InjM f) : jP2 g l :=
 fun x hx y hy e => hi x y (g x) (hw x hx) (hw y hy) (h.1 x hx) (by rw [h.1 y hy, e])
end Go.Proofs.Ytngkneknopenmaa.Hist
end
section
namespace Go.Proofs.Ytngkneknopenmaa.Hist
set_option linter.unusedSimpArgs false
open Go.jA (pu ta sa sz ss qa7 jn7)
open Go Go.RowKit Go.Proofs.Ytngkneknopenmaa.qb8 Go.Proofs.Ytngkneknopenmaa.qj8
def TC (p : Nat) (adr : Addr) (A3 : Option Addr) (no c3 bK bS bV bR : Nat) (sl : Value) (t : T4) (W : World) : Prop :=
 W.cell? adr = some (.int .i64 t.s) ∧ W.cell? ⟨adr.block, adr.off + 1, none⟩ = some (.int .i64 t.b) ∧ W.cell? ⟨adr.block, adr.off + 2, none⟩ = some (.int .i64 t.c) ∧ W.cell? ⟨adr.block, adr.off + 3, none⟩ = some (.slice A3 no c3) ∧
  W.cell? ⟨p, 0, none⟩ = some (.map (some bK)) ∧ W.cell? ⟨p, 1, none⟩ = some (.map (some bS)) ∧ W.cell? ⟨p, 2, none⟩ = some (.map (some bV)) ∧ W.cell? ⟨p, 3, none⟩ = some (.map (some bR)) ∧ W.cell? ⟨p, 4, none⟩ = some sl
end Go.Proofs.Ytngkneknopenmaa.Hist
end
section
namespace Go.Proofs.Ytngkneknopenmaa.Hist
open Go Go.Lib Go.RowKit Go.Proofs.Ytngkneknopenmaa Go.Proofs.Ytngkneknopenmaa.qb8
attribute [local go_sem high] K.zB3
theorem decO (a b : Bool) (k l v x : Int) : (a == b && (k == l && (v == x))) = decide ((⟨a, k, v⟩ : O3) = ⟨b, l, x⟩) := by
 by_cases h1 : a = b <;> by_cases h2 : k = l <;> by_cases h3 : v = x <;> simp [h1, h2, h3]
theorem zV8 {α : Type} [DecidableEq α] {a b : List α} {i : Nat} {x y : α} (h1 : a[i]? = some x) (h2 : b[i]? = some y) (hne : x ≠ y) : decide (a = b) = false := by
 refine decide_eq_false fun e => hne ?_
 rw [e, h2] at h1
 exact (Option.some.inj h1).symm
set_option maxHeartbeats 8000000 in
set_option maxRecDepth 100000 in
theorem jT9 {A B : Option Addr} {c d : Nat} {a b : List T4} {w : World} (hra : RdT w A a) (hc : a.length ≤ c) (ha : a.length ≤ 1000) (hoa : ∀ t ∈ a, t.ops.length ≤ 100000) (hrb : RdT w B b) (hd : b.length ≤ d) :
  Calls Try.prog 18 #[.slice A a.length c, .slice B b.length d] w fun e w' => e = .returned (.bool (decide (a = b))) ∧ Below w.heap.size w w' := by
 obtain ⟨n, hn⟩ : ∃ n, a.length = n := ⟨_, rfl⟩
 obtain ⟨m, hm⟩ : ∃ n, b.length = n := ⟨_, rfl⟩
 rw [hn] at hc ha ⊢
 rw [hm] at hd ⊢
 have HN := Lib.hid hn
 have HM := Lib.hid hm
 have HA := Lib.hid hra
 have HB := Lib.hid hrb
 have HO := Lib.hid hoa
 clear hra hrb hoa hn hm
 go_enter Try.func18, Try.ntmps18
 by_cases hnm : n = m
 ·subst hnm
  go_wp2_with fail
  go_loopw [17] (fun v wr => ∃ i : Nat, i ≤ n ∧ v = .int .i64 ((i : Nat) : Int) ∧ a.take i = b.take i ∧ Below w.heap.size w wr) (fun v _ => n - (intOf v).toNat)
  case atStart => exact ⟨0, Nat.zero_le _, rfl, rfl, Below.refl _ _⟩
  case round =>
   obtain ⟨i, hi, rfl, htk, hb⟩ := hrel
   have HTK := Lib.hid htk
   clear htk
   by_cases hlt : i < n
   ·have hltz : (i : Int) < (n : Int) := by omega
    obtain ⟨ad, rfl, hca⟩ := HA.out (by rw [HN.out]; omega)
    obtain ⟨bd, rfl, hcb⟩ := HB.out (by rw [HM.out]; omega)
    obtain ⟨t, ht⟩ : ∃ t, a[i]? = some t := ⟨_, List.getElem?_eq_getElem (by rw [HN.out]; exact hlt)⟩
    obtain ⟨u, hu⟩ : ∃ t, b[i]? = some t := ⟨_, List.getElem?_eq_getElem (by rw [HM.out]; exact hlt)⟩
    obtain ⟨A3, c3, y0, y1, y2, y3, hl3, hro⟩ := hca i t ht
    obtain ⟨B3, d3, x0, x1, x2, x3, hm3, hru⟩ := hcb i u hu
    replace y0 := cell_below hb y0
    replace y1 := cell_below hb y1
    replace y2 := cell_below hb y2
    replace y3 := cell_below hb y3
    replace x0 := cell_below hb x0
    replace x1 := cell_below hb x1
    replace x2 := cell_below hb x2
    replace x3 := cell_below hb x3
    have hno := HO.out t (List.mem_of_getElem? ht)
    have HNE := Lib.hid (fun h => zV8 ht hu h)
    have HSN := Lib.hid (show t = u → a.take (i + 1) = b.take (i + 1) by intro e; rw [List.take_add_one, List.take_add_one, ht, hu, HTK.out, e])
    have HRO := Lib.hid hro
    have HRU := Lib.hid hru
    have HBr := Lib.hid hb
    have HB2 := Lib.hid ((hb.alloc hb.size (.cells #[.int .i64 t.s, .int .i64 t.b, .int .i64 t.c, .slice A3 t.ops.length c3] 55)).alloc (by have := hb.size; simp; omega) (.cells #[.int .i64 u.s, .int .i64 u.b, .int .i64 u.c, .slice B3 u.ops.length d3] 55))
    have HX2 := Lib.hid (alloc_at (wr.alloc (.cells #[.int .i64 t.s, .int .i64 t.b, .int .i64 t.c, .slice A3 t.ops.length c3] 55)) (.cells #[.int .i64 u.s, .int .i64 u.b, .int .i64 u.c, .slice B3 u.ops.length d3] 55))
    clear hca hcb ht hu hro hru hb
    obtain ⟨ts, tb, tc, jk5⟩ := t
    obtain ⟨us, ub, uc, jk4⟩ := u
    dsimp only at y0 y1 y2 y3 x0 x1 x2 x3 hl3 hm3 hno HRO HRU HB2 HX2
    obtain ⟨no, hno'⟩ : ∃ q, jk5.length = q := ⟨_, rfl⟩
    obtain ⟨mo, zd5⟩ : ∃ q, jk4.length = q := ⟨_, rfl⟩
    rw [hno'] at y3 hl3 hno HB2 HX2
    rw [zd5] at x3 hm3 HB2 HX2
    have hw1 := (Below.refl wr.heap.size wr).alloc (Nat.le_refl _) (.cells #[.int .i64 ts, .int .i64 tb, .int .i64 tc, .slice A3 no c3] 55)
    replace x0 := cell_below hw1 x0
    replace x1 := cell_below hw1 x1
    replace x2 := cell_below hw1 x2
    replace x3 := cell_below hw1 x3
    clear hw1
    have HNO := Lib.hid hno'
    have HMO := Lib.hid zd5
    clear hno' zd5
    by_cases p1 : ts = us
    ·subst p1
     by_cases p2 : tb = ub
     ·subst p2
      by_cases p3 : tc = uc
      ·subst p3
       by_cases p4 : no = mo
       ·subst p4
        go_wp2_with fail
        have hx2 := HX2.out
        rw [show (wr.alloc (.cells #[.int .i64 ts, .int .i64 tb, .int .i64 tc, .slice A3 no c3] 55)).heap.size = wr.heap.size + 1 by simp] at hx2
        obtain ⟨pu, hpu⟩ : ∃ q, wr.heap.size + 1 = q := ⟨_, rfl⟩
        obtain ⟨W2, hW2⟩ : ∃ W, ((wr.alloc (.cells #[.int .i64 ts, .int .i64 tb, .int .i64 tc, .slice A3 no c3] 55)).alloc (.cells #[.int .i64 ts, .int .i64 tb, .int .i64 tc, .slice B3 no d3] 55)) = W := ⟨_, rfl⟩
        rw [hpu] at hx2 ⊢
        rw [hW2] at HB2 hx2 ⊢
        have HU := Lib.hid hx2
        clear hx2 HX2 hW2 hpu HBr y0 y1 y2 y3 x0 x1 x2 x3
        go_loopw [57] (fun v ws => ∃ j : Nat, j ≤ no ∧ v = .int .i64 ((j : Nat) : Int) ∧ jk5.take j = jk4.take j ∧ Below W2.heap.size W2 ws) (fun v _ => no - (intOf v).toNat)
        case atStart => exact ⟨0, Nat.zero_le _, rfl, rfl, Below.refl _ _⟩
        case round =>
         rename World => ws
         obtain ⟨j, hj, rfl, htj, hb⟩ := hrel
         have HTJ := Lib.hid htj
         clear htj
         have HBs := Lib.hid (HB2.out.trans (hb.mono HB2.out.size))
         by_cases hjt : j < no
         ·have hjz : (j : Int) < (no : Int) := by omega
          obtain ⟨ao, rfl, hco⟩ := HRO.out (by rw [HNO.out]; omega)
          obtain ⟨bo, rfl, hdo⟩ := HRU.out (by rw [HMO.out]; omega)
          obtain ⟨o, ho⟩ : ∃ o, jk5[j]? = some o := ⟨_, List.getElem?_eq_getElem (by rw [HNO.out]; exact hjt)⟩
          obtain ⟨p, hp⟩ : ∃ o, jk4[j]? = some o := ⟨_, List.getElem?_eq_getElem (by rw [HMO.out]; exact hjt)⟩
          obtain ⟨y0, y1, y2⟩ := hco j o ho
          obtain ⟨x0, x1, x2⟩ := hdo j p hp
          replace y0 := cell_below HBs.out y0
          replace y1 := cell_below HBs.out y1
          replace y2 := cell_below HBs.out y2
          have hw1 := HBs.out.alloc HBs.out.size (.cells #[.bool o.w, .int .i64 o.k, .int .i64 o.v] 51)
          have hx4 := ((hb.alloc hb.size (.cells #[.bool o.w, .int .i64 o.k, .int .i64 o.v] 51)).block pu (Array.getElem?_eq_some_iff.1 HU.out).1).trans HU.out
          have x4 := Lib.cell_of_heap hx4 3
          simp only [List.getElem?_toArray, List.getElem?_cons_zero, List.getElem?_cons_succ] at x4
          have z0 := fun dq os => cell_regrown (cell_below hw1 x0) dq os
          have z1 := fun dq os => cell_regrown (cell_below hw1 x1) dq os
          have z2 := fun dq os => cell_regrown (cell_below hw1 x2) dq os
          have z4 := fun dq os => cell_regrown x4 dq os
          have hbo := alloc_at ws (.cells #[.bool o.w, .int .i64 o.k, .int .i64 o.v] 51)
          have b0 := fun dq os => cell_regrown (Lib.cell_of_heap hbo 0) dq os
          have b1 := fun dq os => cell_regrown (Lib.cell_of_heap hbo 1) dq os
          have b2 := fun dq os => cell_regrown (Lib.cell_of_heap hbo 2) dq os
          have HW1 := Lib.hid hw1
          have HWN := Lib.hid ((hb.alloc hb.size (.cells #[.bool o.w, .int .i64 o.k, .int .i64 o.v] 51)))
          have HSJ := Lib.hid (show p = o → jk5.take (j + 1) = jk4.take (j + 1) by intro e; rw [List.take_add_one, List.take_add_one, ho, hp, HTJ.out, e])
          have Qc3 := Lib.hid (show p ≠ o → jk5 ≠ jk4 from fun h e => by rw [e, hp] at ho; exact h (Option.some.inj ho))
          clear hb hco hdo ho hp hw1 hx4 x4 hbo x0 x1 x2
          obtain ⟨ow, ok, ov⟩ := o
          obtain ⟨pw, pk, pv⟩ := p
          dsimp only at y0 y1 y2 z0 z1 z2 b0 b1 b2 HW1 HWN
          obtain ⟨q, hq⟩ : ∃ q, decide ((⟨pw, pk, pv⟩ : O3) = ⟨ow, ok, ov⟩) = q := ⟨_, rfl⟩
          have hqq := (decO pw ow pk ok pv ov).trans hq
          have HQ := Lib.hid hq
          clear hq
          go_upto_region 12 with fail
          cases q with
          | false =>
           have HF := Lib.hid (HNE.out (fun e => Qc3.out (of_decide_eq_false HQ.out) (congrArg T4.ops e)))
           refine wp_region_quiet_below (by kernel_rfl) (by kernel_rfl) ?_
           repeat (go_big_quiet_step (fail))
           refine wpQuiet_nil ?_
           intro w9 hw'
           obtain ⟨⟨dq, osq⟩, hw''⟩ := hw'
           have g9 : Below w.heap.size w w9 := hw'' ▸ (HW1.out.trans ((below_regrown _ dq osq).mono HW1.out.size))
           clear hw''
           go_wp2_with fail
           go_ret
           exact ⟨by rw [HF.out]; rfl, g9⟩
          | true =>
           have HT := Lib.hid (HSJ.out (of_decide_eq_true HQ.out))
           refine wp_region_quiet_below (by kernel_rfl) (by kernel_rfl) ?_
           repeat (go_big_quiet_step (fail))
           refine wpQuiet_nil ?_
           intro w9 hw'
           obtain ⟨⟨dq, osq⟩, hw''⟩ := hw'
           have g9 : Below W2.heap.size W2 w9 := hw'' ▸ (HWN.out.trans ((below_regrown _ dq osq).mono HWN.out.size))
           clear hw''
           go_wp2_with fail
           go_roundw
           case rel => exact ⟨j + 1, by omega, by go_num, HT.out, g9⟩
           case measure => (simp [intOf]; try omega)
         ·have hjn : j = no := by omega
          subst hjn
          have HT := Lib.hid (HSN.out (by
           have := HTJ.out
           rw [List.take_of_length_le (by rw [HNO.out]; exact Nat.le_refl _), List.take_of_length_le (by rw [HMO.out]; exact Nat.le_refl _)] at this
           rw [this]))
          clear hb
          go_wp2_with fail
          go_roundw
          case rel => exact ⟨i + 1, by omega, by go_num, HT.out, HBs.out⟩
          case measure => (simp [intOf]; try omega)
       ·have q4 : ((no : Int) != (mo : Int)) = true := by simp; omega
        have HF := Lib.hid (HNE.out (fun e => p4 (by rw [← HNO.out, ← HMO.out]; exact congrArg (·.ops.length) e)))
        go_wp2_with fail
        go_ret
        exact ⟨by rw [HF.out]; rfl, HB2.out⟩
      ·have q3 : (tc != uc) = true := by simp [p3]
       have HF := Lib.hid (HNE.out (fun e => p3 (congrArg T4.c e)))
       go_wp2_with fail
       go_ret
       exact ⟨by rw [HF.out]; rfl, HB2.out⟩
     ·have q2 : (tb != ub) = true := by simp [p2]
      have HF := Lib.hid (HNE.out (fun e => p2 (congrArg T4.b e)))
      go_wp2_with fail
      go_ret
      exact ⟨by rw [HF.out]; rfl, HB2.out⟩
    ·have q1 : (ts != us) = true := by simp [p1]
     have HF := Lib.hid (HNE.out (fun e => p1 (congrArg T4.s e)))
     go_wp2_with fail
     go_ret
     exact ⟨by rw [HF.out]; rfl, HB2.out⟩
   ·have hin : i = n := by omega
    subst hin
    have hab : a = b := by
     have := HTK.out
     rwa [List.take_of_length_le (by rw [HN.out]; exact Nat.le_refl _), List.take_of_length_le (by rw [HM.out]; exact Nat.le_refl _)] at this
    have HF := Lib.hid (decide_eq_true hab)
    clear hab
    go_wp2_with fail
    go_ret
    exact ⟨by rw [HF.out]; rfl, hb⟩
 ·have hq : ((n : Int) != (m : Int)) = true := by simp; omega
  have HF := Lib.hid (show decide (a = b) = false from decide_eq_false fun e => hnm (by rw [← HN.out, ← HM.out, e]))
  go_wp2_with fail
  go_ret
  exact ⟨by rw [HF.out]; rfl, Below.refl _ _⟩
end Go.Proofs.Ytngkneknopenmaa.Hist
end
