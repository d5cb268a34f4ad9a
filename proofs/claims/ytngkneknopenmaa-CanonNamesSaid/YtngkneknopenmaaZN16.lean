/- Texts of this claim, joined by a program of this session: the declarations that its theorem uses. -/
import Derived.Test.YtngkneknopenmaaZN7
import Derived.Test.YtngkneknopenmaaZN13
import Derived.Test.YtngkneknopenmaaZN14
import Derived.Test.YtngkneknopenmaaZN15
import Derived.Lib.Hide
section
namespace Go.Proofs.Ytngkneknopenmaa.Hist
open Go Go.RowKit Go.Proofs.Ytngkneknopenmaa Go.Proofs.Ytngkneknopenmaa.Row3 Go.Proofs.YtngkneknopenmaaW.PrintWords
open Go.Proofs.Ytngkneknopenmaa.K (S55 S51 qab qaj)
theorem take_drop_perm {α : Type} (l : List α) (k : Nat) (h : k < l.length) : (l[k] :: (l.take k ++ l.drop (k + 1))).Perm l := by
 have e : l = l.take k ++ l[k] :: l.drop (k + 1) := by rw [← List.drop_eq_getElem_cons h, List.take_append_drop]
 have p : (l.take k ++ l[k] :: l.drop (k + 1)).Perm (l[k] :: (l.take k ++ l.drop (k + 1))) := List.perm_middle
 exact p.symm.trans (List.Perm.of_eq e.symm)
theorem sorted_end (out left : List T4) (k kk i : Nat) (hi : i = left.length) (hk : kk < left.length) (hm : left.length ≤ 1000000) (hm2 : out.length ≤ 1000000) : T.burgageref22_sorted.l1 (k + 1) (out.map ofT) (left.map ofT) (kk : Int) (i : Int) = T.burgageref22_sorted.l0 k ((out ++ [left[kk]]).map ofT) ((left.take kk ++ left.drop (kk + 1)).map ofT) := by
 have h1 : ¬ ((i : Int) < ((left.map ofT).length : Int)) := by rw [List.length_map]; omega
 have h2 : (0 : Int) ≤ (kk : Int) := by omega
 have h3 : (kk : Int) < ((left.map ofT).length : Int) := by rw [List.length_map]; omega
 have h4 : (out.map ofT).length < 2932031007402 := by rw [List.length_map]; omega
 have h5 : (kk : Int) ≤ ((left.map ofT).length : Int) := by rw [List.length_map]; omega
 have h6 : ([] : List S55).length + ((left.map ofT).take ((kk : Nat) : Int).toNat).length < 2932031007402 := by simp only [List.length_nil, List.length_take, List.length_map]; omega
 have h7 : wrap64 ((kk : Int) + 1) = ((kk + 1 : Nat) : Int) := qa7 (by omega)
 have h8 : (0 : Int) ≤ wrap64 ((kk : Int) + 1) := by rw [h7]; exact Int.natCast_nonneg _
 have h9 : wrap64 ((kk : Int) + 1) ≤ ((left.map ofT).length : Int) := by rw [h7, List.length_map]; exact Int.ofNat_le.2 hk
 have h10 : (([] : List S55) ++ (left.map ofT).take ((kk : Nat) : Int).toNat).length + ((left.map ofT).drop (wrap64 ((kk : Int) + 1)).toNat).length < 2932031007402 := by
  rw [h7]
  simp only [List.nil_append, List.length_take, List.length_drop, List.length_map]
  clear h7 h8 h9
  omega
 rw [T.burgageref22_sorted.l1]
 rw [if_neg h1, if_pos h2, if_pos h3, if_pos h4]
 rw [Option.bind_some]
 rw [if_pos h5]
 rw [Option.bind_some]
 rw [if_pos h6]
 rw [Option.bind_some]
 rw [if_pos h8, if_pos h9]
 rw [Option.bind_some]
 rw [if_pos h10, h7, qbz left kk hk]
 simp only [List.nil_append, List.map_append, List.map_take, List.map_drop, List.map_cons, List.map_nil, Int.toNat_natCast]
theorem sorted_l1 (out left : List T4) (hm : left.length ≤ 1000000) (hm2 : out.length + left.length ≤ 1000000) : ∀ (d kk i : Nat), i + d = left.length → (hk : kk < left.length) → (∀ j, j < i → ∀ h : j < left.length, left[kk].b ≤ left[j].b) → ∃ k2, ∃ h2 : k2 < left.length, (∀ u ∈ left, left[k2].b ≤ u.b) ∧ ∀ r, Ev (fun k => T.burgageref22_sorted.l0 k ((out ++ [left[k2]]).map ofT) ((left.take k2 ++ left.drop (k2 + 1)).map ofT)) r → Ev (fun k => T.burgageref22_sorted.l1 k (out.map ofT) (left.map ofT) (kk : Int) (i : Int)) r := by
 intro d
 induction d with
 | zero =>
  intro kk i hi hk hmin
  have hmin2 : ∀ u ∈ left, left[kk].b ≤ u.b := fun u hu => by
   obtain ⟨j, hj, rfl⟩ := List.mem_iff_getElem.1 hu
   exact hmin j (by omega) hj
  refine ⟨kk, hk, hmin2, fun r hr => ?_⟩
  refine Ev.step (fun k => sorted_end out left k kk i (by omega) hk (by omega) (by omega)) hr
 | succ d ihd =>
  intro kk i hi hk hmin
  have h1 : i < left.length := by omega
  by_cases c : left[i].b < left[kk].b
  ·obtain ⟨k2, h2, hm3, hr⟩ := ihd i (i + 1) (by omega) h1 (fun j hj hjl => by
    by_cases q : j = i
    ·subst q; exact Int.le_refl _
    ·have := hmin j (by omega) hjl; omega)
   refine ⟨k2, h2, hm3, fun r hr2 => Ev.step (fun k => ?_) (hr r hr2)⟩
   simp only [T.burgageref22_sorted.l1]
   rw [if_pos (by rw [List.length_map]; omega), if_pos (by omega), if_pos (by omega), if_pos (by rw [List.length_map]; omega), qbz left i h1, qbz left kk hk, if_pos (show (ofT left[i]).f1 < (ofT left[kk]).f1 from c), qa7 (x := i) (by omega)]
  ·obtain ⟨k2, h2, hm3, hr⟩ := ihd kk (i + 1) (by omega) hk (fun j hj hjl => by
    by_cases q : j = i
    ·subst q; omega
    ·exact hmin j (by omega) hjl)
   refine ⟨k2, h2, hm3, fun r hr2 => Ev.step (fun k => ?_) (hr r hr2)⟩
   simp only [T.burgageref22_sorted.l1]
   rw [if_pos (by rw [List.length_map]; omega), if_pos (by omega), if_pos (by omega), if_pos (by rw [List.length_map]; omega), qbz left i h1, qbz left kk hk, if_neg (show ¬ (ofT left[i]).f1 < (ofT left[kk]).f1 from c), qa7 (x := i) (by omega)]
theorem sorted_l0 : ∀ (n : Nat) (out left : List T4), left.length = n → left.length ≤ 1000000 → out.length + left.length ≤ 1000000 → ∃ r : List T4, r.Perm left ∧ r.Pairwise (fun x y => x.b ≤ y.b) ∧ Ev (fun k => T.burgageref22_sorted.l0 k (out.map ofT) (left.map ofT)) ((out ++ r).map ofT) := by
 intro n
 induction n with
 | zero =>
  intro out left hl _ _
  obtain rfl := List.eq_nil_of_length_eq_zero hl
  refine ⟨[], List.Perm.refl _, List.Pairwise.nil, ?_⟩
  rw [List.append_nil]
  refine Ev.step (f := fun _ => some (out.map ofT)) (fun k => ?_) (Ev.now _)
  simp only [T.burgageref22_sorted.l0]
  rfl
 | succ n ih =>
  intro out left hl hm hm2
  have run := sorted_l1 out left hm hm2 left.length 0 0 (by omega) (by omega) (fun j hj => by omega)
  obtain ⟨k2, h2, hmin, hrun⟩ := run
  have hlen : (left.take k2 ++ left.drop (k2 + 1)).length = n := by simp; omega
  obtain ⟨r, hp, hs, hev⟩ := ih (out ++ [left[k2]]) (left.take k2 ++ left.drop (k2 + 1)) hlen (by omega) (by simp; omega)
  refine ⟨left[k2] :: r, (hp.cons _).trans (take_drop_perm left k2 h2), ?_, ?_⟩
  ·rw [List.pairwise_cons]
   refine ⟨fun u hu => hmin u ?_, hs⟩
   have := hp.mem_iff.1 hu
   rcases List.mem_append.1 this with q | q
   ·exact List.mem_of_mem_take q
   ·exact List.mem_of_mem_drop q
  ·have e : (out ++ [left[k2]]) ++ r = out ++ left[k2] :: r := by simp
   rw [e] at hev
   refine Ev.step (fun k => ?_) (hrun _ hev)
   simp only [T.burgageref22_sorted.l0]
   rw [if_pos (by rw [List.length_map]; omega)]
   rfl
theorem sorted_f {h : List T4} (hm : MayP h) (hl : h.length ≤ 1000000) : Ev (fun k => T.burgageref22_sorted.f k (h.map ofT)) ((qcc h).map ofT) := by
 obtain ⟨r, hp, hs, hev⟩ := sorted_l0 h.length [] h rfl hl (by simp; omega)
 have e : r = qcc h := sorted_unique (hp.trans (qbh h).symm) hs (sortB_sorted h) (fun x hx y hy e => may_begins hm x (hp.mem_iff.1 hx) y (hp.mem_iff.1 hy) e)
 subst e
 unfold T.burgageref22_sorted.f
 refine Ev.congr (fun k => ?_) hev
 simp only [Option.bind_some, List.length_nil, List.nil_append, List.length_map]
 rw [if_pos (by omega)]
 rfl
theorem of_l1 (h l : List T4) (hm : l.length ≤ 1000) (hc : qar l ≤ 100000) (i : Nat) (hi : i < l.length) (out : List S55) (ho : out.length ≤ 1000) (s' b' c' : Int) (r : List S55)
  (hK : Ev (fun k => T.burgageref22_Of.l0 k (h.map ofT) (out ++ [(⟨s', b', c', (l[i].ops.map (canO (names (qa4 l)) (names (qa6 l)))).map ofO⟩ : S55)]) (l.map ofT) (LstI l i l[i] l[i].ops.length 0) (LstI l i l[i] l[i].ops.length 1) (LstI l i l[i] l[i].ops.length 2) ((i + 1 : Nat) : Int)) r) :
  ∀ (d j : Nat), j + d = l[i].ops.length →
   Ev (fun k => T.burgageref22_Of.l1 k (h.map ofT) out (l.map ofT) (LstI l i l[i] j 0) (LstI l i l[i] j 1) (LstI l i l[i] j 2) (i : Int) (j : Int) s' b' c' (((l[i].ops.take j).map (canO (names (qa4 l)) (names (qa6 l)))).map ofO)) r := by
 have hg : l[i]? = some l[i] := List.getElem?_eq_getElem hi
 have hlen : l[i].ops.length ≤ 100000 := Nat.le_trans (le_countT (List.getElem_mem hi)) hc
 intro d
 induction d with
 | zero =>
  intro j hj
  have ej : j = l[i].ops.length := by omega
  subst ej
  refine Ev.step (fun k => ?_) hK
  simp only [T.burgageref22_Of.l1]
  rw [if_pos (by omega), if_pos (by rw [List.length_map]; omega), qbz l i hi]
  rw [show (ofT l[i]).f3 = l[i].ops.map ofO from rfl, if_neg (by rw [List.length_map]; omega), if_pos (by omega), qa7 (x := i) (by omega), List.take_length]
 | succ d ih =>
  intro j hj
  have h1 : j < l[i].ops.length := by omega
  have hgo : l[i].ops[j]? = some l[i].ops[j] := List.getElem?_eq_getElem h1
  have e1 := name_f (LstI l i l[i] j 1) (l[i].ops[j].k) (by have := lstI1_length hg j; omega)
  have ek : ((idxL (LstI l i l[i] j 1) l[i].ops[j].k : Nat) : Int) = (idxL (names (qa4 l)) l[i].ops[j].k : Nat) := by rw [← idx_k hg hgo, idx_self]
  have es : ((l[i].ops.take (j + 1)).map (canO (names (qa4 l)) (names (qa6 l)))).map ofO = ((l[i].ops.take j).map (canO (names (qa4 l)) (names (qa6 l)))).map ofO ++ [ofO (canO (names (qa4 l)) (names (qa6 l)) l[i].ops[j])] := by
   rw [qbn hgo, List.map_append, List.map_append]; rfl
  have hih := ih (j + 1) (by omega)
  rw [es] at hih
  have hlt : (((l[i].ops.take j).map (canO (names (qa4 l)) (names (qa6 l)))).map ofO).length < 5864062014805 := by
   simp only [List.length_map, List.length_take]; omega
  by_cases hv : l[i].ops[j].v = 0
  ·have hL := lst_k0 (l := l) (i := i) hgo hv
   have L0 : LstI l i l[i] j 0 = LstI l i l[i] (j + 1) 0 := by have := congrFun hL 0; simpa using this
   have L1 : qba (LstI l i l[i] j 1) l[i].ops[j].k = LstI l i l[i] (j + 1) 1 := by have := congrFun hL 1; simpa using this
   have L2 : LstI l i l[i] j 2 = LstI l i l[i] (j + 1) 2 := by have := congrFun hL 2; simpa using this
   refine Ev.step (f := fun k => (T.burgageref22_name.f k (LstI l i l[i] j 1) l[i].ops[j].k).bind fun bt => T.burgageref22_Of.l1 k (h.map ofT) out (l.map ofT) (LstI l i l[i] j 0) bt.1 (LstI l i l[i] j 2) (i : Int) ((j + 1 : Nat) : Int) s' b' c' (((l[i].ops.take j).map (canO (names (qa4 l)) (names (qa6 l)))).map ofO ++ [(⟨l[i].ops[j].w, bt.2, l[i].ops[j].v⟩ : S51)])) (fun k => ?_) ?_
   ·simp only [T.burgageref22_Of.l1]
    rw [if_pos (by omega), if_pos (by rw [List.length_map]; omega), qbz l i hi]
    rw [show (ofT l[i]).f3 = l[i].ops.map ofO from rfl, if_pos (by rw [List.length_map]; omega), if_pos (by omega), rdO_at _ j h1, qa7 (x := j) (by omega)]
    congr 1
    funext bt
    rw [if_pos (show (ofO l[i].ops[j]).f2 = 0 from hv), if_pos hlt]
    rfl
   ·refine Ev.bind e1 ?_
    have eo : (⟨l[i].ops[j].w, ((idxL (LstI l i l[i] j 1) l[i].ops[j].k : Nat) : Int), l[i].ops[j].v⟩ : S51) = ofO (canO (names (qa4 l)) (names (qa6 l)) l[i].ops[j]) := by
     rw [ek]; unfold canO ofO; simp [hv]
    show Ev (fun k => T.burgageref22_Of.l1 k _ _ _ (LstI l i l[i] j 0) (qba (LstI l i l[i] j 1) l[i].ops[j].k) (LstI l i l[i] j 2) _ _ _ _ _ (_ ++ [(⟨l[i].ops[j].w, ((idxL (LstI l i l[i] j 1) l[i].ops[j].k : Nat) : Int), l[i].ops[j].v⟩ : S51)])) r
    rw [eo, L0, L1, L2]
    exact hih
  ·have hL := lst_kv (l := l) (i := i) hgo hv
   have L0 : LstI l i l[i] j 0 = LstI l i l[i] (j + 1) 0 := by have := congrFun hL 0; simpa using this
   have L1 : qba (LstI l i l[i] j 1) l[i].ops[j].k = LstI l i l[i] (j + 1) 1 := by have := congrFun hL 1; simpa using this
   have L2 : qba (LstI l i l[i] j 2) l[i].ops[j].v = LstI l i l[i] (j + 1) 2 := by have := congrFun hL 2; simpa using this
   have e2 := name_f (LstI l i l[i] j 2) (l[i].ops[j].v) (by have := lstI2_length hg j; omega)
   have ev : ((idxL (LstI l i l[i] j 2) l[i].ops[j].v : Nat) : Int) = (idxL (names (qa6 l)) l[i].ops[j].v : Nat) := by rw [← idx_v hg hgo hv, idx_self]
   have hidx : idxL (LstI l i l[i] j 2) l[i].ops[j].v ≤ 1000000 := by
    have h1 := lstI2_length hg j
    have h2 : idxL (LstI l i l[i] j 2) l[i].ops[j].v ≤ (LstI l i l[i] j 2).length := List.findIdx_le_length
    omega
   refine Ev.step (f := fun k => (T.burgageref22_name.f k (LstI l i l[i] j 1) l[i].ops[j].k).bind fun bt => (T.burgageref22_name.f k (LstI l i l[i] j 2) l[i].ops[j].v).bind fun bu => T.burgageref22_Of.l1 k (h.map ofT) out (l.map ofT) (LstI l i l[i] j 0) bt.1 bu.1 (i : Int) ((j + 1 : Nat) : Int) s' b' c' (((l[i].ops.take j).map (canO (names (qa4 l)) (names (qa6 l)))).map ofO ++ [(⟨l[i].ops[j].w, bt.2, wrap64 (bu.2 + 1)⟩ : S51)])) (fun k => ?_) ?_
   ·simp only [T.burgageref22_Of.l1]
    rw [if_pos (by omega), if_pos (by rw [List.length_map]; omega), qbz l i hi]
    rw [show (ofT l[i]).f3 = l[i].ops.map ofO from rfl, if_pos (by rw [List.length_map]; omega), if_pos (by omega), rdO_at _ j h1, qa7 (x := j) (by omega)]
    congr 1
    funext bt
    rw [if_neg (show ¬ (ofO l[i].ops[j]).f2 = 0 from hv)]
    congr 1
    funext bu
    rw [if_pos hlt]
    rfl
   ·refine Ev.bind e1 (Ev.bind e2 ?_)
    have eo : (⟨l[i].ops[j].w, ((idxL (LstI l i l[i] j 1) l[i].ops[j].k : Nat) : Int), wrap64 (((idxL (LstI l i l[i] j 2) l[i].ops[j].v : Nat) : Int) + 1)⟩ : S51) = ofO (canO (names (qa4 l)) (names (qa6 l)) l[i].ops[j]) := by
     rw [qa7 (by omega), Int.natCast_add, ek, ev]; unfold canO ofO; simp [hv]; omega
    show Ev (fun k => T.burgageref22_Of.l1 k _ _ _ (LstI l i l[i] j 0) (qba (LstI l i l[i] j 1) l[i].ops[j].k) (qba (LstI l i l[i] j 2) l[i].ops[j].v) _ _ _ _ _ (_ ++ [(⟨l[i].ops[j].w, ((idxL (LstI l i l[i] j 1) l[i].ops[j].k : Nat) : Int), wrap64 (((idxL (LstI l i l[i] j 2) l[i].ops[j].v : Nat) : Int) + 1)⟩ : S51)])) r
    rw [eo, L0, L1, L2]
    exact hih
theorem of_l0 (h l : List T4) (hp : l.length = h.length) (hm : l.length ≤ 1000) (hc : qar l ≤ 100000) : ∀ (d i : Nat), i + d = l.length →
  Ev (fun k => T.burgageref22_Of.l0 k (h.map ofT) (((l.take i).map (canT (names (qbk l)) (names (qa4 l)) (names (qa6 l)) (cntI h))).map ofT) (l.map ofT) (Lst l i 0) (Lst l i 1) (Lst l i 2) (i : Int)) ((canonL (cntI h) l).map ofT) := by
 intro d
 induction d with
 | zero =>
  intro i hi
  refine Ev.step (f := fun _ => some ((canonL (cntI h) l).map ofT)) (fun k => ?_) (Ev.now _)
  simp only [T.burgageref22_Of.l0]
  rw [if_neg (by rw [List.length_map]; omega), List.take_of_length_le (by omega)]
  rfl
 | succ d ih =>
  intro i hi
  have h1 : i < l.length := by omega
  have hg : l[i]? = some l[i] := List.getElem?_eq_getElem h1
  have hL := lst_s hg
  have L0 : qba (Lst l i 0) l[i].s = LstI l i l[i] 0 0 := by have := congrFun hL 0; simpa using this
  have L1 : Lst l i 1 = LstI l i l[i] 0 1 := by have := congrFun hL 1; simpa using this
  have L2 : Lst l i 2 = LstI l i l[i] 0 2 := by have := congrFun hL 2; simpa using this
  have es : ((idxL (Lst l i 0) l[i].s : Nat) : Int) = (idxL (names (qbk l)) l[i].s : Nat) := by rw [← idx_s hg, idx_self]
  have hsl : (Lst l i 0).length ≤ 1000000 := by
   have : (Lst l i 0) = names (qbk (l.take i)) := rfl
   rw [this]
   have h1 := names_length (qbk (l.take i))
   have h2 : (qbk (l.take i)).length ≤ l.length := by unfold qbk; rw [List.length_map, List.length_take]; omega
   omega
  have R1 := rank_f h l[i].b (by omega)
  have R2 := rank_f h l[i].c (by omega)
  have N1 := name_f (Lst l i 0) l[i].s hsl
  have ih2 := ih (i + 1) (by omega)
  rw [← lst_end hg] at ih2
  have et : ((l.take (i + 1)).map (canT (names (qbk l)) (names (qa4 l)) (names (qa6 l)) (cntI h))).map ofT = ((l.take i).map (canT (names (qbk l)) (names (qa4 l)) (names (qa6 l)) (cntI h))).map ofT ++ [ofT (canT (names (qbk l)) (names (qa4 l)) (names (qa6 l)) (cntI h) l[i])] := by
   rw [qbn hg, List.map_append, List.map_append]; rfl
  rw [et] at ih2
  have B := of_l1 h l hm hc i h1 (((l.take i).map (canT (names (qbk l)) (names (qa4 l)) (names (qa6 l)) (cntI h))).map ofT) (by simp only [List.length_map, List.length_take]; omega) (idxL (names (qbk l)) l[i].s : Nat) (cntI h l[i].b) (cntI h l[i].c) _ ih2 l[i].ops.length 0 (by omega)
  refine Ev.step (f := fun k => (T.burgageref22_rank.f k (h.map ofT) l[i].b).bind fun t1 => (T.burgageref22_rank.f k (h.map ofT) l[i].c).bind fun t2 => (T.burgageref22_name.f k (Lst l i 0) l[i].s).bind fun bt => T.burgageref22_Of.l1 k (h.map ofT) (((l.take i).map (canT (names (qbk l)) (names (qa4 l)) (names (qa6 l)) (cntI h))).map ofT) (l.map ofT) bt.1 (Lst l i 1) (Lst l i 2) (i : Int) 0 bt.2 t1 t2 ([] : List S51)) (fun k => ?_) ?_
  ·simp only [T.burgageref22_Of.l0]
   rw [if_pos (by rw [List.length_map]; omega), if_pos (by omega), qbz l i h1]
   rfl
  ·refine Ev.bind R1 (Ev.bind R2 (Ev.bind N1 ?_))
   show Ev (fun k => T.burgageref22_Of.l1 k _ _ _ (qba (Lst l i 0) l[i].s) (Lst l i 1) (Lst l i 2) _ _ ((idxL (Lst l i 0) l[i].s : Nat) : Int) _ _ _) _
   rw [es, L0, L1, L2]
   exact B
theorem refOf_f {h : List T4} (hm : MayP h) (hl : h.length ≤ 1000) (hc : qar h ≤ 100000) : Ev (fun k => T.burgageref22_Of.f k (h.map ofT)) ((qbg h).map ofT) := by
 unfold T.burgageref22_Of.f
 refine Ev.bind (sorted_f hm (by omega)) ?_
 have e1 : (qcc h).length = h.length := (qbh h).length_eq
 have := of_l0 h (qcc h) e1 (by omega) (by rw [count_perm (qbh h)]; exact hc) (qcc h).length 0 (by omega)
 exact this
end Go.Proofs.Ytngkneknopenmaa.Hist
end
section
namespace Go.Proofs.Ytngkneknopenmaa.Hist
open Go Go.RowKit Go.Proofs.Ytngkneknopenmaa Go.Proofs.Ytngkneknopenmaa.Row3 Go.Proofs.Ytngkneknopenmaa.K Go.Proofs.YtngkneknopenmaaW.PrintWords
theorem cell_in {w : World} {g : Nat} {cs : Array Value} {t : TypeId} {fr : Nat × Nat} (h : w.heap[g]? = some (.cells cs t fr)) (i : Nat) : w.cell? ⟨g, i, none⟩ = cs[i]? := by simp [World.cell?, h]
theorem lit_read (w : World) (o : O3) (s b c : Int) : RdT ((w.alloc (.cells #[.bool o.w, .int .i64 o.k, .int .i64 o.v] 51)).alloc (.cells #[.int .i64 s, .int .i64 b, .int .i64 c, .slice (some ⟨w.heap.size, 0, none⟩) 1 1] 55)) (some ⟨w.heap.size + 1, 0, none⟩) [⟨s, b, c, [o]⟩] := by
 intro _
 generalize hA : (Obj.cells #[.bool o.w, .int .i64 o.k, .int .i64 o.v] 51) = oa
 generalize hB : (Obj.cells #[.int .i64 s, .int .i64 b, .int .i64 c, .slice (some ⟨w.heap.size, 0, none⟩) 1 1] 55) = ob
 have e : ((w.alloc oa).alloc ob).heap = (w.heap.push oa).push ob := rfl
 have h0 : ((w.alloc oa).alloc ob).heap[w.heap.size]? = some oa := by rw [e, Array.getElem?_push, if_neg (by simp), Array.getElem?_push, if_pos rfl]
 have h1 : ((w.alloc oa).alloc ob).heap[w.heap.size + 1]? = some ob := by rw [e, Array.getElem?_push, if_pos (by simp)]
 subst hA hB
 have c0 := fun i => cell_in h0 i
 have c1 := fun i => cell_in h1 i
 refine ⟨_, rfl, fun i t ht => ?_⟩
 cases i with
 | succ i => simp at ht
 | zero =>
  simp at ht
  subst ht
  refine ⟨some ⟨w.heap.size, 0, none⟩, 1, (c1 0), (c1 1), (c1 2), (c1 3), Nat.le_refl _, fun _ => ⟨_, rfl, fun j x hx => ?_⟩⟩
  cases j with
  | succ j => simp at hx
  | zero =>
   simp at hx
   subst hx
   exact ⟨c0 0, c0 1, c0 2⟩
def one1 : List T4 := [⟨9, 5, 8, [⟨true, 3, 7⟩]⟩]
def one2 : List T4 := [⟨0, 0, 1, [⟨true, 0, 1⟩]⟩]
theorem lit_C {w w' : World} {ad : Option Addr} {t : T4} (h : RdT w ad [t]) (hb : Below w.heap.size w w') (hl : t.ops.length ≤ 1) : Kd.C k55 w' ad ([t].map ofT).length ([t].map ofT) := by
 rw [List.length_map]
 exact C_of_RdT (h.below hb) (by simp) (fun u hu => by simp at hu; subst hu; omega)
theorem len1 : (one1.map ofT).length = 1 := rfl
theorem len2 : (one2.map ofT).length = 1 := rfl
theorem sp_of (A : Option Addr) (w : World) (h : Kd.C k55 w A 1 (one1.map ofT)) : Calls Try.prog 13 #[.slice A 1 1] w fun e w' => ∃ (A' : Option Addr) (c : Nat), e = .returned (.slice A' 1 c) ∧ (1 ≤ c ∧ Kd.C k55 w' A' 1 (one2.map ofT)) ∧ Below w.heap.size w w' := by
 have F : Give.canon_Of.f 0 (one1.map ofT) = some (one2.map ofT) := by kernel_rfl
 have := Give.canon_Of.calls 0 A 1 (one1.map ofT) _ w (by rw [len1]; exact h) (by rw [len1]; exact Nat.le_refl _) F
 rw [len1] at this
 refine this.mono ?_
 rintro e w' ⟨v, rfl, hS, hb⟩
 obtain ⟨A', c, rfl⟩ := Kd.S_slice hS
 have k := Kd.S_reads' hS
 rw [len2] at k
 exact ⟨A', c, by rw [len2], ⟨k.2.1, k.2.2⟩, hb⟩
theorem sp_same (A A' : Option Addr) (c : Nat) (w : World) (hc : 1 ≤ c) (h : Kd.C k55 w A 1 (one2.map ofT)) (h' : Kd.C k55 w A' 1 (one2.map ofT)) : Calls Try.prog 18 #[.slice A 1 c, .slice A' 1 1] w fun e w' => e = .returned (.bool true) ∧ Below w.heap.size w w' := by
 have F : T.history_Same.f 10 (one2.map ofT) (one2.map ofT) = some true := by kernel_rfl
 have := T.history_Same.calls 10 A c (one2.map ofT) A' 1 (one2.map ofT) _ w (by rw [len2]; exact h) (by rw [len2]; exact hc) (by rw [len2]; exact h') (by rw [len2]; exact Nat.le_refl _) F
 rw [len2] at this
 exact this
theorem sp_is1 (A : Option Addr) (w : World) (h : Kd.C k55 w A 1 (one1.map ofT)) : Calls Try.prog 15 #[.slice A 1 1] w fun e w' => e = .returned (.bool false) ∧ Below w.heap.size w w' := by
 have F : T.canon_Is.f 10 (one1.map ofT) = some false := by kernel_rfl
 have := T.canon_Is.calls 10 A 1 (one1.map ofT) _ w (by rw [len1]; exact h) (by rw [len1]; exact Nat.le_refl _) F
 rw [len1] at this
 exact this
theorem sp_is2 (A : Option Addr) (w : World) (h : Kd.C k55 w A 1 (one2.map ofT)) : Calls Try.prog 15 #[.slice A 1 1] w fun e w' => e = .returned (.bool true) ∧ Below w.heap.size w w' := by
 have F : T.canon_Is.f 10 (one2.map ofT) = some true := by kernel_rfl
 have := T.canon_Is.calls 10 A 1 (one2.map ofT) _ w (by rw [len2]; exact h) (by rw [len2]; exact Nat.le_refl _) F
 rw [len2] at this
 exact this
theorem sp_two (A A' : Option Addr) (w : World) (h : Kd.C k55 w A 1 (one1.map ofT)) (h' : Kd.C k55 w A' 1 (one2.map ofT)) : Calls Try.prog 16 #[.slice A 1 1, .slice A' 1 1] w fun e w' => e = .returned (.bool true) ∧ Below w.heap.size w w' := by
 have F : T.canon_Same.f 10 (one1.map ofT) (one2.map ofT) = some true := by kernel_rfl
 have := T.canon_Same.calls 10 A 1 (one1.map ofT) A' 1 (one2.map ofT) _ w (by rw [len1]; exact h) (by rw [len1]; exact Nat.le_refl _) (by rw [len2]; exact h') (by rw [len2]; exact Nat.le_refl _) F
 rw [len1, len2] at this
 exact this
set_option maxHeartbeats 1000000 in
set_option maxRecDepth 100000 in
theorem speaks_calls (w : World) : Calls Try.prog 11 #[] w fun e w' => e = .returned (.bool true) ∧ Below w.heap.size w w' := by
 go_enter Try.func11, Try.ntmps11
 go_wp2_with (first
  | (go_at_call 27; (with_reducible refine (op_Write.calls 3 7 _ _ _ _ rfl).mono ?_); rintro e wa ⟨rfl, hba⟩)
  | (go_at_call 27; (with_reducible refine (op_Write.calls 0 1 _ _ _ _ rfl).mono ?_); rintro e w1 ⟨rfl, hb⟩))
 have L1 := lit_read wa ⟨true, 3, 7⟩ 9 5 8
 have L2 := lit_read w1 ⟨true, 0, 1⟩ 0 0 1
 dsimp only at L1 L2
 have B1 : Below w.heap.size w ((wa.alloc (.cells #[.bool true, .int .i64 3, .int .i64 7] 51)).alloc (.cells #[.int .i64 9, .int .i64 5, .int .i64 8, .slice (some ⟨wa.heap.size, 0, none⟩) 1 1] 55)) := (hba.alloc hba.size _).alloc (by have := hba.size; simp; omega) _
 have B2 := (B1.trans (hb.mono B1.size))
 have hb3 := ((Below.refl w1.heap.size w1).alloc (Nat.le_refl _) (.cells #[.bool true, .int .i64 0, .int .i64 1] 51)).alloc (by simp) (.cells #[.int .i64 0, .int .i64 0, .int .i64 1, .slice (some ⟨w1.heap.size, 0, none⟩) 1 1] 55)
 have B3 := B2.trans (hb3.mono B2.size)
 have C1 := Lib.hid (show Kd.C k55 _ _ 1 (one1.map ofT) from lit_C L1 (hb.trans (hb3.mono hb.size)) (by simp))
 have C2 := Lib.hid (show Kd.C k55 _ _ 1 (one2.map ofT) from lit_C L2 (Below.refl _ _) (by simp))
 have HB := Lib.hid B3
 clear L1 L2 B1 B2 B3 hb hb3 hba
 generalize hW : (w1.alloc (.cells #[.bool true, .int .i64 0, .int .i64 1] 51)).alloc (.cells #[.int .i64 0, .int .i64 0, .int .i64 1, .slice (some ⟨w1.heap.size, 0, none⟩) 1 1] 55) = W at *
 clear hW
 with_reducible refine (sp_of _ _ C1.out).mono ?_
 rintro e w2 ⟨A, c, rfl, hS, hb2⟩
 have k1 := Lib.hid (Kd.C_below C1.out hb2)
 have k2 := Lib.hid (Kd.C_below C2.out hb2)
 have HS := Lib.hid hS
 have HB2 := Lib.hid (HB.out.trans (hb2.mono HB.out.size))
 clear hS hb2 HB C1 C2
 go_wp2_with (first
  | (go_at_call 18; (with_reducible refine (sp_same _ _ _ _ HS.out.1 HS.out.2 k2.out).mono ?_); rintro e w3 ⟨rfl, hb3⟩; have k13 := Lib.hid (Kd.C_below k1.out hb3); have k23 := Lib.hid (Kd.C_below k2.out hb3); have HB3 := Lib.hid (HB2.out.trans (hb3.mono HB2.out.size)); clear hb3)
  | (go_at_call 15; (with_reducible refine (sp_is1 _ _ k13.out).mono ?_); rintro e w4 ⟨rfl, hb4⟩; have k14 := Lib.hid (Kd.C_below k13.out hb4); have k24 := Lib.hid (Kd.C_below k23.out hb4); have HB4 := Lib.hid (HB3.out.trans (hb4.mono HB3.out.size)); clear hb4)
  | (go_at_call 15; (with_reducible refine (sp_is2 _ _ k24.out).mono ?_); rintro e w5 ⟨rfl, hb5⟩; have k15 := Lib.hid (Kd.C_below k14.out hb5); have k25 := Lib.hid (Kd.C_below k24.out hb5); have HB5 := Lib.hid (HB4.out.trans (hb5.mono HB4.out.size)); clear hb5)
  | (go_at_call 16; (with_reducible refine (sp_two _ _ _ k15.out k25.out).mono ?_); rintro e w6 ⟨rfl, hb6⟩))
 go_ret
 exact ⟨rfl, HB5.out.trans (hb6.mono HB5.out.size)⟩
end Go.Proofs.Ytngkneknopenmaa.Hist
namespace Go.Proofs.Ytngkneknopenmaa.Give
open Go Go.RowKit Go.Proofs.Ytngkneknopenmaa Go.Proofs.Ytngkneknopenmaa.K
def burgagelaw22_speaks.f (_ : Nat) : Option Bool := some true
theorem burgagelaw22_speaks.mono : ∀ k, Go.Proofs.YtngkneknopenmaaW.PrintWords.LeO (burgagelaw22_speaks.f k) (burgagelaw22_speaks.f (k + 1)) := fun _ => Go.Proofs.YtngkneknopenmaaW.PrintWords.LeO.refl _
end Go.Proofs.Ytngkneknopenmaa.Give
end
section
namespace Go.Proofs.Ytngkneknopenmaa.Hist
open Go Go.RowKit Go.Proofs.Ytngkneknopenmaa Go.Proofs.Ytngkneknopenmaa.Row3 Go.Proofs.YtngkneknopenmaaW.PrintWords
open Go.Proofs.Ytngkneknopenmaa.K (S55 S51 qab qaj k55 k55_heap)
def CT (w : World) (A : Option Addr) (h : List T4) : Prop := Kd.C k55 w A h.length (h.map ofT)
theorem CT.below {w w' : World} {A : Option Addr} {h : List T4} (k : CT w A h) (hb : Below w.heap.size w w') : CT w' A h := Kd.C_below k hb
theorem CT.len {w : World} {A : Option Addr} {h : List T4} (k : CT w A h) : Kd.C k55 w A (h.map ofT).length (h.map ofT) := by rw [List.length_map]; exact k
def Sm (h : List T4) : Prop := h.length ≤ 1000 ∧ qar h ≤ 100000
theorem Sm.small {h : List T4} (s : Sm h) : Give.Small (h.map ofT) = true := by
 unfold Give.Small
 rw [toT_ofT_map, List.length_map]
 have := s.1
 have := s.2
 simp
 omega
theorem Sm.of {h : List T4} (s : Sm h) : Sm (Give.ofF h) := by
 unfold Give.ofF
 split
 ·exact ⟨by rw [canonF_length]; exact s.1, by rw [canonF_count]; exact s.2⟩
 ·exact ⟨by simp, by simp [qar]⟩
def sameF (a b : List T4) : Bool := if qa3 a = 0 then (if qa3 b = 0 then decide (Give.ofF a = Give.ofF b) else false) else false
theorem giveCheck {h : List T4} (s : Sm h) (k : Nat) : Give.history_Check.f k (h.map ofT) = some (qa3 h) := by
 unfold Give.history_Check.f
 rw [if_pos s.small, toT_ofT_map]
theorem giveOf {h : List T4} (s : Sm h) (k : Nat) : Give.canon_Of.f k (h.map ofT) = some ((Give.ofF h).map ofT) := by
 unfold Give.canon_Of.f
 rw [if_pos s.small, toT_ofT_map]
theorem same2_f {a b : List T4} (s : Sm a) (t : Sm b) : Ev (fun k => T.canon_Same.f k (a.map ofT) (b.map ofT)) (sameF a b) := by
 have e := same_f (Give.ofF a) (Give.ofF b) (by have := s.of.1; omega) (by have := s.of.2; omega)
 obtain ⟨K, hK⟩ := e
 refine ⟨K, fun k hk => ?_⟩
 replace hK := hK k hk
 unfold T.canon_Same.f sameF
 dsimp only at hK ⊢
 rw [giveCheck s, Option.bind_some]
 by_cases c : qa3 a = 0
 ·rw [if_pos c, if_pos c, giveCheck t, Option.bind_some]
  by_cases d : qa3 b = 0
  ·rw [if_pos d, if_pos d, giveOf s, Option.bind_some, giveOf t, Option.bind_some, hK, Option.bind_some]
  ·rw [if_neg d, if_neg d]
 ·rw [if_neg c, if_neg c]
variable {A B : Option Addr} {c d : Nat} {a b h : List T4} {w : World}
theorem of_c (k : CT w A h) (hc : h.length ≤ c) (s : Sm h) :
  Calls Try.prog 13 #[.slice A h.length c] w fun e w' => ∃ (A' : Option Addr) (c' : Nat), e = .returned (.slice A' (Give.ofF h).length c') ∧ ((Give.ofF h).length ≤ c' ∧ CT w' A' (Give.ofF h)) ∧ Below w.heap.size w w' := by
 have := Give.canon_Of.calls 0 A c (h.map ofT) _ w k.len (by rw [List.length_map]; exact hc) (giveOf s 0)
 rw [List.length_map] at this
 refine this.mono ?_
 rintro e w' ⟨v, rfl, hS, hb⟩
 obtain ⟨A', c', rfl⟩ := Kd.S_slice hS
 have q := Kd.S_reads' hS
 rw [List.length_map] at q ⊢
 exact ⟨A', c', rfl, ⟨q.2.1, q.2.2⟩, hb⟩
theorem same2_c (k : CT w A a) (hc : a.length ≤ c) (s : Sm a) (k2 : CT w B b) (hd : b.length ≤ d) (t : Sm b) :
  Calls Try.prog 16 #[.slice A a.length c, .slice B b.length d] w fun e w' => e = .returned (.bool (sameF a b)) ∧ Below w.heap.size w w' := by
 obtain ⟨n, hn⟩ := (same2_f s t).rounds
 have := T.canon_Same.calls n A c (a.map ofT) B d (b.map ofT) _ w k.len (by rw [List.length_map]; exact hc) k2.len (by rw [List.length_map]; exact hd) hn
 rw [List.length_map, List.length_map] at this
 exact this
theorem eq_c (k : CT w A a) (hc : a.length ≤ c) (s : Sm a) (k2 : CT w B b) (hd : b.length ≤ d) :
  Calls Try.prog 18 #[.slice A a.length c, .slice B b.length d] w fun e w' => e = .returned (.bool (decide (a = b))) ∧ Below w.heap.size w w' := by
 obtain ⟨n, hn⟩ := (same_f a b (by have := s.1; omega) (by have := s.2; omega)).rounds
 have := T.history_Same.calls n A c (a.map ofT) B d (b.map ofT) _ w k.len (by rw [List.length_map]; exact hc) k2.len (by rw [List.length_map]; exact hd) hn
 rw [List.length_map, List.length_map] at this
 exact this
theorem refOf_c (k : CT w A h) (hc : h.length ≤ c) (s : Sm h) (hm : MayP h) :
  Calls Try.prog 17 #[.slice A h.length c] w fun e w' => ∃ (A' : Option Addr) (c' : Nat), e = .returned (.slice A' (qbg h).length c') ∧ ((qbg h).length ≤ c' ∧ CT w' A' (qbg h)) ∧ Below w.heap.size w w' := by
 obtain ⟨n, hn⟩ := (refOf_f hm s.1 s.2).rounds
 have := T.burgageref22_Of.calls n (fun k => k < w.heap.size) A c (h.map ofT) _ w (Kd.V_mk (by rw [List.length_map]; exact hc) (Kd.C_F k55_heap k.len)) hn
 rw [List.length_map] at this
 refine this.mono ?_
 rintro e w' ⟨v, rfl, hS, hb⟩
 obtain ⟨A', c', rfl⟩ := Kd.N_slice hS
 have q := Kd.N_reads' hS
 rw [List.length_map] at q ⊢
 exact ⟨A', c', rfl, ⟨q.2.1, q.2.2⟩, hb⟩
end Go.Proofs.Ytngkneknopenmaa.Hist
end
