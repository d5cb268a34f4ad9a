/- Texts of this claim, joined by a program of this session: the declarations that its theorem uses. -/
import Derived.Test.YtanofkgnjmegdaaDoorZL6
import Derived.Test.YtanofkgnjmegdaaDoorZL9
import Derived.Test.YtanofkgnjmegdaaDoorZL15
import Derived.LoopTactic
import Derived.WalkKit
import Derived.Lib.Hide
import Derived.OwnWalk
section
namespace Go.Proofs.YtanofkgnjmegdaaDoor.Hand
open Go Go.RowKit Go.Shelf Go.Proofs.YtanofkgnjmegdaaDoor Plain Go.Proofs.YtanofkgnjmegdaaDoorW.PrintWords
theorem alloc_at (w : World) (o : Obj) : (w.alloc o).heap[w.heap.size]? = some o := by
  show (w.heap.push o)[w.heap.size]? = some o
  exact Array.getElem?_push_size
def strings_Split.f (a0 a1 : ByteArray) : Option (List ByteArray) :=
  if a0.size < 4294967281 ∧ 1 ≤ a1.size then some (Lib.splitB a1 0 (Lib.countB a0 a1) a0) else none
theorem strings_Split.calls (a0 : ByteArray) (a1 : ByteArray) (r : List ByteArray) (w : World) (h : strings_Split.f a0 a1 = some r) (HY : Laid w) :
    Calls Tryd.prog 28 #[.string a0, .string a1] w fun e w' => ∃ v0_ : Value, e = .returned v0_ ∧ Kd.R Kd.string 9 w' w.heap.size (fun _ => True) v0_ r ∧ Below w.heap.size w w' := by
  unfold strings_Split.f at h
  split at h
  · rename_i hc
    injection h with h
    subst h
    obtain ⟨m, hm⟩ := HY.maxlen
    refine (Tryd.strings_Split a0 a1 m w hc.1 hm hc.2).mono ?_
    rintro e w' ⟨rfl, rfl⟩
    have hl := Lib.splitB_all a1 hc.2 0 _ a0 rfl
    refine ⟨_, rfl, ?_, (Below.refl _ _).alloc (Nat.le_refl _) _⟩
    refine Kd.R_of_own (enc := Value.string) ?_ (fun _ _ => trivial)
    rw [hl]
    have hsz : Lib.countB a0 a1 ≤ a0.size := Lib.countB_le a1 hc.2 a0.size a0 (Nat.le_refl _)
    have hc0 : (encs Value.string (Lib.splitB a1 0 (Lib.countB a0 a1) a0)).length = Lib.countB a0 a1 + 1 := by simp [encs, hl]
    refine ⟨by rw [hc0, Nat.mul_one], .inr ⟨w.heap.size, Lib.countB a0 a1 + 1, _, rfl, Nat.le_refl _, alloc_at _ _, Nat.le_refl _, by unfold maxLen; omega, by simp [hl], ?_⟩⟩
    rw [Nat.mul_one]
    exact List.take_of_length_le (by simp [hl])
  · cases h
def tailL (l : List Int) : List UInt8 := l.flatMap fun n => 32 :: Lib.itoa n
def inI64 (l : List Int) : Bool := l.all fun n => decide (-9223372036854775808 ≤ n ∧ n ≤ 9223372036854775807)
def token_Join.f (a0 : ByteArray) (l1 : List Int) : Option ByteArray :=
  if a0.size + 21 * l1.length ≤ 140737488355328 ∧ inI64 l1 = true then some ⟨(a0.data.toList ++ tailL l1).toArray⟩ else none
theorem inI64_at {l : List Int} (h : inI64 l = true) {k : Nat} (hk : k < l.length) : -9223372036854775808 ≤ l[k] ∧ l[k] ≤ 9223372036854775807 := by
  unfold inI64 at h
  rw [List.all_eq_true] at h
  simpa using h l[k] (List.getElem_mem hk)
theorem tailL_snoc (l : List Int) (k : Nat) (hk : k < l.length) : tailL (l.take (k + 1)) = tailL (l.take k) ++ 32 :: Lib.itoa l[k] := by
  unfold tailL
  rw [List.take_succ_eq_append_getElem hk, List.flatMap_append]
  simp
theorem tailL_length {l : List Int} (h : inI64 l = true) : ∀ k, k ≤ l.length → (tailL (l.take k)).length ≤ 21 * k := by
  intro k
  induction k with
  | zero => intro _; simp [tailL]
  | succ k ih =>
    intro hk
    have hb := inI64_at h (k := k) (by omega)
    have := itoa_length l[k] hb.1 hb.2
    rw [tailL_snoc l k (by omega)]
    have := ih (by omega)
    simp; omega
def JB (a0 : ByteArray) (l1 : List Int) (k : Nat) : List Value := Lib.byteCells (a0.data.toList ++ tailL (l1.take k))
theorem JB_length (a0 : ByteArray) (l1 : List Int) (h : inI64 l1 = true) (k : Nat) (hk : k ≤ l1.length) : (JB a0 l1 k).length ≤ a0.size + 21 * k := by
  have := tailL_length h k hk
  have h2 : a0.data.toList.length = a0.size := by simp
  rw [JB, Lib.byteCells_length, List.length_append]
  omega
theorem JB_snoc (a0 : ByteArray) (l1 : List Int) (k : Nat) (hk : k < l1.length) : (JB a0 l1 k ++ [.int .u8 32]) ++ Lib.strCells ⟨(Lib.itoa l1[k]).toArray⟩ = JB a0 l1 (k + 1) := by
  unfold JB Lib.strCells Lib.byteCells
  rw [tailL_snoc l1 k hk]
  simp
theorem builder_below {T e : TypeId} {B b : Nat} {p : Value} {bs : List Value} {w w' : World} (h : Lib.BuilderAt T e B b p bs w) (hb : Below w.heap.size w w') : Lib.BuilderAt T e B b p bs w' := by
  have hlt := h.lt
  obtain ⟨hB, v, hbk, hown, hne⟩ := h
  exact ⟨hB, v, (hb.block b hlt).trans hbk, own_move hown (fun k hk => hb.block k (hown.lt k hk).2), hne⟩
set_option maxHeartbeats 400000 in
set_option maxRecDepth 100000 in
theorem token_Join.calls (a0 : ByteArray) (A1 : Option Addr) (c1 : Nat) (l1 : List Int) (r : ByteArray) (w : World) (hr1 : Kd.C (Kd.int .i64) w A1 l1.length l1) (_hc1 : l1.length ≤ c1) (h : token_Join.f a0 l1 = some r) (HY : Laid w) :
    Calls Tryd.prog 37 #[.string a0, .slice A1 l1.length c1] w fun e w' => e = .returned (.string r) ∧ Below w.heap.size w w' := by
  have hm : l1.length ≤ 9223372036854775807 := hr1.2.1
  unfold token_Join.f at h
  split at h
  · rename_i hc
    injection h with h
    obtain ⟨hc2, hin⟩ := hc
    have Hr := Lib.hid h
    clear h
    have HIN := Lib.hid hin
    clear hin
    go_enter Tryd.func37, Tryd.ntmps37
    go_wp2_with fail
    refine (writeString_any w.heap.size w.heap.size [] a0 _ (.inl ⟨Nat.le_refl _, .slice none 0 0, alloc_at _ _, ⟨by simp, .inl ⟨rfl, rfl⟩⟩, by simp [Value.ownBlock]⟩) (by simp; omega) (by simp)).mono ?_
    rintro e w1 ⟨rfl, hb0, hbel⟩
    go_wp2_with fail
    have HB0 : Lib.IsBuilder 57 5 w.heap.size w.heap.size (JB a0 l1 0) w1 := .inr (by simpa [JB, tailL, Lib.strCells, Lib.byteCells] using hb0)
    have HB1 : Below w.heap.size w w1 := ((Below.refl _ w).alloc (Nat.le_refl _) _).trans hbel
    clear hb0 hbel
    go_loopw [7, 12] (fun _ i wr => ∃ k : Nat, k ≤ l1.length ∧ i = .int .i64 k ∧ Lib.IsBuilder 57 5 w.heap.size w.heap.size (JB a0 l1 k) wr ∧ Below w.heap.size w wr) (fun _ i _ => l1.length - (intOf i).toNat)
    case atStart => exact ⟨0, Nat.zero_le _, rfl, HB0, HB1⟩
    case round =>
      obtain ⟨k, hk, rfl, hB, hb⟩ := hrel
      by_cases hlt : k < l1.length
      · have hr := Kd.C_below hr1 hb
        obtain ⟨ad, rfl, hcell⟩ := Kd.at_int hr (k : Int) (by omega) (by omega)
        simp only [Int.toNat_natCast] at hcell
        have hi64 := inI64_at HIN.out hlt
        have hrd : rd l1 (k : Int) = l1[k] := by simp [rd, hlt]
        have hJ := JB_length a0 l1 HIN.out k hk
        have hbd : -9223372036854775808 ≤ rd l1 (k : Int) ∧ rd l1 (k : Int) ≤ 9223372036854775807 := by rw [hrd]; exact hi64
        have hlen := itoa_length _ hbd.1 hbd.2
        have hlo := hbd.1
        have hhi := hbd.2
        have HR := Lib.hid hrd
        clear hrd hi64 hbd
        go_wp2_with fail
        refine (writeByte_any w.heap.size w.heap.size (JB a0 l1 k) 32 _ hB (by omega) hb.size).mono ?_
        rintro e w2 ⟨rfl, hB2, hb2⟩
        have hb3 : Below w.heap.size w w2 := hb.trans hb2
        go_wp2_with fail
        refine (itoa_any (rd l1 (k : Int)) hlo hhi _ (HY.below hb3)).mono ?_
        rintro e w3 ⟨rfl, hb4⟩
        have hB3 := builder_below hB2 hb4
        have hb5 : Below w.heap.size w w3 := hb3.trans (hb4.mono hb3.size)
        go_wp2_with fail
        refine (writeString_any w.heap.size w.heap.size (JB a0 l1 k ++ [.int .u8 32]) ⟨(Lib.itoa (rd l1 (k : Int))).toArray⟩ _ (.inr hB3) (by simp [ByteArray.size]; omega) hb5.size).mono ?_
        rintro e w4 ⟨rfl, hB5, hb6⟩
        go_wp2_with fail
        go_roundw
        case rel => exact ⟨k + 1, by omega, by go_num, .inr (by rw [HR.out, JB_snoc a0 l1 k hlt] at hB5; exact hB5), hb5.trans hb6⟩
        case measure => simp [intOf]; omega
      · have hke : k = l1.length := by omega
        subst hke
        go_wp2_with fail
        refine (Tryd.Builder_String_any w.heap.size w.heap.size _ _ hB hb.size).mono ?_
        rintro e w2 ⟨rfl, hb2⟩
        go_wp2_with fail
        go_ret
        exact ⟨by rw [← Hr.out]; rfl, hb.trans hb2⟩
  · cases h
end Go.Proofs.YtanofkgnjmegdaaDoor.Hand
end
section
namespace Go.Proofs.YtanofkgnjmegdaaDoor.Hand
open Go Go.RowKit Go.Shelf Go.Proofs.YtanofkgnjmegdaaDoor Plain Go.Proofs.YtanofkgnjmegdaaDoorW.PrintWords
theorem iinfo : (Tryd.prog.info? 3).map (fun i => (i.zero, i.size, i.bytes)) = some (some (.int .i64 0), 1, 8) := by kernel_rfl
def blank : ByteArray := ⟨#[32]⟩
def pieces (a0 : ByteArray) : List ByteArray := Lib.splitB blank 0 (Lib.countB a0 blank) a0
def numsOf (l : List ByteArray) : List Int := l.map fun s => (numI s).1
def allNum (l : List ByteArray) : Bool := l.all fun s => (numI s).2
def wordsP (a0 : ByteArray) (a1 : Int) : ByteArray × List Int × Bool :=
  if ((pieces a0).length : Int) = a1 + 1 ∧ allNum (pieces a0).tail = true then ((pieces a0).headD ByteArray.empty, numsOf (pieces a0).tail, true) else (⟨#[]⟩, [], false)
def token_Words.f (a0 : ByteArray) (a1 : Int) : Option (ByteArray × List Int × Bool) :=
  if a0.size ≤ 140737488 ∧ -9223372036854775808 ≤ a1 ∧ a1 ≤ 9223372036854775807 then some (wordsP a0 a1) else none
def WP (w : World) (r : ByteArray × List Int × Bool) (e : Ending) (w' : World) : Prop :=
  ∃ v1_ : Value, e = .returned (.tuple #[.string r.1, v1_, .bool r.2.2]) ∧ Kd.R (Kd.int .i64) 3 w' w.heap.size (fun _ => True) v1_ r.2.1 ∧ Below w.heap.size w w'
theorem split_blank (a0 : ByteArray) (w : World) (hs : a0.size ≤ 140737488) (HY : Laid w) :
    Calls Tryd.prog 28 #[.string a0, .string ⟨#[32]⟩] w fun e w' =>
      e = .returned (.slice (some ⟨w.heap.size, 0, none⟩) (pieces a0).length (pieces a0).length) ∧ w' = w.alloc (.cells ((pieces a0).map Value.string).toArray 9) := by
  obtain ⟨m, hm⟩ := HY.maxlen
  have h1 : 1 ≤ blank.size := by decide
  refine (Tryd.strings_Split a0 blank m w (by omega) hm h1).mono ?_
  rintro e w' ⟨he, hw⟩
  have hl := Lib.splitB_all blank h1 0 _ a0 rfl
  refine ⟨?_, hw⟩
  rw [he]
  unfold pieces
  rw [hl]
theorem pieces_length (a0 : ByteArray) : (pieces a0).length = Lib.countB a0 blank + 1 := Lib.splitB_all blank (by decide) 0 _ a0 rfl
theorem pieces_le (a0 : ByteArray) : (pieces a0).length ≤ a0.size + 1 := by
  rw [pieces_length]
  have := Lib.countB_le blank (by decide) a0.size a0 (Nat.le_refl _)
  omega
set_option maxHeartbeats 400000 in
theorem words_no (a0 : ByteArray) (a1 : Int) (hs : a0.size ≤ 140737488) (h0 : -9223372036854775808 ≤ a1) (h1 : a1 ≤ 9223372036854775807) (hn : ¬ ((pieces a0).length : Int) = a1 + 1) (w : World) (HY : Laid w) :
    Calls Tryd.prog 48 #[.string a0, .int .i64 a1] w (WP w (⟨#[]⟩, [], false)) := by
  have hp := pieces_le a0
  have hpl := pieces_length a0
  have hne : (((pieces a0).length : Int) != wrap64 (a1 + 1)) = true := by
    rw [bne_iff_ne]
    unfold wrap64
    omega
  go_enter Tryd.func48, Tryd.ntmps48
  go_wp2_with fail
  refine (split_blank a0 _ hs HY).mono ?_
  rintro e w1 ⟨rfl, rfl⟩
  go_wp2_with fail
  all_goals go_ret3
  exact ⟨_, rfl, Kd.R_nil _ _ _ _ _, (Below.refl _ _).alloc (Nat.le_refl _) _⟩
theorem alloc_cell (w : World) (cs : Array Value) (t : TypeId) (k : Nat) (v : Value) (h : cs[k]? = some v) : (w.alloc (.cells cs t)).cell? ⟨w.heap.size, k, none⟩ = some v := by
  rw [Lib.cell_of_heap (alloc_at w _)]
  exact h
set_option maxHeartbeats 400000 in
theorem words_zero (a0 : ByteArray) (hs : a0.size ≤ 140737488) (hn : (pieces a0).length = 1) (w : World) (HY : Laid w) :
    Calls Tryd.prog 48 #[.string a0, .int .i64 0] w (WP w ((pieces a0).headD ByteArray.empty, [], true)) := by
  obtain ⟨i0, hi, hz0, hz1, hz2⟩ := info_parts iinfo
  obtain ⟨p, hp⟩ : ∃ p, pieces a0 = [p] := by
    cases h : pieces a0 with
    | nil => rw [h] at hn; simp at hn
    | cons p r => rw [h] at hn; cases r with
      | nil => exact ⟨p, rfl⟩
      | cons q r => simp at hn
  have hc := alloc_cell w ([p].map Value.string).toArray 9 0 (.string p) rfl
  have HP := Lib.hid hp
  clear hp hn
  go_enter Tryd.func48, Tryd.ntmps48
  go_wp2_with fail
  refine (split_blank a0 _ hs HY).mono ?_
  rintro e w1 ⟨rfl, rfl⟩
  rw [HP.out]
  obtain ⟨W, hW⟩ : ∃ W, w.alloc (.cells ([p].map Value.string).toArray 9) = W := ⟨_, rfl⟩
  have hb : Below w.heap.size w W := hW ▸ (Below.refl _ _).alloc (Nat.le_refl _) _
  rw [hW] at hc
  rw [hW]
  clear hW
  go_wp2_with (at_make; refine wpList_make_own _ rfl _ _ 78 rfl w.heap.size 3 i0 (.int .i64 0) 1 Tryd.underlying78 hi hz0 hz1 _ _ _ 0 rfl rfl (by omega) (by rw [hz2]; omega) (by unfold maxLen; omega) hb.size ?_; intro w2 hown2 hgrow2)
  have hb2 : Below w.heap.size w w2 := hb.grown hgrow2 hb.size (fun k h => by cases h)
  have hb3 : Below W.heap.size W w2 := (Below.refl _ _).grown hgrow2 (Nat.le_refl _) (fun k h => by cases h)
  have hlt : w.heap.size < W.heap.size := by
    rcases Nat.lt_or_ge w.heap.size W.heap.size with h | h
    · exact h
    · unfold World.cell? at hc
      simp [Array.getElem?_eq_none h] at hc
  have hc2 : w2.cell? ⟨w.heap.size, 0, none⟩ = some (.string p) := by rw [hb3.cell (p := ⟨w.heap.size, 0, none⟩) hlt]; exact hc
  clear hc
  refine wp_loop_rounds 1 ?_
  rw [rounds_succ]
  go_wp2_with fail
  go_ret3
  refine ⟨.slice (some ⟨W.heap.size, 0, none⟩) 0 0, by rw [HP.out]; rfl, Kd.R_of_own (enc := Value.int .i64) ?_ (fun _ _ => trivial), hb2⟩
  simpa [encs] using hown2
def Rel (qs : List ByteArray) (W : World) (v i : Value) (wr : World) : Prop :=
  ∃ k : Nat, k ≤ qs.length ∧ i = .int .i64 k ∧ allNum (qs.take k) = true ∧ wr.ownsRow W.heap.size 3 1 v k ((numsOf (qs.take k)).map (Value.int .i64)) ∧ Below W.heap.size W wr
def wordsR (p : ByteArray) (qs : List ByteArray) : ByteArray × List Int × Bool := if allNum qs = true then (p, numsOf qs, true) else (⟨#[]⟩, [], false)
theorem allNum_snoc (qs : List ByteArray) (k : Nat) (hk : k < qs.length) : allNum (qs.take (k + 1)) = (allNum (qs.take k) && (numI qs[k]).2) := by
  unfold allNum
  rw [List.take_succ_eq_append_getElem hk, List.all_append]
  simp
theorem numsOf_snoc (qs : List ByteArray) (k : Nat) (hk : k < qs.length) : numsOf (qs.take (k + 1)) = numsOf (qs.take k) ++ [(numI qs[k]).1] := by
  unfold numsOf
  rw [List.take_succ_eq_append_getElem hk, List.map_append]
  simp
theorem allNum_bad {qs : List ByteArray} {k : Nat} (hk : k < qs.length) (h : (numI qs[k]).2 = false) : allNum qs = false := by
  unfold allNum
  rw [Bool.eq_false_iff]
  intro hall
  rw [List.all_eq_true] at hall
  have := hall _ (List.getElem_mem hk)
  simp [h] at this
theorem splitB_size (sep : ByteArray) : ∀ (k : Nat) (s p : ByteArray), p ∈ Lib.splitB sep 0 k s → p.size ≤ s.size
  | 0, s, p, h => by
    rw [Lib.splitB_zero, List.mem_singleton] at h
    rw [h]; exact Nat.le_refl _
  | k + 1, s, p, h => by
    unfold Lib.splitB at h
    split at h
    · rw [List.mem_singleton] at h
      rw [h]; exact Nat.le_refl _
    · rw [List.mem_cons] at h
      rcases h with h | h
      · rw [h, ByteArray.size_extract]; omega
      · have := splitB_size sep k _ p h
        rw [ByteArray.size_extract] at this
        omega
set_option maxHeartbeats 800000 in
set_option maxRecDepth 100000 in
theorem words_yes (a0 : ByteArray) (hs : a0.size ≤ 140737488) (p : ByteArray) (qs : List ByteArray) (hp : pieces a0 = p :: qs) (h1 : 1 ≤ qs.length) (w : World) (HY : Laid w) :
    Calls Tryd.prog 48 #[.string a0, .int .i64 qs.length] w (WP w (wordsR p qs)) := by
  obtain ⟨i0, hi, hz0, hz1, hz2⟩ := info_parts iinfo
  have hle := pieces_le a0
  have hlen : (pieces a0).length = qs.length + 1 := by rw [hp]; rfl
  have hq : qs.length ≤ 140737488 := by omega
  have hsz : ∀ j (h : j < qs.length), (qs[j]).size ≤ 281474976710656 := by
    intro j h
    have := splitB_size blank _ a0 qs[j] (by show qs[j] ∈ pieces a0; rw [hp]; exact List.mem_cons_of_mem _ (List.getElem_mem h))
    omega
  have hc0 := alloc_cell w ((p :: qs).map Value.string).toArray 9 0 (.string p) rfl
  have hcq : ∀ j (h : j < qs.length), (w.alloc (.cells ((p :: qs).map Value.string).toArray 9)).cell? ⟨w.heap.size, 1 + j, none⟩ = some (.string qs[j]) := by
    intro j h
    refine alloc_cell w _ _ _ _ ?_
    rw [Nat.add_comm]
    simp [h]
  have hne : ¬ qs = [] := by intro e; rw [e] at h1; simp at h1
  have hne0 : ¬ qs.length = 0 := by omega
  have HP := Lib.hid hp
  clear hp hle
  go_enter Tryd.func48, Tryd.ntmps48
  go_wp2_with fail
  refine (split_blank a0 _ hs HY).mono ?_
  rintro e w1 ⟨rfl, rfl⟩
  rw [hlen]
  rw [HP.out]
  obtain ⟨W, hW⟩ : ∃ W, w.alloc (.cells ((p :: qs).map Value.string).toArray 9) = W := ⟨_, rfl⟩
  have hb : Below w.heap.size w W := hW ▸ (Below.refl _ _).alloc (Nat.le_refl _) _
  have hWs : w.heap.size < W.heap.size := by rw [← hW]; simp
  rw [hW] at hc0 hcq
  rw [hW]
  clear hW
  have HCQ := Lib.hid hcq
  have HSZ := Lib.hid hsz
  clear hcq hsz hlen
  go_wp2_with (at_make; refine wpList_make_own _ rfl _ _ 78 rfl W.heap.size 3 i0 (.int .i64 0) 1 Tryd.underlying78 hi hz0 hz1 _ _ _ qs.length rfl rfl (by omega) (by rw [hz2]; omega) (by unfold maxLen; omega) (Nat.le_refl _) ?_; intro w2 hown2 hgrow2)
  have hb2 : Below W.heap.size W w2 := (Below.refl _ _).grown hgrow2 (Nat.le_refl _) (fun k h => by cases h)
  go_wp2_with fail
  go_loopw [8, 25] (fun v i wr => Rel qs W v i wr) (fun _ i _ => qs.length - (intOf i).toNat)
  case atStart => exact ⟨0, Nat.zero_le _, rfl, rfl, by simpa [numsOf] using hown2, hb2⟩
  case round =>
    obtain ⟨k, hk, rfl, hall, hown, hb3⟩ := hrel
    have hb4 : Below w.heap.size w wr := hb.trans (hb3.mono hb.size)
    have hst : Hid (allNum (qs.take k) = true) := hall
    clear hall
    by_cases hlt : k < qs.length
    · have hc := (hb3.cell (p := ⟨w.heap.size, 1 + k, none⟩) hWs).trans (HCQ.out k hlt)
      have hnum := number_any qs[k] (HSZ.out k hlt) wr (HY.below hb4)
      obtain ⟨q, hq'⟩ : ∃ q, q = qs[k] := ⟨_, rfl⟩
      obtain ⟨⟨n, ok⟩, hn⟩ : ∃ r, r = numI q := ⟨_, rfl⟩
      rw [← hq'] at hnum hc
      rw [← hn] at hnum
      have HQ := Lib.hid hq'
      have HN := Lib.hid hn
      clear hq' hn
      cases ok with
      | true =>
        go_wp2_with fail
        refine hnum.mono ?_
        rintro e w3 ⟨rfl, hb5⟩
        have hown3 : w3.ownsRow W.heap.size 3 1 _ k _ := own_move hown (fun j hj => hb5.block j (hown.lt j hj).2)
        clear hown
        go_wp2_with (at_builtin; refine wpList_append_own _ rfl _ _ 78 rfl W.heap.size 3 i0 (.int .i64 0) 1 8 Tryd.underlying78 hi hz0 hz1 hz2 rfl (by decide) _ _ _ rfl (hown3.alloc _) ⟨w3.heap.size, 0, none⟩ 1 1 [.int .i64 n] rfl rfl ?c1 ?c2 ?c3 ?c4 ?c5 ?_)
        case c1 =>
          intro j u hj
          match j, hj with
          | 0, hj => simp at hj; subst hj; simp [Addr.add]
        case c2 => intro u hu; simp at hu; subst hu; rfl
        case c3 => unfold maxLen; omega
        case c4 => omega
        case c5 => have := hb3.size; have := hb5.size; simp; omega
        intro v' w4 hown4 hgrow4 _
        have hb6 : Below W.heap.size W w4 := ((hb3.trans (hb5.mono hb3.size)).alloc (by have := hb3.size; have := hb5.size; omega) _).grown hgrow4 (by have := hb3.size; have := hb5.size; simp; omega) (fun j hj => (hown3.lt j hj).1)
        go_wp2_with fail
        go_roundw
        case rel =>
          refine ⟨k + 1, by omega, by go_num, ?_, ?_, hb6⟩
          · rw [allNum_snoc qs k hlt, hst.out, ← HQ.out, ← HN.out]; rfl
          · rw [numsOf_snoc qs k hlt, ← HQ.out, ← HN.out]; simpa using hown4
        case measure => simp [intOf]; omega
      | false =>
        go_wp2_with fail
        refine hnum.mono ?_
        rintro e w3 ⟨rfl, hb5⟩
        go_wp2_with fail
        go_ret3
        have hbad : allNum qs = false := allNum_bad hlt (by rw [← HQ.out, ← HN.out])
        have e : wordsR p qs = (⟨#[]⟩, [], false) := by unfold wordsR; rw [if_neg (by rw [hbad]; simp)]
        refine ⟨.slice none 0 0, by rw [e]; rfl, by rw [e]; exact Kd.R_nil _ _ _ _ _, hb4.trans (hb5.mono hb4.size)⟩
    · have hke : k = qs.length := by omega
      subst hke
      have hc := (hb3.cell (p := ⟨w.heap.size, 0, none⟩) hWs).trans hc0
      go_wp2_with fail
      go_ret3
      have e : wordsR p qs = (p, numsOf qs, true) := by unfold wordsR; rw [if_pos (by have := hst.out; rwa [List.take_length] at this)]
      refine ⟨u8, by rw [e]; rfl, ?_, hb4⟩
      rw [e]
      refine Kd.R_lower (Kd.R_of_own (enc := Value.int .i64) ?_ (fun _ _ => trivial)) hb.size
      rw [List.take_length] at hown
      simpa [encs, numsOf] using hown
theorem token_Words.calls (a0 : ByteArray) (a1 : Int) (r1 : ByteArray) (r2 : List Int) (r3 : Bool) (w : World) (h : token_Words.f a0 a1 = some (r1, r2, r3)) (HY : Laid w) :
    Calls Tryd.prog 48 #[.string a0, .int .i64 a1] w fun e w' => ∃ v1_ : Value, e = .returned (.tuple #[.string r1, v1_, .bool r3]) ∧ Kd.R (Kd.int .i64) 3 w' w.heap.size (fun _ => True) v1_ r2 ∧ Below w.heap.size w w' := by
  unfold token_Words.f at h
  split at h
  · rename_i hc
    injection h with h
    show Calls _ _ _ _ (WP w (r1, r2, r3))
    rw [← h]
    obtain ⟨hs, h0, h1⟩ := hc
    by_cases hn : ((pieces a0).length : Int) = a1 + 1
    · cases hp : pieces a0 with
      | nil => have := pieces_length a0; rw [hp] at this; simp at this
      | cons p qs =>
        have ha : a1 = (qs.length : Int) := by rw [hp] at hn; simp at hn; omega
        have e : wordsP a0 a1 = wordsR p qs := by
          unfold wordsP wordsR
          rw [hp] at hn ⊢
          by_cases hall : allNum qs = true
          · rw [if_pos ⟨hn, hall⟩, if_pos hall]; rfl
          · rw [if_neg (fun h => hall h.2), if_neg hall]
        rw [e, ha]
        cases qs with
        | nil =>
          have := words_zero a0 hs (by rw [hp]; rfl) w HY
          rw [hp] at this
          exact this
        | cons q qs => exact words_yes a0 hs p (q :: qs) hp (by simp) w HY
    · have e : wordsP a0 a1 = (⟨#[]⟩, [], false) := by unfold wordsP; rw [if_neg (fun h => hn h.1)]
      rw [e]
      exact words_no a0 a1 hs h0 h1 hn w HY
  · cases h
end Go.Proofs.YtanofkgnjmegdaaDoor.Hand
end
