/- strings.Split, token.Number and token.Join at this program, in the form in which the print tells a function: a Lean function, and a contract under a fact on the library's variables. -/
import Derived.Test.YtegeaomemgcciabDoorNumber
import Derived.Test.YtegeaomemgcciabDoorBuilder
import Derived.Test.YtegeaomemgcciabDoorWWords
import Derived.LoopTactic
import Derived.WalkKit
import Derived.Lib.Hide
namespace Go.Proofs.YtegeaomemgcciabDoor.Hand
open Go Go.RowKit Go.Shelf Go.Proofs.YtegeaomemgcciabDoor Plain Go.Proofs.YtegeaomemgcciabDoorW.PrintWords

theorem alloc_at (w : World) (o : Obj) : (w.alloc o).heap[w.heap.size]? = some o := by
  show (w.heap.push o)[w.heap.size]? = some o
  exact Array.getElem?_push_size

def strings_Split.f (a0 a1 : ByteArray) : Option (List ByteArray) :=
  if a0.size < 4294967281 ∧ 1 ≤ a1.size then some (Lib.splitB a1 0 (Lib.countB a0 a1) a0) else none

theorem strings_Split.calls (a0 : ByteArray) (a1 : ByteArray) (r : List ByteArray) (w : World) (h : strings_Split.f a0 a1 = some r) (HY : Laid w) :
    Calls Tryd.prog 30 #[.string a0, .string a1] w fun e w' => ∃ v0_ : Value, e = .returned v0_ ∧ Kd.R Kd.string 9 w' w.heap.size (fun _ => True) v0_ r ∧ Below w.heap.size w w' := by
  unfold strings_Split.f at h
  split at h
  · rename_i hc
    injection h with h
    subst h
    obtain ⟨m, hm⟩ := HY.maxlen
    refine (Tryd.strings_Split a0 a1 m w hc.1 hm hc.2).mono ?_
    rintro e w' ⟨rfl, rfl⟩
    have hl := Lib.splitB_all a1 hc.2 0 _ a0 rfl
    refine ⟨_, rfl, ?_, (Below.refl _ _).alloc (Nat.le_refl _) _⟩
    refine Kd.R_of_own (enc := Value.string) ?_ (fun _ _ => trivial)
    rw [hl]
    have hsz : Lib.countB a0 a1 ≤ a0.size := Lib.countB_le a1 hc.2 a0.size a0 (Nat.le_refl _)
    have hc0 : (encs Value.string (Lib.splitB a1 0 (Lib.countB a0 a1) a0)).length = Lib.countB a0 a1 + 1 := by simp [encs, hl]
    refine ⟨by rw [hc0, Nat.mul_one], .inr ⟨w.heap.size, Lib.countB a0 a1 + 1, _, rfl, Nat.le_refl _, alloc_at _ _, Nat.le_refl _, by unfold maxLen; omega, by simp [hl], ?_⟩⟩
    rw [Nat.mul_one]
    exact List.take_of_length_le (by simp [hl])
  · cases h

/-- token.Number. -/
def token_Number.f (a0 : ByteArray) : Option (Int × Bool) := if a0.size ≤ 281474976710656 then some (numI a0) else none

theorem token_Number.calls (a0 : ByteArray) (r1 : Int) (r2 : Bool) (w : World) (h : token_Number.f a0 = some (r1, r2)) (HY : Laid w) :
    Calls Tryd.prog 31 #[.string a0] w fun e w' => e = .returned (.tuple #[.int .i64 r1, .bool r2]) ∧ Below w.heap.size w w' := by
  unfold token_Number.f at h
  split at h
  · rename_i hc
    injection h with h
    have := number_any a0 hc w HY
    rw [h] at this
    exact this
  · cases h

/-- What stands behind the first word: a blank and a number each. -/
def tailL (l : List Int) : List UInt8 := l.flatMap fun n => 32 :: Lib.itoa n
def inI64 (l : List Int) : Bool := l.all fun n => decide (-9223372036854775808 ≤ n ∧ n ≤ 9223372036854775807)
/-- token.Join. -/
def token_Join.f (a0 : ByteArray) (l1 : List Int) : Option ByteArray :=
  if a0.size + 21 * l1.length ≤ 140737488355328 ∧ inI64 l1 = true then some ⟨(a0.data.toList ++ tailL l1).toArray⟩ else none

theorem inI64_at {l : List Int} (h : inI64 l = true) {k : Nat} (hk : k < l.length) : -9223372036854775808 ≤ l[k] ∧ l[k] ≤ 9223372036854775807 := by
  unfold inI64 at h
  rw [List.all_eq_true] at h
  simpa using h l[k] (List.getElem_mem hk)

theorem tailL_snoc (l : List Int) (k : Nat) (hk : k < l.length) : tailL (l.take (k + 1)) = tailL (l.take k) ++ 32 :: Lib.itoa l[k] := by
  unfold tailL
  rw [List.take_succ_eq_append_getElem hk, List.flatMap_append]
  simp

theorem tailL_length {l : List Int} (h : inI64 l = true) : ∀ k, k ≤ l.length → (tailL (l.take k)).length ≤ 21 * k := by
  intro k
  induction k with
  | zero => intro _; simp [tailL]
  | succ k ih =>
    intro hk
    have hb := inI64_at h (k := k) (by omega)
    have := itoa_length l[k] hb.1 hb.2
    rw [tailL_snoc l k (by omega)]
    have := ih (by omega)
    simp; omega

/-- The builder's cells behind k rounds. -/
def JB (a0 : ByteArray) (l1 : List Int) (k : Nat) : List Value := Lib.byteCells (a0.data.toList ++ tailL (l1.take k))

theorem JB_length (a0 : ByteArray) (l1 : List Int) (h : inI64 l1 = true) (k : Nat) (hk : k ≤ l1.length) : (JB a0 l1 k).length ≤ a0.size + 21 * k := by
  have := tailL_length h k hk
  have h2 : a0.data.toList.length = a0.size := by simp
  rw [JB, Lib.byteCells_length, List.length_append]
  omega

theorem JB_snoc (a0 : ByteArray) (l1 : List Int) (k : Nat) (hk : k < l1.length) : (JB a0 l1 k ++ [.int .u8 32]) ++ Lib.strCells ⟨(Lib.itoa l1[k]).toArray⟩ = JB a0 l1 (k + 1) := by
  unfold JB Lib.strCells Lib.byteCells
  rw [tailL_snoc l1 k hk]
  simp

theorem builder_below {T e : TypeId} {B b : Nat} {p : Value} {bs : List Value} {w w' : World} (h : Lib.BuilderAt T e B b p bs w) (hb : Below w.heap.size w w') : Lib.BuilderAt T e B b p bs w' := by
  have hlt := h.lt
  obtain ⟨hB, v, hbk, hown, hne⟩ := h
  exact ⟨hB, v, (hb.block b hlt).trans hbk, own_move hown (fun k hk => hb.block k (hown.lt k hk).2), hne⟩

set_option maxHeartbeats 400000 in
set_option maxRecDepth 100000 in
theorem token_Join.calls (a0 : ByteArray) (A1 : Option Addr) (c1 : Nat) (l1 : List Int) (r : ByteArray) (w : World) (hr1 : Kd.C (Kd.int .i64) w A1 l1.length l1) (_hc1 : l1.length ≤ c1) (h : token_Join.f a0 l1 = some r) (HY : Laid w) :
    Calls Tryd.prog 29 #[.string a0, .slice A1 l1.length c1] w fun e w' => e = .returned (.string r) ∧ Below w.heap.size w w' := by
  have hm : l1.length ≤ 9223372036854775807 := hr1.2.1
  unfold token_Join.f at h
  split at h
  · rename_i hc
    injection h with h
    obtain ⟨hc2, hin⟩ := hc
    have Hr := Lib.hid h
    clear h
    have HIN := Lib.hid hin
    clear hin
    go_enter Tryd.func29, Tryd.ntmps29
    go_wp2_with fail
    refine (writeString_any w.heap.size w.heap.size [] a0 _ (.inl ⟨Nat.le_refl _, .slice none 0 0, alloc_at _ _, ⟨by simp, .inl ⟨rfl, rfl⟩⟩, by simp [Value.ownBlock]⟩) (by simp; omega) (by simp)).mono ?_
    rintro e w1 ⟨rfl, hb0, hbel⟩
    go_wp2_with fail
    have HB0 : Lib.IsBuilder 71 5 w.heap.size w.heap.size (JB a0 l1 0) w1 := .inr (by simpa [JB, tailL, Lib.strCells, Lib.byteCells] using hb0)
    have HB1 : Below w.heap.size w w1 := ((Below.refl _ w).alloc (Nat.le_refl _) _).trans hbel
    clear hb0 hbel
    go_loopw [7, 12] (fun _ i wr => ∃ k : Nat, k ≤ l1.length ∧ i = .int .i64 k ∧ Lib.IsBuilder 71 5 w.heap.size w.heap.size (JB a0 l1 k) wr ∧ Below w.heap.size w wr) (fun _ i _ => l1.length - (intOf i).toNat)
    case atStart => exact ⟨0, Nat.zero_le _, rfl, HB0, HB1⟩
    case round =>
      obtain ⟨k, hk, rfl, hB, hb⟩ := hrel
      by_cases hlt : k < l1.length
      · have hr := Kd.C_below hr1 hb
        obtain ⟨ad, rfl, hcell⟩ := Kd.at_int hr (k : Int) (by omega) (by omega)
        simp only [Int.toNat_natCast] at hcell
        have hi64 := inI64_at HIN.out hlt
        have hrd : rd l1 (k : Int) = l1[k] := by simp [rd, hlt]
        have hJ := JB_length a0 l1 HIN.out k hk
        have hbd : -9223372036854775808 ≤ rd l1 (k : Int) ∧ rd l1 (k : Int) ≤ 9223372036854775807 := by rw [hrd]; exact hi64
        have hlen := itoa_length _ hbd.1 hbd.2
        have hlo := hbd.1
        have hhi := hbd.2
        have HR := Lib.hid hrd
        clear hrd hi64 hbd
        go_wp2_with fail
        refine (writeByte_any w.heap.size w.heap.size (JB a0 l1 k) 32 _ hB (by omega) hb.size).mono ?_
        rintro e w2 ⟨rfl, hB2, hb2⟩
        have hb3 : Below w.heap.size w w2 := hb.trans hb2
        go_wp2_with fail
        refine (itoa_any (rd l1 (k : Int)) hlo hhi _ (HY.below hb3)).mono ?_
        rintro e w3 ⟨rfl, hb4⟩
        have hB3 := builder_below hB2 hb4
        have hb5 : Below w.heap.size w w3 := hb3.trans (hb4.mono hb3.size)
        go_wp2_with fail
        refine (writeString_any w.heap.size w.heap.size (JB a0 l1 k ++ [.int .u8 32]) ⟨(Lib.itoa (rd l1 (k : Int))).toArray⟩ _ (.inr hB3) (by simp [ByteArray.size]; omega) hb5.size).mono ?_
        rintro e w4 ⟨rfl, hB5, hb6⟩
        go_wp2_with fail
        go_roundw
        case rel => exact ⟨k + 1, by omega, by go_num, .inr (by rw [HR.out, JB_snoc a0 l1 k hlt] at hB5; exact hB5), hb5.trans hb6⟩
        case measure => simp [intOf]; omega
      · have hke : k = l1.length := by omega
        subst hke
        go_wp2_with fail
        refine (Tryd.Builder_String_any w.heap.size w.heap.size _ _ hB hb.size).mono ?_
        rintro e w2 ⟨rfl, hb2⟩
        go_wp2_with fail
        go_ret
        exact ⟨by rw [← Hr.out]; rfl, hb.trans hb2⟩
  · cases h

end Go.Proofs.YtegeaomemgcciabDoor.Hand
