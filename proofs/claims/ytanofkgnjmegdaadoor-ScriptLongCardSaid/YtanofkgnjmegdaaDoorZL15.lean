/- Texts of this claim, joined by a program of this session: the declarations that its theorem uses. -/
import Derived.Test.YtanofkgnjmegdaaDoorZL0
import Derived.Test.YtanofkgnjmegdaaDoorZL13
import Derived.Test.YtanofkgnjmegdaaDoorZL14
import Derived.Lib.SmallJoins
import Derived.Lib.AppendIntMem
import Derived.WalkKit
import Derived.Lib.Hide
section
namespace Go.Proofs.YtanofkgnjmegdaaDoor
open Go Go.RowKit Go.Shelf Plain
def numI (s : ByteArray) : Int × Bool := match numP s.data.toList with | some n => ((n : Int), true) | none => (0, false)
theorem itoa_any (n : Int) (h0 : -9223372036854775808 ≤ n) (h1 : n ≤ 9223372036854775807) (w : World) (HY : Laid w) :
    Calls Tryd.prog 53 #[.int .i64 n] w fun e w' => e = .returned (.string ⟨(Lib.itoa n).toArray⟩) ∧ Below w.heap.size w w' :=
  (Tryd.strconv_Itoa n h0 h1 w HY.tab).mono fun _ _ ⟨he, k, os, hw⟩ => ⟨he, hw ▸ Lib.below_grow _ _ (Nat.le_refl _) k os⟩
theorem atoi_ok (s : ByteArray) (hs : s.size ≤ 281474976710656) (v : Int) (h : Lib.atoiAll s.data.toList = .ok v) (w : World) :
    Calls Tryd.prog 68 #[.string s] w fun e w' => e = .returned (.tuple #[.int .i64 v, .nilIface]) ∧ Below w.heap.size w w' :=
  (Tryd.strconv_Atoi_ok s (by omega) v h w).mono fun _ _ ⟨he, hw⟩ => ⟨he, by
    rcases hw with rfl | ⟨t, rfl⟩
    · exact Below.refl _ _
    · exact Joins.below_bytesWorld _ _ _ _ (Nat.le_refl _)⟩
def Fails (w : World) (e : Ending) (w' : World) : Prop := ∃ (n : Int) (N : Nat), e = .returned (.tuple #[.int .i64 n, .iface 136 (.pointer (some ⟨N, 0, none⟩))]) ∧ Below w.heap.size w w'
theorem atoi_bad (s : ByteArray) (hs : s.size ≤ 281474976710656) (h : ∀ v, Lib.atoiAll s.data.toList ≠ .ok v) (w : World) (HY : Laid w) :
    Calls Tryd.prog 68 #[.string s] w (Fails w) := by
  rcases hh : Lib.atoiAll s.data.toList with v | _ | _
  · exact absurd hh (h v)
  · obtain ⟨tp, p, hv⟩ := HY.syn
    exact (Any.strconv_Atoi_syntax_var Tryd.laysC172 s hs hh tp p w hv).mono fun _ _ ⟨N, he, _, _, hb⟩ => ⟨0, N, he, hb⟩
  · obtain ⟨tp, p, hv⟩ := HY.rng
    exact (Any.strconv_Atoi_range_var Tryd.laysC172 s hs hh tp p w hv).mono fun _ _ ⟨N, he, _, _, hb⟩ => ⟨_, N, he, hb⟩
set_option maxHeartbeats 400000 in
theorem number_bad (s : ByteArray) (hs : s.size ≤ 281474976710656) (h : ∀ v, Lib.atoiAll s.data.toList ≠ .ok v) (w : World) (HY : Laid w) :
    Calls Tryd.prog 60 #[.string s] w fun e w' => e = .returned (.tuple #[.int .i64 0, .bool false]) ∧ Below w.heap.size w w' := by
  go_enter Tryd.func60, Tryd.ntmps60
  go_wp2_with fail
  refine (atoi_bad s hs h _ HY).mono ?_
  rintro e w1 ⟨n, N, rfl, hb⟩
  go_wp2_with fail
  go_ret2
  exact ⟨rfl, hb⟩
set_option maxHeartbeats 400000 in
theorem number_neg (s : ByteArray) (hs : s.size ≤ 281474976710656) (v : Int) (h : Lib.atoiAll s.data.toList = .ok v) (hv : v < 0 ∨ 2147483647 < v) (w : World) :
    Calls Tryd.prog 60 #[.string s] w fun e w' => e = .returned (.tuple #[.int .i64 0, .bool false]) ∧ Below w.heap.size w w' := by
  by_cases h0 : v < 0
  · clear hv
    go_enter Tryd.func60, Tryd.ntmps60
    go_wp2_with fail
    refine (atoi_ok s hs v h _).mono ?_
    rintro e w1 ⟨rfl, hb⟩
    go_wp2_with fail
    go_ret2
    exact ⟨rfl, hb⟩
  · have h1 : 2147483647 < v := by omega
    clear hv
    go_enter Tryd.func60, Tryd.ntmps60
    go_wp2_with fail
    refine (atoi_ok s hs v h _).mono ?_
    rintro e w1 ⟨rfl, hb⟩
    go_wp2_with fail
    go_ret2
    exact ⟨rfl, hb⟩
set_option maxHeartbeats 400000 in
theorem number_in_yes (s : ByteArray) (hs : s.size ≤ 281474976710656) (v : Int) (h : Lib.atoiAll s.data.toList = .ok v) (h0 : 0 ≤ v) (h1 : v ≤ 2147483647) (hq : (Lib.itoa v == s.toList) = true) (w : World) (HY : Laid w) :
    Calls Tryd.prog 60 #[.string s] w fun e w' => e = .returned (.tuple #[.int .i64 v, .bool true]) ∧ Below w.heap.size w w' := by
  have hq1 : (!Lib.itoa v == s.toList) = false := by rw [hq]; rfl
  have hl : (v < 0) = False := by simp; omega
  have hg : (2147483647 < v) = False := by simp; omega
  go_enter Tryd.func60, Tryd.ntmps60
  go_wp2_with fail
  refine (atoi_ok s hs v h _).mono ?_
  rintro e w1 ⟨rfl, hb⟩
  go_wp2_with fail
  refine (itoa_any v (by omega) (by omega) _ (HY.below hb)).mono ?_
  rintro e w2 ⟨rfl, hb2⟩
  go_wp2_with fail
  go_ret2
  exact ⟨rfl, hb.trans (hb2.mono hb.size)⟩
set_option maxHeartbeats 400000 in
theorem number_in_no (s : ByteArray) (hs : s.size ≤ 281474976710656) (v : Int) (h : Lib.atoiAll s.data.toList = .ok v) (h0 : 0 ≤ v) (h1 : v ≤ 2147483647) (hq : (Lib.itoa v == s.toList) = false) (w : World) (HY : Laid w) :
    Calls Tryd.prog 60 #[.string s] w fun e w' => e = .returned (.tuple #[.int .i64 0, .bool false]) ∧ Below w.heap.size w w' := by
  have hq1 : (!Lib.itoa v == s.toList) = true := by rw [hq]; rfl
  have hl : (v < 0) = False := by simp; omega
  have hg : (2147483647 < v) = False := by simp; omega
  go_enter Tryd.func60, Tryd.ntmps60
  go_wp2_with fail
  refine (atoi_ok s hs v h _).mono ?_
  rintro e w1 ⟨rfl, hb⟩
  go_wp2_with fail
  refine (itoa_any v (by omega) (by omega) _ (HY.below hb)).mono ?_
  rintro e w2 ⟨rfl, hb2⟩
  go_wp2_with fail
  go_ret2
  exact ⟨rfl, hb.trans (hb2.mono hb.size)⟩
theorem toList_data (s : ByteArray) : s.toList = s.data.toList := ByteArray.toList_eq s
theorem number_any (s : ByteArray) (hs : s.size ≤ 281474976710656) (w : World) (HY : Laid w) :
    Calls Tryd.prog 60 #[.string s] w fun e w' => e = .returned (.tuple #[.int .i64 (numI s).1, .bool (numI s).2]) ∧ Below w.heap.size w w' := by
  by_cases hv : ∃ v, Lib.atoiAll s.data.toList = .ok v
  · obtain ⟨v, hv⟩ := hv
    by_cases hr : v < 0 ∨ 2147483647 < v
    · have e : numI s = (0, false) := by unfold numI numP; rw [hv]; simp only; rw [if_pos (by omega)]
      rw [e]
      exact number_neg s hs v hv hr w
    · by_cases hq : Lib.itoa v = s.data.toList
      · have e : numI s = (v, true) := by unfold numI numP; rw [hv]; simp only; rw [if_neg (by rw [hq]; simp; omega)]; simp; omega
        rw [e]
        exact number_in_yes s hs v hv (by omega) (by omega) (by rw [toList_data, hq]; simp) w HY
      · have e : numI s = (0, false) := by unfold numI numP; rw [hv]; simp only; rw [if_pos (.inr (.inr hq))]
        rw [e]
        exact number_in_no s hs v hv (by omega) (by omega) (by rw [toList_data]; simpa using hq) w HY
  · have e : numI s = (0, false) := by
      unfold numI numP
      split
      · rename_i n h2
        split at h2
        · rename_i v h3; exact absurd ⟨v, h3⟩ hv
        · cases h2
      · rfl
    rw [e]
    exact number_bad s hs (fun v h => hv ⟨v, h⟩) w HY
end Go.Proofs.YtanofkgnjmegdaaDoor
end
