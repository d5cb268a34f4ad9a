/- TokenNumbers: which number any word of at most 200 bytes is, is the reference's; and at most 50 numbers joined behind any word are it and their digits, a blank between each two. -/
import Derived.Test.YtegeaomemgcciaaDoorTokenPlain
namespace Go.Proofs.YtegeaomemgcciaaDoor.Pure
open Go Go.RowKit Go.Lib Go.Proofs.YtegeaomemgcciaaDoor Go.Proofs.YtegeaomemgcciaaDoor.Hand Go.Proofs.YtegeaomemgcciaaDoor.Q Go.Proofs.YtegeaomemgcciaaDoor.Plain Go.Proofs.YtegeaomemgcciaaDoorW.PrintWords

theorem numbers_l0 (s : ByteArray) (l : List Int) (hs : s.size ≤ 200) (hl : l.length ≤ 50) (hi : inI64 l = true) (n : Int) (b : Bool) : ∀ (d j k : Nat), l.length = j + d → d + 60 ≤ k →
    burgagelaw03_TokenNumbers.l0 k s l n b n b (mkB (s.data.toList ++ tailL (l.take j))) l (l.length : Int) (j : Int) = some true := by
  intro d
  induction d with
  | zero =>
    intro j k hj hk
    obtain ⟨k, rfl⟩ : ∃ i, k = i + 1 := ⟨k - 1, by omega⟩
    simp only [burgagelaw03_TokenNumbers.l0]
    rw [if_neg (by omega)]
    simp only [if_true, beq_self_eq_true]
    have : token_Join.f s l = some (mkB (s.data.toList ++ tailL l)) := by
      unfold token_Join.f
      rw [if_pos ⟨by omega, hi⟩]
      rfl
    rw [this, List.take_of_length_le (by omega)]
    simp
  | succ d ih =>
    intro j k hj hk
    obtain ⟨k, rfl⟩ : ∃ i, k = i + 1 := ⟨k - 1, by omega⟩
    have hlt : j < l.length := by omega
    have e2 : wrap64 ((j : Int) + 1) = ((j + 1 : Nat) : Int) := by rw [wrap_id (by omega) (by omega)]; omega
    have hr : rd l (j : Int) = l[j] := by simp [rd, hlt]
    have hb := inI64_at hi hlt
    have hil := itoa_length _ hb.1 hb.2
    have htl := tailL_length hi j (by omega)
    have hsz : s.data.toList.length = s.size := by simp
    simp only [burgagelaw03_TokenNumbers.l0]
    rw [if_pos (by omega), if_pos (by omega), if_pos (by omega), hr, num_any _ hb.1 hb.2 k (by omega)]
    simp only [Option.bind_some]
    rw [if_pos (by rw [ba_size]; omega), show (⟨#[32]⟩ : ByteArray) = ⟨[(32 : UInt8)].toArray⟩ from rfl, ba_append, ba_size]
    unfold mkB at ih ⊢
    rw [ba_size, if_pos (by simp; omega), ba_append, e2]
    have := ih (j + 1) k (by omega) (by omega)
    rw [tailL_snoc l j hlt, ← List.append_assoc] at this
    exact this

theorem TokenNumbers : burgagelaw03_TokenNumbers.Pure := by
  intro s l _ _ _ h
  refine ⟨500, ?_⟩
  have hi : inI64 l = true := by
    unfold inI64
    rw [List.all_eq_true]
    intro x hx
    rw [decide_eq_true_iff]
    exact i64_of_wf (h x hx)
  unfold burgagelaw03_TokenNumbers.f
  rw [speaks03 _ (by omega)]
  simp only [Option.bind_some, if_true]
  have hj : ∀ b, ((200 : Int) < s.size ∨ (50 : Int) < l.length) → b = true → burgagelaw03_TokenNumbers.j0 500 s l b = some true := by
    intro b _ hb
    simp only [burgagelaw03_TokenNumbers.j0]
    rw [if_pos hb]
  by_cases hs : (s.size : Int) > 200
  · rw [if_pos hs]; exact hj true (.inl hs) rfl
  · rw [if_neg hs]
    by_cases hl : (l.length : Int) > 50
    · exact hj _ (.inr hl) (by simpa using hl)
    · rw [decide_eq_false hl]
      simp only [burgagelaw03_TokenNumbers.j0]
      rw [if_neg (by decide), token_Number_any s (by omega), number_ref s 499 (by omega)]
      simp only [Option.bind_some]
      have := numbers_l0 s l (by omega) (by omega) hi (numI s).1 (numI s).2 l.length 0 499 (by omega) (by omega)
      have e : mkB (s.data.toList ++ tailL (l.take 0)) = s := by
        simp only [List.take_zero]
        show mkB (s.data.toList ++ []) = s
        rw [List.append_nil]
        exact ba_mk s
      rw [e] at this
      exact this

end Go.Proofs.YtegeaomemgcciaaDoor.Pure
