/- token.Lines at this program, in the form in which the print tells a function. -/
import Derived.Test.YtegeaomemgcciabDoorWords
import Derived.Deep.QuietTactic
import Derived.BigQuiet
import Derived.WalkSpells
import Derived.Outline
namespace Go.Proofs.YtegeaomemgcciabDoor.Hand
open Go Go.RowKit Go.Shelf Go.Proofs.YtegeaomemgcciabDoor Plain Go.Proofs.YtegeaomemgcciabDoorW.PrintWords

/-- A text's pieces between its newlines. -/
def newline : ByteArray := ⟨#[10]⟩
def nlines (a0 : ByteArray) : List ByteArray := Lib.splitB newline 0 (Lib.countB a0 newline) a0
def endedB (a0 : ByteArray) : Bool := ((nlines a0).getLastD ByteArray.empty).toList.isEmpty
def token_Lines.f (a0 : ByteArray) : Option (List ByteArray × Bool) := if a0.size < 4294967281 then some ((nlines a0).dropLast, endedB a0) else none

theorem nlines_length (a0 : ByteArray) : (nlines a0).length = Lib.countB a0 newline + 1 := Lib.splitB_all newline (by decide) 0 _ a0 rfl

set_option maxHeartbeats 400000 in
theorem token_Lines.calls (a0 : ByteArray) (r1 : List ByteArray) (r2 : Bool) (w : World) (h : token_Lines.f a0 = some (r1, r2)) (HY : Laid w) :
    Calls Tryd.prog 18 #[.string a0] w fun e w' => ∃ v0_ : Value, e = .returned (.tuple #[v0_, .bool r2]) ∧ Kd.R Kd.string 9 w' w.heap.size (fun _ => True) v0_ r1 ∧ Below w.heap.size w w' := by
  unfold token_Lines.f at h
  split at h
  · rename_i hs
    injection h with h
    obtain ⟨rfl, rfl⟩ := Prod.mk.inj h
    clear h
    have hf : strings_Split.f a0 ⟨#[10]⟩ = some (nlines a0) := by
      unfold strings_Split.f
      rw [if_pos ⟨hs, by decide⟩]
      rfl
    have hl := nlines_length a0
    have hle : Lib.countB a0 newline ≤ a0.size := Lib.countB_le newline (by decide) a0.size a0 (Nat.le_refl _)
    have hsplit := strings_Split.calls a0 ⟨#[10]⟩ (nlines a0) w hf HY
    obtain ⟨ps, hps⟩ : ∃ ps, nlines a0 = ps := ⟨_, rfl⟩
    have HE := Lib.hid (show endedB a0 = (ps.getLastD ByteArray.empty).toList.isEmpty by unfold endedB; rw [hps])
    have HP := Lib.hid hps
    rw [hps] at hsplit hl
    obtain ⟨n, hn⟩ : ∃ n, ps.length = n + 1 := ⟨_, hl⟩
    have hn2 : n ≤ 4294967281 := by omega
    have HN := Lib.hid hn
    clear hps hf hl hle hn
    go_enter Tryd.func18, Tryd.ntmps18
    go_wp2_with fail
    refine hsplit.mono ?_
    rintro e w1 ⟨v, rfl, hv, hb⟩
    obtain ⟨g, c, hv0, hB, hlt, _⟩ := Kd.R_form hv (by rw [HN.out]; omega)
    rw [HN.out] at hv0
    subst hv0
    obtain ⟨_, hc, hr⟩ := Kd.R_reads' hv
    have hcell := Kd.at_string hr (n : Int) (by omega) (by rw [HN.out]; omega)
    obtain ⟨ad, e0, hcell⟩ := hcell
    cases e0
    simp only [Int.toNat_natCast] at hcell
    have HC := Lib.hid hc
    clear hc
    go_wp2_with fail
    have e1 : (ps.length : Int) - 1 = (n : Int) := by rw [HN.out]; omega
    rw [e1]
    have e2 : (n : Int) ≤ (ps.length : Int) := by rw [HN.out]; omega
    have e3 : (n : Int) < (ps.length : Int) := by rw [HN.out]; omega
    have e4 : (0 : Int) ≤ (n : Int) := by omega
    have e5 : (n : Int) ≤ (c : Int) := by have := HC.out; have := HN.out; omega
    have hcell2 : w1.cell? { block := g, off := n } = some (.string (rdOf ByteArray.empty ps n)) := by
      rw [← hcell]; unfold Addr.add; simp only [Nat.zero_add]; split
      · rename_i h0; rw [h0]
      · rfl
    clear hcell
    refine wp_region_quiet_lit (by kernel_rfl) (by kernel_rfl) ?_
    go_big_quiet_step (fail)
    go_big_quiet_step (fail)
    repeat (first | go_big_quiet_step (fail) | quiet_step (fail))
    refine wpQuiet_nil ?_
    intro _ hw'
    obtain ⟨nq, hw''⟩ := hw'
    subst hw''
    have e6 : rdOf ByteArray.empty ps n = ps.getLastD ByteArray.empty := by
      have hq := HN.out
      unfold rdOf
      simp [List.getLastD_eq_getLast?, List.getLast?_eq_getElem?, hq, List.getD_eq_getElem?_getD]
    have e7 : ps.dropLast = ps.take n := by
      have hq := HN.out
      rw [List.dropLast_eq_take, hq]; rfl
    go_wp2_with fail
    go_ret2
    refine ⟨.slice (some { block := g, off := 0 }) n c, ?_, ?_, ?_⟩
    · rw [HE.out, e6]; rfl
    · rw [HP.out, e7]
      exact Kd.R_drewN (Kd.R_take hv (by rw [HN.out]; omega)) nq
    · exact pw_below_drewN hb nq
  · cases h

end Go.Proofs.YtegeaomemgcciabDoor.Hand
