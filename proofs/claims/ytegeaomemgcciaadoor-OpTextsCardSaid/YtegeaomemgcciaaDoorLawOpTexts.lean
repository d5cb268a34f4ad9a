/- OpTexts: the row over what the variables hold at the start, and the card that ties that to the program's text. -/
import Derived.Test.YtegeaomemgcciaaDoorRows
import Derived.Test.YtegeaomemgcciaaDoorOpTexts
import Derived.Test.YtegeaomemgcciaaDoorStart
import Derived.Test.YtegeaomemgcciaaDoorTie
import Derived.Test.YtegeaomemgcciaaDoorCards
import Derived.SevenTiedAt
import Derived.Lib.SmallJoins
import Derived.WalkKit
import Derived.ProofKit
import Derived.OpenShut
import Derived.ShutString
import Derived.ChangeOld
import Derived.Below
import Derived.SizedLaws
namespace Go.Proofs.YtegeaomemgcciaaDoor.opTexts
open Go.ChangeShapes Go.WideShapes Go.ChangeAt Go.RowKit
open Go.ChangeMaps (open_string shut_string)
set_option linter.unusedVariables false
theorem trod_b {H : Type} (enc : TypeId × Value → H) (W : World) (B : Nat) (sp : Nat → Bool) (hd : Bool) (b : Bool) : DataW.trod enc Tryd.prog W B sp hd 1 4 [.bool b] = some (.lit (.bool b), []) := by simp [DataW.trod, Tryd.underlying4]
theorem trod_i {H : Type} (enc : TypeId × Value → H) (W : World) (B : Nat) (sp : Nat → Bool) (hd : Bool) (k : Int) (wk : (Lit.int .i64 k).wf = true) : DataW.trod enc Tryd.prog W B sp hd 1 3 [.int .i64 k] = some (.lit (.int .i64 k), []) := by simp [DataW.trod, Tryd.underlying3, wk]
set_option maxRecDepth 100000 in
theorem lifted (os : Os) (started : os.Started) (H : Type) (enc : TypeId × Value → H) :
    ReturnsInHanded {} Tryd.checked os 6 .any (fun w args => (Rows.opTextsSpec.pre enc Tryd.prog Tryd.f6 Rows.opTextsRow.domain false w args ∧ laidMetH Tryd.prog laidAll w) ∧ sizedMet enc Tryd.prog Tryd.f6 (OpenSpec.ofChange Rows.opTextsSpec) false w args) (Rows.opTextsSpec.post enc Tryd.prog Tryd.f6 false true false false) := by
  refine YtegeaomemgcciaaDoor_returns_laid (C := Tryd.checked) (X := fun w _ => laidMetH Tryd.prog laidAll w) (fun _ _ _ hh h => h.of_heap hh) own started (by kernel_rfl) Tryd.func6
    (ChangeSpec.witness_shaped (enc := enc) (C := Tryd.checked) (os := os) (X := fun w _ => laidMetH Tryd.prog laidAll w) false (World.laidAll Tryd.prog os laidAll) #[.agg #[.bool false, .int .i64 0, .int .i64 0]] 8 (World.laidAll_os _ _ _) (World.shaped_of_ZipB (by kernel_rfl) (by kernel_rfl)) (by kernel_rfl) (by kernel_rfl) (by kernel_rfl) (start_met os _)) ?_
  intro W base args ds gs before hval0 hW hcnd hsz0 hL hSh
  have HY := laid_of hL hSh
  have hsz : (DataW.weightsEach Tryd.prog (Tryd.f6.params.toList ++ Rows.opTextsSpec.plain.varTypes Tryd.prog) (ds ++ gs)).all (· ≤ reachBytes) = true := hsz0
  have hval : ∀ (j : Nat) t v, Tryd.f6.params[j]? = some t → args[j]? = some v → Value.okWide Tryd.prog W .any base t v := hval0
  have hW' := hW
  obtain ⟨p, q, hA0, hV, rfl, hfz, hnd⟩ := hW
  have hA : DataW.TrodAll enc Tryd.prog W 0 (fun _ => true) true Tryd.f6.params.toList args.toList ds p := hA0
  rw [Tryd.params6] at hA hval hsz
  obtain ⟨v0, vs0, d0, ds0, p0, q0, hargs, rfl, rfl, h0, r0⟩ := trodAll_cons hA
  obtain ⟨rfl, rfl, rfl⟩ := trodAll_nil r0
  obtain rfl : args = #[v0] := by cases args; simp_all
  obtain ⟨rfl, rfl⟩ := trodVars_none hV
  obtain ⟨u00, u01, u02, z00, z01, z02, m0, rfl, rfl, rfl, hy00, hy01, hy02⟩ := Go.Joins.open_agg3 Tryd.underlying35 (by kernel_rfl) (by kernel_rfl) (hval 0 35 v0 rfl rfl) h0
  have j00 : ∃ n, DataW.trod enc Tryd.prog W 0 (fun _ => true) true n 4 [u00] = some z00 := ⟨_, hy00⟩
  have j01 : ∃ n, DataW.trod enc Tryd.prog W 0 (fun _ => true) true n 3 [u01] = some z01 := ⟨_, hy01⟩
  have j02 : ∃ n, DataW.trod enc Tryd.prog W 0 (fun _ => true) true n 3 [u02] = some z02 := ⟨_, hy02⟩
  obtain ⟨b0, eb0, rfl⟩ := DataW.trod_bool Tryd.underlying4 hy00
  obtain ⟨k0, ek0, rfl, wk0⟩ := DataW.trod_int Tryd.underlying3 hy01
  obtain ⟨x0, ex0, rfl, wx0⟩ := DataW.trod_int Tryd.underlying3 hy02
  simp only [List.cons.injEq, and_true] at eb0 ek0 ex0
  subst eb0 ek0 ex0
  clear hA0 hval0 hsz0 hsz
  refine (OpTexts.walk_row b0 k0 x0 wk0 wx0 W HY).mono fun e W' ⟨he, bel⟩ => ?_
  subst he
  exact ⟨_, rfl, _, _, _, [], _, [], hW', trodAll_mk1 (shut_bool Tryd.underlying4 _), (trodAll_cons_mk (Go.Joins.shut_agg3 (y0 := (.lit (.bool b0), [])) (y1 := (.lit (.int .i64 k0), [])) (y2 := (.lit (.int .i64 x0), [])) Tryd.underlying35 (by kernel_rfl) (by kernel_rfl) ⟨1, trod_b _ _ _ _ _ _⟩ ⟨1, trod_i _ _ _ _ _ _ wk0⟩ ⟨1, trod_i _ _ _ _ _ _ wx0⟩) trodAll_mk0), rfl, bel.frame _, fun h => by cases h⟩
theorem proved : Rows.OpTextsSaid :=
  OpenClaim.holds_of_wide 6 Tryd.f6 rfl rfl rfl rfl rfl rfl rfl ⟨rfl, rfl, rfl, rfl, rfl⟩ rfl rfl rfl rfl rfl (by kernel_rfl) Tryd.func6 (by kernel_rfl)
    (of_decide_eq_true (by kernel_rfl)) (by unfold Func.isWrapper; first | (rw [if_pos (by decide +kernel)]; kernel_rfl) | (rw [if_neg (by decide +kernel)]; exact ⟨rfl, rfl⟩))
    (fun os started H enc _ => lifted os started H enc)
theorem card : Rows.OpTextsCardSaid :=
  Claim7.holds_tied_plain_at .later [] [.data, .data, .data, .data, .sentinel, .sentinel, .pinned] true (true, "e2a881b7e66b450ff2e952bfc436d64fc2064ac270e1ed17b40cc93742311d92") true proved (fun _ h => by cases h) (by kernel_rfl) (fun _ h => by cases h) opTexts_row_tie rfl ⟨rfl, rfl⟩ (by kernel_rfl) rfl
    (fun f fn hf hfn => by
      obtain rfl : f = 6 := Option.some.inj ((show Tryd.prog.funcNamed "burgage/burgagelaw04.OpTexts" = some 6 by kernel_rfl).symm.trans hf) |>.symm
      obtain rfl : fn = Tryd.f6 := (Option.some.inj (Tryd.func6.symm.trans hfn)).symm
      exact ⟨by kernel_rfl, fun j t ht => by
        rw [Tryd.params6] at ht
        have hall : ([35].all fun u => !Tryd.prog.wantsStandIn u) = true := by kernel_rfl
        have hm : t ∈ [35] := by simpa using Array.mem_of_getElem? ht
        exact (show Tryd.prog.wantsStandIn t = false by simpa using List.all_eq_true.1 hall t hm)⟩)
    (by kernel_rfl)
#print axioms card
end Go.Proofs.YtegeaomemgcciaaDoor.opTexts
namespace Go.Proofs.YtegeaomemgcciaaDoor
/-- The card, under a short name, for the claim. -/
theorem opTexts_holds : Rows.OpTextsCardSaid := opTexts.card
end Go.Proofs.YtegeaomemgcciaaDoor
