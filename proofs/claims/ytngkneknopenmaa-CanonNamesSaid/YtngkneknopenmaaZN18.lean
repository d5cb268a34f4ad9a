/- Texts of this claim, joined by a program of this session: the declarations that its theorem uses. -/
import Derived.Test.YtngkneknopenmaaZN8
import Derived.Test.YtngkneknopenmaaZN16
section
namespace Go.Proofs.Ytngkneknopenmaa.Hist
open Go Go.RowKit Go.Proofs.Ytngkneknopenmaa Go.Proofs.Ytngkneknopenmaa.Row3 Go.Proofs.YtngkneknopenmaaW.PrintWords
open Go.Proofs.Ytngkneknopenmaa.K (S55 S51 qab qaj k55 k55_heap)
theorem ofF_yes {h : List T4} (hc : qa3 h = 0) : Give.ofF h = qbg h := by unfold Give.ofF; rw [if_pos hc]
variable {A B : Option Addr} {c d : Nat} {a b h : List T4} {w : World}
theorem Sm.canon (s : Sm h) : Sm (qbg h) := ⟨by rw [canonF_length]; exact s.1, by rw [canonF_count]; exact s.2⟩
theorem of_yes (k : CT w A h) (hc : h.length ≤ c) (s : Sm h) (hz : qa3 h = 0) :
  Calls Try.prog 13 #[.slice A h.length c] w fun e w' => ∃ (A' : Option Addr) (c' : Nat), e = .returned (.slice A' (qbg h).length c') ∧ ((qbg h).length ≤ c' ∧ CT w' A' (qbg h)) ∧ Below w.heap.size w w' := by
 have := of_c k hc s; rw [ofF_yes hz] at this; exact this
theorem eq_yes (k : CT w A a) (hc : a.length ≤ c) (s : Sm a) (k2 : CT w B a) (hd : a.length ≤ d) :
  Calls Try.prog 18 #[.slice A a.length c, .slice B a.length d] w fun e w' => e = .returned (.bool true) ∧ Below w.heap.size w w' := by
 have := eq_c k hc s k2 hd; rw [decide_eq_true rfl] at this; exact this
theorem same2_q (q : Bool) (k : CT w A a) (hc : a.length ≤ c) (s : Sm a) (k2 : CT w B b) (hd : b.length ≤ d) (t : Sm b) (hz : sameF a b = q) :
  Calls Try.prog 16 #[.slice A a.length c, .slice B b.length d] w fun e w' => e = .returned (.bool q) ∧ Below w.heap.size w w' := by
 have := same2_c k hc s k2 hd t; rw [hz] at this; exact this
end Go.Proofs.Ytngkneknopenmaa.Hist
end
