/- qr7 of this claim, joined by a program of this session: the zP that its theorem uses. -/
import Derived.Test.YtngkneknopenmaaZH9
import Derived.Test.YtngkneknopenmaaZH15
import Derived.Test.YtngkneknopenmaaZH16
section
namespace Go.Proofs.Ytngkneknopenmaa.Hist
open Go Go.RowKit Go.Proofs.Ytngkneknopenmaa Go.Proofs.Ytngkneknopenmaa.qb9
theorem count_le {B : Nat} : ∀ {h : List T4}, (∀ t ∈ h, t.ops.length ≤ B) → jG h ≤ h.length * B
 | [], _ => by simp [jG]
 | t :: r, hb => by
  have h1 := hb t (by simp)
  have h2 := count_le (h := r) fun u hu => hb u (by simp [hu])
  have e : jG (t :: r) = t.ops.length + jG r := by simp [jG]
  rw [e, List.length_cons, Nat.add_mul]
  omega
theorem zY0 {h : List T4} (hc : zW h = 0) : ∀ t ∈ h, t.ops.length ≤ 64 := by
 intro t ht
 obtain ⟨_, _, _, _, _, _, h7, _⟩ := (qh1 t).1 ((qe5 hc).2.2.1 t ht)
 omega
theorem Qp9 {w : World} {A : Option Addr} {h : List T4} (hr : RdT w A h) (hc : zW h = 0) : CT w A h :=
 jt6 hr (by have := (qe5 hc).1; omega) (fun t ht => by have := zY0 hc t ht; omega)
theorem Qq0 {h : List T4} (hc : zW h = 0) : Sm h := ⟨by have := (qe5 hc).1; omega, by have := (qe5 hc).2.1; omega⟩
end Go.Proofs.Ytngkneknopenmaa.Hist
end
