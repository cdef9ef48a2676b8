/-
  DERIVED. THE WALK over larchtop's LarchOneWins, whatever the row.
-/
import Derived.Test.YtnpelkohmnhodaaT1Wins
import Derived.Test.YtnpelkohmnhodaaT1WinsE
import Derived.Test.YtnpelkohmnhodaaShut3
namespace Go.Proofs.Ytnpelkohmnhodaa
open Go.RowKit
set_option maxRecDepth 100000

theorem ActsW.take1 {w : World} {a : Option Addr} {l : List A3} (h : ActsW w a l) (n : Nat) : ActsW w a (l.take n) := by
  intro j hj
  have hj' : j < l.length := by simp at hj; omega
  obtain ⟨b, off, e, h1, h2, h3⟩ := h j hj'
  exact ⟨b, off, e, by simpa using h1, by simpa using h2, by simpa using h3⟩

theorem wins_any (kd s : Int) (a : Option Addr) (cap : Nat) (l : List A3) (w : World) (hs : 0 ≤ s ∧ s < 18446744073709551616) (hl : ∀ x ∈ l, x.ok) (hcap : l.length ≤ cap) (hr : ActsW w a l) :
    Calls Try.prog 4 #[.int .i64 kd, .int .u64 s, .slice a l.length cap] w fun e w' => e = .returned (.bool true) ∧ Below w.heap.size w w' := by
  by_cases h0 : l = []
  · subst h0
    cases a with
    | none =>
      by_cases he : wErr kd [] = 0
      · exact wins_nil_ok kd s cap [] rfl w hs hl hr he
      · exact wins_nil_bad kd s cap [] rfl w hs hl hr he
    | some ad =>
      by_cases he : wErr kd [] = 0
      · exact wins_emp_ok kd s cap ad [] rfl w hs hl hr he
      · exact wins_emp_bad kd s cap ad [] rfl w hs hl hr he
  · have hpos : 0 < l.length := List.length_pos_iff.2 h0
    obtain ⟨b, off, rfl, _⟩ := hr 0 hpos
    by_cases hlow : l.length ≤ 200
    · by_cases he : wErr kd l = 0
      · exact wins_low_ok kd s cap b off l hlow w hs hl hr he
      · exact wins_low_bad kd s cap b off l hlow w hs hl hr he
    · have hlt : (l.take 200).length = 200 := by rw [List.length_take]; omega
      have hl' : ∀ x ∈ l.take 200, x.ok := fun x hx => hl x (List.mem_of_mem_take hx)
      by_cases he : wErr kd (l.take 200) = 0
      · exact wins_big_ok kd s cap b off l.length (l.take 200) hlt (by omega) hcap w hs hl' (hr.take1 200) he
      · exact wins_big_bad kd s cap b off l.length (l.take 200) hlt (by omega) hcap w hs hl' (hr.take1 200) he

theorem wins_law (x0 : Int) (_w0 : (Lit.int .i64 x0).wf = true) (x1 : Int) (w1 : (Lit.int .u64 x1).wf = true) (a2 : Option Addr) (c2 : Nat) (l2 : List A3) (m2 : l2.length ≤ c2) {w : World} (r2 : ActsW w a2 l2)
    (w2 : ∀ x ∈ l2, (Lit.int .i64 x.k).wf = true ∧ (Lit.int .u64 x.a).wf = true ∧ (Lit.int .u64 x.b).wf = true) (_z2 : l2.length * 24 ≤ 140737488351232) (w' : World) (e : w' = w) :
    Calls Try.prog 4 #[.int .i64 x0, .int .u64 x1, .slice a2 l2.length c2] w' fun e w'' => e = .returned (.bool true) ∧ Below w'.heap.size w' w'' := by
  subst e
  exact wins_any x0 x1 a2 c2 l2 _ (wf_u64 _ w1) (ok_all w2) m2 r2

end Go.Proofs.Ytnpelkohmnhodaa
