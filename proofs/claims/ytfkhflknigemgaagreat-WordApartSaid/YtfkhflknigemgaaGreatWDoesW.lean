/-
  DERIVED. Do, Steps and our as their answers read; the reference's too; THE WALK over larchlaw01's WordDoes.
-/
import Derived.Test.YtfkhflknigemgaaGreatWRefRow
import Derived.Test.YtfkhflknigemgaaGreatWAre
import Derived.Test.YtfkhflknigemgaaGreatShut3
namespace Go.Proofs.YtfkhflknigemgaaGreat
open Go.RowKit
set_option maxRecDepth 100000

/-- Do, as its answers read. -/
theorem do_reads (kd s : Int) (n : Nat) (a : Option Addr) (cap : Nat) (l : List A3) (w : World) (hn : l.length = n) (hr : ActsW w a l) (hs : 0 ≤ s ∧ s < 18446744073709551616) (hl : ∀ x ∈ l, x.ok) :
    Calls Tryz.prog 8 #[.int .i64 kd, .int .u64 s, .slice a n cap] w fun e w' => ∃ b c, e = .returned (.tuple #[.slice b (doOuts kd s l).length c, .int .u64 (doEnd kd s l), .int .i64 (wErr kd l)]) ∧ OutsIn w' b (doOuts kd s l) ∧ Below w.heap.size w w' := by
  refine (do_anyN n kd s a cap l w hn hr hs hl).mono ?_
  rintro e w' ⟨v, rfl, hrow, hb⟩
  obtain ⟨b, c, rfl⟩ := row_shape hrow
  exact ⟨b, c, rfl, outsIn_row hrow, hb⟩
theorem steps_reads (kd s : Int) (n : Nat) (a : Option Addr) (cap : Nat) (l : List A3) (w : World) (hn : l.length = n) (hr : ActsW w a l) (hs : 0 ≤ s ∧ s < 18446744073709551616) (hl : ∀ x ∈ l, x.ok) :
    Calls Tryz.prog 12 #[.int .i64 kd, .int .u64 s, .slice a n cap] w fun e w' => ∃ b c, e = .returned (.tuple #[.slice b (stepsAll kd s l).length c, .int .i64 (wErr kd l)]) ∧ U64In w' b (stepsAll kd s l) ∧ Below w.heap.size w w' := by
  subst hn
  refine (steps_any kd s a cap l w hr hs hl).mono ?_
  rintro e w' ⟨v, rfl, hrow, hb⟩
  obtain ⟨b, c, rfl⟩ := row_shape hrow
  exact ⟨b, c, rfl, u64In_row hrow, hb⟩
theorem our_reads (n : Nat) (a : Option Addr) (cap : Nat) (l : List A3) (w : World) (hn : l.length = n) (hz : l.length * 24 ≤ 140737488351232) (hr : ActsW w a l) :
    Calls Tryz.prog 9 #[.slice a n cap] w fun e w' => ∃ b c, e = .returned (.slice b n c) ∧ ActsW w' b l ∧ Below w.heap.size w w' := by
  subst hn
  refine (our_any a cap l w hz hr).mono ?_
  rintro e w' ⟨v, rfl, hrow, hb⟩
  obtain ⟨b, c, rfl⟩ := row_shape hrow
  exact ⟨b, c, rfl, actsW_row hrow, hb⟩


theorem refdo_reads (kd s : Int) (a : Option Addr) (cap : Nat) (l : List A3) (w : World) (hr : ActsW w a l) (hs : 0 ≤ s ∧ s < 18446744073709551616) (hl : ∀ x ∈ l, x.ok) :
    Calls Tryz.prog 7 #[.int .i64 kd, .int .u64 s, .slice a l.length cap] w fun e w' => ∃ b c, e = .returned (.tuple #[.slice b (doOuts kd s l).length c, .int .u64 (doEnd kd s l), .int .i64 (wErr kd l)]) ∧ OutsIn w' b (doOuts kd s l) ∧ Below w.heap.size w w' := by
  refine (refdo_any kd s a cap l w hr hs hl).mono ?_
  rintro e w' ⟨v, rfl, hrow, hb⟩
  obtain ⟨b, c, rfl⟩ := row_shape hrow
  exact ⟨b, c, rfl, outsIn_row hrow, hb⟩
theorem refsteps_reads (kd s : Int) (a : Option Addr) (cap : Nat) (l : List A3) (w : World) (hr : ActsW w a l) (hs : 0 ≤ s ∧ s < 18446744073709551616) (hl : ∀ x ∈ l, x.ok) :
    Calls Tryz.prog 11 #[.int .i64 kd, .int .u64 s, .slice a l.length cap] w fun e w' => ∃ b c, e = .returned (.tuple #[.slice b (stepsAll kd s l).length c, .int .i64 (wErr kd l)]) ∧ U64In w' b (stepsAll kd s l) ∧ Below w.heap.size w w' := by
  refine (refsteps_any kd s a cap l w hr hs hl).mono ?_
  rintro e w' ⟨v, rfl, hrow, hb⟩
  obtain ⟨b, c, rfl⟩ := row_shape hrow
  exact ⟨b, c, rfl, u64In_row hrow, hb⟩

theorem doOuts_le (kd s : Int) (l : List A3) : (doOuts kd s l).length ≤ l.length := by
  unfold doOuts; split
  · rw [wOuts_len]; exact Nat.le_refl _
  · simp
theorem steps_le (kd s : Int) (l : List A3) : (stepsAll kd s l).length ≤ l.length := by
  unfold stepsAll; split
  · rw [wSteps_len]; exact Nat.le_refl _
  · simp

set_option maxHeartbeats 1000000 in
theorem does_any (kd s : Int) (a : Option Addr) (cap : Nat) (l : List A3) (w : World) (hs : 0 ≤ s ∧ s < 18446744073709551616) (hl : ∀ x ∈ l, x.ok) (hz : l.length * 24 ≤ 140737488351232) (hr : ActsW w a l) :
    Calls Tryz.prog 3 #[.int .i64 kd, .int .u64 s, .slice a l.length cap] w fun e w' => e = .returned (.bool true) ∧ Below w.heap.size w w' := by
  have h1 := doOuts_le kd s l
  have h2 := steps_le kd s l
  have Hr := Lib.hid hr
  have Hl := Lib.hid hl
  clear hr hl
  go_enter Tryz.func3, Tryz.ntmps3
  go_wp2_with fail
  refine (known_any _).mono ?_
  rintro e w1 ⟨rfl, b1⟩
  have R1 := Lib.hid (Hr.out.below b1)
  have Hb := Lib.hid b1
  clear b1 Hr
  go_wp2_with fail
  refine (refdo_reads kd s _ _ l _ R1.out hs Hl.out).mono ?_
  rintro e w2 ⟨x2, c2, rfl, o2, b2⟩
  have R2 := Lib.hid (R1.out.below b2)
  have O2 := Lib.hid o2
  have Hb2 := Lib.hid (Hb.out.trans (b2.mono Hb.out.size))
  clear o2 b2 Hb R1
  go_wp2_with fail
  refine (our_reads _ _ _ l _ rfl hz R2.out).mono ?_
  rintro e w3 ⟨x3, c3, rfl, r3, b3⟩
  have R3 := Lib.hid (R2.out.below b3)
  have S3 := Lib.hid r3
  have O3 := Lib.hid (O2.out.below b3)
  have Hb3 := Lib.hid (Hb2.out.trans (b3.mono Hb2.out.size))
  clear r3 b3 Hb2 R2 O2
  go_wp2_with fail
  refine (do_reads kd s _ _ _ l _ rfl S3.out hs Hl.out).mono ?_
  rintro e w4 ⟨x4, c4, rfl, o4, b4⟩
  have R4 := Lib.hid (R3.out.below b4)
  have O4 := Lib.hid (O3.out.below b4)
  have P4 := Lib.hid o4
  have Hb4 := Lib.hid (Hb3.out.trans (b4.mono Hb3.out.size))
  clear o4 b4 Hb3 R3 O3 S3
  go_wp2_with fail
  refine (are_same _ _ _ _ _ _ P4.out O4.out (by omega)).mono ?_
  rintro e w5 ⟨rfl, t5⟩
  have R5 := Lib.hid (R4.out.turns t5 (fun _ _ _ h => h))
  have Hb5 := Lib.hid (Hb4.out.trans (t5.below (fun _ h => h.elim) Hb4.out.size))
  clear t5 Hb4 R4 P4 O4
  go_wp2_with fail
  refine (refsteps_reads kd s _ _ l _ R5.out hs Hl.out).mono ?_
  rintro e w6 ⟨x6, c6, rfl, o6, b6⟩
  have R6 := Lib.hid (R5.out.below b6)
  have O6 := Lib.hid o6
  have Hb6 := Lib.hid (Hb5.out.trans (b6.mono Hb5.out.size))
  clear o6 b6 Hb5 R5
  go_wp2_with fail
  refine (our_reads _ _ _ l _ rfl hz R6.out).mono ?_
  rintro e w7 ⟨x7, c7, rfl, r7, b7⟩
  have S7 := Lib.hid r7
  have O7 := Lib.hid (O6.out.below b7)
  have Hb7 := Lib.hid (Hb6.out.trans (b7.mono Hb6.out.size))
  clear r7 b7 Hb6 R6 O6
  go_wp2_with fail
  refine (steps_reads kd s _ _ _ l _ rfl S7.out hs Hl.out).mono ?_
  rintro e w8 ⟨x8, c8, rfl, o8, b8⟩
  have O8 := Lib.hid (O7.out.below b8)
  have P8 := Lib.hid o8
  have Hb8 := Lib.hid (Hb7.out.trans (b8.mono Hb7.out.size))
  clear o8 b8 Hb7 S7 O7
  go_wp2_with fail
  refine (words_same _ _ _ _ _ _ O8.out P8.out (by omega)).mono ?_
  rintro e w9 ⟨rfl, t9⟩
  have Hb9 := Lib.hid (Hb8.out.trans (t9.below (fun _ h => h.elim) Hb8.out.size))
  clear t9 Hb8
  go_wp2
  go_ret
  exact ⟨rfl, Hb9.out⟩

theorem does_law (x0 : Int) (_w0 : (Lit.int .i64 x0).wf = true) (x1 : Int) (w1 : (Lit.int .u64 x1).wf = true) (a2 : Option Addr) (c2 : Nat) (l2 : List A3) (_m2 : l2.length ≤ c2) {w : World} (r2 : ActsW w a2 l2)
    (w2 : ∀ x ∈ l2, (Lit.int .i64 x.k).wf = true ∧ (Lit.int .u64 x.a).wf = true ∧ (Lit.int .u64 x.b).wf = true) (z2 : l2.length * 24 ≤ 140737488351232) (w' : World) (e : w' = w) :
    Calls Tryz.prog 3 #[.int .i64 x0, .int .u64 x1, .slice a2 l2.length c2] w' fun e w'' => e = .returned (.bool true) ∧ Below w'.heap.size w' w'' := by
  subst e
  exact does_any x0 x1 a2 c2 l2 _ (wf_u64 _ w1) (ok_all w2) z2 r2

end Go.Proofs.YtfkhflknigemgaaGreat
