/-
  DERIVED. THE WALK over larchlaw01's WordRows.
-/
import Derived.Test.YtfkhflknigemgaaWUndoes
import Derived.Test.YtfkhflknigemgaaWOur
import Derived.Test.YtfkhflknigemgaaShut3
namespace Go.Proofs.Ytfkhflknigemgaa
open Go.RowKit
set_option maxRecDepth 100000

/-- Do, as its answers read. -/
theorem do_reads (kd s : Int) (n : Nat) (a : Option Addr) (cap : Nat) (l : List A3) (w : World) (hn : l.length = n) (hr : ActsW w a l) (hs : 0 ≤ s ∧ s < 18446744073709551616) (hl : ∀ x ∈ l, x.ok) :
    Calls Try.prog 7 #[.int .i64 kd, .int .u64 s, .slice a n cap] w fun e w' => ∃ b c, e = .returned (.tuple #[.slice b (doOuts kd s l).length c, .int .u64 (doEnd kd s l), .int .i64 (wErr kd l)]) ∧ OutsIn w' b (doOuts kd s l) ∧ Below w.heap.size w w' := by
  refine (do_anyN n kd s a cap l w hn hr hs hl).mono ?_
  rintro e w' ⟨v, rfl, hrow, hb⟩
  obtain ⟨b, c, rfl⟩ := row_shape hrow
  exact ⟨b, c, rfl, outsIn_row hrow, hb⟩
theorem steps_reads (kd s : Int) (n : Nat) (a : Option Addr) (cap : Nat) (l : List A3) (w : World) (hn : l.length = n) (hr : ActsW w a l) (hs : 0 ≤ s ∧ s < 18446744073709551616) (hl : ∀ x ∈ l, x.ok) :
    Calls Try.prog 11 #[.int .i64 kd, .int .u64 s, .slice a n cap] w fun e w' => ∃ b c, e = .returned (.tuple #[.slice b (stepsAll kd s l).length c, .int .i64 (wErr kd l)]) ∧ U64In w' b (stepsAll kd s l) ∧ Below w.heap.size w w' := by
  subst hn
  refine (steps_any kd s a cap l w hr hs hl).mono ?_
  rintro e w' ⟨v, rfl, hrow, hb⟩
  obtain ⟨b, c, rfl⟩ := row_shape hrow
  exact ⟨b, c, rfl, u64In_row hrow, hb⟩
theorem our_reads (n : Nat) (a : Option Addr) (cap : Nat) (l : List A3) (w : World) (hn : l.length = n) (hz : l.length * 24 ≤ 140737488351232) (hr : ActsW w a l) :
    Calls Try.prog 10 #[.slice a n cap] w fun e w' => ∃ b c, e = .returned (.slice b n c) ∧ ActsW w' b l ∧ Below w.heap.size w w' := by
  subst hn
  refine (our_any a cap l w hz hr).mono ?_
  rintro e w' ⟨v, rfl, hrow, hb⟩
  obtain ⟨b, c, rfl⟩ := row_shape hrow
  exact ⟨b, c, rfl, actsW_row hrow, hb⟩

theorem bad_outs (kd s : Int) (l : List A3) (h : wErr kd l ≠ 0) : (doOuts kd s l).length = 0 ∧ doEnd kd s l = 0 := by
  rw [doOuts, doEnd, if_neg h, if_neg h]; exact ⟨rfl, rfl⟩

set_option maxHeartbeats 1000000 in
theorem rows_bad (kd s : Int) (a : Option Addr) (cap : Nat) (l : List A3) (w : World) (hs : 0 ≤ s ∧ s < 18446744073709551616) (hl : ∀ x ∈ l, x.ok) (hz : l.length * 24 ≤ 140737488351232) (hr : ActsW w a l) (he : wErr kd l ≠ 0) :
    Calls Try.prog 4 #[.int .i64 kd, .int .u64 s, .slice a l.length cap] w fun e w' => e = .returned (.bool true) ∧ Below w.heap.size w w' := by
  have Hr := Lib.hid hr
  have Hl := Lib.hid hl
  have he' : (wErr kd l != 0) = true := by simpa using he
  have Hd := Lib.hid (bad_outs kd s l he)
  clear hr hl he
  go_enter Try.func4, Try.ntmps4
  go_wp2_with fail
  refine (known_any _).mono ?_
  rintro e w1 ⟨rfl, b1⟩
  have R1 := Lib.hid (Hr.out.below b1)
  have Hb := Lib.hid b1
  clear b1
  go_wp2_with fail
  refine (our_reads _ a cap l _ rfl hz R1.out).mono ?_
  rintro e w2 ⟨x, c, rfl, r2, b2⟩
  have R2 := Lib.hid r2
  have Hb2 := Lib.hid (Hb.out.trans (b2.mono Hb.out.size))
  clear r2 b2 Hb R1
  go_wp2_with fail
  refine (do_reads kd s _ x c l _ rfl R2.out hs Hl.out).mono ?_
  rintro e w3 ⟨y, c3, rfl, _, b3⟩
  have Hb3 := Lib.hid (Hb2.out.trans (b3.mono Hb2.out.size))
  clear b3 Hb2 R2
  rw [Hd.out.1, Hd.out.2]
  go_wp2
  go_ret
  exact ⟨rfl, Hb3.out⟩

end Go.Proofs.Ytfkhflknigemgaa
