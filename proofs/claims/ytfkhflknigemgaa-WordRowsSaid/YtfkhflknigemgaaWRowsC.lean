/-
  DERIVED. THE WALK over larchlaw01's WordRows, no accesses; the law as the row takes it.
-/
import Derived.Test.YtfkhflknigemgaaWRowsB
namespace Go.Proofs.Ytfkhflknigemgaa
open Go.RowKit
set_option maxRecDepth 100000

theorem nilW (w : World) (a : Option Addr) : ActsW w a [] := fun j hj => absurd hj (by simp)
theorem nilOk : ∀ x ∈ ([] : List A3), x.ok := by simp

set_option maxHeartbeats 1000000 in
theorem rows_nil (kd s : Int) (a : Option Addr) (cap : Nat) (w : World) (hs : 0 ≤ s ∧ s < 18446744073709551616) (he : wErr kd [] = 0) :
    Calls Try.prog 4 #[.int .i64 kd, .int .u64 s, .slice a 0 cap] w fun e w' => e = .returned (.bool true) ∧ Below w.heap.size w w' := by
  obtain ⟨hk, _, _⟩ := err_ok kd [] he
  have hv := canon_cut kd s hk hs
  have hE : ∀ x, doEnd kd x [] = cutW kd x := fun x => by rw [doEnd, if_pos he]; rfl
  have hO : ∀ x, (doOuts kd x []).length = 0 := fun x => by rw [doOuts_len kd x [] he]; rfl
  have hS : (stepsAll kd s []).length = 0 := by rw [steps_len kd s [] he]; rfl
  obtain ⟨v, ev⟩ : ∃ v, cutW kd s = v := ⟨_, rfl⟩
  rw [ev] at hv
  have hvl := canon_lt kd v hv
  have hvv := cut_of kd v hv
  go_enter Try.func4, Try.ntmps4
  go_wp2_with fail
  refine (known_any _).mono ?_
  rintro e w1 ⟨rfl, b1⟩
  have Hb := Lib.hid b1
  clear b1
  go_wp2_with fail
  refine (our_reads 0 _ _ [] _ rfl (by simp) (nilW _ _)).mono ?_
  rintro e w2 ⟨x2, c2, rfl, _, b2⟩
  have Hb2 := Lib.hid (Hb.out.trans (b2.mono Hb.out.size))
  clear b2 Hb
  go_wp2_with fail
  refine (do_reads kd s 0 _ _ [] _ rfl (nilW _ _) hs nilOk).mono ?_
  rintro e w3 ⟨x3, c3, rfl, _, b3⟩
  have Hb3 := Lib.hid (Hb2.out.trans (b3.mono Hb2.out.size))
  clear b3 Hb2
  rw [hO, hE, ev, he]
  go_wp2_with fail
  refine (our_reads 0 _ _ [] _ rfl (by simp) (nilW _ _)).mono ?_
  rintro e w4 ⟨x4, c4, rfl, _, b4⟩
  have Hb4 := Lib.hid (Hb3.out.trans (b4.mono Hb3.out.size))
  clear b4 Hb3
  go_wp2_with fail
  refine (do_reads kd s 0 _ _ [] _ rfl (nilW _ _) hs nilOk).mono ?_
  rintro e w5 ⟨x5, c5, rfl, _, b5⟩
  have Hb5 := Lib.hid (Hb4.out.trans (b5.mono Hb4.out.size))
  clear b5 Hb4
  rw [hO, hE, ev, he]
  go_wp2_with fail
  all_goals
    refine (our_reads 0 _ _ [] _ rfl (by simp) (nilW _ _)).mono ?_
    rintro e w6 ⟨x6, c6, rfl, _, b6⟩
    have Hb6 := Lib.hid (Hb5.out.trans (b6.mono Hb5.out.size))
    clear b6 Hb5
    go_wp2_with fail
    refine (do_reads kd v 0 _ _ [] _ rfl (nilW _ _) hvl nilOk).mono ?_
    rintro e w7 ⟨x7, c7, rfl, _, b7⟩
    have Hb7 := Lib.hid (Hb6.out.trans (b7.mono Hb6.out.size))
    clear b7 Hb6
    rw [hO, hE, hvv, he]
    go_wp2_with fail
    refine (our_reads 0 _ _ [] _ rfl (by simp) (nilW _ _)).mono ?_
    rintro e w8 ⟨x8, c8, rfl, _, b8⟩
    have Hb8 := Lib.hid (Hb7.out.trans (b8.mono Hb7.out.size))
    clear b8 Hb7
    go_wp2_with fail
    refine (steps_reads kd s 0 _ _ [] _ rfl (nilW _ _) hs nilOk).mono ?_
    rintro e w9 ⟨x9, c9, rfl, _, b9⟩
    have Hb9 := Lib.hid (Hb8.out.trans (b9.mono Hb8.out.size))
    clear b9 Hb8
    rw [hS, he]
    go_wp2_with fail
    go_loopw [19] (fun i wr => i = .int .i64 0 ∧ w9 = wr) (fun _ _ => 0)
    case atStart => exact ⟨rfl, rfl⟩
    case round =>
      obtain ⟨rfl, rfl⟩ := hrel
      go_wp2
      go_ret
      exact ⟨rfl, Hb9.out⟩

theorem rows_law (kd : Int) (_ : (Lit.int .i64 kd).wf = true) (s : Int) (hs0 : (Lit.int .u64 s).wf = true) (a : Option Addr) (cap : Nat) (l : List A3) (hcap : l.length ≤ cap) {w : World} (hr : ActsW w a l) (hl0 : ∀ x ∈ l, (Lit.int .i64 x.k).wf = true ∧ (Lit.int .u64 x.a).wf = true ∧ (Lit.int .u64 x.b).wf = true) (hz : l.length * 24 ≤ 140737488351232) (w' : World) (e : w' = w) :
    Calls Try.prog 4 #[.int .i64 kd, .int .u64 s, .slice a l.length cap] w' fun e w'' => e = .returned (.bool true) ∧ Below w'.heap.size w' w'' := by
  subst e
  have hs := wf_u64 s hs0
  have hl := ok_all hl0
  by_cases he : wErr kd l = 0
  · by_cases h0 : 0 < l.length
    · exact rows_ok kd s a cap l w' hcap hs hl hz hr he h0
    · have : l = [] := List.eq_nil_of_length_eq_zero (by omega)
      subst this
      exact rows_nil kd s a cap w' hs he
  · exact rows_bad kd s a cap l w' hs hl hz hr he

end Go.Proofs.Ytfkhflknigemgaa
