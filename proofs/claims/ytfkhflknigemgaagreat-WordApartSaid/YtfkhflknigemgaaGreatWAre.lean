/-
  DERIVED. THE WALKS over larchlaw01's are and words: equal lists are found equal.
-/
import Derived.Test.YtfkhflknigemgaaGreatWOur
namespace Go.Proofs.YtfkhflknigemgaaGreat
open Go.RowKit
set_option maxRecDepth 100000

theorem Turns.drewNW (S : Nat → Prop) (w : World) (n : Nat) : Turns S w (w.drewN n) := ⟨rfl, rfl, rfl, Nat.le_refl _, fun _ _ _ => rfl⟩
theorem OutsIn.turns {w w' : World} {a : Option Addr} {l : List (Int × Bool)} (h : OutsIn w a l) (ht : Turns (fun _ => False) w w') : OutsIn w' a l :=
  h.below (ht.below (fun _ h => h.elim) (Nat.le_refl _))
theorem U64In.turns {w w' : World} {a : Option Addr} {l : List Int} (h : U64In w a l) (ht : Turns (fun _ => False) w w') : U64In w' a l :=
  h.below (ht.below (fun _ h => h.elim) (Nat.le_refl _))

set_option maxHeartbeats 1000000 in
theorem words_same (a b : Option Addr) (ca cb : Nat) (l : List Int) (w : World) (ha : U64In w a l) (hb : U64In w b l) (hl : l.length ≤ 9223372036854775807) :
    Calls Tryz.prog 13 #[.slice a l.length ca, .slice b l.length cb] w fun e w' => e = .returned (.bool true) ∧ Turns (fun _ => False) w w' := by
  have Ha := Lib.hid ha
  have Hb := Lib.hid hb
  clear ha hb
  go_enter Tryz.func13, Tryz.ntmps13
  go_wp2_with fail
  go_loopw [5] (fun i wr => ∃ j : Nat, j ≤ l.length ∧ i = .int .i64 j ∧ Turns (fun _ => False) w wr) (fun i _ => l.length - (intOf i).toNat)
  case atStart => exact ⟨0, Nat.zero_le _, rfl, Turns.refl _ _⟩
  case round =>
    obtain ⟨j, hj, rfl, ht⟩ := hrel
    by_cases hlt : j < l.length
    · obtain ⟨b1, o1, rfl, h1⟩ := (Ha.out.turns ht) j hlt
      obtain ⟨b2, o2, rfl, h2⟩ := (Hb.out.turns ht) j hlt
      have Ht := Lib.hid ht
      clear ht
      have j0 : (0 : Int) ≤ (j : Int) := by omega
      have j1 : (j : Int) < (l.length : Int) := by omega
      go_wp2_with fail
      go_quiet (fail)
      go_wp2
      go_roundw
      case rel => exact ⟨j + 1, by omega, by go_num, Ht.out.trans (Turns.drewNW _ _ _)⟩
      case measure => simp [intOf]; omega
    · have Ht := Lib.hid ht
      clear ht
      go_wp2
      go_ret
      exact ⟨rfl, Ht.out⟩

set_option maxHeartbeats 1000000 in
theorem are_same (a b : Option Addr) (ca cb : Nat) (l : List (Int × Bool)) (w : World) (ha : OutsIn w a l) (hb : OutsIn w b l) (hl : l.length ≤ 9223372036854775807) :
    Calls Tryz.prog 10 #[.slice a l.length ca, .slice b l.length cb] w fun e w' => e = .returned (.bool true) ∧ Turns (fun _ => False) w w' := by
  have Ha := Lib.hid ha
  have Hb := Lib.hid hb
  clear ha hb
  go_enter Tryz.func10, Tryz.ntmps10
  go_wp2_with fail
  go_loopw [5] (fun i wr => ∃ j : Nat, j ≤ l.length ∧ i = .int .i64 j ∧ Turns (fun _ => False) w wr) (fun i _ => l.length - (intOf i).toNat)
  case atStart => exact ⟨0, Nat.zero_le _, rfl, Turns.refl _ _⟩
  case round =>
    obtain ⟨j, hj, rfl, ht⟩ := hrel
    by_cases hlt : j < l.length
    · obtain ⟨b1, o1, rfl, h1, h3⟩ := (Ha.out.turns ht) j hlt
      obtain ⟨b2, o2, rfl, h2, h4⟩ := (Hb.out.turns ht) j hlt
      have Ht := Lib.hid ht
      clear ht
      have j0 : (0 : Int) ≤ (j : Int) := by omega
      have j1 : (j : Int) < (l.length : Int) := by omega
      go_wp2_with fail
      go_quiet (fail)
      go_wp2
      go_roundw
      case rel => exact ⟨j + 1, by omega, by go_num, Ht.out.trans (Turns.drewNW _ _ _)⟩
      case measure => simp [intOf]; omega
    · have Ht := Lib.hid ht
      clear ht
      go_wp2
      go_ret
      exact ⟨rfl, Ht.out⟩

theorem words_same' (a b : Option Addr) (n m ca cb : Nat) (l : List Int) (w : World) (hn : n = l.length) (hm : m = l.length) (ha : U64In w a l) (hb : U64In w b l) (hl : l.length ≤ 9223372036854775807) :
    Calls Tryz.prog 13 #[.slice a n ca, .slice b m cb] w fun e w' => e = .returned (.bool true) ∧ Turns (fun _ => False) w w' := by
  subst hn
  subst hm
  exact words_same a b ca cb l w ha hb hl
theorem are_same' (a b : Option Addr) (n m ca cb : Nat) (l : List (Int × Bool)) (w : World) (hn : n = l.length) (hm : m = l.length) (ha : OutsIn w a l) (hb : OutsIn w b l) (hl : l.length ≤ 9223372036854775807) :
    Calls Tryz.prog 10 #[.slice a n ca, .slice b m cb] w fun e w' => e = .returned (.bool true) ∧ Turns (fun _ => False) w w' := by
  subst hn
  subst hm
  exact are_same a b ca cb l w ha hb hl

end Go.Proofs.YtfkhflknigemgaaGreat
