/-
  DERIVED. THE WALKS over the closures of package cell's Ids, slices.ContainsFunc, slices.Index.
-/
import Derived.Test.YtjifoggfndicoaaIRef
namespace Go.Proofs.Ytjifoggfndicoaa
open Go.RowKit
set_option maxRecDepth 100000

abbrev fRight (b : Nat) : Value := .func (.func 78) #[] #[.pointer (some ⟨b, 0, none⟩)]
/-- the variables 'things' and 'right'. -/
structure RightAt (w : World) (b : Nat) (things : Int) : Prop where
  t : w.heap[b]? = some (.cells #[.int .i64 things] 3 (0, 0))
  r : w.heap[b + 1]? = some (.cells #[fRight b] 102 (0, 0))
theorem RightAt.turns {S : Nat → Prop} {w w' : World} {b : Nat} {things : Int} (h : RightAt w b things) (ht : Turns S w w') (h1 : ¬ S b) (h2 : ¬ S (b + 1)) : RightAt w' b things := ⟨ht.heap h.t h1, ht.heap h.r h2⟩

theorem right_any (b : Nat) (things n : Int) (w : World) (hb : RightAt w b things) : Calls Try.prog 78 #[.int .i64 n, .pointer (some ⟨b, 0, none⟩)] w fun e w' => e = .returned (.bool (right things n)) ∧ w = w' := by
  have c0 := cell_of_heap hb.t (j := 0) rfl
  go_enter Try.func78, Try.ntmps78
  go_wp2_with fail
  all_goals
    go_ret
    refine ⟨?_, rfl⟩
    first | (simp [right]; omega) | (simp [right, *]; done) | simp_all [right]
theorem right_lit (b : Nat) (things n : Int) (v : Bool) (w : World) (hb : RightAt w b things) (h : right things n = v) : Calls Try.prog 78 #[.int .i64 n, .pointer (some ⟨b, 0, none⟩)] w fun e w' => e = .returned (.bool v) ∧ w = w' := by
  subst h
  exact right_any b things n w hb
theorem notright_any (b : Nat) (things n : Int) (w : World) (hb : RightAt w b things) : Calls Try.prog 80 #[.int .i64 n, .pointer (some ⟨b + 1, 0, none⟩)] w fun e w' => e = .returned (.bool (!right things n)) ∧ w = w' := by
  have c1 := cell_of_heap hb.r (j := 0) rfl
  go_enter Try.func80, Try.ntmps80
  go_wp2_with (go_at_call 78; refine (right_any b things _ _ hb).mono ?_; rintro e w1 ⟨rfl, rfl⟩)
  go_ret
  exact ⟨rfl, rfl⟩
theorem notright_lit (b : Nat) (things n : Int) (v : Bool) (w : World) (hb : RightAt w b things) (h : right things n = v) : Calls Try.prog 80 #[.int .i64 n, .pointer (some ⟨b + 1, 0, none⟩)] w fun e w' => e = .returned (.bool (!v)) ∧ w = w' := by
  subst h
  exact notright_any b things n w hb

set_option maxHeartbeats 1000000 in
theorem fitsid_any (b : Nat) (things k at_ x y : Int) (w : World) (hb : RightAt w b things) :
    Calls Try.prog 81 #[actV k at_ x y, .pointer (some ⟨b + 1, 0, none⟩)] w fun e w' => e = .returned (.bool (fitsId things ⟨k, at_, x, y⟩)) ∧ w.alloc (.cells #[.int .i64 k, .int .i64 at_, .int .i64 x, .int .i64 y] 57) = w' := by
  have hb1 : RightAt (w.alloc (.cells #[.int .i64 k, .int .i64 at_, .int .i64 x, .int .i64 y] 57)) b things := hb.turns (Turns.alloc (fun _ => False) w _) (fun h => h) (fun h => h)
  have c1 := cell_of_heap hb1.r (j := 0) rfl
  have HB := Lib.hid hb1
  clear hb hb1
  cases k1 : (k == 1)
  · cases ra : right things x
    · have E := Lib.hid (show fitsId things ⟨k, at_, x, y⟩ = false by simp [fitsId, k1, ra])
      go_enter Try.func81, Try.ntmps81
      go_wp2_with (go_at_call 78; refine (right_lit b things _ _ _ HB.out (by assumption)).mono ?_; rintro e w1 ⟨rfl, rfl⟩)
      go_ret
      exact ⟨by rw [E.out]; rfl, rfl⟩
    · cases k5 : (k != 5)
      · cases rb : right things y
        · have E := Lib.hid (show fitsId things ⟨k, at_, x, y⟩ = false by simp [fitsId, k1, ra, k5, rb])
          go_enter Try.func81, Try.ntmps81
          go_wp2_with (go_at_call 78; refine (right_lit b things _ _ _ HB.out (by assumption)).mono ?_; rintro e w1 ⟨rfl, rfl⟩)
          all_goals (go_ret; exact ⟨by rw [E.out]; rfl, rfl⟩)
        · have E := Lib.hid (show fitsId things ⟨k, at_, x, y⟩ = true by simp [fitsId, ra, rb])
          go_enter Try.func81, Try.ntmps81
          go_wp2_with (go_at_call 78; refine (right_lit b things _ _ _ HB.out (by assumption)).mono ?_; rintro e w1 ⟨rfl, rfl⟩)
          all_goals (go_ret; exact ⟨by rw [E.out]; rfl, rfl⟩)
      · have E := Lib.hid (show fitsId things ⟨k, at_, x, y⟩ = true by simp [fitsId, ra, k5])
        go_enter Try.func81, Try.ntmps81
        go_wp2_with (go_at_call 78; refine (right_lit b things _ _ _ HB.out (by assumption)).mono ?_; rintro e w1 ⟨rfl, rfl⟩)
        all_goals (go_ret; exact ⟨by rw [E.out]; rfl, rfl⟩)
  · have E := Lib.hid (show fitsId things ⟨k, at_, x, y⟩ = true by simp [fitsId, k1])
    go_enter Try.func81, Try.ntmps81
    go_wp2_with fail
    go_ret
    exact ⟨by rw [E.out]; rfl, rfl⟩

theorem index_f (b : Nat) (things : Int) (a : Option Addr) (cap : Nat) (l : List Int) (w : World) (hn : l.length ≤ 64) (hr : IntsIn w a l) (hb : RightAt w b things) :
    Calls Try.prog 107 #[.slice a l.length cap, .func (.func 80) #[] #[.pointer (some ⟨b + 1, 0, none⟩)]] w fun e w' => ∃ n : Int, e = .returned (.int .i64 n) ∧ (decide (0 ≤ n) = !allRight things l) ∧ w = w' := by
  have Hr := Lib.hid hr
  clear hr
  have c0 := cell_of_heap hb.t (j := 0) rfl
  have c1 := cell_of_heap hb.r (j := 0) rfl
  go_enter Try.func107, Try.ntmps107
  go_wp2_with fail
  go_loop [8] (fun i => ∃ j : Nat, j ≤ l.length ∧ i = .int .i64 j ∧ Hid (allRight things (l.drop j) = allRight things l)) (fun i => l.length - (intOf i).toNat)
  case atStart => exact ⟨0, Nat.zero_le _, rfl, rfl⟩

  case round =>
    obtain ⟨j, hj, rfl, hspec⟩ := hrel
    by_cases hlt : j < l.length
    · obtain ⟨bb, off, rfl, h⟩ := Hr.out j hlt
      have Hs := Lib.hid ((allRight_cons things l j hlt).symm.trans hspec.out)
      clear hspec
      cases ra : right things l[j]
      · have Hp := Lib.hid (show allRight things l = false from by
          have := Hs.out
          rw [ra, Bool.false_and] at this
          exact this.symm)
        go_wp2_with (go_at_call 80; refine (notright_lit b things _ _ _ hb (by assumption)).mono ?_; rintro e w1 ⟨rfl, rfl⟩)
        go_ret
        exact ⟨_, rfl, by rw [Hp.out]; simp, rfl⟩
      · have H5 := Lib.hid (show allRight things (l.drop (j + 1)) = allRight things l by have := Hs.out; rw [ra, Bool.true_and] at this; exact this)
        go_wp2_with (go_at_call 80; refine (notright_lit b things _ _ _ hb (by assumption)).mono ?_; rintro e w1 ⟨rfl, rfl⟩)
        go_round
        case rel => exact ⟨j + 1, by omega, by go_num, H5.out⟩
        case measure => simp [intOf]; omega
    · have Hp := Lib.hid (show allRight things l = true from by rw [← hspec.out, List.drop_eq_nil_of_le (by omega)]; rfl)
      clear hspec
      go_wp2
      go_ret
      exact ⟨_, rfl, by rw [Hp.out]; rfl, rfl⟩

theorem contains_any (b : Nat) (things : Int) (a : Option Addr) (cap : Nat) (l : List Int) (w : World) (hn : l.length ≤ 64) (hr : IntsIn w a l) (hb : RightAt w b things) :
    Calls Try.prog 79 #[.slice a l.length cap, .func (.func 80) #[] #[.pointer (some ⟨b + 1, 0, none⟩)]] w fun e w' => e = .returned (.bool (!allRight things l)) ∧ w = w' := by
  have Hr := Lib.hid hr
  clear hr
  go_enter Try.func79, Try.ntmps79
  go_wp2_with fail
  refine (index_f b things a cap l w hn Hr.out hb).mono ?_
  rintro e w1 ⟨n, rfl, h, rfl⟩
  have H := Lib.hid h
  clear h
  go_wp2
  go_ret
  exact ⟨by rw [← H.out]; rfl, rfl⟩

end Go.Proofs.Ytjifoggfndicoaa
