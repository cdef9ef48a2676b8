/-
  DERIVED. THE WALK over package cell's 'check' as Nums calls it.
-/
import Derived.Test.YtjifoggfndicoaaDo
namespace Go.Proofs.Ytjifoggfndicoaa
open Go.RowKit
set_option maxRecDepth 100000

theorem known_any (k : Int) (w : World) : Calls Try.prog 48 #[.int .i64 k] w fun e w' => e = .returned (.bool (known7 k)) ∧ w = w' := by
  by_cases h1 : 1 ≤ k
  · by_cases h2 : k ≤ 7
    · have e : known7 k = true := by simp [known7, h1, h2]
      have E := Lib.hid e
      clear e
      go_enter Try.func48, Try.ntmps48
      go_wp2
      go_ret
      exact ⟨by rw [E.out]; rfl, rfl⟩
    · have e : known7 k = false := by simp [known7]; omega
      have E := Lib.hid e
      clear e
      have h2' : decide (k ≤ 7) = false := by simp; omega
      go_enter Try.func48, Try.ntmps48
      go_wp2
      go_ret
      exact ⟨by rw [E.out]; rfl, rfl⟩
  · have e : known7 k = false := by simp [known7]; omega
    have E := Lib.hid e
    clear e
    have h2' : decide (1 ≤ k) = false := by simp; omega
    go_enter Try.func48, Try.ntmps48
    go_wp2
    go_ret
    exact ⟨by rw [E.out]; rfl, rfl⟩

theorem fits_any (a : Value) (w : World) (k at_ x y : Int) (ha : a = actV k at_ x y) : Calls Try.prog 50 #[a] w fun e w' => e = .returned (.bool true) ∧ w.alloc (.cells #[.int .i64 k, .int .i64 at_, .int .i64 x, .int .i64 y] 57) = w' := by
  subst ha
  go_enter Try.func50, Try.ntmps50
  go_wp2
  go_ret
  exact ⟨rfl, rfl⟩


set_option maxHeartbeats 1000000 in
theorem check_any (cells : Int) (a : Option Addr) (cap : Nat) (l : List A4) (w : World) (hn : l.length ≤ 1000) (hr : ActsIn w a l) :
    Calls Try.prog 49 #[.int .i64 cells, .slice a l.length cap, .func (.func 48) #[] #[], .func (.func 50) #[] #[]] w fun e w' => e = .returned (.int .i64 (checkNums cells l)) ∧ Below w.heap.size w w' := by
  have Hr := Lib.hid hr
  clear hr
  go_enter Try.func49, Try.ntmps49
  go_wp2_with fail
  go_loopw [13] (fun i wr => ∃ j : Nat, j ≤ l.length ∧ i = .int .i64 j ∧ Below w.heap.size w wr ∧ Hid (checkNums cells (l.drop j) = checkNums cells l)) (fun i _ => l.length - (intOf i).toNat)
  case atStart => exact ⟨0, Nat.zero_le _, rfl, Below.refl _ _, rfl⟩
  case round =>
    obtain ⟨j, hj, rfl, hb, hspec⟩ := hrel
    by_cases hlt : j < l.length
    · obtain ⟨b, off, rfl, h1, h2, h3, h4⟩ := (Hr.out.below hb) j hlt
      have Hs := Lib.hid ((checkNums_cons cells l j hlt).symm.trans hspec.out)
      have Hb := Lib.hid hb
      clear hspec hb
      by_cases hk : known7 l[j].k = true
      · go_wp2_with (first | (go_at_call 48; refine (known_any _ _).mono ?_; rintro e w1 ⟨rfl, rfl⟩) | (go_at_call 50; refine (fits_any _ _ _ _ _ _ rfl).mono ?_; rintro e w1 ⟨rfl, rfl⟩))
        · go_roundw
          case rel => exact ⟨j + 1, by omega, by go_num, (((Hb.out.alloc Hb.out.size _).alloc (by have := Hb.out.size; simp; omega) _)), by have := Hs.out; rw [hk, if_neg (by simp), if_neg (by omega)] at this; exact this⟩
          case measure => simp [intOf]; omega
        · go_ret
          exact ⟨by have := Hs.out; rw [hk, if_neg (by simp), if_pos (by omega)] at this; rw [← this]; rfl, Hb.out.alloc Hb.out.size _⟩
        · go_ret
          exact ⟨by have := Hs.out; rw [hk, if_neg (by simp), if_pos (by omega)] at this; rw [← this]; rfl, Hb.out.alloc Hb.out.size _⟩
      · have hk2 : known7 l[j].k = false := by simpa using hk
        clear hk
        go_wp2_with (first | (go_at_call 48; refine (known_any _ _).mono ?_; rintro e w1 ⟨rfl, rfl⟩))
        go_ret
        exact ⟨by have := Hs.out; rw [if_pos hk2] at this; rw [← this]; rfl, Hb.out.alloc Hb.out.size _⟩
    · go_wp2
      go_ret
      have he : l.drop j = [] := List.drop_eq_nil_of_le (by omega)
      have hs := hspec.out
      rw [he] at hs
      exact ⟨by rw [← hs]; rfl, hb⟩

end Go.Proofs.Ytjifoggfndicoaa
