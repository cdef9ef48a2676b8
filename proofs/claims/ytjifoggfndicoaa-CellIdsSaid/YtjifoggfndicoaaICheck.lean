/-
  DERIVED. THE WALK over package cell's 'check' as Ids calls it.
-/
import Derived.Test.YtjifoggfndicoaaIFn
namespace Go.Proofs.Ytjifoggfndicoaa
open Go.RowKit
set_option maxRecDepth 100000

theorem fits_lit (b : Nat) (things k at_ x y : Int) (v : Bool) (w : World) (hb : RightAt w b things) (h : fitsId things ⟨k, at_, x, y⟩ = v) :
    Calls Try.prog 81 #[actV k at_ x y, .pointer (some ⟨b + 1, 0, none⟩)] w fun e w' => e = .returned (.bool v) ∧ w.alloc (.cells #[.int .i64 k, .int .i64 at_, .int .i64 x, .int .i64 y] 57) = w' := by
  subst h
  exact fitsid_any b things k at_ x y w hb

set_option maxHeartbeats 1000000 in
theorem icheck_any (b : Nat) (things cells : Int) (a : Option Addr) (cap : Nat) (l : List A4) (w : World) (hn : l.length ≤ 1000) (hr : ActsIn w a l) (hb : RightAt w b things) :
    Calls Try.prog 49 #[.int .i64 cells, .slice a l.length cap, .func (.func 73) #[] #[], .func (.func 81) #[] #[.pointer (some ⟨b + 1, 0, none⟩)]] w fun e w' => e = .returned (.int .i64 (checkIds cells things l)) ∧ Below w.heap.size w w' := by
  have Hr := Lib.hid hr
  have HB := Lib.hid hb
  have hblt := heap_lt hb.r
  clear hr hb
  go_enter Try.func49, Try.ntmps49
  go_wp2_with fail
  go_loopw [13] (fun i wr => ∃ j : Nat, j ≤ l.length ∧ i = .int .i64 j ∧ Below w.heap.size w wr ∧ Hid (checkIds cells things (l.drop j) = checkIds cells things l)) (fun i _ => l.length - (intOf i).toNat)
  case atStart => exact ⟨0, Nat.zero_le _, rfl, Below.refl _ _, rfl⟩
  case round =>
    obtain ⟨j, hj, rfl, hb, hspec⟩ := hrel
    by_cases hlt : j < l.length
    · obtain ⟨bb, off, rfl, h1, h2, h3, h4⟩ := (Hr.out.below hb) j hlt
      have Hs := Lib.hid ((checkIds_cons cells things l j hlt).symm.trans hspec.out)
      have Hb := Lib.hid hb
      clear hspec hb
      have HBr := Lib.hid (show RightAt (wr.alloc (.cells #[.int .i64 l[j].k, .int .i64 l[j].at_, .int .i64 l[j].a, .int .i64 l[j].b] 57)) b things from ⟨(Turns.alloc (fun _ => False) wr _).heap (by rw [Hb.out.block b (by omega)]; exact HB.out.t) (fun h => h), (Turns.alloc (fun _ => False) wr _).heap (by rw [Hb.out.block (b + 1) hblt]; exact HB.out.r) (fun h => h)⟩)
      by_cases hk : known4 l[j].k = true
      · cases hf : fitsId things ⟨l[j].k, l[j].at_, l[j].a, l[j].b⟩
        · have hff : fitsId things l[j] = false := hf
          have H5 := Lib.hid (show 1 = checkIds cells things l by have := Hs.out; rw [hk, if_neg (by simp), hff] at this; simpa using this)
          go_wp2_with (first | (go_at_call 73; refine (simple_any _ _).mono ?_; rintro e w1 ⟨rfl, rfl⟩) | (go_at_call 81; refine (fits_lit b things _ _ _ _ _ _ HBr.out (by assumption)).mono ?_; rintro e w1 ⟨rfl, rfl⟩))
          all_goals (go_ret; first | exact ⟨ret_i H5.out, Hb.out.alloc Hb.out.size _⟩ | exact ⟨ret_i H5.out, (Hb.out.alloc Hb.out.size _).alloc (by have := Hb.out.size; simp; omega) _⟩)
        · have hff : fitsId things l[j] = true := hf
          go_wp2_with (first | (go_at_call 73; refine (simple_any _ _).mono ?_; rintro e w1 ⟨rfl, rfl⟩) | (go_at_call 81; refine (fits_lit b things _ _ _ _ _ _ HBr.out (by assumption)).mono ?_; rintro e w1 ⟨rfl, rfl⟩))
          all_goals first
            | (go_roundw
               case rel => exact ⟨j + 1, by omega, by go_num, (Hb.out.alloc Hb.out.size _).alloc (by have := Hb.out.size; simp; omega) _, by have := Hs.out; rw [hk, if_neg (by simp), if_neg (by omega), hff, if_neg (by simp)] at this; exact this⟩
               case measure => simp [intOf]; omega)
            | (go_ret
               exact ⟨by have := Hs.out; rw [hk, if_neg (by simp), if_pos (by omega)] at this; rw [← this]; rfl, Hb.out.alloc Hb.out.size _⟩)
      · have hk2 : known4 l[j].k = false := by simpa using hk
        clear hk
        go_wp2_with (first | (go_at_call 73; refine (simple_any _ _).mono ?_; rintro e w1 ⟨rfl, rfl⟩))
        go_ret
        exact ⟨by have := Hs.out; rw [if_pos hk2] at this; rw [← this]; rfl, Hb.out.alloc Hb.out.size _⟩
    · go_wp2
      go_ret
      have he : l.drop j = [] := List.drop_eq_nil_of_le (by omega)
      have hs := hspec.out
      rw [he] at hs
      exact ⟨by rw [← hs]; rfl, hb⟩

end Go.Proofs.Ytjifoggfndicoaa
