/-
  DERIVED. THE WALK over package cell's 'check' as Marks calls it; what Marks leaves where it refuses.
-/
import Derived.Test.YtjifoggfndicoaaMRow
namespace Go.Proofs.Ytjifoggfndicoaa
open Go.RowKit
set_option maxRecDepth 100000

theorem simple_any (k : Int) (w : World) : Calls Try.prog 73 #[.int .i64 k] w fun e w' => e = .returned (.bool (known4 k)) ∧ w = w' := by
  go_enter Try.func73, Try.ntmps73
  go_wp2_with fail
  all_goals
    go_ret
    refine ⟨?_, rfl⟩
    first | (simp [known4]; done) | (simp [known4, *]; done) | simp_all [known4]

theorem mfits_any (a : Value) (w : World) (k at_ x y : Int) (ha : a = actV k at_ x y) : Calls Try.prog 74 #[a] w fun e w' => e = .returned (.bool true) ∧ Below w.heap.size w w' := by
  subst ha
  go_enter Try.func74, Try.ntmps74
  go_wp2
  go_ret
  exact ⟨rfl, (Below.refl _ _).alloc (Nat.le_refl _) _⟩

set_option maxHeartbeats 1000000 in
theorem mcheck_any (cells : Int) (a : Option Addr) (cap : Nat) (l : List A4) (w : World) (hn : l.length ≤ 1000) (hr : ActsIn w a l) :
    Calls Try.prog 49 #[.int .i64 cells, .slice a l.length cap, .func (.func 73) #[] #[], .func (.func 74) #[] #[]] w fun e w' => e = .returned (.int .i64 (checkMarks cells l)) ∧ Below w.heap.size w w' := by
  have Hr := Lib.hid hr
  clear hr
  go_enter Try.func49, Try.ntmps49
  go_wp2_with fail
  go_loopw [13] (fun i wr => ∃ j : Nat, j ≤ l.length ∧ i = .int .i64 j ∧ Below w.heap.size w wr ∧ Hid (checkMarks cells (l.drop j) = checkMarks cells l)) (fun i _ => l.length - (intOf i).toNat)
  case atStart => exact ⟨0, Nat.zero_le _, rfl, Below.refl _ _, rfl⟩
  case round =>
    obtain ⟨j, hj, rfl, hb, hspec⟩ := hrel
    by_cases hlt : j < l.length
    · obtain ⟨b, off, rfl, h1, h2, h3, h4⟩ := (Hr.out.below hb) j hlt
      have Hs := Lib.hid ((checkMarks_cons cells l j hlt).symm.trans hspec.out)
      have Hb := Lib.hid hb
      clear hspec hb
      by_cases hk : known4 l[j].k = true
      · go_wp2_with (first | (go_at_call 73; refine (simple_any _ _).mono ?_; rintro e w1 ⟨rfl, rfl⟩) | (go_at_call 74; refine (mfits_any _ _ _ _ _ _ rfl).mono ?_; rintro e w1 ⟨rfl, hb1⟩))
        all_goals first
          | (go_roundw
             case rel => exact ⟨j + 1, by omega, by go_num, (Hb.out.alloc Hb.out.size _).trans (hb1.mono (by have := Hb.out.size; simp; omega)), by have := Hs.out; rw [hk, if_neg (by simp), if_neg (by omega)] at this; exact this⟩
             case measure => simp [intOf]; omega)
          | (go_ret
             exact ⟨by have := Hs.out; rw [hk, if_neg (by simp), if_pos (by omega)] at this; rw [← this]; rfl, Hb.out.alloc Hb.out.size _⟩)
      · have hk2 : known4 l[j].k = false := by simpa using hk
        clear hk
        go_wp2_with (first | (go_at_call 73; refine (simple_any _ _).mono ?_; rintro e w1 ⟨rfl, rfl⟩))
        go_ret
        exact ⟨by have := Hs.out; rw [if_pos hk2] at this; rw [← this]; rfl, Hb.out.alloc Hb.out.size _⟩
    · go_wp2
      go_ret
      have he : l.drop j = [] := List.drop_eq_nil_of_le (by omega)
      have hs := hspec.out
      rw [he] at hs
      exact ⟨by rw [← hs]; rfl, hb⟩

/-- what Marks leaves. -/
def MarksPost (w : World) (cells : List Bool) (acts : List A4) (e : Ending) (w' : World) : Prop :=
  ∃ v1 v2 v3, e = .returned (.tuple #[v1, v2, v3, .int .i64 (marksErr cells acts)]) ∧ RowB w' w.heap.size v1 (marksAns cells acts) ∧ RowB w' w.heap.size v2 (marksEnd cells acts) ∧ RowI w' w.heap.size v3 (marksKinds cells acts) ∧ Below w.heap.size w w'

theorem marks_none (w : World) (cells : List Bool) (acts : List A4) (w' : World) (h : marksErr cells acts ≠ 0) (hb : Below w.heap.size w w') : MarksPost w cells acts (.returned (.tuple #[.slice none 0 0, .slice none 0 0, .slice none 0 0, .int .i64 (marksErr cells acts)])) w' := by
  refine ⟨_, _, _, rfl, ?_, ?_, ?_, hb⟩
  · rw [marksAns, if_neg h]; exact World.ownsRow_nil _ _ _ _
  · rw [marksEnd, if_neg h]; exact World.ownsRow_nil _ _ _ _
  · rw [marksKinds, if_neg h]; exact World.ownsRow_nil _ _ _ _

set_option maxHeartbeats 400000 in
theorem marks_big (ca aa : Option Addr) (cc ac : Nat) (cells : List Bool) (acts : List A4) (w : World) (h : 64 < cells.length ∨ 1000 < acts.length) :
    Calls Try.prog 41 #[.slice ca cells.length cc, .slice aa acts.length ac] w (MarksPost w cells acts) := by
  have he : marksErr cells acts = 2 := by rw [marksErr, if_pos h]
  have hp := marks_none w cells acts w (by rw [he]; decide) (Below.refl _ _)
  rw [he] at hp
  have Hp := Lib.hid hp
  clear hp he
  by_cases h1 : 64 < cells.length
  · clear h
    go_enter Try.func41, Try.ntmps41
    go_wp2
    exact bodyPost_ret (v := .tuple #[.slice none 0 0, .slice none 0 0, .slice none 0 0, .int .i64 2]) (by simp [results, Try.results41, go_sem]) rfl Hp.out
  · have h2 : 1000 < acts.length := by omega
    clear h
    have h3 : decide ((64 : Int) < (cells.length : Int)) = false := by simp; omega
    have h4 : (1000 : Int) < (acts.length : Int) := by omega
    clear h1
    go_enter Try.func41, Try.ntmps41
    go_wp2
    exact bodyPost_ret (v := .tuple #[.slice none 0 0, .slice none 0 0, .slice none 0 0, .int .i64 2]) (by simp [results, Try.results41, go_sem]) rfl Hp.out

set_option maxHeartbeats 400000 in
theorem marks_bad (ca aa : Option Addr) (cc ac : Nat) (cells : List Bool) (acts : List A4) (w : World) (h1 : cells.length ≤ 64) (h2 : acts.length ≤ 1000) (hne : checkMarks cells.length acts ≠ 0) (hr : ActsIn w aa acts) :
    Calls Try.prog 41 #[.slice ca cells.length cc, .slice aa acts.length ac] w (MarksPost w cells acts) := by
  have he : marksErr cells acts = checkMarks cells.length acts := by rw [marksErr, if_neg (by omega)]
  have hp := fun w' => marks_none w cells acts w' (by rw [he]; exact hne)
  rw [he] at hp
  have Hp := Lib.hid hp
  clear hp he
  have hne' : (checkMarks cells.length acts != 0) = true := by rw [bne_iff_ne]; exact hne
  have h3 : decide ((64 : Int) < (cells.length : Int)) = false := by simp; omega
  have h4 : decide ((1000 : Int) < (acts.length : Int)) = false := by simp; omega
  have Hr := Lib.hid hr
  clear hne hr
  go_enter Try.func41, Try.ntmps41
  go_wp2_with (go_at_call 49; refine (mcheck_any _ _ _ acts _ h2 Hr.out).mono ?_; rintro e w1 ⟨rfl, hb1⟩)
  exact bodyPost_ret (v := .tuple #[.slice none 0 0, .slice none 0 0, .slice none 0 0, .int .i64 (checkMarks cells.length acts)]) (by simp [results, Try.results41, go_sem]) rfl (Hp.out _ hb1)

end Go.Proofs.Ytjifoggfndicoaa
