/-
  DERIVED. THE WALKS over the reference's Is and Cut; a row of one act.
-/
import Derived.Test.YtfkhflknigemgaaGreatWSteps
namespace Go.Proofs.YtfkhflknigemgaaGreat
open Go.RowKit
set_option maxRecDepth 100000

theorem is_any (kd : Int) (w : World) : Calls Tryz.prog 30 #[.int .i64 kd] w fun e w' => e = .returned (.bool (isW kd)) ∧ w = w' := by
  by_cases h1 : 1 ≤ kd
  · by_cases h2 : kd ≤ 6
    · have E := Lib.hid (show isW kd = true by simp [isW, h1, h2])
      go_enter Tryz.func30, Tryz.ntmps30
      go_wp2
      go_ret
      exact ⟨by rw [E.out]; rfl, rfl⟩
    · have E := Lib.hid (show isW kd = false by simp [isW]; omega)
      have h2' : decide (kd ≤ 6) = false := by simp; omega
      go_enter Tryz.func30, Tryz.ntmps30
      go_wp2
      go_ret
      exact ⟨by rw [E.out]; rfl, rfl⟩
  · have E := Lib.hid (show isW kd = false by simp [isW]; omega)
    have h2' : decide (1 ≤ kd) = false := by simp; omega
    go_enter Tryz.func30, Tryz.ntmps30
    go_wp2
    go_ret
    exact ⟨by rw [E.out]; rfl, rfl⟩

theorem cut_any (kd b : Int) (w : World) (hb : 0 ≤ b ∧ b < 18446744073709551616) : Calls Tryz.prog 25 #[.int .i64 kd, .int .u64 b] w fun e w' => e = .returned (.int .u64 (cutW kd b)) ∧ w = w' := by
  by_cases h5 : kd = 5
  · subst h5
    by_cases hz : b = 0
    · subst hz
      go_enter Tryz.func25, Tryz.ntmps25
      go_wp2
      go_ret
      exact ⟨rfl, rfl⟩
    · have hz' : (b != 0) = true := by simpa using hz
      have E := Lib.hid (show cutW 5 b = 1 by simp [cutW, hz])
      clear hz
      go_enter Tryz.func25, Tryz.ntmps25
      go_wp2
      go_ret
      exact ⟨by rw [E.out]; rfl, rfl⟩
  · have h5' : (kd == 5) = false := by simpa using h5
    by_cases h1 : kd = 1
    · subst h1
      have E := Lib.hid (show cutW 1 b = b % 4294967296 by simp [cutW])
      go_enter Tryz.func25, Tryz.ntmps25
      go_wp2
      go_ret
      exact ⟨by rw [E.out]; rfl, rfl⟩
    · have h1' : (kd == 1) = false := by simpa using h1
      by_cases h3 : kd = 3
      · subst h3
        have E := Lib.hid (show cutW 3 b = b % 4294967296 by simp [cutW])
        go_enter Tryz.func25, Tryz.ntmps25
        go_wp2
        go_ret
        exact ⟨by rw [E.out]; rfl, rfl⟩
      · have h3' : (kd == 3) = false := by simpa using h3
        have E := Lib.hid (show cutW kd b = b by simp [cutW, h1, h3, h5])
        clear h1 h3 h5
        go_enter Tryz.func25, Tryz.ntmps25
        go_wp2
        go_ret
        exact ⟨by rw [E.out]; rfl, rfl⟩

/-- the one cell row of an answer. -/
theorem rowO_one {w : World} {B c : Nat} {a : Option Addr} {x : Int × Bool} (h : RowO w B (.slice a 1 c) [x]) : ∃ g, a = some ⟨g, 0, none⟩ ∧ w.cell? ⟨g, 0, none⟩ = some (.int .u64 x.1) ∧ w.cell? ⟨g, 1, none⟩ = some (.bool x.2) := by
  obtain ⟨g, e1, c1, _⟩ := own_cell h (outCellsOf_get [x] 0 (by simp)).1
  obtain ⟨g2, e2, c2, _⟩ := own_cell h (outCellsOf_get [x] 0 (by simp)).2
  rw [e1] at e2
  injection e2 with e2
  injection e2 with e2
  subst e2
  exact ⟨g, e1, c1, c2⟩

theorem lit_act {w : World} {k a b : Int} {T : TypeId} {g : Nat} (h : w.heap[g]? = some (.cells #[.int .i64 k, .int .u64 a, .int .u64 b] T (0, 0))) : ActsW w (some ⟨g, 0, none⟩) [⟨k, a, b⟩] := by
  intro j hj
  have : j = 0 := by simpa using hj
  subst this
  exact ⟨g, 0, rfl, cell_of_heap h rfl, cell_of_heap h rfl, cell_of_heap h rfl⟩

theorem do_anyN (n : Nat) (kd s : Int) (a : Option Addr) (cap : Nat) (l : List A3) (w : World) (hn : l.length = n) (hr : ActsW w a l) (hs : 0 ≤ s ∧ s < 18446744073709551616) (hl : ∀ x ∈ l, x.ok) :
    Calls Tryz.prog 8 #[.int .i64 kd, .int .u64 s, .slice a n cap] w (DoRow w kd s l) := by
  subst hn
  exact do_any kd s a cap l w hr hs hl

/-- what Do leaves of one act that is granted. -/
theorem do_one (kd s k a b V N : Int) (O : Bool) (g : Nat) (T : TypeId) (w : World) (hs : 0 ≤ s ∧ s < 18446744073709551616) (ha : 0 ≤ a ∧ a < 18446744073709551616) (hb : 0 ≤ b ∧ b < 18446744073709551616) (he : wErr kd [⟨k, a, b⟩] = 0)
    (hV : wVal kd (cutW kd s) k a = V) (hO : wOk kd (cutW kd s) k a = O) (hN : wNew kd (cutW kd s) k a b = N) (hg : w.heap[g]? = some (.cells #[.int .i64 k, .int .u64 a, .int .u64 b] T (0, 0))) :
    Calls Tryz.prog 8 #[.int .i64 kd, .int .u64 s, .slice (some ⟨g, 0, none⟩) 1 1] w fun e w' => ∃ q c, e = .returned (.tuple #[.slice (some ⟨q, 0, none⟩) 1 c, .int .u64 N, .int .i64 0]) ∧ w'.cell? ⟨q, 0, none⟩ = some (.int .u64 V) ∧ w'.cell? ⟨q, 1, none⟩ = some (.bool O) ∧ Below w.heap.size w w' := by
  refine (do_anyN 1 kd s _ 1 [⟨k, a, b⟩] w rfl (lit_act hg) hs ?_).mono ?_
  · intro x hx; simp at hx; subst hx; exact ⟨ha, hb⟩
  · rintro e w' ⟨v, rfl, hrow, hbe⟩
    have h1 : doOuts kd s [⟨k, a, b⟩] = [(V, O)] := by rw [doOuts, if_pos he]; simp [wOuts, wAns, hV, hO]
    have h2 : doEnd kd s [⟨k, a, b⟩] = N := by rw [doEnd, if_pos he]; simp [wTo, wStep, hN]
    rw [h1] at hrow
    obtain ⟨a', c, rfl⟩ := row_shape hrow
    obtain ⟨q, rfl, c1, c2⟩ := rowO_one hrow
    exact ⟨q, c, by rw [h2, he]; rfl, c1, c2, hbe⟩

set_option maxHeartbeats 1000000 in
theorem known_any (w : World) : Calls Tryz.prog 6 #[] w fun e w' => e = .returned (.bool true) ∧ Below w.heap.size w w' := by
  have H := Lib.hid (fun g w hg => do_one 1 2147483647 3 1 0 2147483648 2147483648 true g 42 w (by omega) (by omega) (by omega) rfl rfl rfl rfl hg)
  go_enter Tryz.func6, Tryz.ntmps6
  go_wp2_with fail
  refine (H.out _ _ (heap_alloc_new _ _)).mono ?_
  rintro e w1 ⟨q, c, rfl, c1, c2, hbe⟩
  have Hb := Lib.hid hbe
  clear hbe
  go_wp2_with fail
  go_ret
  exact ⟨rfl, ((Below.refl _ _).alloc (Nat.le_refl _) _).trans (Hb.out.mono (by simp))⟩

theorem cut_of (kd v : Int) (h : Canon kd v) : cutW kd v = v := by
  unfold Canon at h
  unfold cutW
  obtain ⟨h0, h1⟩ := h
  split
  · rename_i hk; rw [if_pos hk] at h1; omega
  · rename_i hk
    rw [if_neg hk] at h1
    split
    · rename_i h5; rw [if_pos h5] at h1
      split <;> omega
    · rfl
end Go.Proofs.YtfkhflknigemgaaGreat
