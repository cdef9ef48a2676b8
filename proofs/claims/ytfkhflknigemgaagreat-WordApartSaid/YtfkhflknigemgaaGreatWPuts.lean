/-
  DERIVED. THE WALKS over word's empty, holding, load, isKind, check.
-/
import Derived.Test.YtfkhflknigemgaaGreatWBox
namespace Go.Proofs.YtfkhflknigemgaaGreat
open Go.RowKit
set_option maxRecDepth 100000

theorem new_holds (kd : Int) (hk : 1 ≤ kd ∧ kd ≤ 6) (w : World) (h : (w.alloc (.cells #[cellVal kd 0] (cellTy kd))).heap[w.heap.size]? = some (.cells #[cellVal kd 0] (cellTy kd) (0, 0))) : Holds (w.alloc (.cells #[cellVal kd 0] (cellTy kd))) kd w.heap.size 0 := by
  refine ⟨hk, ?_, h⟩
  unfold Canon
  obtain rfl | rfl | rfl | rfl | rfl | rfl : kd = 1 ∨ kd = 2 ∨ kd = 3 ∨ kd = 4 ∨ kd = 5 ∨ kd = 6 := by omega
  all_goals simp

theorem empty_any (kd : Int) (hk : 1 ≤ kd ∧ kd ≤ 6) (w : World) : Calls Tryz.prog 38 #[.int .i64 kd] w fun e w' => e = .returned (.iface (boxTy kd) (boxVal kd w.heap.size)) ∧ w.alloc (.cells #[cellVal kd 0] (cellTy kd)) = w' := by
  obtain rfl | rfl | rfl | rfl | rfl | rfl : kd = 1 ∨ kd = 2 ∨ kd = 3 ∨ kd = 4 ∨ kd = 5 ∨ kd = 6 := by omega
  all_goals
    go_enter Tryz.func38, Tryz.ntmps38
    go_wp2
    go_ret
    exact ⟨rfl, by first | rfl | (simp [cellVal, cellTy, cv_i32, cv_i64]; first | done | (simp [wrap32, wrap64]))⟩

theorem box_enter (kd : Int) (hk : 1 ≤ kd ∧ kd ≤ 6) (args : Array Value) (w : World) : (callFunc (doFn kd) args).run Tryz.prog w = .ok (.enter (doFn kd) args) w := by
  obtain rfl | rfl | rfl | rfl | rfl | rfl : kd = 1 ∨ kd = 2 ∨ kd = 3 ∨ kd = 4 ∨ kd = 5 ∨ kd = 6 := by omega
  all_goals kernel_rfl

theorem out_val (x : Int) (y : Bool) (w : World) : (Instr.field 44 (.agg #[.int .u64 x, .bool y]) 0).run Tryz.prog w = .ok (.int .u64 x) w := by kernel_rfl
theorem out_ok (x : Int) (y : Bool) (w : World) : (Instr.field 44 (.agg #[.int .u64 x, .bool y]) 1).run Tryz.prog w = .ok (.bool y) w := by kernel_rfl

theorem load_any (kd : Int) (bl : Nat) (v : Int) (w : World) (hh : Holds w kd bl v) : Calls Tryz.prog 29 #[.iface (boxTy kd) (boxVal kd bl)] w fun e w' => e = .returned (.int .u64 v) ∧ Turns (fun i => i = bl) w w' ∧ Holds w' kd bl v := by
  have hm := box_method kd bl hh.kind
  have he := box_enter kd hh.kind
  have hf := out_val
  have Hh := Lib.hid hh
  clear hh
  go_enter Tryz.func29, Tryz.ntmps29
  go_wp2_with (first | (refine (box_do kd bl v 1 0 0 _ Hh.out (by simp [canW]) (by omega) (by omega)).mono ?_; rintro e w1 ⟨rfl, t1, h1⟩))
  go_ret
  exact ⟨by simp [wVal], t1, by simpa [wNew] using h1⟩

theorem holding_any (kd start : Int) (hk : 1 ≤ kd ∧ kd ≤ 6) (hs : 0 ≤ start ∧ start < 18446744073709551616) (w : World) : Calls Tryz.prog 28 #[.int .i64 kd, .int .u64 start] w fun e w' => ∃ bl, e = .returned (.iface (boxTy kd) (boxVal kd bl)) ∧ w.heap.size ≤ bl ∧ Holds w' kd bl (cutW kd start) ∧ Turns (fun _ => False) w w' := by
  have hm := fun bl => box_method kd bl hk
  have he := box_enter kd hk
  go_enter Tryz.func28, Tryz.ntmps28
  go_wp2_with (first | (go_at_call 38; refine (empty_any kd hk _).mono ?_; rintro e w1 ⟨rfl, rfl⟩) | (refine (box_do kd w.heap.size 0 2 start 0 _ (new_holds kd hk _ (heap_alloc_new _ _)) (by simp [canW]) hs (by omega)).mono ?_; rintro e w2 ⟨rfl, t1, h1⟩))
  go_ret
  refine ⟨w.heap.size, rfl, Nat.le_refl _, by simpa [wNew] using h1, ?_⟩
  exact ((Turns.alloc (fun i => i = w.heap.size) w _).trans t1).mono (fun k hk e => by omega)

theorem isKind_any (kd : Int) (w : World) : Calls Tryz.prog 31 #[.int .i64 kd] w fun e w' => e = .returned (.bool (decide (1 ≤ kd ∧ kd ≤ 6))) ∧ w = w' := by
  by_cases h1 : 1 ≤ kd
  · by_cases h2 : kd ≤ 6
    · have E := Lib.hid (show decide (1 ≤ kd ∧ kd ≤ 6) = true by simp [h1, h2])
      go_enter Tryz.func31, Tryz.ntmps31
      go_wp2
      go_ret
      exact ⟨by first | rfl | (rw [E.out]; rfl), rfl⟩
    · have E := Lib.hid (show decide (1 ≤ kd ∧ kd ≤ 6) = false by simp; omega)
      have h2' : decide (kd ≤ 6) = false := by simp; omega
      go_enter Tryz.func31, Tryz.ntmps31
      go_wp2
      go_ret
      exact ⟨by first | rfl | (rw [E.out]; rfl), rfl⟩
  · have E := Lib.hid (show decide (1 ≤ kd ∧ kd ≤ 6) = false by simp; omega)
    have h2' : decide (1 ≤ kd) = false := by simp; omega
    go_enter Tryz.func31, Tryz.ntmps31
    go_wp2
    go_ret
    exact ⟨by first | rfl | (rw [E.out]; rfl), rfl⟩

end Go.Proofs.YtfkhflknigemgaaGreat
