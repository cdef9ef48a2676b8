/-
  DERIVED. THE WALK over word's truth: each access.
-/
import Derived.Test.YtfkhflknigemgaaGreatWBool
namespace Go.Proofs.YtfkhflknigemgaaGreat
open Go.RowKit
set_option maxRecDepth 100000

def cv_bl (v : Int) : Value := .int .u32 v
theorem turns_of_setd {w w' : World} {bl : Nat} {u : Value} (h : (w.setCell ⟨bl, 0, none⟩ u).drew = w') : Turns (fun i => i = bl) w w' := by
  rw [← h]; exact (Turns.setCell (S := fun i => i = bl) w rfl u).trans (Turns.drew _ _)
theorem bit_held (v : Int) (h : 0 ≤ v ∧ v ≤ 1) : bitW (v != 0) = v := by
  unfold bitW
  by_cases e : v = 0
  · subst e; rfl
  · rw [if_pos (by simpa using e)]; omega
theorem bit_cut (a : Int) : bitW (a != 0) = cutW 5 a := by
  unfold bitW cutW
  by_cases e : a = 0
  · subst e; rfl
  · rw [if_pos (by simpa using e)]; simp [e]

set_option maxHeartbeats 1000000 in
theorem do_bl_load (bl : Nat) (v a b : Int) (w : World) (hv : 0 ≤ v ∧ v ≤ 1) (hh : w.heap[bl]? = some (.cells #[cv_bl v] 115 (0, 0))) :
    Calls Tryz.prog 123 #[.agg #[.pointer (some ⟨bl, 0, none⟩)], .agg #[.int .i64 1, .int .u64 a, .int .u64 b]] w (DoPost 5 bl cv_bl 115 v 1 a b w) := by
  have hlt := heap_lt hh
  have Hh := Lib.hid hh
  have Hv := Lib.hid hv
  clear hh hv
  go_enter Tryz.func123, Tryz.ntmps123
  go_wp2_with fail
  go_quiet (fail)
  have tX := ((((Turns.alloc (fun _ => False) w (.cells #[.pointer (some ⟨bl, 0, none⟩)] 117)).trans (Turns.alloc _ _ (.cells #[.int .i64 1, .int .u64 a, .int .u64 b] 42))).trans (Turns.alloc _ _ (.cells #[.int .u64 0, .bool false] 44))).trans (TurnsDrewN _ _ nq))
  have hX := tX.heap Hh.out (fun h => h)
  have bX := three_blocks w (.cells #[.pointer (some ⟨bl, 0, none⟩)] 117) (.cells #[.int .i64 1, .int .u64 a, .int .u64 b] 42) (.cells #[.int .u64 0, .bool false] 44) nq
  have HX := Lib.hid hX
  have TX := Lib.hid tX
  have BX := Lib.hid bX
  clear hX tX bX
  go_wp2_with fail
  refine (bool_load bl 0 _ _ (cell_of_heap HX.out (j := 0) rfl)).mono ?_
  rintro e w1 ⟨rfl, q0⟩
  have t1 := turns_of_set (setCell_self (cell_of_heap HX.out (j := 0) rfl) ▸ q0)
  have n1 : w1.heap[bl]? = some (.cells #[cv_bl v] 115 (0, 0)) := by rw [← q0]; exact HX.out
  have r1 := heap_ne t1 BX.out.1 (by omega)
  have r2 := heap_ne t1 BX.out.2.2 (by omega)
  have c1 := cell_of_heap r1 (j := 0) rfl
  have d0 := cell_of_heap r2 (j := 0) rfl
  have d1 := cell_of_heap r2 (j := 1) rfl
  have f0 := frozen_of_heap r2 (j := 0)
  have f1 := frozen_of_heap r2 (j := 1)
  have O1 := Lib.hid (outCells r2)
  have T1 := Lib.hid (TX.out.mono (fun _ _ h => h.elim) |>.trans t1)
  have N1 := Lib.hid n1
  clear t1 n1 r1 r2 q0
  go_wp2_with (go_at_call 39; refine (wbit_any _ _).mono ?_; rintro e w2 ⟨rfl, rfl⟩)
  refine bodyPost_ret (v := .agg #[.int .u64 (bitW (v != 0)), .bool true]) (by simp [results, Tryz.results123, go_sem, O1.out.1, O1.out.2.1]) rfl ⟨?_, ?_, ?_⟩
  · rw [bit_held v Hv.out]; rfl
  · exact turns_new2 T1.out (by omega)
  · rw [heap_setCell_ne (by simp; omega), heap_setCell_ne (by simp; omega), N1.out]
    rfl

set_option maxHeartbeats 1000000 in
theorem do_bl_store (bl : Nat) (v a b : Int) (w : World) (hv : 0 ≤ v ∧ v ≤ 1) (hh : w.heap[bl]? = some (.cells #[cv_bl v] 115 (0, 0))) :
    Calls Tryz.prog 123 #[.agg #[.pointer (some ⟨bl, 0, none⟩)], .agg #[.int .i64 2, .int .u64 a, .int .u64 b]] w (DoPost 5 bl cv_bl 115 v 2 a b w) := by
  have hlt := heap_lt hh
  have Hh := Lib.hid hh
  have Hv := Lib.hid hv
  clear hh hv
  go_enter Tryz.func123, Tryz.ntmps123
  go_wp2_with fail
  go_quiet (fail)
  have tX := ((((Turns.alloc (fun _ => False) w (.cells #[.pointer (some ⟨bl, 0, none⟩)] 117)).trans (Turns.alloc _ _ (.cells #[.int .i64 2, .int .u64 a, .int .u64 b] 42))).trans (Turns.alloc _ _ (.cells #[.int .u64 0, .bool false] 44))).trans (TurnsDrewN _ _ nq))
  have hX := tX.heap Hh.out (fun h => h)
  have bX := three_blocks w (.cells #[.pointer (some ⟨bl, 0, none⟩)] 117) (.cells #[.int .i64 2, .int .u64 a, .int .u64 b] 42) (.cells #[.int .u64 0, .bool false] 44) nq
  have HX := Lib.hid hX
  have TX := Lib.hid tX
  have BX := Lib.hid bX
  clear hX tX bX
  go_wp2_with fail
  refine (bool_store bl 0 _ _ _ (cell_of_heap HX.out (j := 0) rfl) (frozen_of_heap HX.out)).mono ?_
  rintro e w1 ⟨rfl, q0⟩
  have t1 := turns_of_setd q0
  have n1 : w1.heap[bl]? = some (.cells #[.int .u32 (bitW (a != 0))] 115 (0, 0)) := by rw [← q0]; exact heap_setCell HX.out _
  have r1 := heap_ne t1 BX.out.1 (by omega)
  have r2 := heap_ne t1 BX.out.2.2 (by omega)
  have c1 := cell_of_heap r1 (j := 0) rfl
  have d0 := cell_of_heap r2 (j := 0) rfl
  have d1 := cell_of_heap r2 (j := 1) rfl
  have f0 := frozen_of_heap r2 (j := 0)
  have f1 := frozen_of_heap r2 (j := 1)
  have O1 := Lib.hid (outCells r2)
  have T1 := Lib.hid (TX.out.mono (fun _ _ h => h.elim) |>.trans t1)
  have N1 := Lib.hid n1
  clear t1 n1 r1 r2 q0
  go_wp2_with fail
  refine bodyPost_ret (v := .agg #[.int .u64 0, .bool true]) (by simp [results, Tryz.results123, go_sem, O1.out.1, O1.out.2.1]) rfl ⟨?_, ?_, ?_⟩
  · rfl
  · exact turns_new2 T1.out (by omega)
  · rw [heap_setCell_ne (by simp; omega), heap_setCell_ne (by simp; omega), N1.out]
    rw [bit_cut]; rfl

set_option maxHeartbeats 1000000 in
theorem do_bl_swap (bl : Nat) (v a b : Int) (w : World) (hv : 0 ≤ v ∧ v ≤ 1) (hh : w.heap[bl]? = some (.cells #[cv_bl v] 115 (0, 0))) :
    Calls Tryz.prog 123 #[.agg #[.pointer (some ⟨bl, 0, none⟩)], .agg #[.int .i64 4, .int .u64 a, .int .u64 b]] w (DoPost 5 bl cv_bl 115 v 4 a b w) := by
  have hlt := heap_lt hh
  have Hh := Lib.hid hh
  have Hv := Lib.hid hv
  clear hh hv
  go_enter Tryz.func123, Tryz.ntmps123
  go_wp2_with fail
  go_quiet (fail)
  have tX := ((((Turns.alloc (fun _ => False) w (.cells #[.pointer (some ⟨bl, 0, none⟩)] 117)).trans (Turns.alloc _ _ (.cells #[.int .i64 4, .int .u64 a, .int .u64 b] 42))).trans (Turns.alloc _ _ (.cells #[.int .u64 0, .bool false] 44))).trans (TurnsDrewN _ _ nq))
  have hX := tX.heap Hh.out (fun h => h)
  have bX := three_blocks w (.cells #[.pointer (some ⟨bl, 0, none⟩)] 117) (.cells #[.int .i64 4, .int .u64 a, .int .u64 b] 42) (.cells #[.int .u64 0, .bool false] 44) nq
  have HX := Lib.hid hX
  have TX := Lib.hid tX
  have BX := Lib.hid bX
  clear hX tX bX
  go_wp2_with fail
  refine (bool_swap bl 0 _ _ _ (cell_of_heap HX.out (j := 0) rfl) (frozen_of_heap HX.out)).mono ?_
  rintro e w1 ⟨rfl, q0⟩
  have t1 := turns_of_setd q0
  have n1 : w1.heap[bl]? = some (.cells #[.int .u32 (bitW (a != 0))] 115 (0, 0)) := by rw [← q0]; exact heap_setCell HX.out _
  have r1 := heap_ne t1 BX.out.1 (by omega)
  have r2 := heap_ne t1 BX.out.2.2 (by omega)
  have c1 := cell_of_heap r1 (j := 0) rfl
  have d0 := cell_of_heap r2 (j := 0) rfl
  have d1 := cell_of_heap r2 (j := 1) rfl
  have f0 := frozen_of_heap r2 (j := 0)
  have f1 := frozen_of_heap r2 (j := 1)
  have O1 := Lib.hid (outCells r2)
  have T1 := Lib.hid (TX.out.mono (fun _ _ h => h.elim) |>.trans t1)
  have N1 := Lib.hid n1
  clear t1 n1 r1 r2 q0
  go_wp2_with (go_at_call 39; refine (wbit_any _ _).mono ?_; rintro e w2 ⟨rfl, rfl⟩)
  refine bodyPost_ret (v := .agg #[.int .u64 (bitW (v != 0)), .bool true]) (by simp [results, Tryz.results123, go_sem, O1.out.1, O1.out.2.1]) rfl ⟨?_, ?_, ?_⟩
  · rw [bit_held v Hv.out]; rfl
  · exact turns_new2 T1.out (by omega)
  · rw [heap_setCell_ne (by simp; omega), heap_setCell_ne (by simp; omega), N1.out]
    rw [bit_cut]; rfl

set_option maxHeartbeats 1000000 in
theorem do_bl_cas (bl : Nat) (v a b : Int) (w : World) (hv : 0 ≤ v ∧ v ≤ 1) (hh : w.heap[bl]? = some (.cells #[cv_bl v] 115 (0, 0))) :
    Calls Tryz.prog 123 #[.agg #[.pointer (some ⟨bl, 0, none⟩)], .agg #[.int .i64 5, .int .u64 a, .int .u64 b]] w (DoPost 5 bl cv_bl 115 v 5 a b w) := by
  have hlt := heap_lt hh
  have Hh := Lib.hid hh
  have Hv := Lib.hid hv
  clear hh hv
  go_enter Tryz.func123, Tryz.ntmps123
  go_wp2_with fail
  go_quiet (fail)
  have tX := ((((Turns.alloc (fun _ => False) w (.cells #[.pointer (some ⟨bl, 0, none⟩)] 117)).trans (Turns.alloc _ _ (.cells #[.int .i64 5, .int .u64 a, .int .u64 b] 42))).trans (Turns.alloc _ _ (.cells #[.int .u64 0, .bool false] 44))).trans (TurnsDrewN _ _ nq))
  have hX := tX.heap Hh.out (fun h => h)
  have bX := three_blocks w (.cells #[.pointer (some ⟨bl, 0, none⟩)] 117) (.cells #[.int .i64 5, .int .u64 a, .int .u64 b] 42) (.cells #[.int .u64 0, .bool false] 44) nq
  have HX := Lib.hid hX
  have TX := Lib.hid tX
  have BX := Lib.hid bX
  clear hX tX bX
  go_wp2_with fail
  refine (bool_cas bl 0 _ _ _ _ (cell_of_heap HX.out (j := 0) rfl) (frozen_of_heap HX.out)).mono ?_
  rintro e w1 ⟨rfl, q0⟩
  have t1 := turns_of_setd q0
  have n1 : w1.heap[bl]? = some (.cells #[.int .u32 (casNew v (bitW (a != 0)) (bitW (b != 0)))] 115 (0, 0)) := by rw [← q0]; exact heap_setCell HX.out _
  have r1 := heap_ne t1 BX.out.1 (by omega)
  have r2 := heap_ne t1 BX.out.2.2 (by omega)
  have c1 := cell_of_heap r1 (j := 0) rfl
  have d0 := cell_of_heap r2 (j := 0) rfl
  have d1 := cell_of_heap r2 (j := 1) rfl
  have f0 := frozen_of_heap r2 (j := 0)
  have f1 := frozen_of_heap r2 (j := 1)
  have O1 := Lib.hid (outCells r2)
  have T1 := Lib.hid (TX.out.mono (fun _ _ h => h.elim) |>.trans t1)
  have N1 := Lib.hid n1
  clear t1 n1 r1 r2 q0
  go_wp2_with fail
  refine bodyPost_ret (v := .agg #[.int .u64 0, .bool (v == bitW (a != 0))]) (by simp [results, Tryz.results123, go_sem, O1.out.1, O1.out.2.1]) rfl ⟨?_, ?_, ?_⟩
  · rw [bit_cut]; rfl
  · exact turns_new2 T1.out (by omega)
  · rw [heap_setCell_ne (by simp; omega), heap_setCell_ne (by simp; omega), N1.out]
    rw [bit_cut, bit_cut]; rfl

end Go.Proofs.YtfkhflknigemgaaGreat
