/-
  DERIVED. THE WALKS over word's number[int32]: each access.
-/
import Derived.Test.YtfkhflknigemgaaGreatWDo
namespace Go.Proofs.YtfkhflknigemgaaGreat
open Go.RowKit
set_option maxRecDepth 100000

/-- the cell of a word that holds v. -/
def cv_i32 (v : Int) : Value := .int .i32 (wrap32 v)

theorem m_i32_load (a : Addr) (w : World) : (method (Tryz.prog.types.size + 100) 75 (.pointer (some a)) "Load").run Tryz.prog w = .ok (55, .pointer (some a)) w := by kernel_rfl

set_option maxHeartbeats 1000000 in
theorem do_i32_load (bl : Nat) (v a b : Int) (w : World) (hv : 0 ≤ v ∧ v < 4294967296) (ha : 0 ≤ a ∧ a < 18446744073709551616) (hb : 0 ≤ b ∧ b < 18446744073709551616) (hh : w.heap[bl]? = some (.cells #[cv_i32 v] 79 (0, 0))) :
    Calls Tryz.prog 56 #[.agg #[.iface 75 (.pointer (some ⟨bl, 0, none⟩)), .int .i64 1], .agg #[.int .i64 1, .int .u64 a, .int .u64 b]] w (DoPost 1 bl cv_i32 79 v 1 a b w) := by
  have hm := fun w => m_i32_load ⟨bl, 0, none⟩ w
  have hs : Tryz.prog.types.size + 100 = 283 := by kernel_rfl
  rw [hs] at hm
  have hlt := heap_lt hh
  have Hh := Lib.hid hh
  have Hv := Lib.hid hv
  have Ha := Lib.hid ha
  have Hb := Lib.hid hb
  obtain ⟨ha0, ha1⟩ := ha
  obtain ⟨hb0, hb1⟩ := hb
  clear hs hh hv
  go_enter Tryz.func56, Tryz.ntmps56
  go_wp2_with fail
  go_quiet (fail)
  have tX := ((((Turns.alloc (fun _ => False) w (.cells #[.iface 75 (.pointer (some ⟨bl, 0, none⟩)), .int .i64 1] 83)).trans (Turns.alloc _ _ (.cells #[.int .i64 1, .int .u64 a, .int .u64 b] 42))).trans (Turns.alloc _ _ (.cells #[.int .u64 0, .bool false] 44))).trans (TurnsDrewN _ _ nq))
  have hX := tX.heap Hh.out (fun h => h)
  have bX := three_blocks w (.cells #[.iface 75 (.pointer (some ⟨bl, 0, none⟩)), .int .i64 1] 83) (.cells #[.int .i64 1, .int .u64 a, .int .u64 b] 42) (.cells #[.int .u64 0, .bool false] 44) nq
  have HX := Lib.hid hX
  have TX := Lib.hid tX
  have BX := Lib.hid bX
  clear hX tX bX
  go_wp2_with fail
  refine (i32_load bl 0 _ _ (cell_of_heap HX.out (j := 0) rfl)).mono ?_
  rintro e w1 ⟨rfl, q0⟩
  have t1 := turns_of_set (setCell_self (cell_of_heap HX.out (j := 0) rfl) ▸ q0)
  have n1 : w1.heap[bl]? = some (.cells #[cv_i32 v] 79 (0, 0)) := by
    rw [← q0]
    exact HX.out
  have r1 := heap_ne t1 BX.out.1 (by omega)
  have r2 := heap_ne t1 BX.out.2.2 (by omega)
  have c1 := cell_of_heap r1 (j := 1) rfl
  have d0 := cell_of_heap r2 (j := 0) rfl
  have d1 := cell_of_heap r2 (j := 1) rfl
  have f0 := frozen_of_heap r2 (j := 0)
  have f1 := frozen_of_heap r2 (j := 1)
  have O1 := Lib.hid (outCells r2)
  have T1 := Lib.hid (TX.out.mono (fun _ _ h => h.elim) |>.trans t1)
  have N1 := Lib.hid n1
  clear t1 n1 r1 r2 q0 hm
  go_wp2_with (go_at_call 32; refine (narrow_any 1 (IntKind.u64.wrap (wrap32 v)) _ (by omega) (rng_i32 v a Hv.out)).mono ?_; rintro e w2 ⟨rfl, rfl⟩)
  refine bodyPost_ret (v := .agg #[.int .u64 (cutW 1 (IntKind.u64.wrap (wrap32 v))), .bool true]) (by simp [results, Tryz.results56, go_sem, O1.out.1, O1.out.2.1]) rfl ⟨?_, ?_, ?_⟩
  · rw [val_i32_load v a Hv.out]
    rfl
  · exact turns_new2 T1.out (by omega)
  · rw [heap_setCell_ne (by simp; omega), heap_setCell_ne (by simp; omega), N1.out]
    rfl

theorem m_i32_store (a : Addr) (w : World) : (method (Tryz.prog.types.size + 100) 75 (.pointer (some a)) "Store").run Tryz.prog w = .ok (129, .pointer (some a)) w := by kernel_rfl

set_option maxHeartbeats 1000000 in
theorem do_i32_store (bl : Nat) (v a b : Int) (w : World) (hv : 0 ≤ v ∧ v < 4294967296) (ha : 0 ≤ a ∧ a < 18446744073709551616) (hb : 0 ≤ b ∧ b < 18446744073709551616) (hh : w.heap[bl]? = some (.cells #[cv_i32 v] 79 (0, 0))) :
    Calls Tryz.prog 56 #[.agg #[.iface 75 (.pointer (some ⟨bl, 0, none⟩)), .int .i64 1], .agg #[.int .i64 2, .int .u64 a, .int .u64 b]] w (DoPost 1 bl cv_i32 79 v 2 a b w) := by
  have hm := fun w => m_i32_store ⟨bl, 0, none⟩ w
  have hs : Tryz.prog.types.size + 100 = 283 := by kernel_rfl
  rw [hs] at hm
  have hlt := heap_lt hh
  have Hh := Lib.hid hh
  have Hv := Lib.hid hv
  have Ha := Lib.hid ha
  have Hb := Lib.hid hb
  obtain ⟨ha0, ha1⟩ := ha
  obtain ⟨hb0, hb1⟩ := hb
  clear hs hh hv
  go_enter Tryz.func56, Tryz.ntmps56
  go_wp2_with fail
  go_quiet (fail)
  have tX := ((((Turns.alloc (fun _ => False) w (.cells #[.iface 75 (.pointer (some ⟨bl, 0, none⟩)), .int .i64 1] 83)).trans (Turns.alloc _ _ (.cells #[.int .i64 2, .int .u64 a, .int .u64 b] 42))).trans (Turns.alloc _ _ (.cells #[.int .u64 0, .bool false] 44))).trans (TurnsDrewN _ _ nq))
  have hX := tX.heap Hh.out (fun h => h)
  have bX := three_blocks w (.cells #[.iface 75 (.pointer (some ⟨bl, 0, none⟩)), .int .i64 1] 83) (.cells #[.int .i64 2, .int .u64 a, .int .u64 b] 42) (.cells #[.int .u64 0, .bool false] 44) nq
  have HX := Lib.hid hX
  have TX := Lib.hid tX
  have BX := Lib.hid bX
  clear hX tX bX
  go_wp2_with fail
  refine (i32_store bl 0 _ _ _ (cell_of_heap HX.out (j := 0) rfl) (frozen_of_heap HX.out)).mono ?_
  rintro e w1 ⟨rfl, q0⟩
  have t1 := turns_of_set q0
  have n1 : w1.heap[bl]? = some (.cells #[.int .i32 (wrap32 a)] 79 (0, 0)) := by
    rw [← q0]
    exact heap_setCell HX.out _
  have r1 := heap_ne t1 BX.out.1 (by omega)
  have r2 := heap_ne t1 BX.out.2.2 (by omega)
  have c1 := cell_of_heap r1 (j := 1) rfl
  have d0 := cell_of_heap r2 (j := 0) rfl
  have d1 := cell_of_heap r2 (j := 1) rfl
  have f0 := frozen_of_heap r2 (j := 0)
  have f1 := frozen_of_heap r2 (j := 1)
  have O1 := Lib.hid (outCells r2)
  have T1 := Lib.hid (TX.out.mono (fun _ _ h => h.elim) |>.trans t1)
  have N1 := Lib.hid n1
  clear t1 n1 r1 r2 q0 hm
  go_wp2_with (go_at_call 32; refine (narrow_any 1 0 _ (by omega) (rng_i32_zero v a Hv.out)).mono ?_; rintro e w2 ⟨rfl, rfl⟩)
  refine bodyPost_ret (v := .agg #[.int .u64 (cutW 1 0), .bool true]) (by simp [results, Tryz.results56, go_sem, O1.out.1, O1.out.2.1]) rfl ⟨?_, ?_, ?_⟩
  · rw [val_i32_store v a Hv.out]
    rfl
  · exact turns_new2 T1.out (by omega)
  · rw [heap_setCell_ne (by simp; omega), heap_setCell_ne (by simp; omega), N1.out]
    rw [new_i32_store v a b Hv.out Ha.out]; rfl

theorem m_i32_add (a : Addr) (w : World) : (method (Tryz.prog.types.size + 100) 75 (.pointer (some a)) "Add").run Tryz.prog w = .ok (125, .pointer (some a)) w := by kernel_rfl

set_option maxHeartbeats 1000000 in
theorem do_i32_add (bl : Nat) (v a b : Int) (w : World) (hv : 0 ≤ v ∧ v < 4294967296) (ha : 0 ≤ a ∧ a < 18446744073709551616) (hb : 0 ≤ b ∧ b < 18446744073709551616) (hh : w.heap[bl]? = some (.cells #[cv_i32 v] 79 (0, 0))) :
    Calls Tryz.prog 56 #[.agg #[.iface 75 (.pointer (some ⟨bl, 0, none⟩)), .int .i64 1], .agg #[.int .i64 3, .int .u64 a, .int .u64 b]] w (DoPost 1 bl cv_i32 79 v 3 a b w) := by
  have hm := fun w => m_i32_add ⟨bl, 0, none⟩ w
  have hs : Tryz.prog.types.size + 100 = 283 := by kernel_rfl
  rw [hs] at hm
  have hlt := heap_lt hh
  have Hh := Lib.hid hh
  have Hv := Lib.hid hv
  have Ha := Lib.hid ha
  have Hb := Lib.hid hb
  obtain ⟨ha0, ha1⟩ := ha
  obtain ⟨hb0, hb1⟩ := hb
  clear hs hh hv
  go_enter Tryz.func56, Tryz.ntmps56
  go_wp2_with fail
  go_quiet (fail)
  have tX := ((((Turns.alloc (fun _ => False) w (.cells #[.iface 75 (.pointer (some ⟨bl, 0, none⟩)), .int .i64 1] 83)).trans (Turns.alloc _ _ (.cells #[.int .i64 3, .int .u64 a, .int .u64 b] 42))).trans (Turns.alloc _ _ (.cells #[.int .u64 0, .bool false] 44))).trans (TurnsDrewN _ _ nq))
  have hX := tX.heap Hh.out (fun h => h)
  have bX := three_blocks w (.cells #[.iface 75 (.pointer (some ⟨bl, 0, none⟩)), .int .i64 1] 83) (.cells #[.int .i64 3, .int .u64 a, .int .u64 b] 42) (.cells #[.int .u64 0, .bool false] 44) nq
  have HX := Lib.hid hX
  have TX := Lib.hid tX
  have BX := Lib.hid bX
  clear hX tX bX
  go_wp2_with fail
  refine (i32_add bl 0 _ _ _ (cell_of_heap HX.out (j := 0) rfl) (frozen_of_heap HX.out)).mono ?_
  rintro e w1 ⟨rfl, q0⟩
  have t1 := turns_of_set q0
  have n1 : w1.heap[bl]? = some (.cells #[.int .i32 (addK .i32 (wrap32 v) (wrap32 a))] 79 (0, 0)) := by
    rw [← q0]
    exact heap_setCell HX.out _
  have r1 := heap_ne t1 BX.out.1 (by omega)
  have r2 := heap_ne t1 BX.out.2.2 (by omega)
  have c1 := cell_of_heap r1 (j := 1) rfl
  have d0 := cell_of_heap r2 (j := 0) rfl
  have d1 := cell_of_heap r2 (j := 1) rfl
  have f0 := frozen_of_heap r2 (j := 0)
  have f1 := frozen_of_heap r2 (j := 1)
  have O1 := Lib.hid (outCells r2)
  have T1 := Lib.hid (TX.out.mono (fun _ _ h => h.elim) |>.trans t1)
  have N1 := Lib.hid n1
  clear t1 n1 r1 r2 q0 hm
  go_wp2_with (go_at_call 32; refine (narrow_any 1 (IntKind.u64.wrap (addK .i32 (wrap32 v) (wrap32 a))) _ (by omega) (rng_i32_add v a Hv.out)).mono ?_; rintro e w2 ⟨rfl, rfl⟩)
  refine bodyPost_ret (v := .agg #[.int .u64 (cutW 1 (IntKind.u64.wrap (addK .i32 (wrap32 v) (wrap32 a)))), .bool true]) (by simp [results, Tryz.results56, go_sem, O1.out.1, O1.out.2.1]) rfl ⟨?_, ?_, ?_⟩
  · rw [val_i32_add v a Hv.out]
    rfl
  · exact turns_new2 T1.out (by omega)
  · rw [heap_setCell_ne (by simp; omega), heap_setCell_ne (by simp; omega), N1.out]
    rw [new_i32_add v a b Hv.out Ha.out]; rfl

theorem m_i32_swap (a : Addr) (w : World) : (method (Tryz.prog.types.size + 100) 75 (.pointer (some a)) "Swap").run Tryz.prog w = .ok (130, .pointer (some a)) w := by kernel_rfl

set_option maxHeartbeats 1000000 in
theorem do_i32_swap (bl : Nat) (v a b : Int) (w : World) (hv : 0 ≤ v ∧ v < 4294967296) (ha : 0 ≤ a ∧ a < 18446744073709551616) (hb : 0 ≤ b ∧ b < 18446744073709551616) (hh : w.heap[bl]? = some (.cells #[cv_i32 v] 79 (0, 0))) :
    Calls Tryz.prog 56 #[.agg #[.iface 75 (.pointer (some ⟨bl, 0, none⟩)), .int .i64 1], .agg #[.int .i64 4, .int .u64 a, .int .u64 b]] w (DoPost 1 bl cv_i32 79 v 4 a b w) := by
  have hm := fun w => m_i32_swap ⟨bl, 0, none⟩ w
  have hs : Tryz.prog.types.size + 100 = 283 := by kernel_rfl
  rw [hs] at hm
  have hlt := heap_lt hh
  have Hh := Lib.hid hh
  have Hv := Lib.hid hv
  have Ha := Lib.hid ha
  have Hb := Lib.hid hb
  obtain ⟨ha0, ha1⟩ := ha
  obtain ⟨hb0, hb1⟩ := hb
  clear hs hh hv
  go_enter Tryz.func56, Tryz.ntmps56
  go_wp2_with fail
  go_quiet (fail)
  have tX := ((((Turns.alloc (fun _ => False) w (.cells #[.iface 75 (.pointer (some ⟨bl, 0, none⟩)), .int .i64 1] 83)).trans (Turns.alloc _ _ (.cells #[.int .i64 4, .int .u64 a, .int .u64 b] 42))).trans (Turns.alloc _ _ (.cells #[.int .u64 0, .bool false] 44))).trans (TurnsDrewN _ _ nq))
  have hX := tX.heap Hh.out (fun h => h)
  have bX := three_blocks w (.cells #[.iface 75 (.pointer (some ⟨bl, 0, none⟩)), .int .i64 1] 83) (.cells #[.int .i64 4, .int .u64 a, .int .u64 b] 42) (.cells #[.int .u64 0, .bool false] 44) nq
  have HX := Lib.hid hX
  have TX := Lib.hid tX
  have BX := Lib.hid bX
  clear hX tX bX
  go_wp2_with fail
  refine (i32_swap bl 0 _ _ _ (cell_of_heap HX.out (j := 0) rfl) (frozen_of_heap HX.out)).mono ?_
  rintro e w1 ⟨rfl, q0⟩
  have t1 := turns_of_set q0
  have n1 : w1.heap[bl]? = some (.cells #[.int .i32 (wrap32 a)] 79 (0, 0)) := by
    rw [← q0]
    exact heap_setCell HX.out _
  have r1 := heap_ne t1 BX.out.1 (by omega)
  have r2 := heap_ne t1 BX.out.2.2 (by omega)
  have c1 := cell_of_heap r1 (j := 1) rfl
  have d0 := cell_of_heap r2 (j := 0) rfl
  have d1 := cell_of_heap r2 (j := 1) rfl
  have f0 := frozen_of_heap r2 (j := 0)
  have f1 := frozen_of_heap r2 (j := 1)
  have O1 := Lib.hid (outCells r2)
  have T1 := Lib.hid (TX.out.mono (fun _ _ h => h.elim) |>.trans t1)
  have N1 := Lib.hid n1
  clear t1 n1 r1 r2 q0 hm
  go_wp2_with (go_at_call 32; refine (narrow_any 1 (IntKind.u64.wrap (wrap32 v)) _ (by omega) (rng_i32 v a Hv.out)).mono ?_; rintro e w2 ⟨rfl, rfl⟩)
  refine bodyPost_ret (v := .agg #[.int .u64 (cutW 1 (IntKind.u64.wrap (wrap32 v))), .bool true]) (by simp [results, Tryz.results56, go_sem, O1.out.1, O1.out.2.1]) rfl ⟨?_, ?_, ?_⟩
  · rw [val_i32_swap v a Hv.out]
    rfl
  · exact turns_new2 T1.out (by omega)
  · rw [heap_setCell_ne (by simp; omega), heap_setCell_ne (by simp; omega), N1.out]
    rw [new_i32_swap v a b Hv.out Ha.out]; rfl

theorem m_i32_cas (a : Addr) (w : World) : (method (Tryz.prog.types.size + 100) 75 (.pointer (some a)) "CompareAndSwap").run Tryz.prog w = .ok (127, .pointer (some a)) w := by kernel_rfl

set_option maxHeartbeats 1000000 in
theorem do_i32_cas (bl : Nat) (v a b : Int) (w : World) (hv : 0 ≤ v ∧ v < 4294967296) (ha : 0 ≤ a ∧ a < 18446744073709551616) (hb : 0 ≤ b ∧ b < 18446744073709551616) (hh : w.heap[bl]? = some (.cells #[cv_i32 v] 79 (0, 0))) :
    Calls Tryz.prog 56 #[.agg #[.iface 75 (.pointer (some ⟨bl, 0, none⟩)), .int .i64 1], .agg #[.int .i64 5, .int .u64 a, .int .u64 b]] w (DoPost 1 bl cv_i32 79 v 5 a b w) := by
  have hm := fun w => m_i32_cas ⟨bl, 0, none⟩ w
  have hs : Tryz.prog.types.size + 100 = 283 := by kernel_rfl
  rw [hs] at hm
  have hlt := heap_lt hh
  have Hh := Lib.hid hh
  have Hv := Lib.hid hv
  have Ha := Lib.hid ha
  have Hb := Lib.hid hb
  obtain ⟨ha0, ha1⟩ := ha
  obtain ⟨hb0, hb1⟩ := hb
  clear hs hh hv
  go_enter Tryz.func56, Tryz.ntmps56
  go_wp2_with fail
  go_quiet (fail)
  have tX := ((((Turns.alloc (fun _ => False) w (.cells #[.iface 75 (.pointer (some ⟨bl, 0, none⟩)), .int .i64 1] 83)).trans (Turns.alloc _ _ (.cells #[.int .i64 5, .int .u64 a, .int .u64 b] 42))).trans (Turns.alloc _ _ (.cells #[.int .u64 0, .bool false] 44))).trans (TurnsDrewN _ _ nq))
  have hX := tX.heap Hh.out (fun h => h)
  have bX := three_blocks w (.cells #[.iface 75 (.pointer (some ⟨bl, 0, none⟩)), .int .i64 1] 83) (.cells #[.int .i64 5, .int .u64 a, .int .u64 b] 42) (.cells #[.int .u64 0, .bool false] 44) nq
  have HX := Lib.hid hX
  have TX := Lib.hid tX
  have BX := Lib.hid bX
  clear hX tX bX
  go_wp2_with fail
  refine (i32_cas bl 0 _ _ _ _ (cell_of_heap HX.out (j := 0) rfl) (frozen_of_heap HX.out)).mono ?_
  rintro e w1 ⟨rfl, q0⟩
  have t1 := turns_of_set q0
  have n1 : w1.heap[bl]? = some (.cells #[.int .i32 (casNew (wrap32 v) (wrap32 a) (wrap32 b))] 79 (0, 0)) := by
    rw [← q0]
    exact heap_setCell HX.out _
  have r1 := heap_ne t1 BX.out.1 (by omega)
  have r2 := heap_ne t1 BX.out.2.2 (by omega)
  have c1 := cell_of_heap r1 (j := 1) rfl
  have d0 := cell_of_heap r2 (j := 0) rfl
  have d1 := cell_of_heap r2 (j := 1) rfl
  have f0 := frozen_of_heap r2 (j := 0)
  have f1 := frozen_of_heap r2 (j := 1)
  have O1 := Lib.hid (outCells r2)
  have T1 := Lib.hid (TX.out.mono (fun _ _ h => h.elim) |>.trans t1)
  have N1 := Lib.hid n1
  clear t1 n1 r1 r2 q0 hm
  go_wp2_with fail
  refine bodyPost_ret (v := .agg #[.int .u64 0, .bool ((wrap32 v) == (wrap32 a))]) (by simp [results, Tryz.results56, go_sem, O1.out.1, O1.out.2.1]) rfl ⟨?_, ?_, ?_⟩
  · rw [ok_i32 v a Hv.out Ha.out]
    rfl
  · exact turns_new2 T1.out (by omega)
  · rw [heap_setCell_ne (by simp; omega), heap_setCell_ne (by simp; omega), N1.out]
    rw [new_i32_cas v a b Hv.out Ha.out]
    rfl

theorem m_i32_and (a : Addr) (w : World) : (method (Tryz.prog.types.size + 100) 75 (.pointer (some a)) "And").run Tryz.prog w = .ok (126, .pointer (some a)) w := by kernel_rfl

set_option maxHeartbeats 1000000 in
theorem do_i32_and (bl : Nat) (v a b : Int) (w : World) (hv : 0 ≤ v ∧ v < 4294967296) (ha : 0 ≤ a ∧ a < 18446744073709551616) (hb : 0 ≤ b ∧ b < 18446744073709551616) (hh : w.heap[bl]? = some (.cells #[cv_i32 v] 79 (0, 0))) :
    Calls Tryz.prog 56 #[.agg #[.iface 75 (.pointer (some ⟨bl, 0, none⟩)), .int .i64 1], .agg #[.int .i64 6, .int .u64 a, .int .u64 b]] w (DoPost 1 bl cv_i32 79 v 6 a b w) := by
  have hm := fun w => m_i32_and ⟨bl, 0, none⟩ w
  have hs : Tryz.prog.types.size + 100 = 283 := by kernel_rfl
  rw [hs] at hm
  have hlt := heap_lt hh
  have Hh := Lib.hid hh
  have Hv := Lib.hid hv
  have Ha := Lib.hid ha
  have Hb := Lib.hid hb
  obtain ⟨ha0, ha1⟩ := ha
  obtain ⟨hb0, hb1⟩ := hb
  clear hs hh hv
  go_enter Tryz.func56, Tryz.ntmps56
  go_wp2_with fail
  go_quiet (fail)
  have tX := ((((Turns.alloc (fun _ => False) w (.cells #[.iface 75 (.pointer (some ⟨bl, 0, none⟩)), .int .i64 1] 83)).trans (Turns.alloc _ _ (.cells #[.int .i64 6, .int .u64 a, .int .u64 b] 42))).trans (Turns.alloc _ _ (.cells #[.int .u64 0, .bool false] 44))).trans (TurnsDrewN _ _ nq))
  have hX := tX.heap Hh.out (fun h => h)
  have bX := three_blocks w (.cells #[.iface 75 (.pointer (some ⟨bl, 0, none⟩)), .int .i64 1] 83) (.cells #[.int .i64 6, .int .u64 a, .int .u64 b] 42) (.cells #[.int .u64 0, .bool false] 44) nq
  have HX := Lib.hid hX
  have TX := Lib.hid tX
  have BX := Lib.hid bX
  clear hX tX bX
  go_wp2_with fail
  refine (i32_and bl 0 _ _ _ (cell_of_heap HX.out (j := 0) rfl) (frozen_of_heap HX.out)).mono ?_
  rintro e w1 ⟨rfl, q0⟩
  have t1 := turns_of_set q0
  have n1 : w1.heap[bl]? = some (.cells #[.int .i32 (andK .i32 (wrap32 v) (wrap32 a))] 79 (0, 0)) := by
    rw [← q0]
    exact heap_setCell HX.out _
  have r1 := heap_ne t1 BX.out.1 (by omega)
  have r2 := heap_ne t1 BX.out.2.2 (by omega)
  have c1 := cell_of_heap r1 (j := 1) rfl
  have d0 := cell_of_heap r2 (j := 0) rfl
  have d1 := cell_of_heap r2 (j := 1) rfl
  have f0 := frozen_of_heap r2 (j := 0)
  have f1 := frozen_of_heap r2 (j := 1)
  have O1 := Lib.hid (outCells r2)
  have T1 := Lib.hid (TX.out.mono (fun _ _ h => h.elim) |>.trans t1)
  have N1 := Lib.hid n1
  clear t1 n1 r1 r2 q0 hm
  go_wp2_with (go_at_call 32; refine (narrow_any 1 (IntKind.u64.wrap (wrap32 v)) _ (by omega) (rng_i32 v a Hv.out)).mono ?_; rintro e w2 ⟨rfl, rfl⟩)
  refine bodyPost_ret (v := .agg #[.int .u64 (cutW 1 (IntKind.u64.wrap (wrap32 v))), .bool true]) (by simp [results, Tryz.results56, go_sem, O1.out.1, O1.out.2.1]) rfl ⟨?_, ?_, ?_⟩
  · rw [val_i32_and v a Hv.out]
    rfl
  · exact turns_new2 T1.out (by omega)
  · rw [heap_setCell_ne (by simp; omega), heap_setCell_ne (by simp; omega), N1.out]
    rw [new_i32_and v a b Hv.out Ha.out]; rfl

theorem m_i32_or (a : Addr) (w : World) : (method (Tryz.prog.types.size + 100) 75 (.pointer (some a)) "Or").run Tryz.prog w = .ok (128, .pointer (some a)) w := by kernel_rfl

set_option maxHeartbeats 1000000 in
theorem do_i32_or (bl : Nat) (v a b : Int) (w : World) (hv : 0 ≤ v ∧ v < 4294967296) (ha : 0 ≤ a ∧ a < 18446744073709551616) (hb : 0 ≤ b ∧ b < 18446744073709551616) (hh : w.heap[bl]? = some (.cells #[cv_i32 v] 79 (0, 0))) :
    Calls Tryz.prog 56 #[.agg #[.iface 75 (.pointer (some ⟨bl, 0, none⟩)), .int .i64 1], .agg #[.int .i64 7, .int .u64 a, .int .u64 b]] w (DoPost 1 bl cv_i32 79 v 7 a b w) := by
  have hm := fun w => m_i32_or ⟨bl, 0, none⟩ w
  have hs : Tryz.prog.types.size + 100 = 283 := by kernel_rfl
  rw [hs] at hm
  have hlt := heap_lt hh
  have Hh := Lib.hid hh
  have Hv := Lib.hid hv
  have Ha := Lib.hid ha
  have Hb := Lib.hid hb
  obtain ⟨ha0, ha1⟩ := ha
  obtain ⟨hb0, hb1⟩ := hb
  clear hs hh hv
  go_enter Tryz.func56, Tryz.ntmps56
  go_wp2_with fail
  go_quiet (fail)
  have tX := ((((Turns.alloc (fun _ => False) w (.cells #[.iface 75 (.pointer (some ⟨bl, 0, none⟩)), .int .i64 1] 83)).trans (Turns.alloc _ _ (.cells #[.int .i64 7, .int .u64 a, .int .u64 b] 42))).trans (Turns.alloc _ _ (.cells #[.int .u64 0, .bool false] 44))).trans (TurnsDrewN _ _ nq))
  have hX := tX.heap Hh.out (fun h => h)
  have bX := three_blocks w (.cells #[.iface 75 (.pointer (some ⟨bl, 0, none⟩)), .int .i64 1] 83) (.cells #[.int .i64 7, .int .u64 a, .int .u64 b] 42) (.cells #[.int .u64 0, .bool false] 44) nq
  have HX := Lib.hid hX
  have TX := Lib.hid tX
  have BX := Lib.hid bX
  clear hX tX bX
  go_wp2_with fail
  refine (i32_or bl 0 _ _ _ (cell_of_heap HX.out (j := 0) rfl) (frozen_of_heap HX.out)).mono ?_
  rintro e w1 ⟨rfl, q0⟩
  have t1 := turns_of_set q0
  have n1 : w1.heap[bl]? = some (.cells #[.int .i32 (orK .i32 (wrap32 v) (wrap32 a))] 79 (0, 0)) := by
    rw [← q0]
    exact heap_setCell HX.out _
  have r1 := heap_ne t1 BX.out.1 (by omega)
  have r2 := heap_ne t1 BX.out.2.2 (by omega)
  have c1 := cell_of_heap r1 (j := 1) rfl
  have d0 := cell_of_heap r2 (j := 0) rfl
  have d1 := cell_of_heap r2 (j := 1) rfl
  have f0 := frozen_of_heap r2 (j := 0)
  have f1 := frozen_of_heap r2 (j := 1)
  have O1 := Lib.hid (outCells r2)
  have T1 := Lib.hid (TX.out.mono (fun _ _ h => h.elim) |>.trans t1)
  have N1 := Lib.hid n1
  clear t1 n1 r1 r2 q0 hm
  go_wp2_with (go_at_call 32; refine (narrow_any 1 (IntKind.u64.wrap (wrap32 v)) _ (by omega) (rng_i32 v a Hv.out)).mono ?_; rintro e w2 ⟨rfl, rfl⟩)
  refine bodyPost_ret (v := .agg #[.int .u64 (cutW 1 (IntKind.u64.wrap (wrap32 v))), .bool true]) (by simp [results, Tryz.results56, go_sem, O1.out.1, O1.out.2.1]) rfl ⟨?_, ?_, ?_⟩
  · rw [val_i32_or v a Hv.out]
    rfl
  · exact turns_new2 T1.out (by omega)
  · rw [heap_setCell_ne (by simp; omega), heap_setCell_ne (by simp; omega), N1.out]
    rw [new_i32_or v a b Hv.out Ha.out]; rfl

end Go.Proofs.YtfkhflknigemgaaGreat
