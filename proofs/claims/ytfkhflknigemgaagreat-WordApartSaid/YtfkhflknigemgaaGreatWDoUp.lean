/-
  DERIVED. THE WALKS over word's number[uintptr]: each access.
-/
import Derived.Test.YtfkhflknigemgaaGreatWDo
namespace Go.Proofs.YtfkhflknigemgaaGreat
open Go.RowKit
set_option maxRecDepth 100000

/-- the cell of a word that holds v. -/
def cv_up (v : Int) : Value := .int .u64 v

theorem m_up_load (a : Addr) (w : World) : (method (Tryz.prog.types.size + 100) 107 (.pointer (some a)) "Load").run Tryz.prog w = .ok (106, .pointer (some a)) w := by kernel_rfl

set_option maxHeartbeats 1000000 in
theorem do_up_load (bl : Nat) (v a b : Int) (w : World) (hv : 0 ≤ v ∧ v < 18446744073709551616) (ha : 0 ≤ a ∧ a < 18446744073709551616) (hb : 0 ≤ b ∧ b < 18446744073709551616) (hh : w.heap[bl]? = some (.cells #[cv_up v] 109 (0, 0))) :
    Calls Tryz.prog 117 #[.agg #[.iface 107 (.pointer (some ⟨bl, 0, none⟩)), .int .i64 6], .agg #[.int .i64 1, .int .u64 a, .int .u64 b]] w (DoPost 6 bl cv_up 109 v 1 a b w) := by
  have hm := fun w => m_up_load ⟨bl, 0, none⟩ w
  have hs : Tryz.prog.types.size + 100 = 283 := by kernel_rfl
  rw [hs] at hm
  have hlt := heap_lt hh
  have Hh := Lib.hid hh
  have Hv := Lib.hid hv
  have Ha := Lib.hid ha
  have Hb := Lib.hid hb
  obtain ⟨ha0, ha1⟩ := ha
  obtain ⟨hb0, hb1⟩ := hb
  clear hs hh hv
  go_enter Tryz.func117, Tryz.ntmps117
  go_wp2_with fail
  go_quiet (fail)
  have tX := ((((Turns.alloc (fun _ => False) w (.cells #[.iface 107 (.pointer (some ⟨bl, 0, none⟩)), .int .i64 6] 113)).trans (Turns.alloc _ _ (.cells #[.int .i64 1, .int .u64 a, .int .u64 b] 42))).trans (Turns.alloc _ _ (.cells #[.int .u64 0, .bool false] 44))).trans (TurnsDrewN _ _ nq))
  have hX := tX.heap Hh.out (fun h => h)
  have bX := three_blocks w (.cells #[.iface 107 (.pointer (some ⟨bl, 0, none⟩)), .int .i64 6] 113) (.cells #[.int .i64 1, .int .u64 a, .int .u64 b] 42) (.cells #[.int .u64 0, .bool false] 44) nq
  have HX := Lib.hid hX
  have TX := Lib.hid tX
  have BX := Lib.hid bX
  clear hX tX bX
  go_wp2_with fail
  refine (up_load bl 0 _ _ (cell_of_heap HX.out (j := 0) rfl)).mono ?_
  rintro e w1 ⟨rfl, q0⟩
  have t1 := turns_of_set (setCell_self (cell_of_heap HX.out (j := 0) rfl) ▸ q0)
  have n1 : w1.heap[bl]? = some (.cells #[cv_up v] 109 (0, 0)) := by
    rw [← q0]
    exact HX.out
  have r1 := heap_ne t1 BX.out.1 (by omega)
  have r2 := heap_ne t1 BX.out.2.2 (by omega)
  have c1 := cell_of_heap r1 (j := 1) rfl
  have d0 := cell_of_heap r2 (j := 0) rfl
  have d1 := cell_of_heap r2 (j := 1) rfl
  have f0 := frozen_of_heap r2 (j := 0)
  have f1 := frozen_of_heap r2 (j := 1)
  have O1 := Lib.hid (outCells r2)
  have T1 := Lib.hid (TX.out.mono (fun _ _ h => h.elim) |>.trans t1)
  have N1 := Lib.hid n1
  clear t1 n1 r1 r2 q0 hm
  go_wp2_with (go_at_call 32; refine (narrow_any 6 v _ (by omega) (rng_up v a Hv.out)).mono ?_; rintro e w2 ⟨rfl, rfl⟩)
  refine bodyPost_ret (v := .agg #[.int .u64 (cutW 6 v), .bool true]) (by simp [results, Tryz.results117, go_sem, O1.out.1, O1.out.2.1]) rfl ⟨?_, ?_, ?_⟩
  · rw [val_up_load v a Hv.out]
    rfl
  · exact turns_new2 T1.out (by omega)
  · rw [heap_setCell_ne (by simp; omega), heap_setCell_ne (by simp; omega), N1.out]
    rfl

theorem m_up_store (a : Addr) (w : World) : (method (Tryz.prog.types.size + 100) 107 (.pointer (some a)) "Store").run Tryz.prog w = .ok (108, .pointer (some a)) w := by kernel_rfl

set_option maxHeartbeats 1000000 in
theorem do_up_store (bl : Nat) (v a b : Int) (w : World) (hv : 0 ≤ v ∧ v < 18446744073709551616) (ha : 0 ≤ a ∧ a < 18446744073709551616) (hb : 0 ≤ b ∧ b < 18446744073709551616) (hh : w.heap[bl]? = some (.cells #[cv_up v] 109 (0, 0))) :
    Calls Tryz.prog 117 #[.agg #[.iface 107 (.pointer (some ⟨bl, 0, none⟩)), .int .i64 6], .agg #[.int .i64 2, .int .u64 a, .int .u64 b]] w (DoPost 6 bl cv_up 109 v 2 a b w) := by
  have hm := fun w => m_up_store ⟨bl, 0, none⟩ w
  have hs : Tryz.prog.types.size + 100 = 283 := by kernel_rfl
  rw [hs] at hm
  have hlt := heap_lt hh
  have Hh := Lib.hid hh
  have Hv := Lib.hid hv
  have Ha := Lib.hid ha
  have Hb := Lib.hid hb
  obtain ⟨ha0, ha1⟩ := ha
  obtain ⟨hb0, hb1⟩ := hb
  clear hs hh hv
  go_enter Tryz.func117, Tryz.ntmps117
  go_wp2_with fail
  go_quiet (fail)
  have tX := ((((Turns.alloc (fun _ => False) w (.cells #[.iface 107 (.pointer (some ⟨bl, 0, none⟩)), .int .i64 6] 113)).trans (Turns.alloc _ _ (.cells #[.int .i64 2, .int .u64 a, .int .u64 b] 42))).trans (Turns.alloc _ _ (.cells #[.int .u64 0, .bool false] 44))).trans (TurnsDrewN _ _ nq))
  have hX := tX.heap Hh.out (fun h => h)
  have bX := three_blocks w (.cells #[.iface 107 (.pointer (some ⟨bl, 0, none⟩)), .int .i64 6] 113) (.cells #[.int .i64 2, .int .u64 a, .int .u64 b] 42) (.cells #[.int .u64 0, .bool false] 44) nq
  have HX := Lib.hid hX
  have TX := Lib.hid tX
  have BX := Lib.hid bX
  clear hX tX bX
  go_wp2_with fail
  refine (up_store bl 0 _ _ _ (cell_of_heap HX.out (j := 0) rfl) (frozen_of_heap HX.out)).mono ?_
  rintro e w1 ⟨rfl, q0⟩
  have t1 := turns_of_set q0
  have n1 : w1.heap[bl]? = some (.cells #[.int .u64 a] 109 (0, 0)) := by
    rw [← q0]
    exact heap_setCell HX.out _
  have r1 := heap_ne t1 BX.out.1 (by omega)
  have r2 := heap_ne t1 BX.out.2.2 (by omega)
  have c1 := cell_of_heap r1 (j := 1) rfl
  have d0 := cell_of_heap r2 (j := 0) rfl
  have d1 := cell_of_heap r2 (j := 1) rfl
  have f0 := frozen_of_heap r2 (j := 0)
  have f1 := frozen_of_heap r2 (j := 1)
  have O1 := Lib.hid (outCells r2)
  have T1 := Lib.hid (TX.out.mono (fun _ _ h => h.elim) |>.trans t1)
  have N1 := Lib.hid n1
  clear t1 n1 r1 r2 q0 hm
  go_wp2_with (go_at_call 32; refine (narrow_any 6 0 _ (by omega) (rng_up_zero v a Hv.out)).mono ?_; rintro e w2 ⟨rfl, rfl⟩)
  refine bodyPost_ret (v := .agg #[.int .u64 (cutW 6 0), .bool true]) (by simp [results, Tryz.results117, go_sem, O1.out.1, O1.out.2.1]) rfl ⟨?_, ?_, ?_⟩
  · rw [val_up_store v a Hv.out]
    rfl
  · exact turns_new2 T1.out (by omega)
  · rw [heap_setCell_ne (by simp; omega), heap_setCell_ne (by simp; omega), N1.out]
    rw [new_up_store v a b Hv.out Ha.out]; rfl

theorem m_up_add (a : Addr) (w : World) : (method (Tryz.prog.types.size + 100) 107 (.pointer (some a)) "Add").run Tryz.prog w = .ok (103, .pointer (some a)) w := by kernel_rfl

set_option maxHeartbeats 1000000 in
theorem do_up_add (bl : Nat) (v a b : Int) (w : World) (hv : 0 ≤ v ∧ v < 18446744073709551616) (ha : 0 ≤ a ∧ a < 18446744073709551616) (hb : 0 ≤ b ∧ b < 18446744073709551616) (hh : w.heap[bl]? = some (.cells #[cv_up v] 109 (0, 0))) :
    Calls Tryz.prog 117 #[.agg #[.iface 107 (.pointer (some ⟨bl, 0, none⟩)), .int .i64 6], .agg #[.int .i64 3, .int .u64 a, .int .u64 b]] w (DoPost 6 bl cv_up 109 v 3 a b w) := by
  have hm := fun w => m_up_add ⟨bl, 0, none⟩ w
  have hs : Tryz.prog.types.size + 100 = 283 := by kernel_rfl
  rw [hs] at hm
  have hlt := heap_lt hh
  have Hh := Lib.hid hh
  have Hv := Lib.hid hv
  have Ha := Lib.hid ha
  have Hb := Lib.hid hb
  obtain ⟨ha0, ha1⟩ := ha
  obtain ⟨hb0, hb1⟩ := hb
  clear hs hh hv
  go_enter Tryz.func117, Tryz.ntmps117
  go_wp2_with fail
  go_quiet (fail)
  have tX := ((((Turns.alloc (fun _ => False) w (.cells #[.iface 107 (.pointer (some ⟨bl, 0, none⟩)), .int .i64 6] 113)).trans (Turns.alloc _ _ (.cells #[.int .i64 3, .int .u64 a, .int .u64 b] 42))).trans (Turns.alloc _ _ (.cells #[.int .u64 0, .bool false] 44))).trans (TurnsDrewN _ _ nq))
  have hX := tX.heap Hh.out (fun h => h)
  have bX := three_blocks w (.cells #[.iface 107 (.pointer (some ⟨bl, 0, none⟩)), .int .i64 6] 113) (.cells #[.int .i64 3, .int .u64 a, .int .u64 b] 42) (.cells #[.int .u64 0, .bool false] 44) nq
  have HX := Lib.hid hX
  have TX := Lib.hid tX
  have BX := Lib.hid bX
  clear hX tX bX
  go_wp2_with fail
  refine (up_add bl 0 _ _ _ (cell_of_heap HX.out (j := 0) rfl) (frozen_of_heap HX.out)).mono ?_
  rintro e w1 ⟨rfl, q0⟩
  have t1 := turns_of_set q0
  have n1 : w1.heap[bl]? = some (.cells #[.int .u64 (addK .u64 v a)] 109 (0, 0)) := by
    rw [← q0]
    exact heap_setCell HX.out _
  have r1 := heap_ne t1 BX.out.1 (by omega)
  have r2 := heap_ne t1 BX.out.2.2 (by omega)
  have c1 := cell_of_heap r1 (j := 1) rfl
  have d0 := cell_of_heap r2 (j := 0) rfl
  have d1 := cell_of_heap r2 (j := 1) rfl
  have f0 := frozen_of_heap r2 (j := 0)
  have f1 := frozen_of_heap r2 (j := 1)
  have O1 := Lib.hid (outCells r2)
  have T1 := Lib.hid (TX.out.mono (fun _ _ h => h.elim) |>.trans t1)
  have N1 := Lib.hid n1
  clear t1 n1 r1 r2 q0 hm
  go_wp2_with (go_at_call 32; refine (narrow_any 6 (addK .u64 v a) _ (by omega) (rng_up_add v a Hv.out)).mono ?_; rintro e w2 ⟨rfl, rfl⟩)
  refine bodyPost_ret (v := .agg #[.int .u64 (cutW 6 (addK .u64 v a)), .bool true]) (by simp [results, Tryz.results117, go_sem, O1.out.1, O1.out.2.1]) rfl ⟨?_, ?_, ?_⟩
  · rw [val_up_add v a Hv.out]
    rfl
  · exact turns_new2 T1.out (by omega)
  · rw [heap_setCell_ne (by simp; omega), heap_setCell_ne (by simp; omega), N1.out]
    rw [new_up_add v a b Hv.out Ha.out]; rfl

theorem m_up_swap (a : Addr) (w : World) : (method (Tryz.prog.types.size + 100) 107 (.pointer (some a)) "Swap").run Tryz.prog w = .ok (109, .pointer (some a)) w := by kernel_rfl

set_option maxHeartbeats 1000000 in
theorem do_up_swap (bl : Nat) (v a b : Int) (w : World) (hv : 0 ≤ v ∧ v < 18446744073709551616) (ha : 0 ≤ a ∧ a < 18446744073709551616) (hb : 0 ≤ b ∧ b < 18446744073709551616) (hh : w.heap[bl]? = some (.cells #[cv_up v] 109 (0, 0))) :
    Calls Tryz.prog 117 #[.agg #[.iface 107 (.pointer (some ⟨bl, 0, none⟩)), .int .i64 6], .agg #[.int .i64 4, .int .u64 a, .int .u64 b]] w (DoPost 6 bl cv_up 109 v 4 a b w) := by
  have hm := fun w => m_up_swap ⟨bl, 0, none⟩ w
  have hs : Tryz.prog.types.size + 100 = 283 := by kernel_rfl
  rw [hs] at hm
  have hlt := heap_lt hh
  have Hh := Lib.hid hh
  have Hv := Lib.hid hv
  have Ha := Lib.hid ha
  have Hb := Lib.hid hb
  obtain ⟨ha0, ha1⟩ := ha
  obtain ⟨hb0, hb1⟩ := hb
  clear hs hh hv
  go_enter Tryz.func117, Tryz.ntmps117
  go_wp2_with fail
  go_quiet (fail)
  have tX := ((((Turns.alloc (fun _ => False) w (.cells #[.iface 107 (.pointer (some ⟨bl, 0, none⟩)), .int .i64 6] 113)).trans (Turns.alloc _ _ (.cells #[.int .i64 4, .int .u64 a, .int .u64 b] 42))).trans (Turns.alloc _ _ (.cells #[.int .u64 0, .bool false] 44))).trans (TurnsDrewN _ _ nq))
  have hX := tX.heap Hh.out (fun h => h)
  have bX := three_blocks w (.cells #[.iface 107 (.pointer (some ⟨bl, 0, none⟩)), .int .i64 6] 113) (.cells #[.int .i64 4, .int .u64 a, .int .u64 b] 42) (.cells #[.int .u64 0, .bool false] 44) nq
  have HX := Lib.hid hX
  have TX := Lib.hid tX
  have BX := Lib.hid bX
  clear hX tX bX
  go_wp2_with fail
  refine (up_swap bl 0 _ _ _ (cell_of_heap HX.out (j := 0) rfl) (frozen_of_heap HX.out)).mono ?_
  rintro e w1 ⟨rfl, q0⟩
  have t1 := turns_of_set q0
  have n1 : w1.heap[bl]? = some (.cells #[.int .u64 a] 109 (0, 0)) := by
    rw [← q0]
    exact heap_setCell HX.out _
  have r1 := heap_ne t1 BX.out.1 (by omega)
  have r2 := heap_ne t1 BX.out.2.2 (by omega)
  have c1 := cell_of_heap r1 (j := 1) rfl
  have d0 := cell_of_heap r2 (j := 0) rfl
  have d1 := cell_of_heap r2 (j := 1) rfl
  have f0 := frozen_of_heap r2 (j := 0)
  have f1 := frozen_of_heap r2 (j := 1)
  have O1 := Lib.hid (outCells r2)
  have T1 := Lib.hid (TX.out.mono (fun _ _ h => h.elim) |>.trans t1)
  have N1 := Lib.hid n1
  clear t1 n1 r1 r2 q0 hm
  go_wp2_with (go_at_call 32; refine (narrow_any 6 v _ (by omega) (rng_up v a Hv.out)).mono ?_; rintro e w2 ⟨rfl, rfl⟩)
  refine bodyPost_ret (v := .agg #[.int .u64 (cutW 6 v), .bool true]) (by simp [results, Tryz.results117, go_sem, O1.out.1, O1.out.2.1]) rfl ⟨?_, ?_, ?_⟩
  · rw [val_up_swap v a Hv.out]
    rfl
  · exact turns_new2 T1.out (by omega)
  · rw [heap_setCell_ne (by simp; omega), heap_setCell_ne (by simp; omega), N1.out]
    rw [new_up_swap v a b Hv.out Ha.out]; rfl

theorem m_up_cas (a : Addr) (w : World) : (method (Tryz.prog.types.size + 100) 107 (.pointer (some a)) "CompareAndSwap").run Tryz.prog w = .ok (105, .pointer (some a)) w := by kernel_rfl

set_option maxHeartbeats 1000000 in
theorem do_up_cas (bl : Nat) (v a b : Int) (w : World) (hv : 0 ≤ v ∧ v < 18446744073709551616) (ha : 0 ≤ a ∧ a < 18446744073709551616) (hb : 0 ≤ b ∧ b < 18446744073709551616) (hh : w.heap[bl]? = some (.cells #[cv_up v] 109 (0, 0))) :
    Calls Tryz.prog 117 #[.agg #[.iface 107 (.pointer (some ⟨bl, 0, none⟩)), .int .i64 6], .agg #[.int .i64 5, .int .u64 a, .int .u64 b]] w (DoPost 6 bl cv_up 109 v 5 a b w) := by
  have hm := fun w => m_up_cas ⟨bl, 0, none⟩ w
  have hs : Tryz.prog.types.size + 100 = 283 := by kernel_rfl
  rw [hs] at hm
  have hlt := heap_lt hh
  have Hh := Lib.hid hh
  have Hv := Lib.hid hv
  have Ha := Lib.hid ha
  have Hb := Lib.hid hb
  obtain ⟨ha0, ha1⟩ := ha
  obtain ⟨hb0, hb1⟩ := hb
  clear hs hh hv
  go_enter Tryz.func117, Tryz.ntmps117
  go_wp2_with fail
  go_quiet (fail)
  have tX := ((((Turns.alloc (fun _ => False) w (.cells #[.iface 107 (.pointer (some ⟨bl, 0, none⟩)), .int .i64 6] 113)).trans (Turns.alloc _ _ (.cells #[.int .i64 5, .int .u64 a, .int .u64 b] 42))).trans (Turns.alloc _ _ (.cells #[.int .u64 0, .bool false] 44))).trans (TurnsDrewN _ _ nq))
  have hX := tX.heap Hh.out (fun h => h)
  have bX := three_blocks w (.cells #[.iface 107 (.pointer (some ⟨bl, 0, none⟩)), .int .i64 6] 113) (.cells #[.int .i64 5, .int .u64 a, .int .u64 b] 42) (.cells #[.int .u64 0, .bool false] 44) nq
  have HX := Lib.hid hX
  have TX := Lib.hid tX
  have BX := Lib.hid bX
  clear hX tX bX
  go_wp2_with fail
  refine (up_cas bl 0 _ _ _ _ (cell_of_heap HX.out (j := 0) rfl) (frozen_of_heap HX.out)).mono ?_
  rintro e w1 ⟨rfl, q0⟩
  have t1 := turns_of_set q0
  have n1 : w1.heap[bl]? = some (.cells #[.int .u64 (casNew v a b)] 109 (0, 0)) := by
    rw [← q0]
    exact heap_setCell HX.out _
  have r1 := heap_ne t1 BX.out.1 (by omega)
  have r2 := heap_ne t1 BX.out.2.2 (by omega)
  have c1 := cell_of_heap r1 (j := 1) rfl
  have d0 := cell_of_heap r2 (j := 0) rfl
  have d1 := cell_of_heap r2 (j := 1) rfl
  have f0 := frozen_of_heap r2 (j := 0)
  have f1 := frozen_of_heap r2 (j := 1)
  have O1 := Lib.hid (outCells r2)
  have T1 := Lib.hid (TX.out.mono (fun _ _ h => h.elim) |>.trans t1)
  have N1 := Lib.hid n1
  clear t1 n1 r1 r2 q0 hm
  go_wp2_with fail
  refine bodyPost_ret (v := .agg #[.int .u64 0, .bool (v == a)]) (by simp [results, Tryz.results117, go_sem, O1.out.1, O1.out.2.1]) rfl ⟨?_, ?_, ?_⟩
  · rw [ok_up v a Hv.out Ha.out]
    rfl
  · exact turns_new2 T1.out (by omega)
  · rw [heap_setCell_ne (by simp; omega), heap_setCell_ne (by simp; omega), N1.out]
    rw [new_up_cas v a b Hv.out Ha.out]
    rfl

theorem m_up_and (a : Addr) (w : World) : (method (Tryz.prog.types.size + 100) 107 (.pointer (some a)) "And").run Tryz.prog w = .ok (104, .pointer (some a)) w := by kernel_rfl

set_option maxHeartbeats 1000000 in
theorem do_up_and (bl : Nat) (v a b : Int) (w : World) (hv : 0 ≤ v ∧ v < 18446744073709551616) (ha : 0 ≤ a ∧ a < 18446744073709551616) (hb : 0 ≤ b ∧ b < 18446744073709551616) (hh : w.heap[bl]? = some (.cells #[cv_up v] 109 (0, 0))) :
    Calls Tryz.prog 117 #[.agg #[.iface 107 (.pointer (some ⟨bl, 0, none⟩)), .int .i64 6], .agg #[.int .i64 6, .int .u64 a, .int .u64 b]] w (DoPost 6 bl cv_up 109 v 6 a b w) := by
  have hm := fun w => m_up_and ⟨bl, 0, none⟩ w
  have hs : Tryz.prog.types.size + 100 = 283 := by kernel_rfl
  rw [hs] at hm
  have hlt := heap_lt hh
  have Hh := Lib.hid hh
  have Hv := Lib.hid hv
  have Ha := Lib.hid ha
  have Hb := Lib.hid hb
  obtain ⟨ha0, ha1⟩ := ha
  obtain ⟨hb0, hb1⟩ := hb
  clear hs hh hv
  go_enter Tryz.func117, Tryz.ntmps117
  go_wp2_with fail
  go_quiet (fail)
  have tX := ((((Turns.alloc (fun _ => False) w (.cells #[.iface 107 (.pointer (some ⟨bl, 0, none⟩)), .int .i64 6] 113)).trans (Turns.alloc _ _ (.cells #[.int .i64 6, .int .u64 a, .int .u64 b] 42))).trans (Turns.alloc _ _ (.cells #[.int .u64 0, .bool false] 44))).trans (TurnsDrewN _ _ nq))
  have hX := tX.heap Hh.out (fun h => h)
  have bX := three_blocks w (.cells #[.iface 107 (.pointer (some ⟨bl, 0, none⟩)), .int .i64 6] 113) (.cells #[.int .i64 6, .int .u64 a, .int .u64 b] 42) (.cells #[.int .u64 0, .bool false] 44) nq
  have HX := Lib.hid hX
  have TX := Lib.hid tX
  have BX := Lib.hid bX
  clear hX tX bX
  go_wp2_with fail
  refine (up_and bl 0 _ _ _ (cell_of_heap HX.out (j := 0) rfl) (frozen_of_heap HX.out)).mono ?_
  rintro e w1 ⟨rfl, q0⟩
  have t1 := turns_of_set q0
  have n1 : w1.heap[bl]? = some (.cells #[.int .u64 (andK .u64 v a)] 109 (0, 0)) := by
    rw [← q0]
    exact heap_setCell HX.out _
  have r1 := heap_ne t1 BX.out.1 (by omega)
  have r2 := heap_ne t1 BX.out.2.2 (by omega)
  have c1 := cell_of_heap r1 (j := 1) rfl
  have d0 := cell_of_heap r2 (j := 0) rfl
  have d1 := cell_of_heap r2 (j := 1) rfl
  have f0 := frozen_of_heap r2 (j := 0)
  have f1 := frozen_of_heap r2 (j := 1)
  have O1 := Lib.hid (outCells r2)
  have T1 := Lib.hid (TX.out.mono (fun _ _ h => h.elim) |>.trans t1)
  have N1 := Lib.hid n1
  clear t1 n1 r1 r2 q0 hm
  go_wp2_with (go_at_call 32; refine (narrow_any 6 v _ (by omega) (rng_up v a Hv.out)).mono ?_; rintro e w2 ⟨rfl, rfl⟩)
  refine bodyPost_ret (v := .agg #[.int .u64 (cutW 6 v), .bool true]) (by simp [results, Tryz.results117, go_sem, O1.out.1, O1.out.2.1]) rfl ⟨?_, ?_, ?_⟩
  · rw [val_up_and v a Hv.out]
    rfl
  · exact turns_new2 T1.out (by omega)
  · rw [heap_setCell_ne (by simp; omega), heap_setCell_ne (by simp; omega), N1.out]
    rw [new_up_and v a b Hv.out Ha.out]; rfl

theorem m_up_or (a : Addr) (w : World) : (method (Tryz.prog.types.size + 100) 107 (.pointer (some a)) "Or").run Tryz.prog w = .ok (107, .pointer (some a)) w := by kernel_rfl

set_option maxHeartbeats 1000000 in
theorem do_up_or (bl : Nat) (v a b : Int) (w : World) (hv : 0 ≤ v ∧ v < 18446744073709551616) (ha : 0 ≤ a ∧ a < 18446744073709551616) (hb : 0 ≤ b ∧ b < 18446744073709551616) (hh : w.heap[bl]? = some (.cells #[cv_up v] 109 (0, 0))) :
    Calls Tryz.prog 117 #[.agg #[.iface 107 (.pointer (some ⟨bl, 0, none⟩)), .int .i64 6], .agg #[.int .i64 7, .int .u64 a, .int .u64 b]] w (DoPost 6 bl cv_up 109 v 7 a b w) := by
  have hm := fun w => m_up_or ⟨bl, 0, none⟩ w
  have hs : Tryz.prog.types.size + 100 = 283 := by kernel_rfl
  rw [hs] at hm
  have hlt := heap_lt hh
  have Hh := Lib.hid hh
  have Hv := Lib.hid hv
  have Ha := Lib.hid ha
  have Hb := Lib.hid hb
  obtain ⟨ha0, ha1⟩ := ha
  obtain ⟨hb0, hb1⟩ := hb
  clear hs hh hv
  go_enter Tryz.func117, Tryz.ntmps117
  go_wp2_with fail
  go_quiet (fail)
  have tX := ((((Turns.alloc (fun _ => False) w (.cells #[.iface 107 (.pointer (some ⟨bl, 0, none⟩)), .int .i64 6] 113)).trans (Turns.alloc _ _ (.cells #[.int .i64 7, .int .u64 a, .int .u64 b] 42))).trans (Turns.alloc _ _ (.cells #[.int .u64 0, .bool false] 44))).trans (TurnsDrewN _ _ nq))
  have hX := tX.heap Hh.out (fun h => h)
  have bX := three_blocks w (.cells #[.iface 107 (.pointer (some ⟨bl, 0, none⟩)), .int .i64 6] 113) (.cells #[.int .i64 7, .int .u64 a, .int .u64 b] 42) (.cells #[.int .u64 0, .bool false] 44) nq
  have HX := Lib.hid hX
  have TX := Lib.hid tX
  have BX := Lib.hid bX
  clear hX tX bX
  go_wp2_with fail
  refine (up_or bl 0 _ _ _ (cell_of_heap HX.out (j := 0) rfl) (frozen_of_heap HX.out)).mono ?_
  rintro e w1 ⟨rfl, q0⟩
  have t1 := turns_of_set q0
  have n1 : w1.heap[bl]? = some (.cells #[.int .u64 (orK .u64 v a)] 109 (0, 0)) := by
    rw [← q0]
    exact heap_setCell HX.out _
  have r1 := heap_ne t1 BX.out.1 (by omega)
  have r2 := heap_ne t1 BX.out.2.2 (by omega)
  have c1 := cell_of_heap r1 (j := 1) rfl
  have d0 := cell_of_heap r2 (j := 0) rfl
  have d1 := cell_of_heap r2 (j := 1) rfl
  have f0 := frozen_of_heap r2 (j := 0)
  have f1 := frozen_of_heap r2 (j := 1)
  have O1 := Lib.hid (outCells r2)
  have T1 := Lib.hid (TX.out.mono (fun _ _ h => h.elim) |>.trans t1)
  have N1 := Lib.hid n1
  clear t1 n1 r1 r2 q0 hm
  go_wp2_with (go_at_call 32; refine (narrow_any 6 v _ (by omega) (rng_up v a Hv.out)).mono ?_; rintro e w2 ⟨rfl, rfl⟩)
  refine bodyPost_ret (v := .agg #[.int .u64 (cutW 6 v), .bool true]) (by simp [results, Tryz.results117, go_sem, O1.out.1, O1.out.2.1]) rfl ⟨?_, ?_, ?_⟩
  · rw [val_up_or v a Hv.out]
    rfl
  · exact turns_new2 T1.out (by omega)
  · rw [heap_setCell_ne (by simp; omega), heap_setCell_ne (by simp; omega), N1.out]
    rw [new_up_or v a b Hv.out Ha.out]; rfl

end Go.Proofs.YtfkhflknigemgaaGreat
