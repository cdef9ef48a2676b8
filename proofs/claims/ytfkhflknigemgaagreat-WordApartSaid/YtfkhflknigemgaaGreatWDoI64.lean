/-
  DERIVED. THE WALKS over word's number[int64]: each access.
-/
import Derived.Test.YtfkhflknigemgaaGreatWDo
namespace Go.Proofs.YtfkhflknigemgaaGreat
open Go.RowKit
set_option maxRecDepth 100000

/-- the cell of a word that holds v. -/
def cv_i64 (v : Int) : Value := .int .i64 (wrap64 v)

theorem m_i64_load (a : Addr) (w : World) : (method (Tryz.prog.types.size + 100) 84 (.pointer (some a)) "Load").run Tryz.prog w = .ok (61, .pointer (some a)) w := by kernel_rfl

set_option maxHeartbeats 1000000 in
theorem do_i64_load (bl : Nat) (v a b : Int) (w : World) (hv : 0 ≤ v ∧ v < 18446744073709551616) (ha : 0 ≤ a ∧ a < 18446744073709551616) (hb : 0 ≤ b ∧ b < 18446744073709551616) (hh : w.heap[bl]? = some (.cells #[cv_i64 v] 87 (0, 0))) :
    Calls Tryz.prog 72 #[.agg #[.iface 84 (.pointer (some ⟨bl, 0, none⟩)), .int .i64 2], .agg #[.int .i64 1, .int .u64 a, .int .u64 b]] w (DoPost 2 bl cv_i64 87 v 1 a b w) := by
  have hm := fun w => m_i64_load ⟨bl, 0, none⟩ w
  have hs : Tryz.prog.types.size + 100 = 283 := by kernel_rfl
  rw [hs] at hm
  have hlt := heap_lt hh
  have Hh := Lib.hid hh
  have Hv := Lib.hid hv
  have Ha := Lib.hid ha
  have Hb := Lib.hid hb
  obtain ⟨ha0, ha1⟩ := ha
  obtain ⟨hb0, hb1⟩ := hb
  clear hs hh hv
  go_enter Tryz.func72, Tryz.ntmps72
  go_wp2_with fail
  go_quiet (fail)
  have tX := ((((Turns.alloc (fun _ => False) w (.cells #[.iface 84 (.pointer (some ⟨bl, 0, none⟩)), .int .i64 2] 91)).trans (Turns.alloc _ _ (.cells #[.int .i64 1, .int .u64 a, .int .u64 b] 42))).trans (Turns.alloc _ _ (.cells #[.int .u64 0, .bool false] 44))).trans (TurnsDrewN _ _ nq))
  have hX := tX.heap Hh.out (fun h => h)
  have bX := three_blocks w (.cells #[.iface 84 (.pointer (some ⟨bl, 0, none⟩)), .int .i64 2] 91) (.cells #[.int .i64 1, .int .u64 a, .int .u64 b] 42) (.cells #[.int .u64 0, .bool false] 44) nq
  have HX := Lib.hid hX
  have TX := Lib.hid tX
  have BX := Lib.hid bX
  clear hX tX bX
  go_wp2_with fail
  refine (i64_load bl 0 _ _ (cell_of_heap HX.out (j := 0) rfl)).mono ?_
  rintro e w1 ⟨rfl, q0⟩
  have t1 := turns_of_set (setCell_self (cell_of_heap HX.out (j := 0) rfl) ▸ q0)
  have n1 : w1.heap[bl]? = some (.cells #[cv_i64 v] 87 (0, 0)) := by
    rw [← q0]
    exact HX.out
  have r1 := heap_ne t1 BX.out.1 (by omega)
  have r2 := heap_ne t1 BX.out.2.2 (by omega)
  have c1 := cell_of_heap r1 (j := 1) rfl
  have d0 := cell_of_heap r2 (j := 0) rfl
  have d1 := cell_of_heap r2 (j := 1) rfl
  have f0 := frozen_of_heap r2 (j := 0)
  have f1 := frozen_of_heap r2 (j := 1)
  have O1 := Lib.hid (outCells r2)
  have T1 := Lib.hid (TX.out.mono (fun _ _ h => h.elim) |>.trans t1)
  have N1 := Lib.hid n1
  clear t1 n1 r1 r2 q0 hm
  go_wp2_with (go_at_call 32; refine (narrow_any 2 (IntKind.u64.wrap (wrap64 v)) _ (by omega) (rng_i64 v a Hv.out)).mono ?_; rintro e w2 ⟨rfl, rfl⟩)
  refine bodyPost_ret (v := .agg #[.int .u64 (cutW 2 (IntKind.u64.wrap (wrap64 v))), .bool true]) (by simp [results, Tryz.results72, go_sem, O1.out.1, O1.out.2.1]) rfl ⟨?_, ?_, ?_⟩
  · rw [val_i64_load v a Hv.out]
    rfl
  · exact turns_new2 T1.out (by omega)
  · rw [heap_setCell_ne (by simp; omega), heap_setCell_ne (by simp; omega), N1.out]
    rfl

theorem m_i64_store (a : Addr) (w : World) : (method (Tryz.prog.types.size + 100) 84 (.pointer (some a)) "Store").run Tryz.prog w = .ok (63, .pointer (some a)) w := by kernel_rfl

set_option maxHeartbeats 1000000 in
theorem do_i64_store (bl : Nat) (v a b : Int) (w : World) (hv : 0 ≤ v ∧ v < 18446744073709551616) (ha : 0 ≤ a ∧ a < 18446744073709551616) (hb : 0 ≤ b ∧ b < 18446744073709551616) (hh : w.heap[bl]? = some (.cells #[cv_i64 v] 87 (0, 0))) :
    Calls Tryz.prog 72 #[.agg #[.iface 84 (.pointer (some ⟨bl, 0, none⟩)), .int .i64 2], .agg #[.int .i64 2, .int .u64 a, .int .u64 b]] w (DoPost 2 bl cv_i64 87 v 2 a b w) := by
  have hm := fun w => m_i64_store ⟨bl, 0, none⟩ w
  have hs : Tryz.prog.types.size + 100 = 283 := by kernel_rfl
  rw [hs] at hm
  have hlt := heap_lt hh
  have Hh := Lib.hid hh
  have Hv := Lib.hid hv
  have Ha := Lib.hid ha
  have Hb := Lib.hid hb
  obtain ⟨ha0, ha1⟩ := ha
  obtain ⟨hb0, hb1⟩ := hb
  clear hs hh hv
  go_enter Tryz.func72, Tryz.ntmps72
  go_wp2_with fail
  go_quiet (fail)
  have tX := ((((Turns.alloc (fun _ => False) w (.cells #[.iface 84 (.pointer (some ⟨bl, 0, none⟩)), .int .i64 2] 91)).trans (Turns.alloc _ _ (.cells #[.int .i64 2, .int .u64 a, .int .u64 b] 42))).trans (Turns.alloc _ _ (.cells #[.int .u64 0, .bool false] 44))).trans (TurnsDrewN _ _ nq))
  have hX := tX.heap Hh.out (fun h => h)
  have bX := three_blocks w (.cells #[.iface 84 (.pointer (some ⟨bl, 0, none⟩)), .int .i64 2] 91) (.cells #[.int .i64 2, .int .u64 a, .int .u64 b] 42) (.cells #[.int .u64 0, .bool false] 44) nq
  have HX := Lib.hid hX
  have TX := Lib.hid tX
  have BX := Lib.hid bX
  clear hX tX bX
  go_wp2_with fail
  refine (i64_store bl 0 _ _ _ (cell_of_heap HX.out (j := 0) rfl) (frozen_of_heap HX.out)).mono ?_
  rintro e w1 ⟨rfl, q0⟩
  have t1 := turns_of_set q0
  have n1 : w1.heap[bl]? = some (.cells #[.int .i64 (wrap64 a)] 87 (0, 0)) := by
    rw [← q0]
    exact heap_setCell HX.out _
  have r1 := heap_ne t1 BX.out.1 (by omega)
  have r2 := heap_ne t1 BX.out.2.2 (by omega)
  have c1 := cell_of_heap r1 (j := 1) rfl
  have d0 := cell_of_heap r2 (j := 0) rfl
  have d1 := cell_of_heap r2 (j := 1) rfl
  have f0 := frozen_of_heap r2 (j := 0)
  have f1 := frozen_of_heap r2 (j := 1)
  have O1 := Lib.hid (outCells r2)
  have T1 := Lib.hid (TX.out.mono (fun _ _ h => h.elim) |>.trans t1)
  have N1 := Lib.hid n1
  clear t1 n1 r1 r2 q0 hm
  go_wp2_with (go_at_call 32; refine (narrow_any 2 0 _ (by omega) (rng_i64_zero v a Hv.out)).mono ?_; rintro e w2 ⟨rfl, rfl⟩)
  refine bodyPost_ret (v := .agg #[.int .u64 (cutW 2 0), .bool true]) (by simp [results, Tryz.results72, go_sem, O1.out.1, O1.out.2.1]) rfl ⟨?_, ?_, ?_⟩
  · rw [val_i64_store v a Hv.out]
    rfl
  · exact turns_new2 T1.out (by omega)
  · rw [heap_setCell_ne (by simp; omega), heap_setCell_ne (by simp; omega), N1.out]
    rw [new_i64_store v a b Hv.out Ha.out]; rfl

theorem m_i64_add (a : Addr) (w : World) : (method (Tryz.prog.types.size + 100) 84 (.pointer (some a)) "Add").run Tryz.prog w = .ok (58, .pointer (some a)) w := by kernel_rfl

set_option maxHeartbeats 1000000 in
theorem do_i64_add (bl : Nat) (v a b : Int) (w : World) (hv : 0 ≤ v ∧ v < 18446744073709551616) (ha : 0 ≤ a ∧ a < 18446744073709551616) (hb : 0 ≤ b ∧ b < 18446744073709551616) (hh : w.heap[bl]? = some (.cells #[cv_i64 v] 87 (0, 0))) :
    Calls Tryz.prog 72 #[.agg #[.iface 84 (.pointer (some ⟨bl, 0, none⟩)), .int .i64 2], .agg #[.int .i64 3, .int .u64 a, .int .u64 b]] w (DoPost 2 bl cv_i64 87 v 3 a b w) := by
  have hm := fun w => m_i64_add ⟨bl, 0, none⟩ w
  have hs : Tryz.prog.types.size + 100 = 283 := by kernel_rfl
  rw [hs] at hm
  have hlt := heap_lt hh
  have Hh := Lib.hid hh
  have Hv := Lib.hid hv
  have Ha := Lib.hid ha
  have Hb := Lib.hid hb
  obtain ⟨ha0, ha1⟩ := ha
  obtain ⟨hb0, hb1⟩ := hb
  clear hs hh hv
  go_enter Tryz.func72, Tryz.ntmps72
  go_wp2_with fail
  go_quiet (fail)
  have tX := ((((Turns.alloc (fun _ => False) w (.cells #[.iface 84 (.pointer (some ⟨bl, 0, none⟩)), .int .i64 2] 91)).trans (Turns.alloc _ _ (.cells #[.int .i64 3, .int .u64 a, .int .u64 b] 42))).trans (Turns.alloc _ _ (.cells #[.int .u64 0, .bool false] 44))).trans (TurnsDrewN _ _ nq))
  have hX := tX.heap Hh.out (fun h => h)
  have bX := three_blocks w (.cells #[.iface 84 (.pointer (some ⟨bl, 0, none⟩)), .int .i64 2] 91) (.cells #[.int .i64 3, .int .u64 a, .int .u64 b] 42) (.cells #[.int .u64 0, .bool false] 44) nq
  have HX := Lib.hid hX
  have TX := Lib.hid tX
  have BX := Lib.hid bX
  clear hX tX bX
  go_wp2_with fail
  refine (i64_add bl 0 _ _ _ (cell_of_heap HX.out (j := 0) rfl) (frozen_of_heap HX.out)).mono ?_
  rintro e w1 ⟨rfl, q0⟩
  have t1 := turns_of_set q0
  have n1 : w1.heap[bl]? = some (.cells #[.int .i64 (addK .i64 (wrap64 v) (wrap64 a))] 87 (0, 0)) := by
    rw [← q0]
    exact heap_setCell HX.out _
  have r1 := heap_ne t1 BX.out.1 (by omega)
  have r2 := heap_ne t1 BX.out.2.2 (by omega)
  have c1 := cell_of_heap r1 (j := 1) rfl
  have d0 := cell_of_heap r2 (j := 0) rfl
  have d1 := cell_of_heap r2 (j := 1) rfl
  have f0 := frozen_of_heap r2 (j := 0)
  have f1 := frozen_of_heap r2 (j := 1)
  have O1 := Lib.hid (outCells r2)
  have T1 := Lib.hid (TX.out.mono (fun _ _ h => h.elim) |>.trans t1)
  have N1 := Lib.hid n1
  clear t1 n1 r1 r2 q0 hm
  go_wp2_with (go_at_call 32; refine (narrow_any 2 (IntKind.u64.wrap (addK .i64 (wrap64 v) (wrap64 a))) _ (by omega) (rng_i64_add v a Hv.out)).mono ?_; rintro e w2 ⟨rfl, rfl⟩)
  refine bodyPost_ret (v := .agg #[.int .u64 (cutW 2 (IntKind.u64.wrap (addK .i64 (wrap64 v) (wrap64 a)))), .bool true]) (by simp [results, Tryz.results72, go_sem, O1.out.1, O1.out.2.1]) rfl ⟨?_, ?_, ?_⟩
  · rw [val_i64_add v a Hv.out]
    rfl
  · exact turns_new2 T1.out (by omega)
  · rw [heap_setCell_ne (by simp; omega), heap_setCell_ne (by simp; omega), N1.out]
    rw [new_i64_add v a b Hv.out Ha.out]; rfl

theorem m_i64_swap (a : Addr) (w : World) : (method (Tryz.prog.types.size + 100) 84 (.pointer (some a)) "Swap").run Tryz.prog w = .ok (64, .pointer (some a)) w := by kernel_rfl

set_option maxHeartbeats 1000000 in
theorem do_i64_swap (bl : Nat) (v a b : Int) (w : World) (hv : 0 ≤ v ∧ v < 18446744073709551616) (ha : 0 ≤ a ∧ a < 18446744073709551616) (hb : 0 ≤ b ∧ b < 18446744073709551616) (hh : w.heap[bl]? = some (.cells #[cv_i64 v] 87 (0, 0))) :
    Calls Tryz.prog 72 #[.agg #[.iface 84 (.pointer (some ⟨bl, 0, none⟩)), .int .i64 2], .agg #[.int .i64 4, .int .u64 a, .int .u64 b]] w (DoPost 2 bl cv_i64 87 v 4 a b w) := by
  have hm := fun w => m_i64_swap ⟨bl, 0, none⟩ w
  have hs : Tryz.prog.types.size + 100 = 283 := by kernel_rfl
  rw [hs] at hm
  have hlt := heap_lt hh
  have Hh := Lib.hid hh
  have Hv := Lib.hid hv
  have Ha := Lib.hid ha
  have Hb := Lib.hid hb
  obtain ⟨ha0, ha1⟩ := ha
  obtain ⟨hb0, hb1⟩ := hb
  clear hs hh hv
  go_enter Tryz.func72, Tryz.ntmps72
  go_wp2_with fail
  go_quiet (fail)
  have tX := ((((Turns.alloc (fun _ => False) w (.cells #[.iface 84 (.pointer (some ⟨bl, 0, none⟩)), .int .i64 2] 91)).trans (Turns.alloc _ _ (.cells #[.int .i64 4, .int .u64 a, .int .u64 b] 42))).trans (Turns.alloc _ _ (.cells #[.int .u64 0, .bool false] 44))).trans (TurnsDrewN _ _ nq))
  have hX := tX.heap Hh.out (fun h => h)
  have bX := three_blocks w (.cells #[.iface 84 (.pointer (some ⟨bl, 0, none⟩)), .int .i64 2] 91) (.cells #[.int .i64 4, .int .u64 a, .int .u64 b] 42) (.cells #[.int .u64 0, .bool false] 44) nq
  have HX := Lib.hid hX
  have TX := Lib.hid tX
  have BX := Lib.hid bX
  clear hX tX bX
  go_wp2_with fail
  refine (i64_swap bl 0 _ _ _ (cell_of_heap HX.out (j := 0) rfl) (frozen_of_heap HX.out)).mono ?_
  rintro e w1 ⟨rfl, q0⟩
  have t1 := turns_of_set q0
  have n1 : w1.heap[bl]? = some (.cells #[.int .i64 (wrap64 a)] 87 (0, 0)) := by
    rw [← q0]
    exact heap_setCell HX.out _
  have r1 := heap_ne t1 BX.out.1 (by omega)
  have r2 := heap_ne t1 BX.out.2.2 (by omega)
  have c1 := cell_of_heap r1 (j := 1) rfl
  have d0 := cell_of_heap r2 (j := 0) rfl
  have d1 := cell_of_heap r2 (j := 1) rfl
  have f0 := frozen_of_heap r2 (j := 0)
  have f1 := frozen_of_heap r2 (j := 1)
  have O1 := Lib.hid (outCells r2)
  have T1 := Lib.hid (TX.out.mono (fun _ _ h => h.elim) |>.trans t1)
  have N1 := Lib.hid n1
  clear t1 n1 r1 r2 q0 hm
  go_wp2_with (go_at_call 32; refine (narrow_any 2 (IntKind.u64.wrap (wrap64 v)) _ (by omega) (rng_i64 v a Hv.out)).mono ?_; rintro e w2 ⟨rfl, rfl⟩)
  refine bodyPost_ret (v := .agg #[.int .u64 (cutW 2 (IntKind.u64.wrap (wrap64 v))), .bool true]) (by simp [results, Tryz.results72, go_sem, O1.out.1, O1.out.2.1]) rfl ⟨?_, ?_, ?_⟩
  · rw [val_i64_swap v a Hv.out]
    rfl
  · exact turns_new2 T1.out (by omega)
  · rw [heap_setCell_ne (by simp; omega), heap_setCell_ne (by simp; omega), N1.out]
    rw [new_i64_swap v a b Hv.out Ha.out]; rfl

theorem m_i64_cas (a : Addr) (w : World) : (method (Tryz.prog.types.size + 100) 84 (.pointer (some a)) "CompareAndSwap").run Tryz.prog w = .ok (60, .pointer (some a)) w := by kernel_rfl

set_option maxHeartbeats 1000000 in
theorem do_i64_cas (bl : Nat) (v a b : Int) (w : World) (hv : 0 ≤ v ∧ v < 18446744073709551616) (ha : 0 ≤ a ∧ a < 18446744073709551616) (hb : 0 ≤ b ∧ b < 18446744073709551616) (hh : w.heap[bl]? = some (.cells #[cv_i64 v] 87 (0, 0))) :
    Calls Tryz.prog 72 #[.agg #[.iface 84 (.pointer (some ⟨bl, 0, none⟩)), .int .i64 2], .agg #[.int .i64 5, .int .u64 a, .int .u64 b]] w (DoPost 2 bl cv_i64 87 v 5 a b w) := by
  have hm := fun w => m_i64_cas ⟨bl, 0, none⟩ w
  have hs : Tryz.prog.types.size + 100 = 283 := by kernel_rfl
  rw [hs] at hm
  have hlt := heap_lt hh
  have Hh := Lib.hid hh
  have Hv := Lib.hid hv
  have Ha := Lib.hid ha
  have Hb := Lib.hid hb
  obtain ⟨ha0, ha1⟩ := ha
  obtain ⟨hb0, hb1⟩ := hb
  clear hs hh hv
  go_enter Tryz.func72, Tryz.ntmps72
  go_wp2_with fail
  go_quiet (fail)
  have tX := ((((Turns.alloc (fun _ => False) w (.cells #[.iface 84 (.pointer (some ⟨bl, 0, none⟩)), .int .i64 2] 91)).trans (Turns.alloc _ _ (.cells #[.int .i64 5, .int .u64 a, .int .u64 b] 42))).trans (Turns.alloc _ _ (.cells #[.int .u64 0, .bool false] 44))).trans (TurnsDrewN _ _ nq))
  have hX := tX.heap Hh.out (fun h => h)
  have bX := three_blocks w (.cells #[.iface 84 (.pointer (some ⟨bl, 0, none⟩)), .int .i64 2] 91) (.cells #[.int .i64 5, .int .u64 a, .int .u64 b] 42) (.cells #[.int .u64 0, .bool false] 44) nq
  have HX := Lib.hid hX
  have TX := Lib.hid tX
  have BX := Lib.hid bX
  clear hX tX bX
  go_wp2_with fail
  refine (i64_cas bl 0 _ _ _ _ (cell_of_heap HX.out (j := 0) rfl) (frozen_of_heap HX.out)).mono ?_
  rintro e w1 ⟨rfl, q0⟩
  have t1 := turns_of_set q0
  have n1 : w1.heap[bl]? = some (.cells #[.int .i64 (casNew (wrap64 v) (wrap64 a) (wrap64 b))] 87 (0, 0)) := by
    rw [← q0]
    exact heap_setCell HX.out _
  have r1 := heap_ne t1 BX.out.1 (by omega)
  have r2 := heap_ne t1 BX.out.2.2 (by omega)
  have c1 := cell_of_heap r1 (j := 1) rfl
  have d0 := cell_of_heap r2 (j := 0) rfl
  have d1 := cell_of_heap r2 (j := 1) rfl
  have f0 := frozen_of_heap r2 (j := 0)
  have f1 := frozen_of_heap r2 (j := 1)
  have O1 := Lib.hid (outCells r2)
  have T1 := Lib.hid (TX.out.mono (fun _ _ h => h.elim) |>.trans t1)
  have N1 := Lib.hid n1
  clear t1 n1 r1 r2 q0 hm
  go_wp2_with fail
  refine bodyPost_ret (v := .agg #[.int .u64 0, .bool ((wrap64 v) == (wrap64 a))]) (by simp [results, Tryz.results72, go_sem, O1.out.1, O1.out.2.1]) rfl ⟨?_, ?_, ?_⟩
  · rw [ok_i64 v a Hv.out Ha.out]
    rfl
  · exact turns_new2 T1.out (by omega)
  · rw [heap_setCell_ne (by simp; omega), heap_setCell_ne (by simp; omega), N1.out]
    rw [new_i64_cas v a b Hv.out Ha.out]
    rfl

theorem m_i64_and (a : Addr) (w : World) : (method (Tryz.prog.types.size + 100) 84 (.pointer (some a)) "And").run Tryz.prog w = .ok (59, .pointer (some a)) w := by kernel_rfl

set_option maxHeartbeats 1000000 in
theorem do_i64_and (bl : Nat) (v a b : Int) (w : World) (hv : 0 ≤ v ∧ v < 18446744073709551616) (ha : 0 ≤ a ∧ a < 18446744073709551616) (hb : 0 ≤ b ∧ b < 18446744073709551616) (hh : w.heap[bl]? = some (.cells #[cv_i64 v] 87 (0, 0))) :
    Calls Tryz.prog 72 #[.agg #[.iface 84 (.pointer (some ⟨bl, 0, none⟩)), .int .i64 2], .agg #[.int .i64 6, .int .u64 a, .int .u64 b]] w (DoPost 2 bl cv_i64 87 v 6 a b w) := by
  have hm := fun w => m_i64_and ⟨bl, 0, none⟩ w
  have hs : Tryz.prog.types.size + 100 = 283 := by kernel_rfl
  rw [hs] at hm
  have hlt := heap_lt hh
  have Hh := Lib.hid hh
  have Hv := Lib.hid hv
  have Ha := Lib.hid ha
  have Hb := Lib.hid hb
  obtain ⟨ha0, ha1⟩ := ha
  obtain ⟨hb0, hb1⟩ := hb
  clear hs hh hv
  go_enter Tryz.func72, Tryz.ntmps72
  go_wp2_with fail
  go_quiet (fail)
  have tX := ((((Turns.alloc (fun _ => False) w (.cells #[.iface 84 (.pointer (some ⟨bl, 0, none⟩)), .int .i64 2] 91)).trans (Turns.alloc _ _ (.cells #[.int .i64 6, .int .u64 a, .int .u64 b] 42))).trans (Turns.alloc _ _ (.cells #[.int .u64 0, .bool false] 44))).trans (TurnsDrewN _ _ nq))
  have hX := tX.heap Hh.out (fun h => h)
  have bX := three_blocks w (.cells #[.iface 84 (.pointer (some ⟨bl, 0, none⟩)), .int .i64 2] 91) (.cells #[.int .i64 6, .int .u64 a, .int .u64 b] 42) (.cells #[.int .u64 0, .bool false] 44) nq
  have HX := Lib.hid hX
  have TX := Lib.hid tX
  have BX := Lib.hid bX
  clear hX tX bX
  go_wp2_with fail
  refine (i64_and bl 0 _ _ _ (cell_of_heap HX.out (j := 0) rfl) (frozen_of_heap HX.out)).mono ?_
  rintro e w1 ⟨rfl, q0⟩
  have t1 := turns_of_set q0
  have n1 : w1.heap[bl]? = some (.cells #[.int .i64 (andK .i64 (wrap64 v) (wrap64 a))] 87 (0, 0)) := by
    rw [← q0]
    exact heap_setCell HX.out _
  have r1 := heap_ne t1 BX.out.1 (by omega)
  have r2 := heap_ne t1 BX.out.2.2 (by omega)
  have c1 := cell_of_heap r1 (j := 1) rfl
  have d0 := cell_of_heap r2 (j := 0) rfl
  have d1 := cell_of_heap r2 (j := 1) rfl
  have f0 := frozen_of_heap r2 (j := 0)
  have f1 := frozen_of_heap r2 (j := 1)
  have O1 := Lib.hid (outCells r2)
  have T1 := Lib.hid (TX.out.mono (fun _ _ h => h.elim) |>.trans t1)
  have N1 := Lib.hid n1
  clear t1 n1 r1 r2 q0 hm
  go_wp2_with (go_at_call 32; refine (narrow_any 2 (IntKind.u64.wrap (wrap64 v)) _ (by omega) (rng_i64 v a Hv.out)).mono ?_; rintro e w2 ⟨rfl, rfl⟩)
  refine bodyPost_ret (v := .agg #[.int .u64 (cutW 2 (IntKind.u64.wrap (wrap64 v))), .bool true]) (by simp [results, Tryz.results72, go_sem, O1.out.1, O1.out.2.1]) rfl ⟨?_, ?_, ?_⟩
  · rw [val_i64_and v a Hv.out]
    rfl
  · exact turns_new2 T1.out (by omega)
  · rw [heap_setCell_ne (by simp; omega), heap_setCell_ne (by simp; omega), N1.out]
    rw [new_i64_and v a b Hv.out Ha.out]; rfl

theorem m_i64_or (a : Addr) (w : World) : (method (Tryz.prog.types.size + 100) 84 (.pointer (some a)) "Or").run Tryz.prog w = .ok (62, .pointer (some a)) w := by kernel_rfl

set_option maxHeartbeats 1000000 in
theorem do_i64_or (bl : Nat) (v a b : Int) (w : World) (hv : 0 ≤ v ∧ v < 18446744073709551616) (ha : 0 ≤ a ∧ a < 18446744073709551616) (hb : 0 ≤ b ∧ b < 18446744073709551616) (hh : w.heap[bl]? = some (.cells #[cv_i64 v] 87 (0, 0))) :
    Calls Tryz.prog 72 #[.agg #[.iface 84 (.pointer (some ⟨bl, 0, none⟩)), .int .i64 2], .agg #[.int .i64 7, .int .u64 a, .int .u64 b]] w (DoPost 2 bl cv_i64 87 v 7 a b w) := by
  have hm := fun w => m_i64_or ⟨bl, 0, none⟩ w
  have hs : Tryz.prog.types.size + 100 = 283 := by kernel_rfl
  rw [hs] at hm
  have hlt := heap_lt hh
  have Hh := Lib.hid hh
  have Hv := Lib.hid hv
  have Ha := Lib.hid ha
  have Hb := Lib.hid hb
  obtain ⟨ha0, ha1⟩ := ha
  obtain ⟨hb0, hb1⟩ := hb
  clear hs hh hv
  go_enter Tryz.func72, Tryz.ntmps72
  go_wp2_with fail
  go_quiet (fail)
  have tX := ((((Turns.alloc (fun _ => False) w (.cells #[.iface 84 (.pointer (some ⟨bl, 0, none⟩)), .int .i64 2] 91)).trans (Turns.alloc _ _ (.cells #[.int .i64 7, .int .u64 a, .int .u64 b] 42))).trans (Turns.alloc _ _ (.cells #[.int .u64 0, .bool false] 44))).trans (TurnsDrewN _ _ nq))
  have hX := tX.heap Hh.out (fun h => h)
  have bX := three_blocks w (.cells #[.iface 84 (.pointer (some ⟨bl, 0, none⟩)), .int .i64 2] 91) (.cells #[.int .i64 7, .int .u64 a, .int .u64 b] 42) (.cells #[.int .u64 0, .bool false] 44) nq
  have HX := Lib.hid hX
  have TX := Lib.hid tX
  have BX := Lib.hid bX
  clear hX tX bX
  go_wp2_with fail
  refine (i64_or bl 0 _ _ _ (cell_of_heap HX.out (j := 0) rfl) (frozen_of_heap HX.out)).mono ?_
  rintro e w1 ⟨rfl, q0⟩
  have t1 := turns_of_set q0
  have n1 : w1.heap[bl]? = some (.cells #[.int .i64 (orK .i64 (wrap64 v) (wrap64 a))] 87 (0, 0)) := by
    rw [← q0]
    exact heap_setCell HX.out _
  have r1 := heap_ne t1 BX.out.1 (by omega)
  have r2 := heap_ne t1 BX.out.2.2 (by omega)
  have c1 := cell_of_heap r1 (j := 1) rfl
  have d0 := cell_of_heap r2 (j := 0) rfl
  have d1 := cell_of_heap r2 (j := 1) rfl
  have f0 := frozen_of_heap r2 (j := 0)
  have f1 := frozen_of_heap r2 (j := 1)
  have O1 := Lib.hid (outCells r2)
  have T1 := Lib.hid (TX.out.mono (fun _ _ h => h.elim) |>.trans t1)
  have N1 := Lib.hid n1
  clear t1 n1 r1 r2 q0 hm
  go_wp2_with (go_at_call 32; refine (narrow_any 2 (IntKind.u64.wrap (wrap64 v)) _ (by omega) (rng_i64 v a Hv.out)).mono ?_; rintro e w2 ⟨rfl, rfl⟩)
  refine bodyPost_ret (v := .agg #[.int .u64 (cutW 2 (IntKind.u64.wrap (wrap64 v))), .bool true]) (by simp [results, Tryz.results72, go_sem, O1.out.1, O1.out.2.1]) rfl ⟨?_, ?_, ?_⟩
  · rw [val_i64_or v a Hv.out]
    rfl
  · exact turns_new2 T1.out (by omega)
  · rw [heap_setCell_ne (by simp; omega), heap_setCell_ne (by simp; omega), N1.out]
    rw [new_i64_or v a b Hv.out Ha.out]; rfl

end Go.Proofs.YtfkhflknigemgaaGreat
