/-
  DERIVED. THE WALKS over sync/atomic's Bool and package cell's marks.
-/
import Derived.Test.YtjifoggfndicoaaCheck
import Derived.Deep.RegionHeld3
namespace Go.Proofs.Ytjifoggfndicoaa
open Go.RowKit
set_option maxRecDepth 100000

theorem b32_any (v : Bool) (w : World) : Calls Try.prog 103 #[.bool v] w fun e w' => e = .returned (.int .u32 (bitOf v)) ∧ w = w' := by
  cases v
  · go_enter Try.func103, Try.ntmps103
    go_wp2
    go_ret
    exact ⟨rfl, rfl⟩
  · go_enter Try.func103, Try.ntmps103
    go_wp2
    go_ret
    exact ⟨rfl, rfl⟩

theorem bool_load (b off : Nat) (x : Int) (w : World) (hc : w.cell? ⟨b, off, none⟩ = some (.int .u32 x)) :
    Calls Try.prog 69 #[.pointer (some ⟨b, off, none⟩)] w fun e w' => e = .returned (.bool (x != 0)) ∧ w = w' := by
  have h := run_call_load (P := Try.prog) Try.func104 (by kernel_rfl) (by kernel_rfl) (by kernel_rfl) .u32 (by kernel_rfl) hc
  go_enter Try.func69, Try.ntmps69
  go_wp2
  go_ret
  exact ⟨rfl, rfl⟩

theorem bool_store (b off : Nat) (x : Int) (y : Bool) (w : World) (hc : w.cell? ⟨b, off, none⟩ = some (.int .u32 x)) (hz : w.frozen? ⟨b, off, none⟩ = false) :
    Calls Try.prog 68 #[.pointer (some ⟨b, off, none⟩), .bool y] w fun e w' => e = .returned (.tuple #[]) ∧ (w.setCell ⟨b, off, none⟩ (.int .u32 (bitOf y))).drew = w' := by
  have h := run_call_store (P := Try.prog) Try.func102 (by kernel_rfl) (by kernel_rfl) (by kernel_rfl) (by kernel_rfl) (k := .u32) (y := bitOf y) (w := w.drew) (a := ⟨b, off, none⟩) (u := .int .u32 x) (by simpa using hc) (by simpa using hz)
  go_enter Try.func68, Try.ntmps68
  go_wp2_with fail
  go_region_held3 (fun _ => True) (exact True.intro) (first | (go_at_call 103; refine (b32_any _ _).mono ?_; rintro e w1 ⟨rfl, rfl⟩))
  go_wp2
  go_end0
  exact ⟨rfl, rfl⟩

theorem bool_swap (b off : Nat) (x : Int) (y : Bool) (w : World) (hc : w.cell? ⟨b, off, none⟩ = some (.int .u32 x)) (hz : w.frozen? ⟨b, off, none⟩ = false) :
    Calls Try.prog 71 #[.pointer (some ⟨b, off, none⟩), .bool y] w fun e w' => e = .returned (.bool (x != 0)) ∧ (w.setCell ⟨b, off, none⟩ (.int .u32 (bitOf y))).drew = w' := by
  have h := run_call_swap (P := Try.prog) Try.func106 (by kernel_rfl) (by kernel_rfl) (by kernel_rfl) .u32 (by kernel_rfl) (x := x) (y := bitOf y) (w := w.drew) (a := ⟨b, off, none⟩) (by simpa using hc) (by simpa using hz)
  go_enter Try.func71, Try.ntmps71
  go_wp2_with fail
  go_region_held3 (fun _ => True) (exact True.intro) (first | (go_at_call 103; refine (b32_any _ _).mono ?_; rintro e w1 ⟨rfl, rfl⟩))
  go_wp2
  go_ret
  exact ⟨rfl, rfl⟩

theorem bool_cas (b off : Nat) (x : Int) (o y : Bool) (w : World) (hc : w.cell? ⟨b, off, none⟩ = some (.int .u32 x)) (hz : w.frozen? ⟨b, off, none⟩ = false) :
    Calls Try.prog 70 #[.pointer (some ⟨b, off, none⟩), .bool o, .bool y] w fun e w' => e = .returned (.bool (x == bitOf o)) ∧ (w.setCell ⟨b, off, none⟩ (.int .u32 (casNew x (bitOf o) (bitOf y)))).drew = w' := by
  by_cases hx : x = bitOf o
  · have hc' : w.cell? ⟨b, off, none⟩ = some (.int .u32 (bitOf o)) := by rw [hc, hx]
    have h := run_call_cas_hit (P := Try.prog) Try.func105 (by kernel_rfl) (by kernel_rfl) (by kernel_rfl) .u32 (by kernel_rfl) (y := bitOf y) (w := w.drew) (a := ⟨b, off, none⟩) (x := bitOf o) (by simpa using hc') (by simpa using hz)
    have Hx := Lib.hid hx
    clear hx hc hc'
    go_enter Try.func70, Try.ntmps70
    go_wp2_with fail
    go_region_held3 (fun _ => True) (exact True.intro) (first | (go_at_call 103; refine (b32_any _ _).mono ?_; rintro e w1 ⟨rfl, rfl⟩))
    go_wp2
    go_ret
    have hx := Hx.out
    exact ⟨by simp [hx], by rw [casNew, if_pos hx]⟩
  · have h := run_call_cas_miss (P := Try.prog) Try.func105 (by kernel_rfl) (by kernel_rfl) (by kernel_rfl) .u32 (by kernel_rfl) (y := bitOf y) (w := w.drew) (a := ⟨b, off, none⟩) (x := x) (by simpa using hc) (by simpa using hz) hx
    have Hx := Lib.hid hx
    clear hx
    go_enter Try.func70, Try.ntmps70
    go_wp2_with fail
    go_region_held3 (fun _ => True) (exact True.intro) (first | (go_at_call 103; refine (b32_any _ _).mono ?_; rintro e w1 ⟨rfl, rfl⟩))
    go_wp2
    go_ret
    have hx := Hx.out
    exact ⟨by simp [hx], by rw [casNew, if_neg hx, setCell_self hc]⟩


/-- A NEW MARK: one block of one cell. -/
theorem newmark_any (v : Bool) (w : World) :
    Calls Try.prog 36 #[.bool v] w fun e w' => e = .returned (.pointer (some ⟨w.heap.size, 0, none⟩)) ∧ (w.alloc (.cells #[.int .u32 (bitOf v)] 84)).drew = w' := by
  have hc : (w.alloc (.cells #[.int .u32 0] 84)).cell? ⟨w.heap.size, 0, none⟩ = some (.int .u32 0) := cell_of_heap (heap_alloc_new w _) (by simp)
  have hf : (w.alloc (.cells #[.int .u32 0] 84)).frozen? ⟨w.heap.size, 0, none⟩ = false := frozen_of_heap (heap_alloc_new w _)
  go_enter Try.func36, Try.ntmps36
  go_wp2_with (go_at_call 68; refine (bool_store _ _ _ _ _ hc hf).mono ?_; rintro e w1 ⟨rfl, rfl⟩)
  go_ret
  exact ⟨rfl, rfl⟩

theorem mark_load (g : Value) (nb : Nat) (x : Int) (w : World) (R : World → Prop) (hp : Passes g 1 w R) (hR : ∀ w1, R w1 → w1.heap[nb]? = some (.cells #[.int .u32 x] 84 (0, 0))) :
    Calls Try.prog 37 #[.pointer (some ⟨nb, 0, none⟩), g] w fun e w' => e = .returned (.bool (x != 0)) ∧ R w' := by
  have HR := Lib.hid hR
  clear hR
  go_enter Try.func37, Try.ntmps37
  go_wp2_with fail
  refine hp.mono ?_
  rintro e w1 ⟨rfl, h1⟩
  have hb := HR.out w1 h1
  have hc := cell_of_heap hb (j := 0) rfl
  have H1 := Lib.hid h1
  clear h1
  go_wp2_with (go_at_call 69; refine (bool_load _ _ _ _ hc).mono ?_; rintro e w2 ⟨rfl, rfl⟩)
  go_ret
  exact ⟨rfl, H1.out⟩

theorem mark_store (g : Value) (nb : Nat) (x : Int) (d : Bool) (w : World) (R : World → Prop) (hp : Passes g 2 w R) (hR : ∀ w1, R w1 → w1.heap[nb]? = some (.cells #[.int .u32 x] 84 (0, 0))) :
    Calls Try.prog 75 #[.pointer (some ⟨nb, 0, none⟩), g, .bool d] w fun e w' => e = .returned (.tuple #[]) ∧ ∃ w1, R w1 ∧ (w1.setCell ⟨nb, 0, none⟩ (.int .u32 (bitOf d))).drew = w' := by
  have HR := Lib.hid hR
  clear hR
  go_enter Try.func75, Try.ntmps75
  go_wp2_with fail
  refine hp.mono ?_
  rintro e w1 ⟨rfl, h1⟩
  have hb := HR.out w1 h1
  have hc := cell_of_heap hb (j := 0) rfl
  have hf := frozen_of_heap hb (j := 0)
  have H1 := Lib.hid h1
  clear h1
  go_wp2_with (go_at_call 68; refine (bool_store _ _ _ _ _ hc hf).mono ?_; rintro e w2 ⟨rfl, rfl⟩)
  go_end0
  exact ⟨rfl, w1, H1.out, rfl⟩

theorem mark_swap (g : Value) (nb : Nat) (x : Int) (d : Bool) (w : World) (R : World → Prop) (hp : Passes g 4 w R) (hR : ∀ w1, R w1 → w1.heap[nb]? = some (.cells #[.int .u32 x] 84 (0, 0))) :
    Calls Try.prog 39 #[.pointer (some ⟨nb, 0, none⟩), g, .bool d] w fun e w' => e = .returned (.bool (x != 0)) ∧ ∃ w1, R w1 ∧ (w1.setCell ⟨nb, 0, none⟩ (.int .u32 (bitOf d))).drew = w' := by
  have HR := Lib.hid hR
  clear hR
  go_enter Try.func39, Try.ntmps39
  go_wp2_with fail
  refine hp.mono ?_
  rintro e w1 ⟨rfl, h1⟩
  have hb := HR.out w1 h1
  have hc := cell_of_heap hb (j := 0) rfl
  have hf := frozen_of_heap hb (j := 0)
  have H1 := Lib.hid h1
  clear h1
  go_wp2_with (go_at_call 71; refine (bool_swap _ _ _ _ _ hc hf).mono ?_; rintro e w2 ⟨rfl, rfl⟩)
  go_ret
  exact ⟨rfl, w1, H1.out, rfl⟩

theorem mark_cas (g : Value) (nb : Nat) (x : Int) (o d : Bool) (w : World) (R : World → Prop) (hp : Passes g 5 w R) (hR : ∀ w1, R w1 → w1.heap[nb]? = some (.cells #[.int .u32 x] 84 (0, 0))) :
    Calls Try.prog 38 #[.pointer (some ⟨nb, 0, none⟩), g, .bool o, .bool d] w fun e w' => e = .returned (.bool (x == bitOf o)) ∧ ∃ w1, R w1 ∧ (w1.setCell ⟨nb, 0, none⟩ (.int .u32 (casNew x (bitOf o) (bitOf d)))).drew = w' := by
  have HR := Lib.hid hR
  clear hR
  go_enter Try.func38, Try.ntmps38
  go_wp2_with fail
  refine hp.mono ?_
  rintro e w1 ⟨rfl, h1⟩
  have hb := HR.out w1 h1
  have hc := cell_of_heap hb (j := 0) rfl
  have hf := frozen_of_heap hb (j := 0)
  have H1 := Lib.hid h1
  clear h1
  go_wp2_with (go_at_call 70; refine (bool_cas _ _ _ _ _ _ hc hf).mono ?_; rintro e w2 ⟨rfl, rfl⟩)
  go_ret
  exact ⟨rfl, w1, H1.out, rfl⟩

end Go.Proofs.Ytjifoggfndicoaa
