/-
  DERIVED. THE WALKS over sync/atomic's Bool.
-/
import Derived.Test.YtfkhflknigemgaaGreatWDo
import Derived.Deep.RegionHeld3
namespace Go.Proofs.YtfkhflknigemgaaGreat
open Go.RowKit
set_option maxRecDepth 100000

theorem b32_any (v : Bool) (w : World) : Calls Tryz.prog 122 #[.bool v] w fun e w' => e = .returned (.int .u32 (bitW v)) ∧ w = w' := by
  cases v
  · go_enter Tryz.func122, Tryz.ntmps122
    go_wp2
    go_ret
    exact ⟨rfl, rfl⟩
  · go_enter Tryz.func122, Tryz.ntmps122
    go_wp2
    go_ret
    exact ⟨rfl, rfl⟩

theorem bool_load (b off : Nat) (x : Int) (w : World) (hc : w.cell? ⟨b, off, none⟩ = some (.int .u32 x)) :
    Calls Tryz.prog 119 #[.pointer (some ⟨b, off, none⟩)] w fun e w' => e = .returned (.bool (x != 0)) ∧ w = w' := by
  have h := run_call_load (P := Tryz.prog) Tryz.func83 (by kernel_rfl) (by kernel_rfl) (by kernel_rfl) .u32 (by kernel_rfl) hc
  go_enter Tryz.func119, Tryz.ntmps119
  go_wp2
  go_ret
  exact ⟨rfl, rfl⟩

theorem bool_store (b off : Nat) (x : Int) (y : Bool) (w : World) (hc : w.cell? ⟨b, off, none⟩ = some (.int .u32 x)) (hz : w.frozen? ⟨b, off, none⟩ = false) :
    Calls Tryz.prog 120 #[.pointer (some ⟨b, off, none⟩), .bool y] w fun e w' => e = .returned (.tuple #[]) ∧ (w.setCell ⟨b, off, none⟩ (.int .u32 (bitW y))).drew = w' := by
  have h := run_call_store (P := Tryz.prog) Tryz.func85 (by kernel_rfl) (by kernel_rfl) (by kernel_rfl) (by kernel_rfl) (k := .u32) (y := bitW y) (w := w.drew) (a := ⟨b, off, none⟩) (u := .int .u32 x) (by simpa using hc) (by simpa using hz)
  go_enter Tryz.func120, Tryz.ntmps120
  go_wp2_with fail
  go_region_held3 (fun _ => True) (exact True.intro) (first | (go_at_call 122; refine (b32_any _ _).mono ?_; rintro e w1 ⟨rfl, rfl⟩))
  go_wp2
  go_end0
  exact ⟨rfl, rfl⟩

theorem bool_swap (b off : Nat) (x : Int) (y : Bool) (w : World) (hc : w.cell? ⟨b, off, none⟩ = some (.int .u32 x)) (hz : w.frozen? ⟨b, off, none⟩ = false) :
    Calls Tryz.prog 121 #[.pointer (some ⟨b, off, none⟩), .bool y] w fun e w' => e = .returned (.bool (x != 0)) ∧ (w.setCell ⟨b, off, none⟩ (.int .u32 (bitW y))).drew = w' := by
  have h := run_call_swap (P := Tryz.prog) Tryz.func86 (by kernel_rfl) (by kernel_rfl) (by kernel_rfl) .u32 (by kernel_rfl) (x := x) (y := bitW y) (w := w.drew) (a := ⟨b, off, none⟩) (by simpa using hc) (by simpa using hz)
  go_enter Tryz.func121, Tryz.ntmps121
  go_wp2_with fail
  go_region_held3 (fun _ => True) (exact True.intro) (first | (go_at_call 122; refine (b32_any _ _).mono ?_; rintro e w1 ⟨rfl, rfl⟩))
  go_wp2
  go_ret
  exact ⟨rfl, rfl⟩

theorem bool_cas (b off : Nat) (x : Int) (o y : Bool) (w : World) (hc : w.cell? ⟨b, off, none⟩ = some (.int .u32 x)) (hz : w.frozen? ⟨b, off, none⟩ = false) :
    Calls Tryz.prog 118 #[.pointer (some ⟨b, off, none⟩), .bool o, .bool y] w fun e w' => e = .returned (.bool (x == bitW o)) ∧ (w.setCell ⟨b, off, none⟩ (.int .u32 (casNew x (bitW o) (bitW y)))).drew = w' := by
  by_cases hx : x = bitW o
  · have hc' : w.cell? ⟨b, off, none⟩ = some (.int .u32 (bitW o)) := by rw [hc, hx]
    have h := run_call_cas_hit (P := Tryz.prog) Tryz.func82 (by kernel_rfl) (by kernel_rfl) (by kernel_rfl) .u32 (by kernel_rfl) (y := bitW y) (w := w.drew) (a := ⟨b, off, none⟩) (x := bitW o) (by simpa using hc') (by simpa using hz)
    have Hx := Lib.hid hx
    clear hx hc hc'
    go_enter Tryz.func118, Tryz.ntmps118
    go_wp2_with fail
    go_region_held3 (fun _ => True) (exact True.intro) (first | (go_at_call 122; refine (b32_any _ _).mono ?_; rintro e w1 ⟨rfl, rfl⟩))
    go_wp2
    go_ret
    have hx := Hx.out
    exact ⟨by simp [hx], by rw [casNew, if_pos hx]⟩
  · have h := run_call_cas_miss (P := Tryz.prog) Tryz.func82 (by kernel_rfl) (by kernel_rfl) (by kernel_rfl) .u32 (by kernel_rfl) (y := bitW y) (w := w.drew) (a := ⟨b, off, none⟩) (x := x) (by simpa using hc) (by simpa using hz) hx
    have Hx := Lib.hid hx
    clear hx
    go_enter Tryz.func118, Tryz.ntmps118
    go_wp2_with fail
    go_region_held3 (fun _ => True) (exact True.intro) (first | (go_at_call 122; refine (b32_any _ _).mono ?_; rintro e w1 ⟨rfl, rfl⟩))
    go_wp2
    go_ret
    have hx := Hx.out
    exact ⟨by simp [hx], by rw [casNew, if_neg hx, setCell_self hc]⟩

end Go.Proofs.YtfkhflknigemgaaGreat
