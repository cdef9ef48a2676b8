/-
  DERIVED. THE WALKS over sync/atomic's Bool.
-/
import Derived.Test.YtnpelkohmnhodaaWDo
import Derived.Deep.RegionHeld3
namespace Go.Proofs.Ytnpelkohmnhodaa
open Go.RowKit
set_option maxRecDepth 100000

theorem b32_any (v : Bool) (w : World) : Calls Try.prog 182 #[.bool v] w fun e w' => e = .returned (.int .u32 (bitW v)) ∧ w = w' := by
  cases v
  · go_enter Try.func182, Try.ntmps182
    go_wp2
    go_ret
    exact ⟨rfl, rfl⟩
  · go_enter Try.func182, Try.ntmps182
    go_wp2
    go_ret
    exact ⟨rfl, rfl⟩

theorem bool_load (b off : Nat) (x : Int) (w : World) (hc : w.cell? ⟨b, off, none⟩ = some (.int .u32 x)) :
    Calls Try.prog 179 #[.pointer (some ⟨b, off, none⟩)] w fun e w' => e = .returned (.bool (x != 0)) ∧ w = w' := by
  have h := run_call_load (P := Try.prog) Try.func143 (by kernel_rfl) (by kernel_rfl) (by kernel_rfl) .u32 (by kernel_rfl) hc
  go_enter Try.func179, Try.ntmps179
  go_wp2
  go_ret
  exact ⟨rfl, rfl⟩

theorem bool_store (b off : Nat) (x : Int) (y : Bool) (w : World) (hc : w.cell? ⟨b, off, none⟩ = some (.int .u32 x)) (hz : w.frozen? ⟨b, off, none⟩ = false) :
    Calls Try.prog 180 #[.pointer (some ⟨b, off, none⟩), .bool y] w fun e w' => e = .returned (.tuple #[]) ∧ (w.setCell ⟨b, off, none⟩ (.int .u32 (bitW y))).drew = w' := by
  have h := run_call_store (P := Try.prog) Try.func145 (by kernel_rfl) (by kernel_rfl) (by kernel_rfl) (by kernel_rfl) (k := .u32) (y := bitW y) (w := w.drew) (a := ⟨b, off, none⟩) (u := .int .u32 x) (by simpa using hc) (by simpa using hz)
  go_enter Try.func180, Try.ntmps180
  go_wp2_with fail
  go_region_held3 (fun _ => True) (exact True.intro) (first | (go_at_call 182; refine (b32_any _ _).mono ?_; rintro e w1 ⟨rfl, rfl⟩))
  go_wp2
  go_end0
  exact ⟨rfl, rfl⟩

theorem bool_swap (b off : Nat) (x : Int) (y : Bool) (w : World) (hc : w.cell? ⟨b, off, none⟩ = some (.int .u32 x)) (hz : w.frozen? ⟨b, off, none⟩ = false) :
    Calls Try.prog 181 #[.pointer (some ⟨b, off, none⟩), .bool y] w fun e w' => e = .returned (.bool (x != 0)) ∧ (w.setCell ⟨b, off, none⟩ (.int .u32 (bitW y))).drew = w' := by
  have h := run_call_swap (P := Try.prog) Try.func146 (by kernel_rfl) (by kernel_rfl) (by kernel_rfl) .u32 (by kernel_rfl) (x := x) (y := bitW y) (w := w.drew) (a := ⟨b, off, none⟩) (by simpa using hc) (by simpa using hz)
  go_enter Try.func181, Try.ntmps181
  go_wp2_with fail
  go_region_held3 (fun _ => True) (exact True.intro) (first | (go_at_call 182; refine (b32_any _ _).mono ?_; rintro e w1 ⟨rfl, rfl⟩))
  go_wp2
  go_ret
  exact ⟨rfl, rfl⟩

theorem bool_cas (b off : Nat) (x : Int) (o y : Bool) (w : World) (hc : w.cell? ⟨b, off, none⟩ = some (.int .u32 x)) (hz : w.frozen? ⟨b, off, none⟩ = false) :
    Calls Try.prog 178 #[.pointer (some ⟨b, off, none⟩), .bool o, .bool y] w fun e w' => e = .returned (.bool (x == bitW o)) ∧ (w.setCell ⟨b, off, none⟩ (.int .u32 (casNew x (bitW o) (bitW y)))).drew = w' := by
  by_cases hx : x = bitW o
  · have hc' : w.cell? ⟨b, off, none⟩ = some (.int .u32 (bitW o)) := by rw [hc, hx]
    have h := run_call_cas_hit (P := Try.prog) Try.func142 (by kernel_rfl) (by kernel_rfl) (by kernel_rfl) .u32 (by kernel_rfl) (y := bitW y) (w := w.drew) (a := ⟨b, off, none⟩) (x := bitW o) (by simpa using hc') (by simpa using hz)
    have Hx := Lib.hid hx
    clear hx hc hc'
    go_enter Try.func178, Try.ntmps178
    go_wp2_with fail
    go_region_held3 (fun _ => True) (exact True.intro) (first | (go_at_call 182; refine (b32_any _ _).mono ?_; rintro e w1 ⟨rfl, rfl⟩))
    go_wp2
    go_ret
    have hx := Hx.out
    exact ⟨by simp [hx], by rw [casNew, if_pos hx]⟩
  · have h := run_call_cas_miss (P := Try.prog) Try.func142 (by kernel_rfl) (by kernel_rfl) (by kernel_rfl) .u32 (by kernel_rfl) (y := bitW y) (w := w.drew) (a := ⟨b, off, none⟩) (x := x) (by simpa using hc) (by simpa using hz) hx
    have Hx := Lib.hid hx
    clear hx
    go_enter Try.func178, Try.ntmps178
    go_wp2_with fail
    go_region_held3 (fun _ => True) (exact True.intro) (first | (go_at_call 182; refine (b32_any _ _).mono ?_; rintro e w1 ⟨rfl, rfl⟩))
    go_wp2
    go_ret
    have hx := Hx.out
    exact ⟨by simp [hx], by rw [casNew, if_neg hx, setCell_self hc]⟩

end Go.Proofs.Ytnpelkohmnhodaa
