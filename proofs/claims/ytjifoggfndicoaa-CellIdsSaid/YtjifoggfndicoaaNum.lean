/-
  DERIVED. THE WALKS over package cell's numbers: sync/atomic.Int64's methods, NewNum, the gate, the methods of a number.
-/
import Derived.Test.YtjifoggfndicoaaAtom
namespace Go.Proofs.Ytjifoggfndicoaa
open Go.RowKit

theorem i64_load (b off : Nat) (x : Int) (w : World) (hc : w.cell? ⟨b, off, none⟩ = some (.int .i64 x)) :
    Calls Try.prog 56 #[.pointer (some ⟨b, off, none⟩)] w fun e w' => e = .returned (.int .i64 x) ∧ w = w' := by
  have h := run_call_load (P := Try.prog) Try.func92 (by kernel_rfl) (by kernel_rfl) (by kernel_rfl) .i64 (by kernel_rfl) hc
  go_enter Try.func56, Try.ntmps56
  go_wp2
  go_ret
  exact ⟨rfl, rfl⟩

theorem i64_store (b off : Nat) (u : Value) (y : Int) (w : World) (hc : w.cell? ⟨b, off, none⟩ = some u) (hz : w.frozen? ⟨b, off, none⟩ = false) :
    Calls Try.prog 52 #[.pointer (some ⟨b, off, none⟩), .int .i64 y] w fun e w' => e = .returned (.tuple #[]) ∧ w.setCell ⟨b, off, none⟩ (.int .i64 y) = w' := by
  have h := run_call_store (P := Try.prog) Try.func91 (by kernel_rfl) (by kernel_rfl) (by kernel_rfl) (by kernel_rfl) (k := .i64) (y := y) hc hz
  go_enter Try.func52, Try.ntmps52
  go_wp2
  go_end0
  exact ⟨rfl, rfl⟩

theorem i64_add (b off : Nat) (x y : Int) (w : World) (hc : w.cell? ⟨b, off, none⟩ = some (.int .i64 x)) (hz : w.frozen? ⟨b, off, none⟩ = false) :
    Calls Try.prog 57 #[.pointer (some ⟨b, off, none⟩), .int .i64 y] w fun e w' => e = .returned (.int .i64 (wrap64 (x + y))) ∧ w.setCell ⟨b, off, none⟩ (.int .i64 (wrap64 (x + y))) = w' := by
  have h := run_call_add (P := Try.prog) Try.func93 (by kernel_rfl) (by kernel_rfl) (by kernel_rfl) .i64 (by kernel_rfl) (y := y) (s := wrap64 (x + y)) hc hz (by simp [go_sem, IntWalk.i64_left])
  go_enter Try.func57, Try.ntmps57
  go_wp2
  go_ret
  exact ⟨rfl, rfl⟩

theorem i64_swap (b off : Nat) (x y : Int) (w : World) (hc : w.cell? ⟨b, off, none⟩ = some (.int .i64 x)) (hz : w.frozen? ⟨b, off, none⟩ = false) :
    Calls Try.prog 58 #[.pointer (some ⟨b, off, none⟩), .int .i64 y] w fun e w' => e = .returned (.int .i64 x) ∧ w.setCell ⟨b, off, none⟩ (.int .i64 y) = w' := by
  have h := run_call_swap (P := Try.prog) Try.func94 (by kernel_rfl) (by kernel_rfl) (by kernel_rfl) .i64 (by kernel_rfl) (y := y) hc hz
  go_enter Try.func58, Try.ntmps58
  go_wp2
  go_ret
  exact ⟨rfl, rfl⟩

theorem i64_and (b off : Nat) (x y : Int) (w : World) (hc : w.cell? ⟨b, off, none⟩ = some (.int .i64 x)) (hz : w.frozen? ⟨b, off, none⟩ = false) :
    Calls Try.prog 61 #[.pointer (some ⟨b, off, none⟩), .int .i64 y] w fun e w' => e = .returned (.int .i64 x) ∧ w.setCell ⟨b, off, none⟩ (.int .i64 (Go.bits .and .i64 x y)) = w' := by
  have h := run_call_bits (P := Try.prog) Try.func97 (by kernel_rfl) (by kernel_rfl) (by kernel_rfl) .i64 .and (by kernel_rfl) (y := y) hc hz (intBits_and _ _ _ _)
  go_enter Try.func61, Try.ntmps61
  go_wp2
  go_ret
  exact ⟨rfl, rfl⟩

theorem i64_or (b off : Nat) (x y : Int) (w : World) (hc : w.cell? ⟨b, off, none⟩ = some (.int .i64 x)) (hz : w.frozen? ⟨b, off, none⟩ = false) :
    Calls Try.prog 60 #[.pointer (some ⟨b, off, none⟩), .int .i64 y] w fun e w' => e = .returned (.int .i64 x) ∧ w.setCell ⟨b, off, none⟩ (.int .i64 (Go.bits .or .i64 x y)) = w' := by
  have h := run_call_bits (P := Try.prog) Try.func96 (by kernel_rfl) (by kernel_rfl) (by kernel_rfl) .i64 .or (by kernel_rfl) (y := y) hc hz (intBits_or _ _ _ _)
  go_enter Try.func60, Try.ntmps60
  go_wp2
  go_ret
  exact ⟨rfl, rfl⟩

set_option maxRecDepth 100000 in
theorem i64_cas (b off : Nat) (x o y : Int) (w : World) (hc : w.cell? ⟨b, off, none⟩ = some (.int .i64 x)) (hz : w.frozen? ⟨b, off, none⟩ = false) :
    Calls Try.prog 59 #[.pointer (some ⟨b, off, none⟩), .int .i64 o, .int .i64 y] w fun e w' => e = .returned (.bool (x == o)) ∧ w.setCell ⟨b, off, none⟩ (.int .i64 (casNew x o y)) = w' := by
  by_cases hx : x = o
  · have hc' : w.cell? ⟨b, off, none⟩ = some (.int .i64 o) := by rw [hc, hx]
    have h := run_call_cas_hit (P := Try.prog) Try.func95 (by kernel_rfl) (by kernel_rfl) (by kernel_rfl) .i64 (by kernel_rfl) (y := y) hc' hz
    have Hx := Lib.hid hx
    clear hx hc hc'
    go_enter Try.func59, Try.ntmps59
    go_wp2
    go_ret
    have hx := Hx.out
    exact ⟨by first | rfl | simp [hx], by rw [casNew, if_pos hx]⟩
  · have h := run_call_cas_miss (P := Try.prog) Try.func95 (by kernel_rfl) (by kernel_rfl) (by kernel_rfl) .i64 (by kernel_rfl) (y := y) hc hz hx
    have Hx := Lib.hid hx
    clear hx
    go_enter Try.func59, Try.ntmps59
    go_wp2
    go_ret
    have hx := Hx.out
    exact ⟨by first | rfl | simp [hx], by rw [casNew, if_neg hx]; exact setCell_self hc⟩

end Go.Proofs.Ytjifoggfndicoaa
