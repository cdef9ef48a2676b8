/-
  DERIVED. THE WALKS over sync/atomic's numbers: the methods of Int32, Int64, Uint32, Uint64, Uintptr.
-/
import Derived.Test.YtfkhflknigemgaaAtom
namespace Go.Proofs.Ytfkhflknigemgaa
open Go.RowKit
set_option maxRecDepth 100000

/-- the sum, as Go's own '+' of that kind gives it. -/
def addK (k : IntKind) (x y : Int) : Int := k.wrap (x + y)
theorem run_addK {P : Program} (k : IntKind) (x y : Int) (w : World) : (Op.intArith .add k x y).run P w = .ok (.int k (addK k x y)) w := rfl
/-- '&', '|' of that kind. -/
def andK (k : IntKind) (x y : Int) : Int := Go.bits .and k x y
def orK (k : IntKind) (x y : Int) : Int := Go.bits .or k x y
theorem run_andK {P : Program} (k : IntKind) (x y : Int) (w : World) : (Op.intBits .and k x y).run P w = .ok (.int k (andK k x y)) w := rfl
theorem run_orK {P : Program} (k : IntKind) (x y : Int) (w : World) : (Op.intBits .or k x y).run P w = .ok (.int k (orK k x y)) w := rfl

theorem i32_load (b off : Nat) (x : Int) (w : World) (hc : w.cell? ⟨b, off, none⟩ = some (.int .i32 x)) :
    Calls Try.prog 32 #[.pointer (some ⟨b, off, none⟩)] w fun e w' => e = .returned (.int .i32 x) ∧ w = w' := by
  have h := run_call_load (P := Try.prog) Try.func35 (by kernel_rfl) (by kernel_rfl) (by kernel_rfl) .i32 (by kernel_rfl) hc
  go_enter Try.func32, Try.ntmps32
  go_wp2
  go_ret
  exact ⟨rfl, rfl⟩

theorem i32_store (b off : Nat) (x y : Int) (w : World) (hc : w.cell? ⟨b, off, none⟩ = some (.int .i32 x)) (hz : w.frozen? ⟨b, off, none⟩ = false) :
    Calls Try.prog 108 #[.pointer (some ⟨b, off, none⟩), .int .i32 y] w fun e w' => e = .returned (.tuple #[]) ∧ w.setCell ⟨b, off, none⟩ (.int .i32 y) = w' := by
  have h := run_call_store (P := Try.prog) Try.func114 (by kernel_rfl) (by kernel_rfl) (by kernel_rfl) (by kernel_rfl) (k := .i32) (y := y) hc hz
  go_enter Try.func108, Try.ntmps108
  go_wp2
  go_end0
  exact ⟨rfl, rfl⟩

theorem i32_add (b off : Nat) (x y : Int) (w : World) (hc : w.cell? ⟨b, off, none⟩ = some (.int .i32 x)) (hz : w.frozen? ⟨b, off, none⟩ = false) :
    Calls Try.prog 104 #[.pointer (some ⟨b, off, none⟩), .int .i32 y] w fun e w' => e = .returned (.int .i32 (addK .i32 x y)) ∧ w.setCell ⟨b, off, none⟩ (.int .i32 (addK .i32 x y)) = w' := by
  have h := run_call_add (P := Try.prog) Try.func110 (by kernel_rfl) (by kernel_rfl) (by kernel_rfl) .i32 (by kernel_rfl) (y := y) hc hz (run_addK _ _ _ _)
  go_enter Try.func104, Try.ntmps104
  go_wp2
  go_ret
  exact ⟨rfl, rfl⟩

theorem i32_swap (b off : Nat) (x y : Int) (w : World) (hc : w.cell? ⟨b, off, none⟩ = some (.int .i32 x)) (hz : w.frozen? ⟨b, off, none⟩ = false) :
    Calls Try.prog 109 #[.pointer (some ⟨b, off, none⟩), .int .i32 y] w fun e w' => e = .returned (.int .i32 x) ∧ w.setCell ⟨b, off, none⟩ (.int .i32 y) = w' := by
  have h := run_call_swap (P := Try.prog) Try.func115 (by kernel_rfl) (by kernel_rfl) (by kernel_rfl) .i32 (by kernel_rfl) (y := y) hc hz
  go_enter Try.func109, Try.ntmps109
  go_wp2
  go_ret
  exact ⟨rfl, rfl⟩

theorem i32_and (b off : Nat) (x y : Int) (w : World) (hc : w.cell? ⟨b, off, none⟩ = some (.int .i32 x)) (hz : w.frozen? ⟨b, off, none⟩ = false) :
    Calls Try.prog 105 #[.pointer (some ⟨b, off, none⟩), .int .i32 y] w fun e w' => e = .returned (.int .i32 x) ∧ w.setCell ⟨b, off, none⟩ (.int .i32 (andK .i32 x y)) = w' := by
  have h := run_call_bits (P := Try.prog) Try.func111 (by kernel_rfl) (by kernel_rfl) (by kernel_rfl) .i32 .and (by kernel_rfl) (y := y) hc hz (run_andK _ _ _ _)
  go_enter Try.func105, Try.ntmps105
  go_wp2
  go_ret
  exact ⟨rfl, rfl⟩

theorem i32_or (b off : Nat) (x y : Int) (w : World) (hc : w.cell? ⟨b, off, none⟩ = some (.int .i32 x)) (hz : w.frozen? ⟨b, off, none⟩ = false) :
    Calls Try.prog 107 #[.pointer (some ⟨b, off, none⟩), .int .i32 y] w fun e w' => e = .returned (.int .i32 x) ∧ w.setCell ⟨b, off, none⟩ (.int .i32 (orK .i32 x y)) = w' := by
  have h := run_call_bits (P := Try.prog) Try.func113 (by kernel_rfl) (by kernel_rfl) (by kernel_rfl) .i32 .or (by kernel_rfl) (y := y) hc hz (run_orK _ _ _ _)
  go_enter Try.func107, Try.ntmps107
  go_wp2
  go_ret
  exact ⟨rfl, rfl⟩

theorem i32_cas (b off : Nat) (x o y : Int) (w : World) (hc : w.cell? ⟨b, off, none⟩ = some (.int .i32 x)) (hz : w.frozen? ⟨b, off, none⟩ = false) :
    Calls Try.prog 106 #[.pointer (some ⟨b, off, none⟩), .int .i32 o, .int .i32 y] w fun e w' => e = .returned (.bool (x == o)) ∧ w.setCell ⟨b, off, none⟩ (.int .i32 (casNew x o y)) = w' := by
  by_cases hx : x = o
  · have hc' : w.cell? ⟨b, off, none⟩ = some (.int .i32 o) := by rw [hc, hx]
    have h := run_call_cas_hit (P := Try.prog) Try.func112 (by kernel_rfl) (by kernel_rfl) (by kernel_rfl) .i32 (by kernel_rfl) (y := y) hc' hz
    have Hx := Lib.hid hx
    clear hx hc hc'
    go_enter Try.func106, Try.ntmps106
    go_wp2
    go_ret
    have hx := Hx.out
    exact ⟨by first | rfl | simp [hx], by rw [casNew, if_pos hx]⟩
  · have h := run_call_cas_miss (P := Try.prog) Try.func112 (by kernel_rfl) (by kernel_rfl) (by kernel_rfl) .i32 (by kernel_rfl) (y := y) hc hz hx
    have Hx := Lib.hid hx
    clear hx
    go_enter Try.func106, Try.ntmps106
    go_wp2
    go_ret
    have hx := Hx.out
    exact ⟨by first | rfl | simp [hx], by rw [casNew, if_neg hx]; exact setCell_self hc⟩

theorem i64_load (b off : Nat) (x : Int) (w : World) (hc : w.cell? ⟨b, off, none⟩ = some (.int .i64 x)) :
    Calls Try.prog 40 #[.pointer (some ⟨b, off, none⟩)] w fun e w' => e = .returned (.int .i64 x) ∧ w = w' := by
  have h := run_call_load (P := Try.prog) Try.func47 (by kernel_rfl) (by kernel_rfl) (by kernel_rfl) .i64 (by kernel_rfl) hc
  go_enter Try.func40, Try.ntmps40
  go_wp2
  go_ret
  exact ⟨rfl, rfl⟩

theorem i64_store (b off : Nat) (x y : Int) (w : World) (hc : w.cell? ⟨b, off, none⟩ = some (.int .i64 x)) (hz : w.frozen? ⟨b, off, none⟩ = false) :
    Calls Try.prog 42 #[.pointer (some ⟨b, off, none⟩), .int .i64 y] w fun e w' => e = .returned (.tuple #[]) ∧ w.setCell ⟨b, off, none⟩ (.int .i64 y) = w' := by
  have h := run_call_store (P := Try.prog) Try.func49 (by kernel_rfl) (by kernel_rfl) (by kernel_rfl) (by kernel_rfl) (k := .i64) (y := y) hc hz
  go_enter Try.func42, Try.ntmps42
  go_wp2
  go_end0
  exact ⟨rfl, rfl⟩

theorem i64_add (b off : Nat) (x y : Int) (w : World) (hc : w.cell? ⟨b, off, none⟩ = some (.int .i64 x)) (hz : w.frozen? ⟨b, off, none⟩ = false) :
    Calls Try.prog 37 #[.pointer (some ⟨b, off, none⟩), .int .i64 y] w fun e w' => e = .returned (.int .i64 (addK .i64 x y)) ∧ w.setCell ⟨b, off, none⟩ (.int .i64 (addK .i64 x y)) = w' := by
  have h := run_call_add (P := Try.prog) Try.func44 (by kernel_rfl) (by kernel_rfl) (by kernel_rfl) .i64 (by kernel_rfl) (y := y) hc hz (run_addK _ _ _ _)
  go_enter Try.func37, Try.ntmps37
  go_wp2
  go_ret
  exact ⟨rfl, rfl⟩

theorem i64_swap (b off : Nat) (x y : Int) (w : World) (hc : w.cell? ⟨b, off, none⟩ = some (.int .i64 x)) (hz : w.frozen? ⟨b, off, none⟩ = false) :
    Calls Try.prog 43 #[.pointer (some ⟨b, off, none⟩), .int .i64 y] w fun e w' => e = .returned (.int .i64 x) ∧ w.setCell ⟨b, off, none⟩ (.int .i64 y) = w' := by
  have h := run_call_swap (P := Try.prog) Try.func50 (by kernel_rfl) (by kernel_rfl) (by kernel_rfl) .i64 (by kernel_rfl) (y := y) hc hz
  go_enter Try.func43, Try.ntmps43
  go_wp2
  go_ret
  exact ⟨rfl, rfl⟩

theorem i64_and (b off : Nat) (x y : Int) (w : World) (hc : w.cell? ⟨b, off, none⟩ = some (.int .i64 x)) (hz : w.frozen? ⟨b, off, none⟩ = false) :
    Calls Try.prog 38 #[.pointer (some ⟨b, off, none⟩), .int .i64 y] w fun e w' => e = .returned (.int .i64 x) ∧ w.setCell ⟨b, off, none⟩ (.int .i64 (andK .i64 x y)) = w' := by
  have h := run_call_bits (P := Try.prog) Try.func45 (by kernel_rfl) (by kernel_rfl) (by kernel_rfl) .i64 .and (by kernel_rfl) (y := y) hc hz (run_andK _ _ _ _)
  go_enter Try.func38, Try.ntmps38
  go_wp2
  go_ret
  exact ⟨rfl, rfl⟩

theorem i64_or (b off : Nat) (x y : Int) (w : World) (hc : w.cell? ⟨b, off, none⟩ = some (.int .i64 x)) (hz : w.frozen? ⟨b, off, none⟩ = false) :
    Calls Try.prog 41 #[.pointer (some ⟨b, off, none⟩), .int .i64 y] w fun e w' => e = .returned (.int .i64 x) ∧ w.setCell ⟨b, off, none⟩ (.int .i64 (orK .i64 x y)) = w' := by
  have h := run_call_bits (P := Try.prog) Try.func48 (by kernel_rfl) (by kernel_rfl) (by kernel_rfl) .i64 .or (by kernel_rfl) (y := y) hc hz (run_orK _ _ _ _)
  go_enter Try.func41, Try.ntmps41
  go_wp2
  go_ret
  exact ⟨rfl, rfl⟩

theorem i64_cas (b off : Nat) (x o y : Int) (w : World) (hc : w.cell? ⟨b, off, none⟩ = some (.int .i64 x)) (hz : w.frozen? ⟨b, off, none⟩ = false) :
    Calls Try.prog 39 #[.pointer (some ⟨b, off, none⟩), .int .i64 o, .int .i64 y] w fun e w' => e = .returned (.bool (x == o)) ∧ w.setCell ⟨b, off, none⟩ (.int .i64 (casNew x o y)) = w' := by
  by_cases hx : x = o
  · have hc' : w.cell? ⟨b, off, none⟩ = some (.int .i64 o) := by rw [hc, hx]
    have h := run_call_cas_hit (P := Try.prog) Try.func46 (by kernel_rfl) (by kernel_rfl) (by kernel_rfl) .i64 (by kernel_rfl) (y := y) hc' hz
    have Hx := Lib.hid hx
    clear hx hc hc'
    go_enter Try.func39, Try.ntmps39
    go_wp2
    go_ret
    have hx := Hx.out
    exact ⟨by first | rfl | simp [hx], by rw [casNew, if_pos hx]⟩
  · have h := run_call_cas_miss (P := Try.prog) Try.func46 (by kernel_rfl) (by kernel_rfl) (by kernel_rfl) .i64 (by kernel_rfl) (y := y) hc hz hx
    have Hx := Lib.hid hx
    clear hx
    go_enter Try.func39, Try.ntmps39
    go_wp2
    go_ret
    have hx := Hx.out
    exact ⟨by first | rfl | simp [hx], by rw [casNew, if_neg hx]; exact setCell_self hc⟩

theorem u32_load (b off : Nat) (x : Int) (w : World) (hc : w.cell? ⟨b, off, none⟩ = some (.int .u32 x)) :
    Calls Try.prog 55 #[.pointer (some ⟨b, off, none⟩)] w fun e w' => e = .returned (.int .u32 x) ∧ w = w' := by
  have h := run_call_load (P := Try.prog) Try.func62 (by kernel_rfl) (by kernel_rfl) (by kernel_rfl) .u32 (by kernel_rfl) hc
  go_enter Try.func55, Try.ntmps55
  go_wp2
  go_ret
  exact ⟨rfl, rfl⟩

theorem u32_store (b off : Nat) (x y : Int) (w : World) (hc : w.cell? ⟨b, off, none⟩ = some (.int .u32 x)) (hz : w.frozen? ⟨b, off, none⟩ = false) :
    Calls Try.prog 57 #[.pointer (some ⟨b, off, none⟩), .int .u32 y] w fun e w' => e = .returned (.tuple #[]) ∧ w.setCell ⟨b, off, none⟩ (.int .u32 y) = w' := by
  have h := run_call_store (P := Try.prog) Try.func64 (by kernel_rfl) (by kernel_rfl) (by kernel_rfl) (by kernel_rfl) (k := .u32) (y := y) hc hz
  go_enter Try.func57, Try.ntmps57
  go_wp2
  go_end0
  exact ⟨rfl, rfl⟩

theorem u32_add (b off : Nat) (x y : Int) (w : World) (hc : w.cell? ⟨b, off, none⟩ = some (.int .u32 x)) (hz : w.frozen? ⟨b, off, none⟩ = false) :
    Calls Try.prog 52 #[.pointer (some ⟨b, off, none⟩), .int .u32 y] w fun e w' => e = .returned (.int .u32 (addK .u32 x y)) ∧ w.setCell ⟨b, off, none⟩ (.int .u32 (addK .u32 x y)) = w' := by
  have h := run_call_add (P := Try.prog) Try.func59 (by kernel_rfl) (by kernel_rfl) (by kernel_rfl) .u32 (by kernel_rfl) (y := y) hc hz (run_addK _ _ _ _)
  go_enter Try.func52, Try.ntmps52
  go_wp2
  go_ret
  exact ⟨rfl, rfl⟩

theorem u32_swap (b off : Nat) (x y : Int) (w : World) (hc : w.cell? ⟨b, off, none⟩ = some (.int .u32 x)) (hz : w.frozen? ⟨b, off, none⟩ = false) :
    Calls Try.prog 58 #[.pointer (some ⟨b, off, none⟩), .int .u32 y] w fun e w' => e = .returned (.int .u32 x) ∧ w.setCell ⟨b, off, none⟩ (.int .u32 y) = w' := by
  have h := run_call_swap (P := Try.prog) Try.func65 (by kernel_rfl) (by kernel_rfl) (by kernel_rfl) .u32 (by kernel_rfl) (y := y) hc hz
  go_enter Try.func58, Try.ntmps58
  go_wp2
  go_ret
  exact ⟨rfl, rfl⟩

theorem u32_and (b off : Nat) (x y : Int) (w : World) (hc : w.cell? ⟨b, off, none⟩ = some (.int .u32 x)) (hz : w.frozen? ⟨b, off, none⟩ = false) :
    Calls Try.prog 53 #[.pointer (some ⟨b, off, none⟩), .int .u32 y] w fun e w' => e = .returned (.int .u32 x) ∧ w.setCell ⟨b, off, none⟩ (.int .u32 (andK .u32 x y)) = w' := by
  have h := run_call_bits (P := Try.prog) Try.func60 (by kernel_rfl) (by kernel_rfl) (by kernel_rfl) .u32 .and (by kernel_rfl) (y := y) hc hz (run_andK _ _ _ _)
  go_enter Try.func53, Try.ntmps53
  go_wp2
  go_ret
  exact ⟨rfl, rfl⟩

theorem u32_or (b off : Nat) (x y : Int) (w : World) (hc : w.cell? ⟨b, off, none⟩ = some (.int .u32 x)) (hz : w.frozen? ⟨b, off, none⟩ = false) :
    Calls Try.prog 56 #[.pointer (some ⟨b, off, none⟩), .int .u32 y] w fun e w' => e = .returned (.int .u32 x) ∧ w.setCell ⟨b, off, none⟩ (.int .u32 (orK .u32 x y)) = w' := by
  have h := run_call_bits (P := Try.prog) Try.func63 (by kernel_rfl) (by kernel_rfl) (by kernel_rfl) .u32 .or (by kernel_rfl) (y := y) hc hz (run_orK _ _ _ _)
  go_enter Try.func56, Try.ntmps56
  go_wp2
  go_ret
  exact ⟨rfl, rfl⟩

theorem u32_cas (b off : Nat) (x o y : Int) (w : World) (hc : w.cell? ⟨b, off, none⟩ = some (.int .u32 x)) (hz : w.frozen? ⟨b, off, none⟩ = false) :
    Calls Try.prog 54 #[.pointer (some ⟨b, off, none⟩), .int .u32 o, .int .u32 y] w fun e w' => e = .returned (.bool (x == o)) ∧ w.setCell ⟨b, off, none⟩ (.int .u32 (casNew x o y)) = w' := by
  by_cases hx : x = o
  · have hc' : w.cell? ⟨b, off, none⟩ = some (.int .u32 o) := by rw [hc, hx]
    have h := run_call_cas_hit (P := Try.prog) Try.func61 (by kernel_rfl) (by kernel_rfl) (by kernel_rfl) .u32 (by kernel_rfl) (y := y) hc' hz
    have Hx := Lib.hid hx
    clear hx hc hc'
    go_enter Try.func54, Try.ntmps54
    go_wp2
    go_ret
    have hx := Hx.out
    exact ⟨by first | rfl | simp [hx], by rw [casNew, if_pos hx]⟩
  · have h := run_call_cas_miss (P := Try.prog) Try.func61 (by kernel_rfl) (by kernel_rfl) (by kernel_rfl) .u32 (by kernel_rfl) (y := y) hc hz hx
    have Hx := Lib.hid hx
    clear hx
    go_enter Try.func54, Try.ntmps54
    go_wp2
    go_ret
    have hx := Hx.out
    exact ⟨by first | rfl | simp [hx], by rw [casNew, if_neg hx]; exact setCell_self hc⟩

theorem u64_load (b off : Nat) (x : Int) (w : World) (hc : w.cell? ⟨b, off, none⟩ = some (.int .u64 x)) :
    Calls Try.prog 70 #[.pointer (some ⟨b, off, none⟩)] w fun e w' => e = .returned (.int .u64 x) ∧ w = w' := by
  have h := run_call_load (P := Try.prog) Try.func77 (by kernel_rfl) (by kernel_rfl) (by kernel_rfl) .u64 (by kernel_rfl) hc
  go_enter Try.func70, Try.ntmps70
  go_wp2
  go_ret
  exact ⟨rfl, rfl⟩

theorem u64_store (b off : Nat) (x y : Int) (w : World) (hc : w.cell? ⟨b, off, none⟩ = some (.int .u64 x)) (hz : w.frozen? ⟨b, off, none⟩ = false) :
    Calls Try.prog 72 #[.pointer (some ⟨b, off, none⟩), .int .u64 y] w fun e w' => e = .returned (.tuple #[]) ∧ w.setCell ⟨b, off, none⟩ (.int .u64 y) = w' := by
  have h := run_call_store (P := Try.prog) Try.func79 (by kernel_rfl) (by kernel_rfl) (by kernel_rfl) (by kernel_rfl) (k := .u64) (y := y) hc hz
  go_enter Try.func72, Try.ntmps72
  go_wp2
  go_end0
  exact ⟨rfl, rfl⟩

theorem u64_add (b off : Nat) (x y : Int) (w : World) (hc : w.cell? ⟨b, off, none⟩ = some (.int .u64 x)) (hz : w.frozen? ⟨b, off, none⟩ = false) :
    Calls Try.prog 67 #[.pointer (some ⟨b, off, none⟩), .int .u64 y] w fun e w' => e = .returned (.int .u64 (addK .u64 x y)) ∧ w.setCell ⟨b, off, none⟩ (.int .u64 (addK .u64 x y)) = w' := by
  have h := run_call_add (P := Try.prog) Try.func74 (by kernel_rfl) (by kernel_rfl) (by kernel_rfl) .u64 (by kernel_rfl) (y := y) hc hz (run_addK _ _ _ _)
  go_enter Try.func67, Try.ntmps67
  go_wp2
  go_ret
  exact ⟨rfl, rfl⟩

theorem u64_swap (b off : Nat) (x y : Int) (w : World) (hc : w.cell? ⟨b, off, none⟩ = some (.int .u64 x)) (hz : w.frozen? ⟨b, off, none⟩ = false) :
    Calls Try.prog 73 #[.pointer (some ⟨b, off, none⟩), .int .u64 y] w fun e w' => e = .returned (.int .u64 x) ∧ w.setCell ⟨b, off, none⟩ (.int .u64 y) = w' := by
  have h := run_call_swap (P := Try.prog) Try.func80 (by kernel_rfl) (by kernel_rfl) (by kernel_rfl) .u64 (by kernel_rfl) (y := y) hc hz
  go_enter Try.func73, Try.ntmps73
  go_wp2
  go_ret
  exact ⟨rfl, rfl⟩

theorem u64_and (b off : Nat) (x y : Int) (w : World) (hc : w.cell? ⟨b, off, none⟩ = some (.int .u64 x)) (hz : w.frozen? ⟨b, off, none⟩ = false) :
    Calls Try.prog 68 #[.pointer (some ⟨b, off, none⟩), .int .u64 y] w fun e w' => e = .returned (.int .u64 x) ∧ w.setCell ⟨b, off, none⟩ (.int .u64 (andK .u64 x y)) = w' := by
  have h := run_call_bits (P := Try.prog) Try.func75 (by kernel_rfl) (by kernel_rfl) (by kernel_rfl) .u64 .and (by kernel_rfl) (y := y) hc hz (run_andK _ _ _ _)
  go_enter Try.func68, Try.ntmps68
  go_wp2
  go_ret
  exact ⟨rfl, rfl⟩

theorem u64_or (b off : Nat) (x y : Int) (w : World) (hc : w.cell? ⟨b, off, none⟩ = some (.int .u64 x)) (hz : w.frozen? ⟨b, off, none⟩ = false) :
    Calls Try.prog 71 #[.pointer (some ⟨b, off, none⟩), .int .u64 y] w fun e w' => e = .returned (.int .u64 x) ∧ w.setCell ⟨b, off, none⟩ (.int .u64 (orK .u64 x y)) = w' := by
  have h := run_call_bits (P := Try.prog) Try.func78 (by kernel_rfl) (by kernel_rfl) (by kernel_rfl) .u64 .or (by kernel_rfl) (y := y) hc hz (run_orK _ _ _ _)
  go_enter Try.func71, Try.ntmps71
  go_wp2
  go_ret
  exact ⟨rfl, rfl⟩

theorem u64_cas (b off : Nat) (x o y : Int) (w : World) (hc : w.cell? ⟨b, off, none⟩ = some (.int .u64 x)) (hz : w.frozen? ⟨b, off, none⟩ = false) :
    Calls Try.prog 69 #[.pointer (some ⟨b, off, none⟩), .int .u64 o, .int .u64 y] w fun e w' => e = .returned (.bool (x == o)) ∧ w.setCell ⟨b, off, none⟩ (.int .u64 (casNew x o y)) = w' := by
  by_cases hx : x = o
  · have hc' : w.cell? ⟨b, off, none⟩ = some (.int .u64 o) := by rw [hc, hx]
    have h := run_call_cas_hit (P := Try.prog) Try.func76 (by kernel_rfl) (by kernel_rfl) (by kernel_rfl) .u64 (by kernel_rfl) (y := y) hc' hz
    have Hx := Lib.hid hx
    clear hx hc hc'
    go_enter Try.func69, Try.ntmps69
    go_wp2
    go_ret
    have hx := Hx.out
    exact ⟨by first | rfl | simp [hx], by rw [casNew, if_pos hx]⟩
  · have h := run_call_cas_miss (P := Try.prog) Try.func76 (by kernel_rfl) (by kernel_rfl) (by kernel_rfl) .u64 (by kernel_rfl) (y := y) hc hz hx
    have Hx := Lib.hid hx
    clear hx
    go_enter Try.func69, Try.ntmps69
    go_wp2
    go_ret
    have hx := Hx.out
    exact ⟨by first | rfl | simp [hx], by rw [casNew, if_neg hx]; exact setCell_self hc⟩

theorem up_load (b off : Nat) (x : Int) (w : World) (hc : w.cell? ⟨b, off, none⟩ = some (.int .u64 x)) :
    Calls Try.prog 85 #[.pointer (some ⟨b, off, none⟩)] w fun e w' => e = .returned (.int .u64 x) ∧ w = w' := by
  have h := run_call_load (P := Try.prog) Try.func92 (by kernel_rfl) (by kernel_rfl) (by kernel_rfl) .u64 (by kernel_rfl) hc
  go_enter Try.func85, Try.ntmps85
  go_wp2
  go_ret
  exact ⟨rfl, rfl⟩

theorem up_store (b off : Nat) (x y : Int) (w : World) (hc : w.cell? ⟨b, off, none⟩ = some (.int .u64 x)) (hz : w.frozen? ⟨b, off, none⟩ = false) :
    Calls Try.prog 87 #[.pointer (some ⟨b, off, none⟩), .int .u64 y] w fun e w' => e = .returned (.tuple #[]) ∧ w.setCell ⟨b, off, none⟩ (.int .u64 y) = w' := by
  have h := run_call_store (P := Try.prog) Try.func94 (by kernel_rfl) (by kernel_rfl) (by kernel_rfl) (by kernel_rfl) (k := .u64) (y := y) hc hz
  go_enter Try.func87, Try.ntmps87
  go_wp2
  go_end0
  exact ⟨rfl, rfl⟩

theorem up_add (b off : Nat) (x y : Int) (w : World) (hc : w.cell? ⟨b, off, none⟩ = some (.int .u64 x)) (hz : w.frozen? ⟨b, off, none⟩ = false) :
    Calls Try.prog 82 #[.pointer (some ⟨b, off, none⟩), .int .u64 y] w fun e w' => e = .returned (.int .u64 (addK .u64 x y)) ∧ w.setCell ⟨b, off, none⟩ (.int .u64 (addK .u64 x y)) = w' := by
  have h := run_call_add (P := Try.prog) Try.func89 (by kernel_rfl) (by kernel_rfl) (by kernel_rfl) .u64 (by kernel_rfl) (y := y) hc hz (run_addK _ _ _ _)
  go_enter Try.func82, Try.ntmps82
  go_wp2
  go_ret
  exact ⟨rfl, rfl⟩

theorem up_swap (b off : Nat) (x y : Int) (w : World) (hc : w.cell? ⟨b, off, none⟩ = some (.int .u64 x)) (hz : w.frozen? ⟨b, off, none⟩ = false) :
    Calls Try.prog 88 #[.pointer (some ⟨b, off, none⟩), .int .u64 y] w fun e w' => e = .returned (.int .u64 x) ∧ w.setCell ⟨b, off, none⟩ (.int .u64 y) = w' := by
  have h := run_call_swap (P := Try.prog) Try.func95 (by kernel_rfl) (by kernel_rfl) (by kernel_rfl) .u64 (by kernel_rfl) (y := y) hc hz
  go_enter Try.func88, Try.ntmps88
  go_wp2
  go_ret
  exact ⟨rfl, rfl⟩

theorem up_and (b off : Nat) (x y : Int) (w : World) (hc : w.cell? ⟨b, off, none⟩ = some (.int .u64 x)) (hz : w.frozen? ⟨b, off, none⟩ = false) :
    Calls Try.prog 83 #[.pointer (some ⟨b, off, none⟩), .int .u64 y] w fun e w' => e = .returned (.int .u64 x) ∧ w.setCell ⟨b, off, none⟩ (.int .u64 (andK .u64 x y)) = w' := by
  have h := run_call_bits (P := Try.prog) Try.func90 (by kernel_rfl) (by kernel_rfl) (by kernel_rfl) .u64 .and (by kernel_rfl) (y := y) hc hz (run_andK _ _ _ _)
  go_enter Try.func83, Try.ntmps83
  go_wp2
  go_ret
  exact ⟨rfl, rfl⟩

theorem up_or (b off : Nat) (x y : Int) (w : World) (hc : w.cell? ⟨b, off, none⟩ = some (.int .u64 x)) (hz : w.frozen? ⟨b, off, none⟩ = false) :
    Calls Try.prog 86 #[.pointer (some ⟨b, off, none⟩), .int .u64 y] w fun e w' => e = .returned (.int .u64 x) ∧ w.setCell ⟨b, off, none⟩ (.int .u64 (orK .u64 x y)) = w' := by
  have h := run_call_bits (P := Try.prog) Try.func93 (by kernel_rfl) (by kernel_rfl) (by kernel_rfl) .u64 .or (by kernel_rfl) (y := y) hc hz (run_orK _ _ _ _)
  go_enter Try.func86, Try.ntmps86
  go_wp2
  go_ret
  exact ⟨rfl, rfl⟩

theorem up_cas (b off : Nat) (x o y : Int) (w : World) (hc : w.cell? ⟨b, off, none⟩ = some (.int .u64 x)) (hz : w.frozen? ⟨b, off, none⟩ = false) :
    Calls Try.prog 84 #[.pointer (some ⟨b, off, none⟩), .int .u64 o, .int .u64 y] w fun e w' => e = .returned (.bool (x == o)) ∧ w.setCell ⟨b, off, none⟩ (.int .u64 (casNew x o y)) = w' := by
  by_cases hx : x = o
  · have hc' : w.cell? ⟨b, off, none⟩ = some (.int .u64 o) := by rw [hc, hx]
    have h := run_call_cas_hit (P := Try.prog) Try.func91 (by kernel_rfl) (by kernel_rfl) (by kernel_rfl) .u64 (by kernel_rfl) (y := y) hc' hz
    have Hx := Lib.hid hx
    clear hx hc hc'
    go_enter Try.func84, Try.ntmps84
    go_wp2
    go_ret
    have hx := Hx.out
    exact ⟨by first | rfl | simp [hx], by rw [casNew, if_pos hx]⟩
  · have h := run_call_cas_miss (P := Try.prog) Try.func91 (by kernel_rfl) (by kernel_rfl) (by kernel_rfl) .u64 (by kernel_rfl) (y := y) hc hz hx
    have Hx := Lib.hid hx
    clear hx
    go_enter Try.func84, Try.ntmps84
    go_wp2
    go_ret
    have hx := Hx.out
    exact ⟨by first | rfl | simp [hx], by rw [casNew, if_neg hx]; exact setCell_self hc⟩

end Go.Proofs.Ytfkhflknigemgaa
