/-
  DERIVED. THE WALKS over sync/atomic's numbers: the methods of Int32, Int64, Uint32, Uint64, Uintptr.
-/
import Derived.Test.YtnpelkohmnhodaaAtom
namespace Go.Proofs.Ytnpelkohmnhodaa
open Go.RowKit
set_option maxRecDepth 100000

/-- the sum, as Go's own '+' of that kind gives it. -/
def addK (k : IntKind) (x y : Int) : Int := k.wrap (x + y)
theorem run_addK {P : Program} (k : IntKind) (x y : Int) (w : World) : (Op.intArith .add k x y).run P w = .ok (.int k (addK k x y)) w := rfl
/-- '&', '|' of that kind. -/
def andK (k : IntKind) (x y : Int) : Int := Go.bits .and k x y
def orK (k : IntKind) (x y : Int) : Int := Go.bits .or k x y
theorem run_andK {P : Program} (k : IntKind) (x y : Int) (w : World) : (Op.intBits .and k x y).run P w = .ok (.int k (andK k x y)) w := rfl
theorem run_orK {P : Program} (k : IntKind) (x y : Int) (w : World) : (Op.intBits .or k x y).run P w = .ok (.int k (orK k x y)) w := rfl

theorem i32_load (b off : Nat) (x : Int) (w : World) (hc : w.cell? ⟨b, off, none⟩ = some (.int .i32 x)) :
    Calls Try.prog 113 #[.pointer (some ⟨b, off, none⟩)] w fun e w' => e = .returned (.int .i32 x) ∧ w = w' := by
  have h := run_call_load (P := Try.prog) Try.func116 (by kernel_rfl) (by kernel_rfl) (by kernel_rfl) .i32 (by kernel_rfl) hc
  go_enter Try.func113, Try.ntmps113
  go_wp2
  go_ret
  exact ⟨rfl, rfl⟩

theorem i32_store (b off : Nat) (x y : Int) (w : World) (hc : w.cell? ⟨b, off, none⟩ = some (.int .i32 x)) (hz : w.frozen? ⟨b, off, none⟩ = false) :
    Calls Try.prog 189 #[.pointer (some ⟨b, off, none⟩), .int .i32 y] w fun e w' => e = .returned (.tuple #[]) ∧ w.setCell ⟨b, off, none⟩ (.int .i32 y) = w' := by
  have h := run_call_store (P := Try.prog) Try.func195 (by kernel_rfl) (by kernel_rfl) (by kernel_rfl) (by kernel_rfl) (k := .i32) (y := y) hc hz
  go_enter Try.func189, Try.ntmps189
  go_wp2
  go_end0
  exact ⟨rfl, rfl⟩

theorem i32_add (b off : Nat) (x y : Int) (w : World) (hc : w.cell? ⟨b, off, none⟩ = some (.int .i32 x)) (hz : w.frozen? ⟨b, off, none⟩ = false) :
    Calls Try.prog 185 #[.pointer (some ⟨b, off, none⟩), .int .i32 y] w fun e w' => e = .returned (.int .i32 (addK .i32 x y)) ∧ w.setCell ⟨b, off, none⟩ (.int .i32 (addK .i32 x y)) = w' := by
  have h := run_call_add (P := Try.prog) Try.func191 (by kernel_rfl) (by kernel_rfl) (by kernel_rfl) .i32 (by kernel_rfl) (y := y) hc hz (run_addK _ _ _ _)
  go_enter Try.func185, Try.ntmps185
  go_wp2
  go_ret
  exact ⟨rfl, rfl⟩

theorem i32_swap (b off : Nat) (x y : Int) (w : World) (hc : w.cell? ⟨b, off, none⟩ = some (.int .i32 x)) (hz : w.frozen? ⟨b, off, none⟩ = false) :
    Calls Try.prog 190 #[.pointer (some ⟨b, off, none⟩), .int .i32 y] w fun e w' => e = .returned (.int .i32 x) ∧ w.setCell ⟨b, off, none⟩ (.int .i32 y) = w' := by
  have h := run_call_swap (P := Try.prog) Try.func196 (by kernel_rfl) (by kernel_rfl) (by kernel_rfl) .i32 (by kernel_rfl) (y := y) hc hz
  go_enter Try.func190, Try.ntmps190
  go_wp2
  go_ret
  exact ⟨rfl, rfl⟩

theorem i32_and (b off : Nat) (x y : Int) (w : World) (hc : w.cell? ⟨b, off, none⟩ = some (.int .i32 x)) (hz : w.frozen? ⟨b, off, none⟩ = false) :
    Calls Try.prog 186 #[.pointer (some ⟨b, off, none⟩), .int .i32 y] w fun e w' => e = .returned (.int .i32 x) ∧ w.setCell ⟨b, off, none⟩ (.int .i32 (andK .i32 x y)) = w' := by
  have h := run_call_bits (P := Try.prog) Try.func192 (by kernel_rfl) (by kernel_rfl) (by kernel_rfl) .i32 .and (by kernel_rfl) (y := y) hc hz (run_andK _ _ _ _)
  go_enter Try.func186, Try.ntmps186
  go_wp2
  go_ret
  exact ⟨rfl, rfl⟩

theorem i32_or (b off : Nat) (x y : Int) (w : World) (hc : w.cell? ⟨b, off, none⟩ = some (.int .i32 x)) (hz : w.frozen? ⟨b, off, none⟩ = false) :
    Calls Try.prog 188 #[.pointer (some ⟨b, off, none⟩), .int .i32 y] w fun e w' => e = .returned (.int .i32 x) ∧ w.setCell ⟨b, off, none⟩ (.int .i32 (orK .i32 x y)) = w' := by
  have h := run_call_bits (P := Try.prog) Try.func194 (by kernel_rfl) (by kernel_rfl) (by kernel_rfl) .i32 .or (by kernel_rfl) (y := y) hc hz (run_orK _ _ _ _)
  go_enter Try.func188, Try.ntmps188
  go_wp2
  go_ret
  exact ⟨rfl, rfl⟩

theorem i32_cas (b off : Nat) (x o y : Int) (w : World) (hc : w.cell? ⟨b, off, none⟩ = some (.int .i32 x)) (hz : w.frozen? ⟨b, off, none⟩ = false) :
    Calls Try.prog 187 #[.pointer (some ⟨b, off, none⟩), .int .i32 o, .int .i32 y] w fun e w' => e = .returned (.bool (x == o)) ∧ w.setCell ⟨b, off, none⟩ (.int .i32 (casNew x o y)) = w' := by
  by_cases hx : x = o
  · have hc' : w.cell? ⟨b, off, none⟩ = some (.int .i32 o) := by rw [hc, hx]
    have h := run_call_cas_hit (P := Try.prog) Try.func193 (by kernel_rfl) (by kernel_rfl) (by kernel_rfl) .i32 (by kernel_rfl) (y := y) hc' hz
    have Hx := Lib.hid hx
    clear hx hc hc'
    go_enter Try.func187, Try.ntmps187
    go_wp2
    go_ret
    have hx := Hx.out
    exact ⟨by first | rfl | simp [hx], by rw [casNew, if_pos hx]⟩
  · have h := run_call_cas_miss (P := Try.prog) Try.func193 (by kernel_rfl) (by kernel_rfl) (by kernel_rfl) .i32 (by kernel_rfl) (y := y) hc hz hx
    have Hx := Lib.hid hx
    clear hx
    go_enter Try.func187, Try.ntmps187
    go_wp2
    go_ret
    have hx := Hx.out
    exact ⟨by first | rfl | simp [hx], by rw [casNew, if_neg hx]; exact setCell_self hc⟩

theorem i64_load (b off : Nat) (x : Int) (w : World) (hc : w.cell? ⟨b, off, none⟩ = some (.int .i64 x)) :
    Calls Try.prog 121 #[.pointer (some ⟨b, off, none⟩)] w fun e w' => e = .returned (.int .i64 x) ∧ w = w' := by
  have h := run_call_load (P := Try.prog) Try.func128 (by kernel_rfl) (by kernel_rfl) (by kernel_rfl) .i64 (by kernel_rfl) hc
  go_enter Try.func121, Try.ntmps121
  go_wp2
  go_ret
  exact ⟨rfl, rfl⟩

theorem i64_store (b off : Nat) (x y : Int) (w : World) (hc : w.cell? ⟨b, off, none⟩ = some (.int .i64 x)) (hz : w.frozen? ⟨b, off, none⟩ = false) :
    Calls Try.prog 123 #[.pointer (some ⟨b, off, none⟩), .int .i64 y] w fun e w' => e = .returned (.tuple #[]) ∧ w.setCell ⟨b, off, none⟩ (.int .i64 y) = w' := by
  have h := run_call_store (P := Try.prog) Try.func130 (by kernel_rfl) (by kernel_rfl) (by kernel_rfl) (by kernel_rfl) (k := .i64) (y := y) hc hz
  go_enter Try.func123, Try.ntmps123
  go_wp2
  go_end0
  exact ⟨rfl, rfl⟩

theorem i64_add (b off : Nat) (x y : Int) (w : World) (hc : w.cell? ⟨b, off, none⟩ = some (.int .i64 x)) (hz : w.frozen? ⟨b, off, none⟩ = false) :
    Calls Try.prog 118 #[.pointer (some ⟨b, off, none⟩), .int .i64 y] w fun e w' => e = .returned (.int .i64 (addK .i64 x y)) ∧ w.setCell ⟨b, off, none⟩ (.int .i64 (addK .i64 x y)) = w' := by
  have h := run_call_add (P := Try.prog) Try.func125 (by kernel_rfl) (by kernel_rfl) (by kernel_rfl) .i64 (by kernel_rfl) (y := y) hc hz (run_addK _ _ _ _)
  go_enter Try.func118, Try.ntmps118
  go_wp2
  go_ret
  exact ⟨rfl, rfl⟩

theorem i64_swap (b off : Nat) (x y : Int) (w : World) (hc : w.cell? ⟨b, off, none⟩ = some (.int .i64 x)) (hz : w.frozen? ⟨b, off, none⟩ = false) :
    Calls Try.prog 124 #[.pointer (some ⟨b, off, none⟩), .int .i64 y] w fun e w' => e = .returned (.int .i64 x) ∧ w.setCell ⟨b, off, none⟩ (.int .i64 y) = w' := by
  have h := run_call_swap (P := Try.prog) Try.func131 (by kernel_rfl) (by kernel_rfl) (by kernel_rfl) .i64 (by kernel_rfl) (y := y) hc hz
  go_enter Try.func124, Try.ntmps124
  go_wp2
  go_ret
  exact ⟨rfl, rfl⟩

theorem i64_and (b off : Nat) (x y : Int) (w : World) (hc : w.cell? ⟨b, off, none⟩ = some (.int .i64 x)) (hz : w.frozen? ⟨b, off, none⟩ = false) :
    Calls Try.prog 119 #[.pointer (some ⟨b, off, none⟩), .int .i64 y] w fun e w' => e = .returned (.int .i64 x) ∧ w.setCell ⟨b, off, none⟩ (.int .i64 (andK .i64 x y)) = w' := by
  have h := run_call_bits (P := Try.prog) Try.func126 (by kernel_rfl) (by kernel_rfl) (by kernel_rfl) .i64 .and (by kernel_rfl) (y := y) hc hz (run_andK _ _ _ _)
  go_enter Try.func119, Try.ntmps119
  go_wp2
  go_ret
  exact ⟨rfl, rfl⟩

theorem i64_or (b off : Nat) (x y : Int) (w : World) (hc : w.cell? ⟨b, off, none⟩ = some (.int .i64 x)) (hz : w.frozen? ⟨b, off, none⟩ = false) :
    Calls Try.prog 122 #[.pointer (some ⟨b, off, none⟩), .int .i64 y] w fun e w' => e = .returned (.int .i64 x) ∧ w.setCell ⟨b, off, none⟩ (.int .i64 (orK .i64 x y)) = w' := by
  have h := run_call_bits (P := Try.prog) Try.func129 (by kernel_rfl) (by kernel_rfl) (by kernel_rfl) .i64 .or (by kernel_rfl) (y := y) hc hz (run_orK _ _ _ _)
  go_enter Try.func122, Try.ntmps122
  go_wp2
  go_ret
  exact ⟨rfl, rfl⟩

theorem i64_cas (b off : Nat) (x o y : Int) (w : World) (hc : w.cell? ⟨b, off, none⟩ = some (.int .i64 x)) (hz : w.frozen? ⟨b, off, none⟩ = false) :
    Calls Try.prog 120 #[.pointer (some ⟨b, off, none⟩), .int .i64 o, .int .i64 y] w fun e w' => e = .returned (.bool (x == o)) ∧ w.setCell ⟨b, off, none⟩ (.int .i64 (casNew x o y)) = w' := by
  by_cases hx : x = o
  · have hc' : w.cell? ⟨b, off, none⟩ = some (.int .i64 o) := by rw [hc, hx]
    have h := run_call_cas_hit (P := Try.prog) Try.func127 (by kernel_rfl) (by kernel_rfl) (by kernel_rfl) .i64 (by kernel_rfl) (y := y) hc' hz
    have Hx := Lib.hid hx
    clear hx hc hc'
    go_enter Try.func120, Try.ntmps120
    go_wp2
    go_ret
    have hx := Hx.out
    exact ⟨by first | rfl | simp [hx], by rw [casNew, if_pos hx]⟩
  · have h := run_call_cas_miss (P := Try.prog) Try.func127 (by kernel_rfl) (by kernel_rfl) (by kernel_rfl) .i64 (by kernel_rfl) (y := y) hc hz hx
    have Hx := Lib.hid hx
    clear hx
    go_enter Try.func120, Try.ntmps120
    go_wp2
    go_ret
    have hx := Hx.out
    exact ⟨by first | rfl | simp [hx], by rw [casNew, if_neg hx]; exact setCell_self hc⟩

theorem u32_load (b off : Nat) (x : Int) (w : World) (hc : w.cell? ⟨b, off, none⟩ = some (.int .u32 x)) :
    Calls Try.prog 136 #[.pointer (some ⟨b, off, none⟩)] w fun e w' => e = .returned (.int .u32 x) ∧ w = w' := by
  have h := run_call_load (P := Try.prog) Try.func143 (by kernel_rfl) (by kernel_rfl) (by kernel_rfl) .u32 (by kernel_rfl) hc
  go_enter Try.func136, Try.ntmps136
  go_wp2
  go_ret
  exact ⟨rfl, rfl⟩

theorem u32_store (b off : Nat) (x y : Int) (w : World) (hc : w.cell? ⟨b, off, none⟩ = some (.int .u32 x)) (hz : w.frozen? ⟨b, off, none⟩ = false) :
    Calls Try.prog 138 #[.pointer (some ⟨b, off, none⟩), .int .u32 y] w fun e w' => e = .returned (.tuple #[]) ∧ w.setCell ⟨b, off, none⟩ (.int .u32 y) = w' := by
  have h := run_call_store (P := Try.prog) Try.func145 (by kernel_rfl) (by kernel_rfl) (by kernel_rfl) (by kernel_rfl) (k := .u32) (y := y) hc hz
  go_enter Try.func138, Try.ntmps138
  go_wp2
  go_end0
  exact ⟨rfl, rfl⟩

theorem u32_add (b off : Nat) (x y : Int) (w : World) (hc : w.cell? ⟨b, off, none⟩ = some (.int .u32 x)) (hz : w.frozen? ⟨b, off, none⟩ = false) :
    Calls Try.prog 133 #[.pointer (some ⟨b, off, none⟩), .int .u32 y] w fun e w' => e = .returned (.int .u32 (addK .u32 x y)) ∧ w.setCell ⟨b, off, none⟩ (.int .u32 (addK .u32 x y)) = w' := by
  have h := run_call_add (P := Try.prog) Try.func140 (by kernel_rfl) (by kernel_rfl) (by kernel_rfl) .u32 (by kernel_rfl) (y := y) hc hz (run_addK _ _ _ _)
  go_enter Try.func133, Try.ntmps133
  go_wp2
  go_ret
  exact ⟨rfl, rfl⟩

theorem u32_swap (b off : Nat) (x y : Int) (w : World) (hc : w.cell? ⟨b, off, none⟩ = some (.int .u32 x)) (hz : w.frozen? ⟨b, off, none⟩ = false) :
    Calls Try.prog 139 #[.pointer (some ⟨b, off, none⟩), .int .u32 y] w fun e w' => e = .returned (.int .u32 x) ∧ w.setCell ⟨b, off, none⟩ (.int .u32 y) = w' := by
  have h := run_call_swap (P := Try.prog) Try.func146 (by kernel_rfl) (by kernel_rfl) (by kernel_rfl) .u32 (by kernel_rfl) (y := y) hc hz
  go_enter Try.func139, Try.ntmps139
  go_wp2
  go_ret
  exact ⟨rfl, rfl⟩

theorem u32_and (b off : Nat) (x y : Int) (w : World) (hc : w.cell? ⟨b, off, none⟩ = some (.int .u32 x)) (hz : w.frozen? ⟨b, off, none⟩ = false) :
    Calls Try.prog 134 #[.pointer (some ⟨b, off, none⟩), .int .u32 y] w fun e w' => e = .returned (.int .u32 x) ∧ w.setCell ⟨b, off, none⟩ (.int .u32 (andK .u32 x y)) = w' := by
  have h := run_call_bits (P := Try.prog) Try.func141 (by kernel_rfl) (by kernel_rfl) (by kernel_rfl) .u32 .and (by kernel_rfl) (y := y) hc hz (run_andK _ _ _ _)
  go_enter Try.func134, Try.ntmps134
  go_wp2
  go_ret
  exact ⟨rfl, rfl⟩

theorem u32_or (b off : Nat) (x y : Int) (w : World) (hc : w.cell? ⟨b, off, none⟩ = some (.int .u32 x)) (hz : w.frozen? ⟨b, off, none⟩ = false) :
    Calls Try.prog 137 #[.pointer (some ⟨b, off, none⟩), .int .u32 y] w fun e w' => e = .returned (.int .u32 x) ∧ w.setCell ⟨b, off, none⟩ (.int .u32 (orK .u32 x y)) = w' := by
  have h := run_call_bits (P := Try.prog) Try.func144 (by kernel_rfl) (by kernel_rfl) (by kernel_rfl) .u32 .or (by kernel_rfl) (y := y) hc hz (run_orK _ _ _ _)
  go_enter Try.func137, Try.ntmps137
  go_wp2
  go_ret
  exact ⟨rfl, rfl⟩

theorem u32_cas (b off : Nat) (x o y : Int) (w : World) (hc : w.cell? ⟨b, off, none⟩ = some (.int .u32 x)) (hz : w.frozen? ⟨b, off, none⟩ = false) :
    Calls Try.prog 135 #[.pointer (some ⟨b, off, none⟩), .int .u32 o, .int .u32 y] w fun e w' => e = .returned (.bool (x == o)) ∧ w.setCell ⟨b, off, none⟩ (.int .u32 (casNew x o y)) = w' := by
  by_cases hx : x = o
  · have hc' : w.cell? ⟨b, off, none⟩ = some (.int .u32 o) := by rw [hc, hx]
    have h := run_call_cas_hit (P := Try.prog) Try.func142 (by kernel_rfl) (by kernel_rfl) (by kernel_rfl) .u32 (by kernel_rfl) (y := y) hc' hz
    have Hx := Lib.hid hx
    clear hx hc hc'
    go_enter Try.func135, Try.ntmps135
    go_wp2
    go_ret
    have hx := Hx.out
    exact ⟨by first | rfl | simp [hx], by rw [casNew, if_pos hx]⟩
  · have h := run_call_cas_miss (P := Try.prog) Try.func142 (by kernel_rfl) (by kernel_rfl) (by kernel_rfl) .u32 (by kernel_rfl) (y := y) hc hz hx
    have Hx := Lib.hid hx
    clear hx
    go_enter Try.func135, Try.ntmps135
    go_wp2
    go_ret
    have hx := Hx.out
    exact ⟨by first | rfl | simp [hx], by rw [casNew, if_neg hx]; exact setCell_self hc⟩

theorem u64_load (b off : Nat) (x : Int) (w : World) (hc : w.cell? ⟨b, off, none⟩ = some (.int .u64 x)) :
    Calls Try.prog 151 #[.pointer (some ⟨b, off, none⟩)] w fun e w' => e = .returned (.int .u64 x) ∧ w = w' := by
  have h := run_call_load (P := Try.prog) Try.func158 (by kernel_rfl) (by kernel_rfl) (by kernel_rfl) .u64 (by kernel_rfl) hc
  go_enter Try.func151, Try.ntmps151
  go_wp2
  go_ret
  exact ⟨rfl, rfl⟩

theorem u64_store (b off : Nat) (x y : Int) (w : World) (hc : w.cell? ⟨b, off, none⟩ = some (.int .u64 x)) (hz : w.frozen? ⟨b, off, none⟩ = false) :
    Calls Try.prog 153 #[.pointer (some ⟨b, off, none⟩), .int .u64 y] w fun e w' => e = .returned (.tuple #[]) ∧ w.setCell ⟨b, off, none⟩ (.int .u64 y) = w' := by
  have h := run_call_store (P := Try.prog) Try.func160 (by kernel_rfl) (by kernel_rfl) (by kernel_rfl) (by kernel_rfl) (k := .u64) (y := y) hc hz
  go_enter Try.func153, Try.ntmps153
  go_wp2
  go_end0
  exact ⟨rfl, rfl⟩

theorem u64_add (b off : Nat) (x y : Int) (w : World) (hc : w.cell? ⟨b, off, none⟩ = some (.int .u64 x)) (hz : w.frozen? ⟨b, off, none⟩ = false) :
    Calls Try.prog 148 #[.pointer (some ⟨b, off, none⟩), .int .u64 y] w fun e w' => e = .returned (.int .u64 (addK .u64 x y)) ∧ w.setCell ⟨b, off, none⟩ (.int .u64 (addK .u64 x y)) = w' := by
  have h := run_call_add (P := Try.prog) Try.func155 (by kernel_rfl) (by kernel_rfl) (by kernel_rfl) .u64 (by kernel_rfl) (y := y) hc hz (run_addK _ _ _ _)
  go_enter Try.func148, Try.ntmps148
  go_wp2
  go_ret
  exact ⟨rfl, rfl⟩

theorem u64_swap (b off : Nat) (x y : Int) (w : World) (hc : w.cell? ⟨b, off, none⟩ = some (.int .u64 x)) (hz : w.frozen? ⟨b, off, none⟩ = false) :
    Calls Try.prog 154 #[.pointer (some ⟨b, off, none⟩), .int .u64 y] w fun e w' => e = .returned (.int .u64 x) ∧ w.setCell ⟨b, off, none⟩ (.int .u64 y) = w' := by
  have h := run_call_swap (P := Try.prog) Try.func161 (by kernel_rfl) (by kernel_rfl) (by kernel_rfl) .u64 (by kernel_rfl) (y := y) hc hz
  go_enter Try.func154, Try.ntmps154
  go_wp2
  go_ret
  exact ⟨rfl, rfl⟩

theorem u64_and (b off : Nat) (x y : Int) (w : World) (hc : w.cell? ⟨b, off, none⟩ = some (.int .u64 x)) (hz : w.frozen? ⟨b, off, none⟩ = false) :
    Calls Try.prog 149 #[.pointer (some ⟨b, off, none⟩), .int .u64 y] w fun e w' => e = .returned (.int .u64 x) ∧ w.setCell ⟨b, off, none⟩ (.int .u64 (andK .u64 x y)) = w' := by
  have h := run_call_bits (P := Try.prog) Try.func156 (by kernel_rfl) (by kernel_rfl) (by kernel_rfl) .u64 .and (by kernel_rfl) (y := y) hc hz (run_andK _ _ _ _)
  go_enter Try.func149, Try.ntmps149
  go_wp2
  go_ret
  exact ⟨rfl, rfl⟩

theorem u64_or (b off : Nat) (x y : Int) (w : World) (hc : w.cell? ⟨b, off, none⟩ = some (.int .u64 x)) (hz : w.frozen? ⟨b, off, none⟩ = false) :
    Calls Try.prog 152 #[.pointer (some ⟨b, off, none⟩), .int .u64 y] w fun e w' => e = .returned (.int .u64 x) ∧ w.setCell ⟨b, off, none⟩ (.int .u64 (orK .u64 x y)) = w' := by
  have h := run_call_bits (P := Try.prog) Try.func159 (by kernel_rfl) (by kernel_rfl) (by kernel_rfl) .u64 .or (by kernel_rfl) (y := y) hc hz (run_orK _ _ _ _)
  go_enter Try.func152, Try.ntmps152
  go_wp2
  go_ret
  exact ⟨rfl, rfl⟩

theorem u64_cas (b off : Nat) (x o y : Int) (w : World) (hc : w.cell? ⟨b, off, none⟩ = some (.int .u64 x)) (hz : w.frozen? ⟨b, off, none⟩ = false) :
    Calls Try.prog 150 #[.pointer (some ⟨b, off, none⟩), .int .u64 o, .int .u64 y] w fun e w' => e = .returned (.bool (x == o)) ∧ w.setCell ⟨b, off, none⟩ (.int .u64 (casNew x o y)) = w' := by
  by_cases hx : x = o
  · have hc' : w.cell? ⟨b, off, none⟩ = some (.int .u64 o) := by rw [hc, hx]
    have h := run_call_cas_hit (P := Try.prog) Try.func157 (by kernel_rfl) (by kernel_rfl) (by kernel_rfl) .u64 (by kernel_rfl) (y := y) hc' hz
    have Hx := Lib.hid hx
    clear hx hc hc'
    go_enter Try.func150, Try.ntmps150
    go_wp2
    go_ret
    have hx := Hx.out
    exact ⟨by first | rfl | simp [hx], by rw [casNew, if_pos hx]⟩
  · have h := run_call_cas_miss (P := Try.prog) Try.func157 (by kernel_rfl) (by kernel_rfl) (by kernel_rfl) .u64 (by kernel_rfl) (y := y) hc hz hx
    have Hx := Lib.hid hx
    clear hx
    go_enter Try.func150, Try.ntmps150
    go_wp2
    go_ret
    have hx := Hx.out
    exact ⟨by first | rfl | simp [hx], by rw [casNew, if_neg hx]; exact setCell_self hc⟩

theorem up_load (b off : Nat) (x : Int) (w : World) (hc : w.cell? ⟨b, off, none⟩ = some (.int .u64 x)) :
    Calls Try.prog 166 #[.pointer (some ⟨b, off, none⟩)] w fun e w' => e = .returned (.int .u64 x) ∧ w = w' := by
  have h := run_call_load (P := Try.prog) Try.func173 (by kernel_rfl) (by kernel_rfl) (by kernel_rfl) .u64 (by kernel_rfl) hc
  go_enter Try.func166, Try.ntmps166
  go_wp2
  go_ret
  exact ⟨rfl, rfl⟩

theorem up_store (b off : Nat) (x y : Int) (w : World) (hc : w.cell? ⟨b, off, none⟩ = some (.int .u64 x)) (hz : w.frozen? ⟨b, off, none⟩ = false) :
    Calls Try.prog 168 #[.pointer (some ⟨b, off, none⟩), .int .u64 y] w fun e w' => e = .returned (.tuple #[]) ∧ w.setCell ⟨b, off, none⟩ (.int .u64 y) = w' := by
  have h := run_call_store (P := Try.prog) Try.func175 (by kernel_rfl) (by kernel_rfl) (by kernel_rfl) (by kernel_rfl) (k := .u64) (y := y) hc hz
  go_enter Try.func168, Try.ntmps168
  go_wp2
  go_end0
  exact ⟨rfl, rfl⟩

theorem up_add (b off : Nat) (x y : Int) (w : World) (hc : w.cell? ⟨b, off, none⟩ = some (.int .u64 x)) (hz : w.frozen? ⟨b, off, none⟩ = false) :
    Calls Try.prog 163 #[.pointer (some ⟨b, off, none⟩), .int .u64 y] w fun e w' => e = .returned (.int .u64 (addK .u64 x y)) ∧ w.setCell ⟨b, off, none⟩ (.int .u64 (addK .u64 x y)) = w' := by
  have h := run_call_add (P := Try.prog) Try.func170 (by kernel_rfl) (by kernel_rfl) (by kernel_rfl) .u64 (by kernel_rfl) (y := y) hc hz (run_addK _ _ _ _)
  go_enter Try.func163, Try.ntmps163
  go_wp2
  go_ret
  exact ⟨rfl, rfl⟩

theorem up_swap (b off : Nat) (x y : Int) (w : World) (hc : w.cell? ⟨b, off, none⟩ = some (.int .u64 x)) (hz : w.frozen? ⟨b, off, none⟩ = false) :
    Calls Try.prog 169 #[.pointer (some ⟨b, off, none⟩), .int .u64 y] w fun e w' => e = .returned (.int .u64 x) ∧ w.setCell ⟨b, off, none⟩ (.int .u64 y) = w' := by
  have h := run_call_swap (P := Try.prog) Try.func176 (by kernel_rfl) (by kernel_rfl) (by kernel_rfl) .u64 (by kernel_rfl) (y := y) hc hz
  go_enter Try.func169, Try.ntmps169
  go_wp2
  go_ret
  exact ⟨rfl, rfl⟩

theorem up_and (b off : Nat) (x y : Int) (w : World) (hc : w.cell? ⟨b, off, none⟩ = some (.int .u64 x)) (hz : w.frozen? ⟨b, off, none⟩ = false) :
    Calls Try.prog 164 #[.pointer (some ⟨b, off, none⟩), .int .u64 y] w fun e w' => e = .returned (.int .u64 x) ∧ w.setCell ⟨b, off, none⟩ (.int .u64 (andK .u64 x y)) = w' := by
  have h := run_call_bits (P := Try.prog) Try.func171 (by kernel_rfl) (by kernel_rfl) (by kernel_rfl) .u64 .and (by kernel_rfl) (y := y) hc hz (run_andK _ _ _ _)
  go_enter Try.func164, Try.ntmps164
  go_wp2
  go_ret
  exact ⟨rfl, rfl⟩

theorem up_or (b off : Nat) (x y : Int) (w : World) (hc : w.cell? ⟨b, off, none⟩ = some (.int .u64 x)) (hz : w.frozen? ⟨b, off, none⟩ = false) :
    Calls Try.prog 167 #[.pointer (some ⟨b, off, none⟩), .int .u64 y] w fun e w' => e = .returned (.int .u64 x) ∧ w.setCell ⟨b, off, none⟩ (.int .u64 (orK .u64 x y)) = w' := by
  have h := run_call_bits (P := Try.prog) Try.func174 (by kernel_rfl) (by kernel_rfl) (by kernel_rfl) .u64 .or (by kernel_rfl) (y := y) hc hz (run_orK _ _ _ _)
  go_enter Try.func167, Try.ntmps167
  go_wp2
  go_ret
  exact ⟨rfl, rfl⟩

theorem up_cas (b off : Nat) (x o y : Int) (w : World) (hc : w.cell? ⟨b, off, none⟩ = some (.int .u64 x)) (hz : w.frozen? ⟨b, off, none⟩ = false) :
    Calls Try.prog 165 #[.pointer (some ⟨b, off, none⟩), .int .u64 o, .int .u64 y] w fun e w' => e = .returned (.bool (x == o)) ∧ w.setCell ⟨b, off, none⟩ (.int .u64 (casNew x o y)) = w' := by
  by_cases hx : x = o
  · have hc' : w.cell? ⟨b, off, none⟩ = some (.int .u64 o) := by rw [hc, hx]
    have h := run_call_cas_hit (P := Try.prog) Try.func172 (by kernel_rfl) (by kernel_rfl) (by kernel_rfl) .u64 (by kernel_rfl) (y := y) hc' hz
    have Hx := Lib.hid hx
    clear hx hc hc'
    go_enter Try.func165, Try.ntmps165
    go_wp2
    go_ret
    have hx := Hx.out
    exact ⟨by first | rfl | simp [hx], by rw [casNew, if_pos hx]⟩
  · have h := run_call_cas_miss (P := Try.prog) Try.func172 (by kernel_rfl) (by kernel_rfl) (by kernel_rfl) .u64 (by kernel_rfl) (y := y) hc hz hx
    have Hx := Lib.hid hx
    clear hx
    go_enter Try.func165, Try.ntmps165
    go_wp2
    go_ret
    have hx := Hx.out
    exact ⟨by first | rfl | simp [hx], by rw [casNew, if_neg hx]; exact setCell_self hc⟩

end Go.Proofs.Ytnpelkohmnhodaa
