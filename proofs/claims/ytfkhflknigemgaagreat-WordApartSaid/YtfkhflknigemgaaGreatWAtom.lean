/-
  DERIVED. THE WALKS over sync/atomic's numbers: the methods of Int32, Int64, Uint32, Uint64, Uintptr.
-/
import Derived.Test.YtfkhflknigemgaaGreatAtom
namespace Go.Proofs.YtfkhflknigemgaaGreat
open Go.RowKit
set_option maxRecDepth 100000

/-- the sum, as Go's own '+' of that kind gives it. -/
def addK (k : IntKind) (x y : Int) : Int := k.wrap (x + y)
theorem run_addK {P : Program} (k : IntKind) (x y : Int) (w : World) : (Op.intArith .add k x y).run P w = .ok (.int k (addK k x y)) w := rfl
/-- '&', '|' of that kind. -/
def andK (k : IntKind) (x y : Int) : Int := Go.bits .and k x y
def orK (k : IntKind) (x y : Int) : Int := Go.bits .or k x y
theorem run_andK {P : Program} (k : IntKind) (x y : Int) (w : World) : (Op.intBits .and k x y).run P w = .ok (.int k (andK k x y)) w := rfl
theorem run_orK {P : Program} (k : IntKind) (x y : Int) (w : World) : (Op.intBits .or k x y).run P w = .ok (.int k (orK k x y)) w := rfl

theorem i32_load (b off : Nat) (x : Int) (w : World) (hc : w.cell? ⟨b, off, none⟩ = some (.int .i32 x)) :
    Calls Tryz.prog 55 #[.pointer (some ⟨b, off, none⟩)] w fun e w' => e = .returned (.int .i32 x) ∧ w = w' := by
  have h := run_call_load (P := Tryz.prog) Tryz.func57 (by kernel_rfl) (by kernel_rfl) (by kernel_rfl) .i32 (by kernel_rfl) hc
  go_enter Tryz.func55, Tryz.ntmps55
  go_wp2
  go_ret
  exact ⟨rfl, rfl⟩

theorem i32_store (b off : Nat) (x y : Int) (w : World) (hc : w.cell? ⟨b, off, none⟩ = some (.int .i32 x)) (hz : w.frozen? ⟨b, off, none⟩ = false) :
    Calls Tryz.prog 129 #[.pointer (some ⟨b, off, none⟩), .int .i32 y] w fun e w' => e = .returned (.tuple #[]) ∧ w.setCell ⟨b, off, none⟩ (.int .i32 y) = w' := by
  have h := run_call_store (P := Tryz.prog) Tryz.func135 (by kernel_rfl) (by kernel_rfl) (by kernel_rfl) (by kernel_rfl) (k := .i32) (y := y) hc hz
  go_enter Tryz.func129, Tryz.ntmps129
  go_wp2
  go_end0
  exact ⟨rfl, rfl⟩

theorem i32_add (b off : Nat) (x y : Int) (w : World) (hc : w.cell? ⟨b, off, none⟩ = some (.int .i32 x)) (hz : w.frozen? ⟨b, off, none⟩ = false) :
    Calls Tryz.prog 125 #[.pointer (some ⟨b, off, none⟩), .int .i32 y] w fun e w' => e = .returned (.int .i32 (addK .i32 x y)) ∧ w.setCell ⟨b, off, none⟩ (.int .i32 (addK .i32 x y)) = w' := by
  have h := run_call_add (P := Tryz.prog) Tryz.func131 (by kernel_rfl) (by kernel_rfl) (by kernel_rfl) .i32 (by kernel_rfl) (y := y) hc hz (run_addK _ _ _ _)
  go_enter Tryz.func125, Tryz.ntmps125
  go_wp2
  go_ret
  exact ⟨rfl, rfl⟩

theorem i32_swap (b off : Nat) (x y : Int) (w : World) (hc : w.cell? ⟨b, off, none⟩ = some (.int .i32 x)) (hz : w.frozen? ⟨b, off, none⟩ = false) :
    Calls Tryz.prog 130 #[.pointer (some ⟨b, off, none⟩), .int .i32 y] w fun e w' => e = .returned (.int .i32 x) ∧ w.setCell ⟨b, off, none⟩ (.int .i32 y) = w' := by
  have h := run_call_swap (P := Tryz.prog) Tryz.func136 (by kernel_rfl) (by kernel_rfl) (by kernel_rfl) .i32 (by kernel_rfl) (y := y) hc hz
  go_enter Tryz.func130, Tryz.ntmps130
  go_wp2
  go_ret
  exact ⟨rfl, rfl⟩

theorem i32_and (b off : Nat) (x y : Int) (w : World) (hc : w.cell? ⟨b, off, none⟩ = some (.int .i32 x)) (hz : w.frozen? ⟨b, off, none⟩ = false) :
    Calls Tryz.prog 126 #[.pointer (some ⟨b, off, none⟩), .int .i32 y] w fun e w' => e = .returned (.int .i32 x) ∧ w.setCell ⟨b, off, none⟩ (.int .i32 (andK .i32 x y)) = w' := by
  have h := run_call_bits (P := Tryz.prog) Tryz.func132 (by kernel_rfl) (by kernel_rfl) (by kernel_rfl) .i32 .and (by kernel_rfl) (y := y) hc hz (run_andK _ _ _ _)
  go_enter Tryz.func126, Tryz.ntmps126
  go_wp2
  go_ret
  exact ⟨rfl, rfl⟩

theorem i32_or (b off : Nat) (x y : Int) (w : World) (hc : w.cell? ⟨b, off, none⟩ = some (.int .i32 x)) (hz : w.frozen? ⟨b, off, none⟩ = false) :
    Calls Tryz.prog 128 #[.pointer (some ⟨b, off, none⟩), .int .i32 y] w fun e w' => e = .returned (.int .i32 x) ∧ w.setCell ⟨b, off, none⟩ (.int .i32 (orK .i32 x y)) = w' := by
  have h := run_call_bits (P := Tryz.prog) Tryz.func134 (by kernel_rfl) (by kernel_rfl) (by kernel_rfl) .i32 .or (by kernel_rfl) (y := y) hc hz (run_orK _ _ _ _)
  go_enter Tryz.func128, Tryz.ntmps128
  go_wp2
  go_ret
  exact ⟨rfl, rfl⟩

theorem i32_cas (b off : Nat) (x o y : Int) (w : World) (hc : w.cell? ⟨b, off, none⟩ = some (.int .i32 x)) (hz : w.frozen? ⟨b, off, none⟩ = false) :
    Calls Tryz.prog 127 #[.pointer (some ⟨b, off, none⟩), .int .i32 o, .int .i32 y] w fun e w' => e = .returned (.bool (x == o)) ∧ w.setCell ⟨b, off, none⟩ (.int .i32 (casNew x o y)) = w' := by
  by_cases hx : x = o
  · have hc' : w.cell? ⟨b, off, none⟩ = some (.int .i32 o) := by rw [hc, hx]
    have h := run_call_cas_hit (P := Tryz.prog) Tryz.func133 (by kernel_rfl) (by kernel_rfl) (by kernel_rfl) .i32 (by kernel_rfl) (y := y) hc' hz
    have Hx := Lib.hid hx
    clear hx hc hc'
    go_enter Tryz.func127, Tryz.ntmps127
    go_wp2
    go_ret
    have hx := Hx.out
    exact ⟨by first | rfl | simp [hx], by rw [casNew, if_pos hx]⟩
  · have h := run_call_cas_miss (P := Tryz.prog) Tryz.func133 (by kernel_rfl) (by kernel_rfl) (by kernel_rfl) .i32 (by kernel_rfl) (y := y) hc hz hx
    have Hx := Lib.hid hx
    clear hx
    go_enter Tryz.func127, Tryz.ntmps127
    go_wp2
    go_ret
    have hx := Hx.out
    exact ⟨by first | rfl | simp [hx], by rw [casNew, if_neg hx]; exact setCell_self hc⟩

theorem i64_load (b off : Nat) (x : Int) (w : World) (hc : w.cell? ⟨b, off, none⟩ = some (.int .i64 x)) :
    Calls Tryz.prog 61 #[.pointer (some ⟨b, off, none⟩)] w fun e w' => e = .returned (.int .i64 x) ∧ w = w' := by
  have h := run_call_load (P := Tryz.prog) Tryz.func68 (by kernel_rfl) (by kernel_rfl) (by kernel_rfl) .i64 (by kernel_rfl) hc
  go_enter Tryz.func61, Tryz.ntmps61
  go_wp2
  go_ret
  exact ⟨rfl, rfl⟩

theorem i64_store (b off : Nat) (x y : Int) (w : World) (hc : w.cell? ⟨b, off, none⟩ = some (.int .i64 x)) (hz : w.frozen? ⟨b, off, none⟩ = false) :
    Calls Tryz.prog 63 #[.pointer (some ⟨b, off, none⟩), .int .i64 y] w fun e w' => e = .returned (.tuple #[]) ∧ w.setCell ⟨b, off, none⟩ (.int .i64 y) = w' := by
  have h := run_call_store (P := Tryz.prog) Tryz.func70 (by kernel_rfl) (by kernel_rfl) (by kernel_rfl) (by kernel_rfl) (k := .i64) (y := y) hc hz
  go_enter Tryz.func63, Tryz.ntmps63
  go_wp2
  go_end0
  exact ⟨rfl, rfl⟩

theorem i64_add (b off : Nat) (x y : Int) (w : World) (hc : w.cell? ⟨b, off, none⟩ = some (.int .i64 x)) (hz : w.frozen? ⟨b, off, none⟩ = false) :
    Calls Tryz.prog 58 #[.pointer (some ⟨b, off, none⟩), .int .i64 y] w fun e w' => e = .returned (.int .i64 (addK .i64 x y)) ∧ w.setCell ⟨b, off, none⟩ (.int .i64 (addK .i64 x y)) = w' := by
  have h := run_call_add (P := Tryz.prog) Tryz.func65 (by kernel_rfl) (by kernel_rfl) (by kernel_rfl) .i64 (by kernel_rfl) (y := y) hc hz (run_addK _ _ _ _)
  go_enter Tryz.func58, Tryz.ntmps58
  go_wp2
  go_ret
  exact ⟨rfl, rfl⟩

theorem i64_swap (b off : Nat) (x y : Int) (w : World) (hc : w.cell? ⟨b, off, none⟩ = some (.int .i64 x)) (hz : w.frozen? ⟨b, off, none⟩ = false) :
    Calls Tryz.prog 64 #[.pointer (some ⟨b, off, none⟩), .int .i64 y] w fun e w' => e = .returned (.int .i64 x) ∧ w.setCell ⟨b, off, none⟩ (.int .i64 y) = w' := by
  have h := run_call_swap (P := Tryz.prog) Tryz.func71 (by kernel_rfl) (by kernel_rfl) (by kernel_rfl) .i64 (by kernel_rfl) (y := y) hc hz
  go_enter Tryz.func64, Tryz.ntmps64
  go_wp2
  go_ret
  exact ⟨rfl, rfl⟩

theorem i64_and (b off : Nat) (x y : Int) (w : World) (hc : w.cell? ⟨b, off, none⟩ = some (.int .i64 x)) (hz : w.frozen? ⟨b, off, none⟩ = false) :
    Calls Tryz.prog 59 #[.pointer (some ⟨b, off, none⟩), .int .i64 y] w fun e w' => e = .returned (.int .i64 x) ∧ w.setCell ⟨b, off, none⟩ (.int .i64 (andK .i64 x y)) = w' := by
  have h := run_call_bits (P := Tryz.prog) Tryz.func66 (by kernel_rfl) (by kernel_rfl) (by kernel_rfl) .i64 .and (by kernel_rfl) (y := y) hc hz (run_andK _ _ _ _)
  go_enter Tryz.func59, Tryz.ntmps59
  go_wp2
  go_ret
  exact ⟨rfl, rfl⟩

theorem i64_or (b off : Nat) (x y : Int) (w : World) (hc : w.cell? ⟨b, off, none⟩ = some (.int .i64 x)) (hz : w.frozen? ⟨b, off, none⟩ = false) :
    Calls Tryz.prog 62 #[.pointer (some ⟨b, off, none⟩), .int .i64 y] w fun e w' => e = .returned (.int .i64 x) ∧ w.setCell ⟨b, off, none⟩ (.int .i64 (orK .i64 x y)) = w' := by
  have h := run_call_bits (P := Tryz.prog) Tryz.func69 (by kernel_rfl) (by kernel_rfl) (by kernel_rfl) .i64 .or (by kernel_rfl) (y := y) hc hz (run_orK _ _ _ _)
  go_enter Tryz.func62, Tryz.ntmps62
  go_wp2
  go_ret
  exact ⟨rfl, rfl⟩

theorem i64_cas (b off : Nat) (x o y : Int) (w : World) (hc : w.cell? ⟨b, off, none⟩ = some (.int .i64 x)) (hz : w.frozen? ⟨b, off, none⟩ = false) :
    Calls Tryz.prog 60 #[.pointer (some ⟨b, off, none⟩), .int .i64 o, .int .i64 y] w fun e w' => e = .returned (.bool (x == o)) ∧ w.setCell ⟨b, off, none⟩ (.int .i64 (casNew x o y)) = w' := by
  by_cases hx : x = o
  · have hc' : w.cell? ⟨b, off, none⟩ = some (.int .i64 o) := by rw [hc, hx]
    have h := run_call_cas_hit (P := Tryz.prog) Tryz.func67 (by kernel_rfl) (by kernel_rfl) (by kernel_rfl) .i64 (by kernel_rfl) (y := y) hc' hz
    have Hx := Lib.hid hx
    clear hx hc hc'
    go_enter Tryz.func60, Tryz.ntmps60
    go_wp2
    go_ret
    have hx := Hx.out
    exact ⟨by first | rfl | simp [hx], by rw [casNew, if_pos hx]⟩
  · have h := run_call_cas_miss (P := Tryz.prog) Tryz.func67 (by kernel_rfl) (by kernel_rfl) (by kernel_rfl) .i64 (by kernel_rfl) (y := y) hc hz hx
    have Hx := Lib.hid hx
    clear hx
    go_enter Tryz.func60, Tryz.ntmps60
    go_wp2
    go_ret
    have hx := Hx.out
    exact ⟨by first | rfl | simp [hx], by rw [casNew, if_neg hx]; exact setCell_self hc⟩

theorem u32_load (b off : Nat) (x : Int) (w : World) (hc : w.cell? ⟨b, off, none⟩ = some (.int .u32 x)) :
    Calls Tryz.prog 76 #[.pointer (some ⟨b, off, none⟩)] w fun e w' => e = .returned (.int .u32 x) ∧ w = w' := by
  have h := run_call_load (P := Tryz.prog) Tryz.func83 (by kernel_rfl) (by kernel_rfl) (by kernel_rfl) .u32 (by kernel_rfl) hc
  go_enter Tryz.func76, Tryz.ntmps76
  go_wp2
  go_ret
  exact ⟨rfl, rfl⟩

theorem u32_store (b off : Nat) (x y : Int) (w : World) (hc : w.cell? ⟨b, off, none⟩ = some (.int .u32 x)) (hz : w.frozen? ⟨b, off, none⟩ = false) :
    Calls Tryz.prog 78 #[.pointer (some ⟨b, off, none⟩), .int .u32 y] w fun e w' => e = .returned (.tuple #[]) ∧ w.setCell ⟨b, off, none⟩ (.int .u32 y) = w' := by
  have h := run_call_store (P := Tryz.prog) Tryz.func85 (by kernel_rfl) (by kernel_rfl) (by kernel_rfl) (by kernel_rfl) (k := .u32) (y := y) hc hz
  go_enter Tryz.func78, Tryz.ntmps78
  go_wp2
  go_end0
  exact ⟨rfl, rfl⟩

theorem u32_add (b off : Nat) (x y : Int) (w : World) (hc : w.cell? ⟨b, off, none⟩ = some (.int .u32 x)) (hz : w.frozen? ⟨b, off, none⟩ = false) :
    Calls Tryz.prog 73 #[.pointer (some ⟨b, off, none⟩), .int .u32 y] w fun e w' => e = .returned (.int .u32 (addK .u32 x y)) ∧ w.setCell ⟨b, off, none⟩ (.int .u32 (addK .u32 x y)) = w' := by
  have h := run_call_add (P := Tryz.prog) Tryz.func80 (by kernel_rfl) (by kernel_rfl) (by kernel_rfl) .u32 (by kernel_rfl) (y := y) hc hz (run_addK _ _ _ _)
  go_enter Tryz.func73, Tryz.ntmps73
  go_wp2
  go_ret
  exact ⟨rfl, rfl⟩

theorem u32_swap (b off : Nat) (x y : Int) (w : World) (hc : w.cell? ⟨b, off, none⟩ = some (.int .u32 x)) (hz : w.frozen? ⟨b, off, none⟩ = false) :
    Calls Tryz.prog 79 #[.pointer (some ⟨b, off, none⟩), .int .u32 y] w fun e w' => e = .returned (.int .u32 x) ∧ w.setCell ⟨b, off, none⟩ (.int .u32 y) = w' := by
  have h := run_call_swap (P := Tryz.prog) Tryz.func86 (by kernel_rfl) (by kernel_rfl) (by kernel_rfl) .u32 (by kernel_rfl) (y := y) hc hz
  go_enter Tryz.func79, Tryz.ntmps79
  go_wp2
  go_ret
  exact ⟨rfl, rfl⟩

theorem u32_and (b off : Nat) (x y : Int) (w : World) (hc : w.cell? ⟨b, off, none⟩ = some (.int .u32 x)) (hz : w.frozen? ⟨b, off, none⟩ = false) :
    Calls Tryz.prog 74 #[.pointer (some ⟨b, off, none⟩), .int .u32 y] w fun e w' => e = .returned (.int .u32 x) ∧ w.setCell ⟨b, off, none⟩ (.int .u32 (andK .u32 x y)) = w' := by
  have h := run_call_bits (P := Tryz.prog) Tryz.func81 (by kernel_rfl) (by kernel_rfl) (by kernel_rfl) .u32 .and (by kernel_rfl) (y := y) hc hz (run_andK _ _ _ _)
  go_enter Tryz.func74, Tryz.ntmps74
  go_wp2
  go_ret
  exact ⟨rfl, rfl⟩

theorem u32_or (b off : Nat) (x y : Int) (w : World) (hc : w.cell? ⟨b, off, none⟩ = some (.int .u32 x)) (hz : w.frozen? ⟨b, off, none⟩ = false) :
    Calls Tryz.prog 77 #[.pointer (some ⟨b, off, none⟩), .int .u32 y] w fun e w' => e = .returned (.int .u32 x) ∧ w.setCell ⟨b, off, none⟩ (.int .u32 (orK .u32 x y)) = w' := by
  have h := run_call_bits (P := Tryz.prog) Tryz.func84 (by kernel_rfl) (by kernel_rfl) (by kernel_rfl) .u32 .or (by kernel_rfl) (y := y) hc hz (run_orK _ _ _ _)
  go_enter Tryz.func77, Tryz.ntmps77
  go_wp2
  go_ret
  exact ⟨rfl, rfl⟩

theorem u32_cas (b off : Nat) (x o y : Int) (w : World) (hc : w.cell? ⟨b, off, none⟩ = some (.int .u32 x)) (hz : w.frozen? ⟨b, off, none⟩ = false) :
    Calls Tryz.prog 75 #[.pointer (some ⟨b, off, none⟩), .int .u32 o, .int .u32 y] w fun e w' => e = .returned (.bool (x == o)) ∧ w.setCell ⟨b, off, none⟩ (.int .u32 (casNew x o y)) = w' := by
  by_cases hx : x = o
  · have hc' : w.cell? ⟨b, off, none⟩ = some (.int .u32 o) := by rw [hc, hx]
    have h := run_call_cas_hit (P := Tryz.prog) Tryz.func82 (by kernel_rfl) (by kernel_rfl) (by kernel_rfl) .u32 (by kernel_rfl) (y := y) hc' hz
    have Hx := Lib.hid hx
    clear hx hc hc'
    go_enter Tryz.func75, Tryz.ntmps75
    go_wp2
    go_ret
    have hx := Hx.out
    exact ⟨by first | rfl | simp [hx], by rw [casNew, if_pos hx]⟩
  · have h := run_call_cas_miss (P := Tryz.prog) Tryz.func82 (by kernel_rfl) (by kernel_rfl) (by kernel_rfl) .u32 (by kernel_rfl) (y := y) hc hz hx
    have Hx := Lib.hid hx
    clear hx
    go_enter Tryz.func75, Tryz.ntmps75
    go_wp2
    go_ret
    have hx := Hx.out
    exact ⟨by first | rfl | simp [hx], by rw [casNew, if_neg hx]; exact setCell_self hc⟩

theorem u64_load (b off : Nat) (x : Int) (w : World) (hc : w.cell? ⟨b, off, none⟩ = some (.int .u64 x)) :
    Calls Tryz.prog 91 #[.pointer (some ⟨b, off, none⟩)] w fun e w' => e = .returned (.int .u64 x) ∧ w = w' := by
  have h := run_call_load (P := Tryz.prog) Tryz.func98 (by kernel_rfl) (by kernel_rfl) (by kernel_rfl) .u64 (by kernel_rfl) hc
  go_enter Tryz.func91, Tryz.ntmps91
  go_wp2
  go_ret
  exact ⟨rfl, rfl⟩

theorem u64_store (b off : Nat) (x y : Int) (w : World) (hc : w.cell? ⟨b, off, none⟩ = some (.int .u64 x)) (hz : w.frozen? ⟨b, off, none⟩ = false) :
    Calls Tryz.prog 93 #[.pointer (some ⟨b, off, none⟩), .int .u64 y] w fun e w' => e = .returned (.tuple #[]) ∧ w.setCell ⟨b, off, none⟩ (.int .u64 y) = w' := by
  have h := run_call_store (P := Tryz.prog) Tryz.func100 (by kernel_rfl) (by kernel_rfl) (by kernel_rfl) (by kernel_rfl) (k := .u64) (y := y) hc hz
  go_enter Tryz.func93, Tryz.ntmps93
  go_wp2
  go_end0
  exact ⟨rfl, rfl⟩

theorem u64_add (b off : Nat) (x y : Int) (w : World) (hc : w.cell? ⟨b, off, none⟩ = some (.int .u64 x)) (hz : w.frozen? ⟨b, off, none⟩ = false) :
    Calls Tryz.prog 88 #[.pointer (some ⟨b, off, none⟩), .int .u64 y] w fun e w' => e = .returned (.int .u64 (addK .u64 x y)) ∧ w.setCell ⟨b, off, none⟩ (.int .u64 (addK .u64 x y)) = w' := by
  have h := run_call_add (P := Tryz.prog) Tryz.func95 (by kernel_rfl) (by kernel_rfl) (by kernel_rfl) .u64 (by kernel_rfl) (y := y) hc hz (run_addK _ _ _ _)
  go_enter Tryz.func88, Tryz.ntmps88
  go_wp2
  go_ret
  exact ⟨rfl, rfl⟩

theorem u64_swap (b off : Nat) (x y : Int) (w : World) (hc : w.cell? ⟨b, off, none⟩ = some (.int .u64 x)) (hz : w.frozen? ⟨b, off, none⟩ = false) :
    Calls Tryz.prog 94 #[.pointer (some ⟨b, off, none⟩), .int .u64 y] w fun e w' => e = .returned (.int .u64 x) ∧ w.setCell ⟨b, off, none⟩ (.int .u64 y) = w' := by
  have h := run_call_swap (P := Tryz.prog) Tryz.func101 (by kernel_rfl) (by kernel_rfl) (by kernel_rfl) .u64 (by kernel_rfl) (y := y) hc hz
  go_enter Tryz.func94, Tryz.ntmps94
  go_wp2
  go_ret
  exact ⟨rfl, rfl⟩

theorem u64_and (b off : Nat) (x y : Int) (w : World) (hc : w.cell? ⟨b, off, none⟩ = some (.int .u64 x)) (hz : w.frozen? ⟨b, off, none⟩ = false) :
    Calls Tryz.prog 89 #[.pointer (some ⟨b, off, none⟩), .int .u64 y] w fun e w' => e = .returned (.int .u64 x) ∧ w.setCell ⟨b, off, none⟩ (.int .u64 (andK .u64 x y)) = w' := by
  have h := run_call_bits (P := Tryz.prog) Tryz.func96 (by kernel_rfl) (by kernel_rfl) (by kernel_rfl) .u64 .and (by kernel_rfl) (y := y) hc hz (run_andK _ _ _ _)
  go_enter Tryz.func89, Tryz.ntmps89
  go_wp2
  go_ret
  exact ⟨rfl, rfl⟩

theorem u64_or (b off : Nat) (x y : Int) (w : World) (hc : w.cell? ⟨b, off, none⟩ = some (.int .u64 x)) (hz : w.frozen? ⟨b, off, none⟩ = false) :
    Calls Tryz.prog 92 #[.pointer (some ⟨b, off, none⟩), .int .u64 y] w fun e w' => e = .returned (.int .u64 x) ∧ w.setCell ⟨b, off, none⟩ (.int .u64 (orK .u64 x y)) = w' := by
  have h := run_call_bits (P := Tryz.prog) Tryz.func99 (by kernel_rfl) (by kernel_rfl) (by kernel_rfl) .u64 .or (by kernel_rfl) (y := y) hc hz (run_orK _ _ _ _)
  go_enter Tryz.func92, Tryz.ntmps92
  go_wp2
  go_ret
  exact ⟨rfl, rfl⟩

theorem u64_cas (b off : Nat) (x o y : Int) (w : World) (hc : w.cell? ⟨b, off, none⟩ = some (.int .u64 x)) (hz : w.frozen? ⟨b, off, none⟩ = false) :
    Calls Tryz.prog 90 #[.pointer (some ⟨b, off, none⟩), .int .u64 o, .int .u64 y] w fun e w' => e = .returned (.bool (x == o)) ∧ w.setCell ⟨b, off, none⟩ (.int .u64 (casNew x o y)) = w' := by
  by_cases hx : x = o
  · have hc' : w.cell? ⟨b, off, none⟩ = some (.int .u64 o) := by rw [hc, hx]
    have h := run_call_cas_hit (P := Tryz.prog) Tryz.func97 (by kernel_rfl) (by kernel_rfl) (by kernel_rfl) .u64 (by kernel_rfl) (y := y) hc' hz
    have Hx := Lib.hid hx
    clear hx hc hc'
    go_enter Tryz.func90, Tryz.ntmps90
    go_wp2
    go_ret
    have hx := Hx.out
    exact ⟨by first | rfl | simp [hx], by rw [casNew, if_pos hx]⟩
  · have h := run_call_cas_miss (P := Tryz.prog) Tryz.func97 (by kernel_rfl) (by kernel_rfl) (by kernel_rfl) .u64 (by kernel_rfl) (y := y) hc hz hx
    have Hx := Lib.hid hx
    clear hx
    go_enter Tryz.func90, Tryz.ntmps90
    go_wp2
    go_ret
    have hx := Hx.out
    exact ⟨by first | rfl | simp [hx], by rw [casNew, if_neg hx]; exact setCell_self hc⟩

theorem up_load (b off : Nat) (x : Int) (w : World) (hc : w.cell? ⟨b, off, none⟩ = some (.int .u64 x)) :
    Calls Tryz.prog 106 #[.pointer (some ⟨b, off, none⟩)] w fun e w' => e = .returned (.int .u64 x) ∧ w = w' := by
  have h := run_call_load (P := Tryz.prog) Tryz.func113 (by kernel_rfl) (by kernel_rfl) (by kernel_rfl) .u64 (by kernel_rfl) hc
  go_enter Tryz.func106, Tryz.ntmps106
  go_wp2
  go_ret
  exact ⟨rfl, rfl⟩

theorem up_store (b off : Nat) (x y : Int) (w : World) (hc : w.cell? ⟨b, off, none⟩ = some (.int .u64 x)) (hz : w.frozen? ⟨b, off, none⟩ = false) :
    Calls Tryz.prog 108 #[.pointer (some ⟨b, off, none⟩), .int .u64 y] w fun e w' => e = .returned (.tuple #[]) ∧ w.setCell ⟨b, off, none⟩ (.int .u64 y) = w' := by
  have h := run_call_store (P := Tryz.prog) Tryz.func115 (by kernel_rfl) (by kernel_rfl) (by kernel_rfl) (by kernel_rfl) (k := .u64) (y := y) hc hz
  go_enter Tryz.func108, Tryz.ntmps108
  go_wp2
  go_end0
  exact ⟨rfl, rfl⟩

theorem up_add (b off : Nat) (x y : Int) (w : World) (hc : w.cell? ⟨b, off, none⟩ = some (.int .u64 x)) (hz : w.frozen? ⟨b, off, none⟩ = false) :
    Calls Tryz.prog 103 #[.pointer (some ⟨b, off, none⟩), .int .u64 y] w fun e w' => e = .returned (.int .u64 (addK .u64 x y)) ∧ w.setCell ⟨b, off, none⟩ (.int .u64 (addK .u64 x y)) = w' := by
  have h := run_call_add (P := Tryz.prog) Tryz.func110 (by kernel_rfl) (by kernel_rfl) (by kernel_rfl) .u64 (by kernel_rfl) (y := y) hc hz (run_addK _ _ _ _)
  go_enter Tryz.func103, Tryz.ntmps103
  go_wp2
  go_ret
  exact ⟨rfl, rfl⟩

theorem up_swap (b off : Nat) (x y : Int) (w : World) (hc : w.cell? ⟨b, off, none⟩ = some (.int .u64 x)) (hz : w.frozen? ⟨b, off, none⟩ = false) :
    Calls Tryz.prog 109 #[.pointer (some ⟨b, off, none⟩), .int .u64 y] w fun e w' => e = .returned (.int .u64 x) ∧ w.setCell ⟨b, off, none⟩ (.int .u64 y) = w' := by
  have h := run_call_swap (P := Tryz.prog) Tryz.func116 (by kernel_rfl) (by kernel_rfl) (by kernel_rfl) .u64 (by kernel_rfl) (y := y) hc hz
  go_enter Tryz.func109, Tryz.ntmps109
  go_wp2
  go_ret
  exact ⟨rfl, rfl⟩

theorem up_and (b off : Nat) (x y : Int) (w : World) (hc : w.cell? ⟨b, off, none⟩ = some (.int .u64 x)) (hz : w.frozen? ⟨b, off, none⟩ = false) :
    Calls Tryz.prog 104 #[.pointer (some ⟨b, off, none⟩), .int .u64 y] w fun e w' => e = .returned (.int .u64 x) ∧ w.setCell ⟨b, off, none⟩ (.int .u64 (andK .u64 x y)) = w' := by
  have h := run_call_bits (P := Tryz.prog) Tryz.func111 (by kernel_rfl) (by kernel_rfl) (by kernel_rfl) .u64 .and (by kernel_rfl) (y := y) hc hz (run_andK _ _ _ _)
  go_enter Tryz.func104, Tryz.ntmps104
  go_wp2
  go_ret
  exact ⟨rfl, rfl⟩

theorem up_or (b off : Nat) (x y : Int) (w : World) (hc : w.cell? ⟨b, off, none⟩ = some (.int .u64 x)) (hz : w.frozen? ⟨b, off, none⟩ = false) :
    Calls Tryz.prog 107 #[.pointer (some ⟨b, off, none⟩), .int .u64 y] w fun e w' => e = .returned (.int .u64 x) ∧ w.setCell ⟨b, off, none⟩ (.int .u64 (orK .u64 x y)) = w' := by
  have h := run_call_bits (P := Tryz.prog) Tryz.func114 (by kernel_rfl) (by kernel_rfl) (by kernel_rfl) .u64 .or (by kernel_rfl) (y := y) hc hz (run_orK _ _ _ _)
  go_enter Tryz.func107, Tryz.ntmps107
  go_wp2
  go_ret
  exact ⟨rfl, rfl⟩

theorem up_cas (b off : Nat) (x o y : Int) (w : World) (hc : w.cell? ⟨b, off, none⟩ = some (.int .u64 x)) (hz : w.frozen? ⟨b, off, none⟩ = false) :
    Calls Tryz.prog 105 #[.pointer (some ⟨b, off, none⟩), .int .u64 o, .int .u64 y] w fun e w' => e = .returned (.bool (x == o)) ∧ w.setCell ⟨b, off, none⟩ (.int .u64 (casNew x o y)) = w' := by
  by_cases hx : x = o
  · have hc' : w.cell? ⟨b, off, none⟩ = some (.int .u64 o) := by rw [hc, hx]
    have h := run_call_cas_hit (P := Tryz.prog) Tryz.func112 (by kernel_rfl) (by kernel_rfl) (by kernel_rfl) .u64 (by kernel_rfl) (y := y) hc' hz
    have Hx := Lib.hid hx
    clear hx hc hc'
    go_enter Tryz.func105, Tryz.ntmps105
    go_wp2
    go_ret
    have hx := Hx.out
    exact ⟨by first | rfl | simp [hx], by rw [casNew, if_pos hx]⟩
  · have h := run_call_cas_miss (P := Tryz.prog) Tryz.func112 (by kernel_rfl) (by kernel_rfl) (by kernel_rfl) .u64 (by kernel_rfl) (y := y) hc hz hx
    have Hx := Lib.hid hx
    clear hx
    go_enter Tryz.func105, Tryz.ntmps105
    go_wp2
    go_ret
    have hx := Hx.out
    exact ⟨by first | rfl | simp [hx], by rw [casNew, if_neg hx]; exact setCell_self hc⟩

end Go.Proofs.YtfkhflknigemgaaGreat
