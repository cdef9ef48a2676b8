/-
  DERIVED. PLAIN: what an access to a word of bits comes to. No program in sight.
-/
import Derived.Test.YtfkhflknigemgaaGreatWAtom
import Derived.Laws.Bits64b
import Derived.Laws.ResultCell
import Derived.Deep.QuietTactic
import Derived.BigQuiet
namespace Go.Proofs.YtfkhflknigemgaaGreat
open Go.RowKit

/-- what a word of the kind holds of these bits. -/
def cutW (kd b : Int) : Int := if kd = 1 ∨ kd = 3 then b % 4294967296 else if kd = 5 then (if b = 0 then 0 else 1) else b
def wVal (kd v k a : Int) : Int := if k = 2 ∨ k = 5 then 0 else if k = 3 then cutW kd ((v + a) % 18446744073709551616) else v
def wOk (kd v k a : Int) : Bool := if k = 5 then v == cutW kd a else true
def wNew (kd v k a b : Int) : Int :=
  if k = 2 ∨ k = 4 then cutW kd a else if k = 3 then cutW kd ((v + a) % 18446744073709551616) else if k = 5 then casNew v (cutW kd a) (cutW kd b)
  else if k = 6 then Go.bits .and .u64 v (cutW kd a) else if k = 7 then Go.bits .or .u64 v (cutW kd a) else v

/-- what words of the kind hold. -/
def Canon (kd v : Int) : Prop := 0 ≤ v ∧ (if kd = 1 ∨ kd = 3 then v < 4294967296 else if kd = 5 then v ≤ 1 else v < 18446744073709551616)

theorem wrap_u64 (n : Int) : IntKind.u64.wrap n = n % 18446744073709551616 := by
  unfold IntKind.wrap
  simp [IntKind.signed, IntKind.bits]
theorem wrap_u32 (n : Int) : IntKind.u32.wrap n = n % 4294967296 := by
  unfold IntKind.wrap
  simp [IntKind.signed, IntKind.bits]

/-! the four widths: the cell's number of what the word holds, and back. -/
theorem p_i32_add (v a : Int) : addK .i32 (wrap32 v) (wrap32 a) = wrap32 ((v + a) % 18446744073709551616 % 4294967296) := by
  unfold addK; rw [IntWalk.i32_left]; unfold wrap32; omega
theorem p_i64_add (v a : Int) : addK .i64 (wrap64 v) (wrap64 a) = wrap64 ((v + a) % 18446744073709551616) := by
  unfold addK; rw [IntWalk.i64_left]; unfold wrap64; omega
theorem p_u32_add (v a : Int) : addK .u32 v (a % 4294967296) = (v + a) % 18446744073709551616 % 4294967296 := by
  unfold addK; rw [wrap_u32]; omega
theorem p_u64_add (v a : Int) : addK .u64 v a = (v + a) % 18446744073709551616 := by
  unfold addK; rw [wrap_u64]

theorem p_i32_out (v : Int) (h : 0 ≤ v ∧ v < 4294967296) : IntKind.u64.wrap (wrap32 v) % 4294967296 = v := by
  rw [wrap_u64]; unfold wrap32; omega
theorem p_i64_out (v : Int) (h : 0 ≤ v ∧ v < 18446744073709551616) : IntKind.u64.wrap (wrap64 v) = v := by
  rw [wrap_u64]; unfold wrap64; omega
theorem p_u32_out (v : Int) (h : 0 ≤ v ∧ v < 4294967296) : IntKind.u64.wrap v % 4294967296 = v := by
  rw [wrap_u64]; omega

theorem p_i32_arg (a : Int) : wrap32 a = wrap32 (a % 4294967296) := by unfold wrap32; omega
theorem p_i32_eq (v a : Int) (h : 0 ≤ v ∧ v < 4294967296) : (wrap32 v == wrap32 a) = (v == a % 4294967296) := by
  rw [Bool.eq_iff_iff, beq_iff_eq, beq_iff_eq]; unfold wrap32; omega
theorem p_i64_eq (v a : Int) (h : 0 ≤ v ∧ v < 18446744073709551616) (ha : 0 ≤ a ∧ a < 18446744073709551616) : (wrap64 v == wrap64 a) = (v == a) := by
  rw [Bool.eq_iff_iff, beq_iff_eq, beq_iff_eq]; unfold wrap64; omega
theorem p_i32_cas (v a b : Int) (h : 0 ≤ v ∧ v < 4294967296) : casNew (wrap32 v) (wrap32 a) (wrap32 b) = wrap32 (casNew v (a % 4294967296) (b % 4294967296)) := by
  unfold casNew
  by_cases e : v = a % 4294967296
  · rw [if_pos e, if_pos (by rw [e]; exact (p_i32_arg a).symm)]; exact p_i32_arg b
  · rw [if_neg e, if_neg (by unfold wrap32; omega)]
theorem p_i64_cas (v a b : Int) (h : 0 ≤ v ∧ v < 18446744073709551616) (ha : 0 ≤ a ∧ a < 18446744073709551616) : casNew (wrap64 v) (wrap64 a) (wrap64 b) = wrap64 (casNew v a b) := by
  unfold casNew
  by_cases e : v = a
  · rw [if_pos e, if_pos (by rw [e])]
  · rw [if_neg e, if_neg (by unfold wrap64; omega)]

/-! bits -/
theorem ofInt_wrap32 (v : Int) : BitVec.ofInt 32 (wrap32 v) = BitVec.ofInt 32 v := by
  apply BitVec.eq_of_toNat_eq
  simp only [BitVec.toNat_ofInt]
  unfold wrap32
  congr 1
  omega
theorem ofInt_wrap64 (v : Int) : BitVec.ofInt 64 (wrap64 v) = BitVec.ofInt 64 v := by
  apply BitVec.eq_of_toNat_eq
  simp only [BitVec.toNat_ofInt]
  unfold wrap64
  congr 1
  omega

theorem bits_u64 (op : BinOp) (hop : op = .and ∨ op = .or) (n m : Nat) (hn : n < 18446744073709551616) (hm : m < 18446744073709551616) :
    Go.bits op .u64 (n : Int) (m : Int) = (((if op = .and then n &&& m else n ||| m) : Nat) : Int) := by
  rcases hop with rfl | rfl
  · show IntKind.u64.wrap ((BitVec.ofInt 64 (n : Int) &&& BitVec.ofInt 64 (m : Int)).toNat : Int) = _
    rw [BitVec.toNat_and, BitVec.toNat_ofInt, BitVec.toNat_ofInt, wrap_u64]
    have e1 : ((n : Int) % (2 ^ 64 : Nat)).toNat = n := by simp; omega
    have e2 : ((m : Int) % (2 ^ 64 : Nat)).toNat = m := by simp; omega
    rw [e1, e2]
    have : n &&& m ≤ n := Nat.and_le_left
    simp
    omega
  · show IntKind.u64.wrap ((BitVec.ofInt 64 (n : Int) ||| BitVec.ofInt 64 (m : Int)).toNat : Int) = _
    rw [BitVec.toNat_or, BitVec.toNat_ofInt, BitVec.toNat_ofInt, wrap_u64]
    have e1 : ((n : Int) % (2 ^ 64 : Nat)).toNat = n := by simp; omega
    have e2 : ((m : Int) % (2 ^ 64 : Nat)).toNat = m := by simp; omega
    rw [e1, e2]
    have : n ||| m < 2 ^ 64 := Nat.or_lt_two_pow (by omega) (by omega)
    simp
    omega


theorem bits_lt (op : BinOp) (hop : op = .and ∨ op = .or) (n m N : Nat) (hn : n < 2 ^ N) (hm : m < 2 ^ N) : (if op = .and then n &&& m else n ||| m) < 2 ^ N := by
  rcases hop with rfl | rfl
  · simp only [if_true]
    exact Nat.lt_of_le_of_lt Nat.and_le_left hn
  · simp only [reduceCtorEq, if_false]
    exact Nat.or_lt_two_pow hn hm

theorem bits_of (op : BinOp) (hop : op = .and ∨ op = .or) (k : IntKind) (x y : Int) (n m : Nat) (hx : (BitVec.ofInt k.bits x).toNat = n) (hy : (BitVec.ofInt k.bits y).toNat = m) :
    Go.bits op k x y = k.wrap (((if op = .and then n &&& m else n ||| m) : Nat) : Int) := by
  rcases hop with rfl | rfl
  · show k.wrap ((BitVec.ofInt k.bits x &&& BitVec.ofInt k.bits y).toNat : Int) = _
    rw [BitVec.toNat_and, hx, hy]
    rfl
  · show k.wrap ((BitVec.ofInt k.bits x ||| BitVec.ofInt k.bits y).toNat : Int) = _
    rw [BitVec.toNat_or, hx, hy]
    rfl

theorem p_bits_i32 (op : BinOp) (hop : op = .and ∨ op = .or) (v a : Int) (h : 0 ≤ v ∧ v < 4294967296) : Go.bits op .i32 (wrap32 v) (wrap32 a) = wrap32 (Go.bits op .u64 v (a % 4294967296)) := by
  have e1 : v = ((v.toNat : Nat) : Int) := by omega
  have e2 : a % 4294967296 = (((a % 4294967296).toNat : Nat) : Int) := by omega
  have h1 := bits_u64 op hop v.toNat (a % 4294967296).toNat (by omega) (by omega)
  rw [← e1, ← e2] at h1
  rw [h1, bits_of op hop .i32 _ _ v.toNat (a % 4294967296).toNat]
  · rw [IntWalk.i32_left]
  · show (BitVec.ofInt 32 (wrap32 v)).toNat = _
    rw [ofInt_wrap32, BitVec.toNat_ofInt]
    simp
    omega
  · show (BitVec.ofInt 32 (wrap32 a)).toNat = _
    rw [ofInt_wrap32, BitVec.toNat_ofInt]
    simp
theorem p_bits_i64 (op : BinOp) (hop : op = .and ∨ op = .or) (v a : Int) (h : 0 ≤ v ∧ v < 18446744073709551616) (ha : 0 ≤ a ∧ a < 18446744073709551616) : Go.bits op .i64 (wrap64 v) (wrap64 a) = wrap64 (Go.bits op .u64 v a) := by
  have e1 : v = ((v.toNat : Nat) : Int) := by omega
  have e2 : a = ((a.toNat : Nat) : Int) := by omega
  have h1 := bits_u64 op hop v.toNat a.toNat (by omega) (by omega)
  rw [← e1, ← e2] at h1
  rw [h1, bits_of op hop .i64 _ _ v.toNat a.toNat]
  · rw [IntWalk.i64_left]
  · show (BitVec.ofInt 64 (wrap64 v)).toNat = _
    rw [ofInt_wrap64, BitVec.toNat_ofInt]
    simp
    omega
  · show (BitVec.ofInt 64 (wrap64 a)).toNat = _
    rw [ofInt_wrap64, BitVec.toNat_ofInt]
    simp
    omega
theorem p_bits_u32 (op : BinOp) (hop : op = .and ∨ op = .or) (v a : Int) (h : 0 ≤ v ∧ v < 4294967296) : Go.bits op .u32 v (a % 4294967296) = Go.bits op .u64 v (a % 4294967296) := by
  have e1 : v = ((v.toNat : Nat) : Int) := by omega
  have e2 : a % 4294967296 = (((a % 4294967296).toNat : Nat) : Int) := by omega
  have h1 := bits_u64 op hop v.toNat (a % 4294967296).toNat (by omega) (by omega)
  rw [← e1, ← e2] at h1
  have h2 := bits_lt op hop v.toNat (a % 4294967296).toNat 32 (by omega) (by omega)
  rw [h1, bits_of op hop .u32 _ _ v.toNat (a % 4294967296).toNat]
  · rw [wrap_u32]
    omega
  · show (BitVec.ofInt 32 v).toNat = _
    rw [BitVec.toNat_ofInt]
    simp
    omega
  · show (BitVec.ofInt 32 (a % 4294967296)).toNat = _
    rw [BitVec.toNat_ofInt]
    simp
theorem p_mask (b : Int) (h : 0 ≤ b ∧ b < 18446744073709551616) : Go.bits .and .u64 b 4294967295 = b % 4294967296 := by
  have h1 := bits_u64 .and (.inl rfl) b.toNat 4294967295 (by omega) (by omega)
  have e1 : b = ((b.toNat : Nat) : Int) := by omega
  rw [← e1] at h1
  have h2 : b.toNat &&& 4294967295 = b.toNat % 4294967296 := Nat.and_two_pow_sub_one_eq_mod b.toNat 32
  simp only [if_true] at h1
  rw [h2] at h1
  rw [show (4294967295 : Int) = ((4294967295 : Nat) : Int) from rfl, h1]
  omega

theorem bits_canon (op : BinOp) (hop : op = .and ∨ op = .or) (v x : Int) (N : Nat) (hN : N ≤ 64) (h : 0 ≤ v ∧ v < ((2 ^ N : Nat) : Int)) (hx : 0 ≤ x ∧ x < ((2 ^ N : Nat) : Int)) : 0 ≤ Go.bits op .u64 v x ∧ Go.bits op .u64 v x < ((2 ^ N : Nat) : Int) := by
  have hp : 2 ^ N ≤ 2 ^ 64 := Nat.pow_le_pow_right (by omega) hN
  have e1 : v = ((v.toNat : Nat) : Int) := by omega
  have e2 : x = ((x.toNat : Nat) : Int) := by omega
  have h1 := bits_u64 op hop v.toNat x.toNat (by omega) (by omega)
  rw [← e1, ← e2] at h1
  have h2 := bits_lt op hop v.toNat x.toNat N (by omega) (by omega)
  rw [h1]
  omega

end Go.Proofs.YtfkhflknigemgaaGreat
