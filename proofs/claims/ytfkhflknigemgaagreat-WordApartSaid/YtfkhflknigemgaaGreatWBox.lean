/-
  DERIVED. A WORD of any kind: how it lies, its one contract.
-/
import Derived.Test.YtfkhflknigemgaaGreatWDoI32
import Derived.Test.YtfkhflknigemgaaGreatWDoI64
import Derived.Test.YtfkhflknigemgaaGreatWDoU32
import Derived.Test.YtfkhflknigemgaaGreatWDoU64
import Derived.Test.YtfkhflknigemgaaGreatWDoUp
import Derived.Test.YtfkhflknigemgaaGreatWTruth
namespace Go.Proofs.YtfkhflknigemgaaGreat
open Go.RowKit
set_option maxRecDepth 100000

def doFn (kd : Int) : FuncId := if kd = 1 then 56 else if kd = 2 then 72 else if kd = 3 then 87 else if kd = 4 then 102 else if kd = 5 then 123 else 117
def boxTy (kd : Int) : TypeId := if kd = 1 then 83 else if kd = 2 then 91 else if kd = 3 then 99 else if kd = 4 then 106 else if kd = 5 then 117 else 113
def cellTy (kd : Int) : TypeId := if kd = 1 then 79 else if kd = 2 then 87 else if kd = 3 then 95 else if kd = 4 then 102 else if kd = 5 then 115 else 109
def boxVal (kd : Int) (bl : Nat) : Value := if kd = 1 then Value.agg #[.iface 75 (.pointer (some ⟨bl, 0, none⟩)), .int .i64 1] else if kd = 2 then Value.agg #[.iface 84 (.pointer (some ⟨bl, 0, none⟩)), .int .i64 2] else if kd = 3 then Value.agg #[.iface 92 (.pointer (some ⟨bl, 0, none⟩)), .int .i64 3] else if kd = 4 then Value.agg #[.iface 100 (.pointer (some ⟨bl, 0, none⟩)), .int .i64 4] else if kd = 5 then Value.agg #[.pointer (some ⟨bl, 0, none⟩)] else Value.agg #[.iface 107 (.pointer (some ⟨bl, 0, none⟩)), .int .i64 6]
def cellVal (kd : Int) : Int → Value := if kd = 1 then cv_i32 else if kd = 2 then cv_i64 else if kd = 3 then cv_u32 else if kd = 4 then cv_u64 else if kd = 5 then cv_bl else cv_up

/-- is it an access of that kind of word? -/
def canW (kd k : Int) : Bool := decide (1 ≤ k ∧ k ≤ 7) && (kd != 5 || k != 3 && k != 6 && k != 7)

/-- the box (kd, bl) holds v. -/
structure Holds (w : World) (kd : Int) (bl : Nat) (v : Int) : Prop where
  kind : 1 ≤ kd ∧ kd ≤ 6
  canon : Canon kd v
  blk : w.heap[bl]? = some (.cells #[cellVal kd v] (cellTy kd) (0, 0))

theorem Holds.turns {S : Nat → Prop} {w w' : World} {kd : Int} {bl : Nat} {v : Int} (h : Holds w kd bl v) (ht : Turns S w w') (hn : ¬ S bl) : Holds w' kd bl v := ⟨h.kind, h.canon, ht.heap h.blk hn⟩
theorem Holds.below {w w' : World} {kd : Int} {bl B : Nat} {v : Int} (h : Holds w kd bl v) (hb : Below B w w') (hlt : bl < B) : Holds w' kd bl v := ⟨h.kind, h.canon, by rw [hb.block bl hlt]; exact h.blk⟩

theorem box_method (kd : Int) (bl : Nat) (hk : 1 ≤ kd ∧ kd ≤ 6) (w : World) : (method 283 (boxTy kd) (boxVal kd bl) "larch/word.do").run Tryz.prog w = .ok (doFn kd, boxVal kd bl) w := by
  obtain rfl | rfl | rfl | rfl | rfl | rfl : kd = 1 ∨ kd = 2 ∨ kd = 3 ∨ kd = 4 ∨ kd = 5 ∨ kd = 6 := by omega
  all_goals kernel_rfl

theorem can_num (k : Int) (h : 1 ≤ k ∧ k ≤ 7) : k = 1 ∨ k = 2 ∨ k = 3 ∨ k = 4 ∨ k = 5 ∨ k = 6 ∨ k = 7 := by omega
theorem can_bl (k : Int) (h : canW 5 k = true) : k = 1 ∨ k = 2 ∨ k = 4 ∨ k = 5 := by
  simp [canW] at h; omega

theorem canon_cut (kd b : Int) (hk : 1 ≤ kd ∧ kd ≤ 6) (hb : 0 ≤ b ∧ b < 18446744073709551616) : Canon kd (cutW kd b) := by
  unfold Canon cutW
  obtain rfl | rfl | rfl | rfl | rfl | rfl : kd = 1 ∨ kd = 2 ∨ kd = 3 ∨ kd = 4 ∨ kd = 5 ∨ kd = 6 := by omega
  all_goals simp
  all_goals first | omega | (split <;> omega)

def bitsOf (kd : Int) : Nat := if kd = 1 ∨ kd = 3 then 32 else if kd = 5 then 1 else 64
theorem canon_iff (kd v : Int) : Canon kd v ↔ 0 ≤ v ∧ v < ((2 ^ bitsOf kd : Nat) : Int) := by
  unfold Canon bitsOf
  split
  · exact Iff.rfl
  · split
    · constructor <;> (intro h; simp at h ⊢; omega)
    · exact Iff.rfl
theorem canon_lt (kd v : Int) (h : Canon kd v) : 0 ≤ v ∧ v < 18446744073709551616 := by
  unfold Canon at h
  obtain ⟨h0, h1⟩ := h
  refine ⟨h0, ?_⟩
  split at h1
  · omega
  · split at h1 <;> omega
theorem canon_bits (kd v x : Int) (op : BinOp) (hop : op = .and ∨ op = .or) (hv : Canon kd v) (hx : Canon kd x) : Canon kd (Go.bits op .u64 v x) := by
  rw [canon_iff] at hv hx ⊢
  refine bits_canon op hop v x (bitsOf kd) ?_ hv hx
  unfold bitsOf
  split
  · omega
  · split <;> omega
theorem canon_new (kd v k a b : Int) (hk : 1 ≤ kd ∧ kd ≤ 6) (hv : Canon kd v) (ha : 0 ≤ a ∧ a < 18446744073709551616) (hb : 0 ≤ b ∧ b < 18446744073709551616) : Canon kd (wNew kd v k a b) := by
  have ca := canon_cut kd a hk ha
  have cb := canon_cut kd b hk hb
  unfold wNew
  split
  · exact ca
  · split
    · exact canon_cut kd _ hk (by omega)
    · split
      · unfold casNew; split
        · exact cb
        · exact hv
      · split
        · exact canon_bits kd v _ .and (.inl rfl) hv ca
        · split
          · exact canon_bits kd v _ .or (.inr rfl) hv ca
          · exact hv

/-- THE CONTRACT of an access. -/
theorem box_do (kd : Int) (bl : Nat) (v k a b : Int) (w : World) (hh : Holds w kd bl v) (hc : canW kd k = true) (ha : 0 ≤ a ∧ a < 18446744073709551616) (hb : 0 ≤ b ∧ b < 18446744073709551616) :
    Calls Tryz.prog (doFn kd) #[boxVal kd bl, .agg #[.int .i64 k, .int .u64 a, .int .u64 b]] w fun e w' => e = .returned (.agg #[.int .u64 (wVal kd v k a), .bool (wOk kd v k a)]) ∧ Turns (fun i => i = bl) w w' ∧ Holds w' kd bl (wNew kd v k a b) := by
  obtain ⟨hk, hv, hl⟩ := hh
  have hcn := canon_new kd v k a b hk hv ha hb
  have h7 : 1 ≤ k ∧ k ≤ 7 := by simp [canW] at hc; omega
  suffices h : Calls Tryz.prog (doFn kd) #[boxVal kd bl, .agg #[.int .i64 k, .int .u64 a, .int .u64 b]] w (DoPost kd bl (cellVal kd) (cellTy kd) v k a b w) from h.mono fun e w' ⟨h1, h2, h3⟩ => ⟨h1, h2, hk, hcn, h3⟩
  obtain rfl | rfl | rfl | rfl | rfl | rfl : kd = 1 ∨ kd = 2 ∨ kd = 3 ∨ kd = 4 ∨ kd = 5 ∨ kd = 6 := by omega
  · have hv' : 0 ≤ v ∧ v < 4294967296 := by simpa [Canon] using hv
    obtain rfl | rfl | rfl | rfl | rfl | rfl | rfl := can_num k h7
    · exact do_i32_load bl v a b w hv' ha hb hl
    · exact do_i32_store bl v a b w hv' ha hb hl
    · exact do_i32_add bl v a b w hv' ha hb hl
    · exact do_i32_swap bl v a b w hv' ha hb hl
    · exact do_i32_cas bl v a b w hv' ha hb hl
    · exact do_i32_and bl v a b w hv' ha hb hl
    · exact do_i32_or bl v a b w hv' ha hb hl
  · have hv' : 0 ≤ v ∧ v < 18446744073709551616 := by simpa [Canon] using hv
    obtain rfl | rfl | rfl | rfl | rfl | rfl | rfl := can_num k h7
    · exact do_i64_load bl v a b w hv' ha hb hl
    · exact do_i64_store bl v a b w hv' ha hb hl
    · exact do_i64_add bl v a b w hv' ha hb hl
    · exact do_i64_swap bl v a b w hv' ha hb hl
    · exact do_i64_cas bl v a b w hv' ha hb hl
    · exact do_i64_and bl v a b w hv' ha hb hl
    · exact do_i64_or bl v a b w hv' ha hb hl
  · have hv' : 0 ≤ v ∧ v < 4294967296 := by simpa [Canon] using hv
    obtain rfl | rfl | rfl | rfl | rfl | rfl | rfl := can_num k h7
    · exact do_u32_load bl v a b w hv' ha hb hl
    · exact do_u32_store bl v a b w hv' ha hb hl
    · exact do_u32_add bl v a b w hv' ha hb hl
    · exact do_u32_swap bl v a b w hv' ha hb hl
    · exact do_u32_cas bl v a b w hv' ha hb hl
    · exact do_u32_and bl v a b w hv' ha hb hl
    · exact do_u32_or bl v a b w hv' ha hb hl
  · have hv' : 0 ≤ v ∧ v < 18446744073709551616 := by simpa [Canon] using hv
    obtain rfl | rfl | rfl | rfl | rfl | rfl | rfl := can_num k h7
    · exact do_u64_load bl v a b w hv' ha hb hl
    · exact do_u64_store bl v a b w hv' ha hb hl
    · exact do_u64_add bl v a b w hv' ha hb hl
    · exact do_u64_swap bl v a b w hv' ha hb hl
    · exact do_u64_cas bl v a b w hv' ha hb hl
    · exact do_u64_and bl v a b w hv' ha hb hl
    · exact do_u64_or bl v a b w hv' ha hb hl
  · have hv' : 0 ≤ v ∧ v ≤ 1 := by simpa [Canon] using hv
    obtain rfl | rfl | rfl | rfl := can_bl k hc
    · exact do_bl_load bl v a b w hv' hl
    · exact do_bl_store bl v a b w hv' hl
    · exact do_bl_swap bl v a b w hv' hl
    · exact do_bl_cas bl v a b w hv' hl
  · have hv' : 0 ≤ v ∧ v < 18446744073709551616 := by simpa [Canon] using hv
    obtain rfl | rfl | rfl | rfl | rfl | rfl | rfl := can_num k h7
    · exact do_up_load bl v a b w hv' ha hb hl
    · exact do_up_store bl v a b w hv' ha hb hl
    · exact do_up_add bl v a b w hv' ha hb hl
    · exact do_up_swap bl v a b w hv' ha hb hl
    · exact do_up_cas bl v a b w hv' ha hb hl
    · exact do_up_and bl v a b w hv' ha hb hl
    · exact do_up_or bl v a b w hv' ha hb hl

end Go.Proofs.YtfkhflknigemgaaGreat
