/-
  DERIVED. THE WALK over larchlaw02's CellRound.
-/
import Derived.Test.YtjifoggfndicoaaAwake
namespace Go.Proofs.Ytjifoggfndicoaa
open Go.RowKit
set_option maxRecDepth 100000

theorem set_new (w : World) (u v : Value) (e : TypeId) : (w.alloc (.cells #[u] e)).setCell ⟨w.heap.size, 0, none⟩ v = w.alloc (.cells #[v] e) := by
  rw [World.setCell_alloc_at _ _ _ _ _ rfl]
  rfl

section
variable (w : World) (x d o : Int)
theorem n_load : Calls Try.prog 22 #[.pointer (some ⟨w.heap.size, 0, none⟩), .nilIface] (w.alloc (.cells #[.int .i64 x] 45)) fun e w' => e = .returned (.int .i64 x) ∧ w.alloc (.cells #[.int .i64 x] 45) = w' := by
  refine (num_load .nilIface w.heap.size x _ (fun w' => w.alloc (.cells #[.int .i64 x] 45) = w') (pass_nil 1 _) (by rintro w1 rfl; exact heap_alloc_new w _)).mono ?_
  exact fun e w' h => h
theorem n_add : Calls Try.prog 23 #[.pointer (some ⟨w.heap.size, 0, none⟩), .nilIface, .int .i64 d] (w.alloc (.cells #[.int .i64 x] 45)) fun e w' => e = .returned (.int .i64 (wrap64 (x + d))) ∧ w.alloc (.cells #[.int .i64 (wrap64 (x + d))] 45) = w' := by
  refine (num_add .nilIface w.heap.size x d _ (fun w' => w.alloc (.cells #[.int .i64 x] 45) = w') (pass_nil 3 _) (by rintro w1 rfl; exact heap_alloc_new w _)).mono ?_
  rintro e w' ⟨h, w1, rfl, rfl⟩
  exact ⟨h, (set_new _ _ _ _).symm⟩
theorem n_swap : Calls Try.prog 24 #[.pointer (some ⟨w.heap.size, 0, none⟩), .nilIface, .int .i64 d] (w.alloc (.cells #[.int .i64 x] 45)) fun e w' => e = .returned (.int .i64 x) ∧ w.alloc (.cells #[.int .i64 d] 45) = w' := by
  refine (num_swap .nilIface w.heap.size x d _ (fun w' => w.alloc (.cells #[.int .i64 x] 45) = w') (pass_nil 4 _) (by rintro w1 rfl; exact heap_alloc_new w _)).mono ?_
  rintro e w' ⟨h, w1, rfl, rfl⟩
  exact ⟨h, (set_new _ _ _ _).symm⟩
theorem n_cas : Calls Try.prog 25 #[.pointer (some ⟨w.heap.size, 0, none⟩), .nilIface, .int .i64 o, .int .i64 d] (w.alloc (.cells #[.int .i64 x] 45)) fun e w' => e = .returned (.bool (x == o)) ∧ w.alloc (.cells #[.int .i64 (casNew x o d)] 45) = w' := by
  refine (num_cas .nilIface w.heap.size x o d _ (fun w' => w.alloc (.cells #[.int .i64 x] 45) = w') (pass_nil 5 _) (by rintro w1 rfl; exact heap_alloc_new w _)).mono ?_
  rintro e w' ⟨h, w1, rfl, rfl⟩
  exact ⟨h, (set_new _ _ _ _).symm⟩
theorem n_and : Calls Try.prog 27 #[.pointer (some ⟨w.heap.size, 0, none⟩), .nilIface, .int .i64 d] (w.alloc (.cells #[.int .i64 x] 45)) fun e w' => e = .returned (.int .i64 x) ∧ w.alloc (.cells #[.int .i64 (Go.bits .and .i64 x d)] 45) = w' := by
  refine (num_and .nilIface w.heap.size x d _ (fun w' => w.alloc (.cells #[.int .i64 x] 45) = w') (pass_nil 6 _) (by rintro w1 rfl; exact heap_alloc_new w _)).mono ?_
  rintro e w' ⟨h, w1, rfl, rfl⟩
  exact ⟨h, (set_new _ _ _ _).symm⟩
theorem n_or : Calls Try.prog 26 #[.pointer (some ⟨w.heap.size, 0, none⟩), .nilIface, .int .i64 d] (w.alloc (.cells #[.int .i64 x] 45)) fun e w' => e = .returned (.int .i64 x) ∧ w.alloc (.cells #[.int .i64 (Go.bits .or .i64 x d)] 45) = w' := by
  refine (num_or .nilIface w.heap.size x d _ (fun w' => w.alloc (.cells #[.int .i64 x] 45) = w') (pass_nil 7 _) (by rintro w1 rfl; exact heap_alloc_new w _)).mono ?_
  rintro e w' ⟨h, w1, rfl, rfl⟩
  exact ⟨h, (set_new _ _ _ _).symm⟩
end

theorem add_back (n d : Int) (hn : -9223372036854775808 ≤ n ∧ n ≤ 9223372036854775807) : wrap64 (wrap64 (n + d) + wrap64 (-d)) = n := by
  unfold wrap64; omega
theorem cas_same (x y : Int) : casNew x x y = y := by simp [casNew]

theorem wrap_bv (r : BitVec 64) : IntKind.i64.wrap (r.toNat : Int) = r.toInt := by
  rw [IntWalk.i64_left, BitVec.toInt_eq_toNat_cond]
  have := r.isLt
  unfold wrap64
  split <;> omega
theorem bits_and_bv (x y : Int) : Go.bits .and .i64 x y = (BitVec.ofInt 64 x &&& BitVec.ofInt 64 y).toInt := wrap_bv _
theorem bits_or_bv (x y : Int) : Go.bits .or .i64 x y = (BitVec.ofInt 64 x ||| BitVec.ofInt 64 y).toInt := wrap_bv _
theorem bv_back (y : Int) (hy : -9223372036854775808 ≤ y ∧ y ≤ 9223372036854775807) : (BitVec.ofInt 64 y).toInt = y := by
  rw [BitVec.toInt_ofInt]
  exact Int.bmod_eq_of_le (by simp; omega) (by simp; omega)

theorem and_or_self (n d : Int) (hd : -9223372036854775808 ≤ d ∧ d ≤ 9223372036854775807) : Go.bits .and .i64 (Go.bits .or .i64 n d) d = d := by
  rw [bits_or_bv, bits_and_bv, BitVec.ofInt_toInt]
  have : (BitVec.ofInt 64 n ||| BitVec.ofInt 64 d) &&& BitVec.ofInt 64 d = BitVec.ofInt 64 d := by
    ext i hi
    simp
    intro h
    exact .inr h
  rw [this, bv_back d hd]

theorem round_any (n d : Int) (w : World) (hn : -9223372036854775808 ≤ n ∧ n ≤ 9223372036854775807) (hd : -9223372036854775808 ≤ d ∧ d ≤ 9223372036854775807) :
    Calls Try.prog 5 #[.int .i64 n, .int .i64 d] w fun e w' => e = .returned (.bool true) ∧ Below w.heap.size w w' := by
  have Hn := Lib.hid hn
  have Hd := Lib.hid hd
  clear hn hd
  go_enter Try.func5, Try.ntmps5
  go_wp2_with fail
  refine (awake_any _).mono ?_
  rintro e wA ⟨rfl, hb⟩
  have HB := Lib.hid hb
  clear hb
  go_wp2_with (go_at_call 17; refine (newnum_any _ _).mono ?_; rintro e w2 ⟨rfl, rfl⟩)
  refine (n_add wA n d).mono ?_
  rintro e w2 ⟨rfl, rfl⟩
  go_wp2_with fail
  refine (n_add wA _ _).mono ?_
  rintro e w2 ⟨rfl, rfl⟩
  rw [add_back n d Hn.out]
  go_wp2_with fail
  refine (n_swap wA n d).mono ?_
  rintro e w2 ⟨rfl, rfl⟩
  go_wp2_with fail
  refine (n_swap wA d n).mono ?_
  rintro e w2 ⟨rfl, rfl⟩
  go_wp2_with fail
  refine (n_cas wA n d n).mono ?_
  rintro e w2 ⟨rfl, rfl⟩
  rw [cas_same]
  go_wp2_with fail
  refine (n_cas wA d n d).mono ?_
  rintro e w2 ⟨rfl, rfl⟩
  rw [cas_same]
  go_wp2_with fail
  refine (n_or wA n d).mono ?_
  rintro e w2 ⟨rfl, rfl⟩
  go_wp2_with fail
  refine (n_and wA _ d).mono ?_
  rintro e w2 ⟨rfl, rfl⟩
  rw [and_or_self n d Hd.out]
  go_wp2_with fail
  refine (n_load wA d).mono ?_
  rintro e w2 ⟨rfl, rfl⟩
  go_wp2_with fail
  refine (n_cas wA d 0 n).mono ?_
  rintro e w2 ⟨rfl, rfl⟩
  go_wp2
  go_ret
  have h5 : ((d == n) == (n == d)) = true := by
    by_cases h : d = n
    · subst h; simp
    · have h' : ¬ n = d := fun e => h e.symm
      rw [beq_eq_false_iff_ne.2 h, beq_eq_false_iff_ne.2 h']
      rfl
  exact ⟨congrArg (fun b => Ending.returned (.bool b)) h5, HB.out.alloc HB.out.size _⟩

theorem wf_range {n : Int} (h : (Lit.int .i64 n).wf = true) : -9223372036854775808 ≤ n ∧ n ≤ 9223372036854775807 := by
  simpa [Lit.wf, IntKind.min, IntKind.max, IntKind.signed, IntKind.bits] using h

theorem round_law (n : Int) (hn : (Lit.int .i64 n).wf = true) (d : Int) (hd : (Lit.int .i64 d).wf = true) (w : World) :
    Calls Try.prog 5 #[.int .i64 n, .int .i64 d] w fun e w' => e = .returned (.bool true) ∧ Below w.heap.size w w' := round_any n d w (wf_range hn) (wf_range hd)

end Go.Proofs.Ytjifoggfndicoaa
