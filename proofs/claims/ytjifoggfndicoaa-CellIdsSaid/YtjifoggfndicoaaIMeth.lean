/-
  DERIVED. THE WALKS over Ids' of and number, slices.Index, and the cells' methods with the tape.
-/
import Derived.Test.YtjifoggfndicoaaIRow
namespace Go.Proofs.Ytjifoggfndicoaa
open Go.RowKit
set_option maxRecDepth 100000

theorem of_any (A nt : Nat) (n : Int) (w : World) (h : ThRow w A nt nt) (hn : right nt n = true) : Calls Try.prog 82 #[.int .i64 n, .pointer (some ⟨A + 1, 0, none⟩)] w fun e w' => e = .returned (.pointer (thP A n)) ∧ w = w' := by
  have hr := hn
  simp [right] at hr
  by_cases h0 : n < 0
  · have E := Lib.hid (show thP A n = none by simp [thP, h0])
    go_enter Try.func82, Try.ntmps82
    go_wp2
    go_ret
    exact ⟨by rw [E.out]; rfl, rfl⟩
  · obtain ⟨m, rfl⟩ := Int.eq_ofNat_of_zero_le (show 0 ≤ n by omega)
    have E := Lib.hid (show thP A (m : Int) = some ⟨A + 2 + m, 0, none⟩ by simp [thP])
    have hm : m < nt := by omega
    have c0 := h.cell hm
    have c1 := cell_of_heap h.var (j := 0) rfl
    have h0' : decide ((m : Int) < 0) = false := by simp
    have m0 : (0 : Int) ≤ (m : Int) := by omega
    have m1 : (m : Int) < (nt : Int) := by omega
    go_enter Try.func82, Try.ntmps82
    go_wp2
    go_ret
    exact ⟨by rw [E.out]; rfl, rfl⟩

theorem run_eql_nil {P : Program} {tp te : TypeId} (w : World) (hp : P.underlying tp = some (.pointer te)) (x y : Option Addr) (h : x = none ∨ y = none) :
    (binOp .eql tp (.pointer x) (.pointer y)).run P w = .ok (.bool (decide (x = y))) w := by
  have h : ∀ d : Nat, (Op.equalIn (d + 1) tp (.pointer x) (.pointer y)).run P w = .ok (decide (x = y)) w := fun d => by
    rcases h with rfl | rfl
    · cases y <;> simp [Op.equalIn, run_underlying hp, sizeOf, typeInfo]
    · cases x <;> simp [Op.equalIn, run_underlying hp, sizeOf, typeInfo]
  simp only [binOp]
  simp [Op.equal, Op.maxDepth, h 9999]

theorem eql_thing {w : World} {x y : Option Addr} (hx : PtrTo 138 1 w x) (hy : PtrTo 138 1 w y) : (binOp .eql 136 (.pointer x) (.pointer y)).run Try.prog w = .ok (.bool (decide (x = y))) w := by
  obtain ⟨j, hj, h0⟩ : ∃ j, Try.prog.info? 138 = some j ∧ j.size = 1 := by
    have h : (Try.prog.info? 138).map (·.size) = some 1 := by kernel_rfl
    cases e : Try.prog.info? 138 with
    | none => rw [e] at h; cases h
    | some j => rw [e] at h; exact ⟨j, rfl, by simpa using h⟩
  cases x with
  | some a => cases y with
    | some b =>
      by_cases h : a = b
      · subst h
        rw [run_eql_ptr_same w a Try.underlying136 hj]; simp
      · obtain ⟨_, _, c1, _, h1⟩ := hx a rfl
        obtain ⟨_, _, c2, _, h2⟩ := hy b rfl
        rw [run_eql_ptr_other w Try.underlying136 hj (by omega) h h1 h2]; simp [h]
    | none => exact run_eql_nil w Try.underlying136 _ _ (.inr rfl)
  | none => exact run_eql_nil w Try.underlying136 _ _ (.inl rfl)

set_option maxHeartbeats 1000000 in
theorem index_any (A nt : Nat) (n : Int) (w : World) (h : ThRow w A nt nt) (hn : right nt n = true) (h64 : nt ≤ 64) :
    Calls Try.prog 84 #[.slice (some ⟨A, 0, none⟩) nt nt, .pointer (thP A n)] w fun e w' => e = .returned (.int .i64 n) ∧ w = w' := by
  have hr := hn
  simp [right] at hr
  have Hp := Lib.hid (h.ptr hn)
  have Hh := Lib.hid h
  clear h hn
  go_enter Try.func84, Try.ntmps84
  go_wp2_with fail
  go_loop [8] (fun i => ∃ j : Nat, j ≤ nt ∧ i = .int .i64 j ∧ Hid (n < 0 ∨ (j : Int) ≤ n)) (fun i => nt - (intOf i).toNat)
  case atStart => exact ⟨0, Nat.zero_le _, rfl, Lib.hid (by omega)⟩

  case round =>
    obtain ⟨j, hj, rfl, hspec⟩ := hrel
    by_cases hlt : j < nt
    · have hcell := Hh.out.cell hlt
      have hpj : PtrTo 138 1 w (some ⟨A + 2 + j, 0, none⟩) := PtrTo.of (Hh.out.things j hlt) rfl
      have heq := eql_thing Hp.out hpj
      have j0 : (0 : Int) ≤ (j : Int) := by omega
      have j1 : (j : Int) < (nt : Int) := by omega
      have Hs := Lib.hid hspec.out
      clear hspec hpj
      by_cases hjn : (j : Int) = n
      · have E := Lib.hid hjn
        have hd : decide (thP A n = some ⟨A + 2 + j, 0, none⟩) = true := by rw [← hjn]; simp [thP]
        rw [hd] at heq
        clear hjn hd
        go_wp2_with fail
        go_ret
        exact ⟨by rw [← E.out]; rfl, rfl⟩
      · have hd : decide (thP A n = some ⟨A + 2 + j, 0, none⟩) = false := by
          simp only [thP]
          split
          · simp
          · first | (simp; done) | (simp; omega)
        rw [hd] at heq
        have H5 := Lib.hid (show n < 0 ∨ ((j + 1 : Nat) : Int) ≤ n by have := Hs.out; omega)
        clear hjn hd
        go_wp2_with fail
        go_round
        case rel => exact ⟨j + 1, by omega, by go_num, H5.out⟩
        case measure => simp [intOf]; omega
    · have E := Lib.hid (show n = -1 by have := hspec.out; omega)
      clear hspec
      go_wp2
      go_ret
      exact ⟨by rw [E.out]; rfl, rfl⟩

theorem number_any (A nt : Nat) (n : Int) (w : World) (h : ThRow w A nt nt) (hn : right nt n = true) (h64 : nt ≤ 64) :
    Calls Try.prog 83 #[.pointer (thP A n), .pointer (some ⟨A + 1, 0, none⟩)] w fun e w' => e = .returned (.int .i64 n) ∧ w = w' := by
  have c1 := cell_of_heap h.var (j := 0) rfl
  have Hh := Lib.hid h
  clear h
  go_enter Try.func83, Try.ntmps83
  go_wp2_with (go_at_call 84; refine (index_any A nt n _ Hh.out hn h64).mono ?_; rintro e w1 ⟨rfl, rfl⟩)
  go_ret
  exact ⟨rfl, rfl⟩

/-- an act on a cell, the tape noting it: what each of the four leaves. -/
def CPost (base nb tb : Nat) (tv : Value) (ks : List Int) (k : Int) (y : Option Addr) (w w' : World) : Prop :=
  ∃ tv', TapeAt w' base tb tv' (ks ++ [k]) ∧ w'.heap[nb]? = some (.cells #[.pointer y] 174 (0, 0)) ∧ Turns (fun i => i = nb ∨ i = tb ∨ tv.ownBlock = some i) w w' ∧ (∀ g, tv'.ownBlock = some g → tv.ownBlock = some g ∨ w.heap.size ≤ g)

section
variable {base nb tb : Nat} {tv : Value} {ks : List Int} {x : Option Addr} {w : World}

theorem cell_ne (ht : TapeAt w base tb tv ks) (hn : w.heap[nb]? = some (.cells #[.pointer x] 174 (0, 0))) : nb ≠ tb := fun h => by
  have h1 := ht.blk
  rw [← h, hn] at h1
  simp at h1

theorem cpost_of {k : Int} {y : Option Addr} {v' : Value} {w1 : World} (ht : TapeAt w base tb tv ks) (hn : w.heap[nb]? = some (.cells #[.pointer x] 174 (0, 0))) (hne : tv.ownBlock ≠ some nb)
    (h1 : TapeAt w1 base tb v' (ks ++ [k])) (h2 : Turns (fun b => b = tb ∨ tv.ownBlock = some b) w w1) (h3 : ∀ g, v'.ownBlock = some g → tv.ownBlock = some g ∨ w.heap.size ≤ g) :
    CPost base nb tb tv ks k y w (w1.setCell ⟨nb, 0, none⟩ (.pointer y)) := by
  have hnt := cell_ne ht hn
  have hlt := heap_lt hn
  have hn2 : w1.heap[nb]? = some (.cells #[.pointer x] 174 (0, 0)) := h2.heap hn (fun h => by rcases h with h | h; exact hnt h; exact hne h)
  refine ⟨v', ?_, ?_, ?_, ?_⟩
  · refine h1.turns (Turns.setCell (S := fun i => i = nb) w1 rfl _) (fun h => hnt h.symm) (fun k hk e => ?_)
    subst e
    rcases h3 _ hk with h4 | h4
    · exact hne h4
    · omega
  · rw [heap_setCell hn2]; simp
  · exact (h2.mono (fun i _ hi => .inr hi)).trans (Turns.setCell w1 (.inl rfl) _)
  · exact h3

/-- a pointer to a thing is one still behind the gate. -/
theorem ptr_kept {w1 : World} {p : Option Addr} (hp : PtrTo 138 1 w p) (hlow : ∀ a, p = some a → a.block < base) (hb : base ≤ tb) (h1 : ∀ g, tv.ownBlock = some g → base ≤ g) (h2 : Turns (fun b => b = tb ∨ tv.ownBlock = some b) w w1) : PtrTo 138 1 w1 p := by
  intro a e
  obtain ⟨q1, q2, cs, q3, q4⟩ := hp a e
  have := hlow a e
  exact ⟨q1, q2, cs, q3, h2.heap q4 (fun h => by
    rcases h with h | h
    · omega
    · have := h1 _ h; omega)⟩
end

end Go.Proofs.Ytjifoggfndicoaa
