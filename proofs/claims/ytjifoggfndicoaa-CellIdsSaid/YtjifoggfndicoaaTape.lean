/-
  DERIVED. THE WALKS over package cell's gate and tape, and the methods of a number through whatever gate.
-/
import Derived.Test.YtjifoggfndicoaaNum
namespace Go.Proofs.Ytjifoggfndicoaa
open Go.RowKit
set_option maxRecDepth 100000

theorem info_int : (Try.prog.info? 3).map (fun i => (i.zero, i.size, i.bytes)) = some (some (.int .i64 0), 1, 8) := by kernel_rfl

/-- THE TAPE: its block holds one slice of ints, a row of its own from 'base' on. -/
structure TapeAt (w : World) (base tb : Nat) (v : Value) (ks : List Int) : Prop where
  blk : w.heap[tb]? = some (.cells #[v] 108 (0, 0))
  row : w.ownsRow base 3 1 v ks.length (ks.map (Value.int .i64))
  ne : v.ownBlock ≠ some tb

set_option maxHeartbeats 400000 in
theorem tape_pass (base tb : Nat) (v : Value) (ks : List Int) (k : Int) (w : World) (h : TapeAt w base tb v ks) (hks : (ks.length + 1) * 8 ≤ 140737488355328) (hbase : base ≤ w.heap.size) :
    Calls Try.prog 21 #[.pointer (some ⟨tb, 0, none⟩), .int .i64 k] w fun e w' => e = .returned (.tuple #[]) ∧
      ∃ v', TapeAt w' base tb v' (ks ++ [k]) ∧ Turns (fun b => b = tb ∨ v.ownBlock = some b) w w' ∧ (∀ g, v'.ownBlock = some g → v.ownBlock = some g ∨ w.heap.size ≤ g) := by
  obtain ⟨i0, hi, hz0, hz1, hz2⟩ := info_parts info_int
  have hc : w.cell? ⟨tb, 0, none⟩ = some v := cell_of_heap h.blk (by simp)
  have hlt := heap_lt h.blk
  have hown := h.row
  have hne := h.ne
  have H := Lib.hid h
  clear h
  go_enter Try.func21, Try.ntmps21
  go_wp2_with (at_builtin; refine wpList_append_one rfl _ _ 22 rfl base 3 i0 (.int .i64 0) 1 8 Try.underlying22 hi hz0 hz1 hz2 rfl (by decide) (by decide) v ks.length (ks.map (Value.int .i64)) [.int .i64 k] rfl hown rfl rfl (by simp [Value.oneCell']) (by omega) hbase ?_)
  intro v' w1 hown1 ht hb
  have hblk1 : w1.heap[tb]? = some (.cells #[v] 108 (0, 0)) := ht.heap H.out.blk hne
  have hc1 : w1.cell? ⟨tb, 0, none⟩ = some v := cell_of_heap hblk1 (by simp)
  have hf1 : w1.frozen? ⟨tb, 0, none⟩ = false := frozen_of_heap hblk1
  have hne1 : v'.ownBlock ≠ some tb := fun hh => by
    rcases hb tb hh with h1 | h1
    · exact hne h1
    · omega
  obtain ⟨va, vc, rfl⟩ := row_shape hown1
  have Ht := Lib.hid ht
  have Hb := Lib.hid hb
  have Ho := Lib.hid hown1
  clear ht hb hown1 hown
  go_wp2
  go_end0
  refine ⟨rfl, _, ⟨?_, ?_, hne1⟩, ?_, Hb.out⟩
  · rw [heap_setCell hblk1]; simp
  · refine (Turns.setCell (S := fun b => b = tb) w1 rfl _).row ?_ (fun b hb2 e => hne1 (e ▸ hb2))
    have := Ho.out
    simpa using this
  · exact (Ht.out.mono (fun b _ hb2 => .inr hb2)).trans (Turns.setCell w1 (.inl rfl) _)

/-- no gate: nobody is asked. -/
theorem pass_nil (k : Int) (w : World) : Calls Try.prog 55 #[.nilIface, .int .i64 k] w fun e w' => e = .returned (.tuple #[]) ∧ w = w' := by
  go_enter Try.func55, Try.ntmps55
  go_wp2
  go_end0
  exact ⟨rfl, rfl⟩

theorem method_tape (a : Addr) (w : World) : (method (Try.prog.types.size + 100) 35 (.pointer (some a)) "Pass").run Try.prog w = .ok (21, .pointer (some a)) w := by kernel_rfl

/-- the tape as a gate. -/
theorem pass_tape (base tb : Nat) (v : Value) (ks : List Int) (k : Int) (w : World) (h : TapeAt w base tb v ks) (hks : (ks.length + 1) * 8 ≤ 140737488355328) (hbase : base ≤ w.heap.size) :
    Calls Try.prog 55 #[.iface 35 (.pointer (some ⟨tb, 0, none⟩)), .int .i64 k] w fun e w' => e = .returned (.tuple #[]) ∧
      ∃ v', TapeAt w' base tb v' (ks ++ [k]) ∧ Turns (fun b => b = tb ∨ v.ownBlock = some b) w w' ∧ (∀ g, v'.ownBlock = some g → v.ownBlock = some g ∨ w.heap.size ≤ g) := by
  have hm := method_tape ⟨tb, 0, none⟩ w
  have hs : Try.prog.types.size + 100 = 299 := by kernel_rfl
  rw [hs] at hm
  have H := Lib.hid h
  clear h hs
  go_enter Try.func55, Try.ntmps55
  go_wp2_with (go_at_call 21; refine (tape_pass base tb v ks k _ H.out hks hbase).mono ?_; rintro e w1 ⟨rfl, h1⟩)
  go_end0
  exact ⟨rfl, h1⟩


/-- A NEW NUMBER: one block of one cell. -/
theorem newnum_any (n : Int) (w : World) :
    Calls Try.prog 17 #[.int .i64 n] w fun e w' => e = .returned (.pointer (some ⟨w.heap.size, 0, none⟩)) ∧ w.alloc (.cells #[.int .i64 n] 45) = w' := by
  have hc : (w.alloc (.cells #[.int .i64 0] 45)).cell? ⟨w.heap.size, 0, none⟩ = some (.int .i64 0) := cell_of_heap (heap_alloc_new w _) (by simp)
  have hf : (w.alloc (.cells #[.int .i64 0] 45)).frozen? ⟨w.heap.size, 0, none⟩ = false := frozen_of_heap (heap_alloc_new w _)
  go_enter Try.func17, Try.ntmps17
  go_wp2_with (go_at_call 52; refine (i64_store _ _ _ _ _ hc hf).mono ?_; rintro e w1 ⟨rfl, rfl⟩)
  go_ret
  exact ⟨rfl, rfl⟩

theorem newtape_any (w : World) :
    Calls Try.prog 16 #[] w fun e w' => e = .returned (.pointer (some ⟨w.heap.size, 0, none⟩)) ∧ w.alloc (.cells #[.slice none 0 0] 108) = w' := by
  go_enter Try.func16, Try.ntmps16
  go_wp2
  go_ret
  exact ⟨rfl, rfl⟩

theorem TapeAt.new (w : World) (base : Nat) : TapeAt (w.alloc (.cells #[.slice none 0 0] 108)) base w.heap.size (.slice none 0 0) [] :=
  ⟨heap_alloc_new w _, World.ownsRow_nil _ _ _ _, by simp [Value.ownBlock]⟩

theorem TapeAt.turns {S : Nat → Prop} {w w' : World} {base tb : Nat} {v : Value} {ks : List Int} (h : TapeAt w base tb v ks) (ht : Turns S w w') (h1 : ¬ S tb) (h2 : ∀ k, v.ownBlock = some k → ¬ S k) : TapeAt w' base tb v ks :=
  ⟨ht.heap h.blk h1, ht.row h.row h2, h.ne⟩

/-- WHAT A GATE DOES, said for the methods of a number: from w on the pass of this kind ends in a world that meets R. -/
def Passes (g : Value) (k : Int) (w : World) (R : World → Prop) : Prop := Calls Try.prog 55 #[g, .int .i64 k] w fun e w' => e = .returned (.tuple #[]) ∧ R w'

theorem num_load (g : Value) (nb : Nat) (x : Int) (w : World) (R : World → Prop) (hp : Passes g 1 w R) (hR : ∀ w1, R w1 → w1.heap[nb]? = some (.cells #[.int .i64 x] 45 (0, 0))) :
    Calls Try.prog 22 #[.pointer (some ⟨nb, 0, none⟩), g] w fun e w' => e = .returned (.int .i64 x) ∧ R w' := by
  have HR := Lib.hid hR
  clear hR
  go_enter Try.func22, Try.ntmps22
  go_wp2_with fail
  refine hp.mono ?_
  rintro e w1 ⟨rfl, h1⟩
  have hb := HR.out w1 h1
  have hc := cell_of_heap hb (j := 0) rfl
  have H1 := Lib.hid h1
  clear h1
  go_wp2_with (go_at_call 56; refine (i64_load _ _ _ _ hc).mono ?_; rintro e w2 ⟨rfl, rfl⟩)
  go_ret
  exact ⟨rfl, H1.out⟩

theorem num_store (g : Value) (nb : Nat) (x : Int) (d : Int) (w : World) (R : World → Prop) (hp : Passes g 2 w R) (hR : ∀ w1, R w1 → w1.heap[nb]? = some (.cells #[.int .i64 x] 45 (0, 0))) :
    Calls Try.prog 28 #[.pointer (some ⟨nb, 0, none⟩), g, .int .i64 d] w fun e w' => e = .returned (.tuple #[]) ∧ ∃ w1, R w1 ∧ w1.setCell ⟨nb, 0, none⟩ (.int .i64 d) = w' := by
  have HR := Lib.hid hR
  clear hR
  go_enter Try.func28, Try.ntmps28
  go_wp2_with fail
  refine hp.mono ?_
  rintro e w1 ⟨rfl, h1⟩
  have hb := HR.out w1 h1
  have hc := cell_of_heap hb (j := 0) rfl
  have hf := frozen_of_heap hb (j := 0)
  have H1 := Lib.hid h1
  clear h1
  go_wp2_with (go_at_call 52; refine (i64_store _ _ _ _ _ hc hf).mono ?_; rintro e w2 ⟨rfl, rfl⟩)
  go_end0
  exact ⟨rfl, w1, H1.out, rfl⟩

theorem num_add (g : Value) (nb : Nat) (x : Int) (d : Int) (w : World) (R : World → Prop) (hp : Passes g 3 w R) (hR : ∀ w1, R w1 → w1.heap[nb]? = some (.cells #[.int .i64 x] 45 (0, 0))) :
    Calls Try.prog 23 #[.pointer (some ⟨nb, 0, none⟩), g, .int .i64 d] w fun e w' => e = .returned (.int .i64 (wrap64 (x + d))) ∧ ∃ w1, R w1 ∧ w1.setCell ⟨nb, 0, none⟩ (.int .i64 (wrap64 (x + d))) = w' := by
  have HR := Lib.hid hR
  clear hR
  go_enter Try.func23, Try.ntmps23
  go_wp2_with fail
  refine hp.mono ?_
  rintro e w1 ⟨rfl, h1⟩
  have hb := HR.out w1 h1
  have hc := cell_of_heap hb (j := 0) rfl
  have hf := frozen_of_heap hb (j := 0)
  have H1 := Lib.hid h1
  clear h1
  go_wp2_with (go_at_call 57; refine (i64_add _ _ _ _ _ hc hf).mono ?_; rintro e w2 ⟨rfl, rfl⟩)
  go_ret
  exact ⟨rfl, w1, H1.out, rfl⟩

theorem num_swap (g : Value) (nb : Nat) (x : Int) (d : Int) (w : World) (R : World → Prop) (hp : Passes g 4 w R) (hR : ∀ w1, R w1 → w1.heap[nb]? = some (.cells #[.int .i64 x] 45 (0, 0))) :
    Calls Try.prog 24 #[.pointer (some ⟨nb, 0, none⟩), g, .int .i64 d] w fun e w' => e = .returned (.int .i64 x) ∧ ∃ w1, R w1 ∧ w1.setCell ⟨nb, 0, none⟩ (.int .i64 d) = w' := by
  have HR := Lib.hid hR
  clear hR
  go_enter Try.func24, Try.ntmps24
  go_wp2_with fail
  refine hp.mono ?_
  rintro e w1 ⟨rfl, h1⟩
  have hb := HR.out w1 h1
  have hc := cell_of_heap hb (j := 0) rfl
  have hf := frozen_of_heap hb (j := 0)
  have H1 := Lib.hid h1
  clear h1
  go_wp2_with (go_at_call 58; refine (i64_swap _ _ _ _ _ hc hf).mono ?_; rintro e w2 ⟨rfl, rfl⟩)
  go_ret
  exact ⟨rfl, w1, H1.out, rfl⟩

theorem num_cas (g : Value) (nb : Nat) (x : Int) (o d : Int) (w : World) (R : World → Prop) (hp : Passes g 5 w R) (hR : ∀ w1, R w1 → w1.heap[nb]? = some (.cells #[.int .i64 x] 45 (0, 0))) :
    Calls Try.prog 25 #[.pointer (some ⟨nb, 0, none⟩), g, .int .i64 o, .int .i64 d] w fun e w' => e = .returned (.bool (x == o)) ∧ ∃ w1, R w1 ∧ w1.setCell ⟨nb, 0, none⟩ (.int .i64 (casNew x o d)) = w' := by
  have HR := Lib.hid hR
  clear hR
  go_enter Try.func25, Try.ntmps25
  go_wp2_with fail
  refine hp.mono ?_
  rintro e w1 ⟨rfl, h1⟩
  have hb := HR.out w1 h1
  have hc := cell_of_heap hb (j := 0) rfl
  have hf := frozen_of_heap hb (j := 0)
  have H1 := Lib.hid h1
  clear h1
  go_wp2_with (go_at_call 59; refine (i64_cas _ _ _ _ _ _ hc hf).mono ?_; rintro e w2 ⟨rfl, rfl⟩)
  go_ret
  exact ⟨rfl, w1, H1.out, rfl⟩

theorem num_and (g : Value) (nb : Nat) (x : Int) (d : Int) (w : World) (R : World → Prop) (hp : Passes g 6 w R) (hR : ∀ w1, R w1 → w1.heap[nb]? = some (.cells #[.int .i64 x] 45 (0, 0))) :
    Calls Try.prog 27 #[.pointer (some ⟨nb, 0, none⟩), g, .int .i64 d] w fun e w' => e = .returned (.int .i64 x) ∧ ∃ w1, R w1 ∧ w1.setCell ⟨nb, 0, none⟩ (.int .i64 (Go.bits .and .i64 x d)) = w' := by
  have HR := Lib.hid hR
  clear hR
  go_enter Try.func27, Try.ntmps27
  go_wp2_with fail
  refine hp.mono ?_
  rintro e w1 ⟨rfl, h1⟩
  have hb := HR.out w1 h1
  have hc := cell_of_heap hb (j := 0) rfl
  have hf := frozen_of_heap hb (j := 0)
  have H1 := Lib.hid h1
  clear h1
  go_wp2_with (go_at_call 61; refine (i64_and _ _ _ _ _ hc hf).mono ?_; rintro e w2 ⟨rfl, rfl⟩)
  go_ret
  exact ⟨rfl, w1, H1.out, rfl⟩

theorem num_or (g : Value) (nb : Nat) (x : Int) (d : Int) (w : World) (R : World → Prop) (hp : Passes g 7 w R) (hR : ∀ w1, R w1 → w1.heap[nb]? = some (.cells #[.int .i64 x] 45 (0, 0))) :
    Calls Try.prog 26 #[.pointer (some ⟨nb, 0, none⟩), g, .int .i64 d] w fun e w' => e = .returned (.int .i64 x) ∧ ∃ w1, R w1 ∧ w1.setCell ⟨nb, 0, none⟩ (.int .i64 (Go.bits .or .i64 x d)) = w' := by
  have HR := Lib.hid hR
  clear hR
  go_enter Try.func26, Try.ntmps26
  go_wp2_with fail
  refine hp.mono ?_
  rintro e w1 ⟨rfl, h1⟩
  have hb := HR.out w1 h1
  have hc := cell_of_heap hb (j := 0) rfl
  have hf := frozen_of_heap hb (j := 0)
  have H1 := Lib.hid h1
  clear h1
  go_wp2_with (go_at_call 60; refine (i64_or _ _ _ _ _ hc hf).mono ?_; rintro e w2 ⟨rfl, rfl⟩)
  go_ret
  exact ⟨rfl, w1, H1.out, rfl⟩

end Go.Proofs.Ytjifoggfndicoaa
