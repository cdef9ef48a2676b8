/-
  DERIVED. Rows of answers and of numbers as they read.
-/
import Derived.Test.YtnpelkohmnhodaaWSteps
import Derived.Deep.RegionHeld3
import Derived.Deep.AppendLies
namespace Go.Proofs.Ytnpelkohmnhodaa
open Go.RowKit
set_option maxRecDepth 100000

/-- a slice that reads as these answers. -/
def OutsIn (w : World) (a : Option Addr) (l : List (Int × Bool)) : Prop :=
  ∀ (j : Nat) (h : j < l.length), ∃ b off, a = some ⟨b, off, none⟩ ∧ w.cell? ⟨b, off + j * 2, none⟩ = some (.int .u64 l[j].1) ∧ w.cell? ⟨b, off + j * 2 + 1, none⟩ = some (.bool l[j].2)
def U64In (w : World) (a : Option Addr) (l : List Int) : Prop :=
  ∀ (j : Nat) (h : j < l.length), ∃ b off, a = some ⟨b, off, none⟩ ∧ w.cell? ⟨b, off + j, none⟩ = some (.int .u64 l[j])
theorem OutsIn.below {w w' : World} {a : Option Addr} {l : List (Int × Bool)} (h : OutsIn w a l) (hb : Below w.heap.size w w') : OutsIn w' a l := by
  intro j hj
  obtain ⟨b, off, e, h1, h2⟩ := h j hj
  have hlt := World.block_lt_of_cell? w ⟨b, off + j * 2, none⟩ h1
  have hc : ∀ o, w'.cell? ⟨b, o, none⟩ = w.cell? ⟨b, o, none⟩ := fun o => World.cell?_of_block (a := ⟨b, o, none⟩) (hb.block b hlt)
  exact ⟨b, off, e, by rw [hc]; exact h1, by rw [hc]; exact h2⟩
theorem U64In.below {w w' : World} {a : Option Addr} {l : List Int} (h : U64In w a l) (hb : Below w.heap.size w w') : U64In w' a l := by
  intro j hj
  obtain ⟨b, off, e, h1⟩ := h j hj
  have hlt := World.block_lt_of_cell? w ⟨b, off + j, none⟩ h1
  exact ⟨b, off, e, by rw [World.cell?_of_block (a := ⟨b, off + j, none⟩) (hb.block b hlt)]; exact h1⟩
theorem outsIn_row {w : World} {B n c : Nat} {e : TypeId} {a : Option Addr} {l : List (Int × Bool)} (h : w.ownsRow B e 2 (.slice a n c) n (outCellsOf l)) : OutsIn w a l := by
  intro j hj
  have h0 := outCellsOf_get l j hj
  obtain ⟨g, e1, c1, _⟩ := own_cell h h0.1
  obtain ⟨g2, e2, c2, _⟩ := own_cell h h0.2
  rw [e1] at e2
  injection e2 with e2
  injection e2 with e2
  subst e2
  exact ⟨g, 0, e1, by rw [Nat.zero_add]; exact c1, by rw [Nat.zero_add]; exact c2⟩
theorem u64In_row {w : World} {B n c : Nat} {e : TypeId} {a : Option Addr} {l : List Int} (h : w.ownsRow B e 1 (.slice a n c) n (l.map (Value.int .u64))) : U64In w a l := by
  intro j hj
  obtain ⟨g, e1, c1, _⟩ := own_cell h (show (l.map (Value.int .u64))[j]? = some (.int .u64 l[j]) by simp [hj])
  exact ⟨g, 0, e1, by rw [Nat.zero_add]; exact c1⟩

theorem info_act3 : (Try.prog.info? 59).map (fun i => (i.zero, i.size, i.bytes)) = some (some (.agg #[.int .i64 0, .int .u64 0, .int .u64 0]), 3, 24) := by kernel_rfl

end Go.Proofs.Ytnpelkohmnhodaa
