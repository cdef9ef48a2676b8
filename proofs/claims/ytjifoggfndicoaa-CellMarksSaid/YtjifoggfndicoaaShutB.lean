/-
  DERIVED. A LAW's argument that is a slice of bools, opened.
-/
import Derived.Test.YtjifoggfndicoaaShut
import Derived.Test.YtjifoggfndicoaaMPlain
import Derived.Deep.Grids
namespace Go.Proofs.Ytjifoggfndicoaa
open Go.ChangeShapes Go.WideShapes Go.ChangeAt Go.RowKit Go.Deep

section
variable {H : Type} {enc : TypeId × Value → H} {P : Program}

theorem open_boolsIn {t e : TypeId} {v : Value} {d : DataW H} {p : List MemPlace} {w : World} {b0 : Nat} (ht : P.underlying t = some (.slice e)) (he : P.underlying e = some .bool) (hc : P.cellsOf e = 1)
    (hv : Value.okWide P w .any b0 t v) (h : DataW.Trod enc P w 0 (fun _ => true) true t v d p) :
    ∃ (a : Option Addr) (cap : Nat) (l : List Bool), v = .slice a l.length cap ∧ BoolsIn w a l ∧ (d = .nil ∧ l = [] ∨ ∃ D spare, d = .slice D spare ∧ D.length = l.length) := by
  obtain ⟨a0, len, cap, rfl⟩ := okWide_slice ht hv
  obtain ⟨fuel, hf⟩ := h
  rcases open_bools ht he hc hf with ⟨hcs, hx⟩ | ⟨a, len', cap', B, hcs, _, hl, hm, hx, hcell⟩
  · simp only [Value.cells, List.cons.injEq, and_true] at hcs
    injection hcs with h1 h2 h3
    subst h1 h2 h3
    simp only [Prod.mk.injEq] at hx
    exact ⟨none, 0, [], rfl, fun j hj => absurd hj (by simp), .inl ⟨hx.1, rfl⟩⟩
  · simp only [Value.cells, List.cons.injEq, and_true] at hcs
    injection hcs with h1 h2 h3
    subst h1 h2 h3
    simp only [Prod.mk.injEq] at hx
    refine ⟨some a, cap, (List.range len).map B, by simp, fun j hj => ?_, .inr ⟨_, _, hx.1, by simp⟩⟩
    have hj' : j < len := by simpa using hj
    obtain ⟨b, off, spot⟩ := a
    have hspot : spot = none := by simpa [Addr.add] using World.cell?_spot (hcell 0 (by omega))
    subst hspot
    refine ⟨b, off, rfl, ?_⟩
    rw [← Go.WideShapes.add_plain, hcell j (by omega)]
    simp

theorem bools_bound {t e : TypeId} {d : DataW H} {l : List Bool} (ht : P.underlying t = some (.slice e)) (hb : P.bytesOf e = 1) (h : d = .nil ∧ l = [] ∨ ∃ D spare, d = .slice D spare ∧ D.length = l.length) (hw : ∀ x ∈ DataW.weights P t d, x ≤ reachBytes) :
    l.length ≤ 140737488351232 := by
  rcases h with ⟨_, rfl⟩ | ⟨D, spare, rfl, hD⟩
  · simp
  · have h1 := weights_slice ht (List.all_eq_true.2 (fun x hx => by simpa using hw x hx))
    rw [hb, hD] at h1
    have h3 : reachBytes = 140737488351232 := rfl
    rw [h3] at h1
    omega
end
end Go.Proofs.Ytjifoggfndicoaa
