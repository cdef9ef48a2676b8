/-
  DERIVED. A LAW's argument that is an array of two words of bits, opened.
-/
import Derived.Test.YtfkhflknigemgaaGreatShut
import Derived.OpenShut
namespace Go.Proofs.YtfkhflknigemgaaGreat
open Go.ChangeShapes Go.WideShapes Go.ChangeAt Go.RowKit Go.Deep

section
variable {H : Type} {enc : TypeId × Value → H} {P : Program}

theorem open_arr2 {t e : TypeId} {v : Value} {d : DataW H} {p : List MemPlace} {w : World} {b0 : Nat} (ht : P.underlying t = some (.array 2 e)) (he : P.underlying e = some (.int .u64)) (hce : P.cellsOf e = 1) (hct : P.cellsOf t = 2)
    (hv : Value.okWide P w .any b0 t v) (h : DataW.Trod enc P w 0 (fun _ => true) true t v d p) :
    ∃ a b : Int, v = .agg #[.int .u64 a, .int .u64 b] ∧ d = .agg [.lit (.int .u64 a), .lit (.int .u64 b)] ∧ p = [] ∧ (Lit.int .u64 a).wf = true ∧ (Lit.int .u64 b).wf = true := by
  simp only [Value.okWide, ht] at hv
  obtain ⟨cs, rfl, h2, _⟩ := hv
  rw [hct] at h2
  obtain ⟨fuel, hf⟩ := h
  obtain ⟨xs, m, _, hx, _, hl, hel⟩ := DataW.trod_array ht hf
  match cs, h2 with
  | ⟨[c0, c1]⟩, _ =>
    match xs, hl with
    | [y0, y1], _ =>
      have g0 := hel 0 (by omega)
      have g1 := hel 1 (by omega)
      rw [hce] at g0 g1
      simp [Value.cells] at g0 g1
      obtain ⟨a, e0, f0, w0⟩ := DataW.trod_int he g0
      obtain ⟨b, e1, f1, w1⟩ := DataW.trod_int he g1
      simp at e0 e1
      subst e0 e1 f0 f1
      simp at hx
      exact ⟨a, b, rfl, hx.1, hx.2, w0, w1⟩
end
end Go.Proofs.YtfkhflknigemgaaGreat
