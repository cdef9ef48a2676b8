/-
  DERIVED. A LAW's ROW: a slice of structs of an int and two uint64 opened.
-/
import Derived.Test.YtfkhflknigemgaaGreatShut
import Derived.Test.YtfkhflknigemgaaGreatWPlain
namespace Go.Proofs.YtfkhflknigemgaaGreat
open Go.ChangeShapes Go.WideShapes Go.ChangeAt Go.RowKit Go.Deep

section
variable {H : Type} {enc : TypeId × Value → H} {P : Program}

theorem read3 {e ti tu : TypeId} {f0 f1 f2 : Field} {w : World} {n : Nat} {cs' : List Value} {x : DataW H × List MemPlace} (he : P.underlying e = some (.struct #[f0, f1, f2])) (hi : P.underlying ti = some (.int .i64)) (hu : P.underlying tu = some (.int .u64))
    (hone : oneCellFields P #[f0, f1, f2] = true) (t0 : f0.type = ti) (t1 : f1.type = tu) (t2 : f2.type = tu) (hlen : cs'.length = 3)
    (h : DataW.trod enc P w 0 (fun _ => true) true n e cs' = some x) :
    ∃ k0 k1 k2 : Int, cs' = [.int .i64 k0, .int .u64 k1, .int .u64 k2] ∧ (Lit.int .i64 k0).wf = true ∧ (Lit.int .u64 k1).wf = true ∧ (Lit.int .u64 k2).wf = true := by
  obtain ⟨ys, n', _, hy, _, hyl, hf⟩ := DataW.trod_struct he h
  match cs', hlen with
  | [c0, c1, c2], _ =>
    match ys, hyl with
    | [y0, y1, y2], _ =>
      obtain ⟨o0, k0⟩ := hone_of hone 0 f0 rfl
      obtain ⟨o1, k1⟩ := hone_of hone 1 f1 rfl
      obtain ⟨o2, k2⟩ := hone_of hone 2 f2 rfl
      have g0 := hf 0 f0 rfl
      have g1 := hf 1 f1 rfl
      have g2 := hf 2 f2 rfl
      rw [o0, k0, t0] at g0
      rw [o1, k1, t1] at g1
      rw [o2, k2, t2] at g2
      obtain ⟨a0, e0, _, w0⟩ := DataW.trod_int hi g0
      obtain ⟨a1, e1, _, w1⟩ := DataW.trod_int hu g1
      obtain ⟨a2, e2, _, w2⟩ := DataW.trod_int hu g2
      simp at e0 e1 e2
      exact ⟨a0, a1, a2, by rw [e0, e1, e2], w0, w1, w2⟩

theorem chooseN {α : Type} {n : Nat} {p : Nat → α → Prop} (h : ∀ i, i < n → ∃ x, p i x) : ∃ l : List α, l.length = n ∧ ∀ i (hi : i < l.length), p i l[i] := by
  induction n with
  | zero => exact ⟨[], rfl, fun i hi => absurd hi (by simp)⟩
  | succ n ih =>
    obtain ⟨l, hl, hp⟩ := ih (fun i hi => h i (by omega))
    obtain ⟨x, hx⟩ := h n (by omega)
    refine ⟨l ++ [x], by simp [hl], fun i hi => ?_⟩
    by_cases e : i < l.length
    · rw [List.getElem_append_left e]; exact hp i e
    · have : i = n := by simp at hi; omega
      subst this
      rw [List.getElem_append_right (by omega)]
      simpa [hl] using hx

/-- a slice of structs of an int and two uint64 that came in. -/
theorem open_acts3 {t e ti tu : TypeId} {f0 f1 f2 : Field} {v : Value} {d : DataW H} {p : List MemPlace} {w : World} {b0 : Nat} (ht : P.underlying t = some (.slice e)) (he : P.underlying e = some (.struct #[f0, f1, f2])) (hi : P.underlying ti = some (.int .i64)) (hu : P.underlying tu = some (.int .u64))
    (hone : oneCellFields P #[f0, f1, f2] = true) (hC : P.cellsOf e = 3) (t0 : f0.type = ti) (t1 : f1.type = tu) (t2 : f2.type = tu)
    (hv : Value.okWide P w .any b0 t v) (h : DataW.Trod enc P w 0 (fun _ => true) true t v d p) :
    ∃ (a : Option Addr) (cap : Nat) (l : List A3), v = .slice a l.length cap ∧ l.length ≤ cap ∧ ActsW w a l ∧ (∀ x ∈ l, (Lit.int .i64 x.k).wf = true ∧ (Lit.int .u64 x.a).wf = true ∧ (Lit.int .u64 x.b).wf = true) ∧
      (d = .nil ∧ l = [] ∨ ∃ D spare, d = .slice D spare ∧ D.length = l.length) := by
  obtain ⟨a0, len, cap, rfl⟩ := okWide_slice ht hv
  obtain ⟨fuel, hf⟩ := h
  rcases open_slice ht hf with ⟨hcs, hx⟩ | ⟨a, len', cap', m, n, D, Pl, hcs, _, hl, hm, hmm, hx, hel⟩
  · simp only [Value.cells, List.cons.injEq, and_true] at hcs
    injection hcs with h1 h2 h3
    subst h1 h2 h3
    simp only [Prod.mk.injEq] at hx
    exact ⟨none, 0, [], rfl, Nat.le_refl _, fun j hj => absurd hj (by simp), by simp, .inl ⟨hx.1, rfl⟩⟩
  · simp only [Value.cells, List.cons.injEq, and_true] at hcs
    injection hcs with h1 h2 h3
    subst h1 h2 h3
    simp only [if_true] at hmm
    simp only [Prod.mk.injEq] at hx
    have each : ∀ i, i < len → ∃ x : A3, (∃ b off, a = ⟨b, off, none⟩ ∧ w.cell? ⟨b, off + i * 3, none⟩ = some (.int .i64 x.k) ∧ w.cell? ⟨b, off + i * 3 + 1, none⟩ = some (.int .u64 x.a) ∧ w.cell? ⟨b, off + i * 3 + 2, none⟩ = some (.int .u64 x.b)) ∧
        (Lit.int .i64 x.k).wf = true ∧ (Lit.int .u64 x.a).wf = true ∧ (Lit.int .u64 x.b).wf = true := by
      intro i hi'
      obtain ⟨cs', hc, ht'⟩ := hel i (by omega)
      rw [hC] at hc
      obtain ⟨_, hcl, hat⟩ := World.cells?_some hc
      obtain ⟨k0, k1, k2, hk, q0, q1, q2⟩ := read3 he hi hu hone t0 t1 t2 hcl ht'
      refine ⟨⟨k0, k1, k2⟩, ?_, q0, q1, q2⟩
      obtain ⟨b, off, spot⟩ := a
      have c0 := hat 0 (by omega)
      have c1 := hat 1 (by omega)
      have c2 := hat 2 (by omega)
      rw [hk] at c0 c1 c2
      simp only [Go.Deep.add_add] at c0 c1 c2
      simp only [List.getElem?_cons_zero, List.getElem?_cons_succ] at c0 c1 c2
      have h1 : w.cell? ⟨b, off + (i * 3 + 1), none⟩ = some (.int .u64 k1) := by simpa [Addr.add] using c1
      have h2 : w.cell? ⟨b, off + (i * 3 + 2), none⟩ = some (.int .u64 k2) := by simpa [Addr.add] using c2
      have hspot : spot = none := by
        obtain ⟨cs2, hc2, _⟩ := hel 0 (by omega)
        rw [hC] at hc2
        have c00 := (World.cells?_some hc2).2.2 0 (by omega)
        have hne : w.cell? ((⟨b, off, spot⟩ : Addr).add 0) ≠ none := by
          have : w.cell? (((⟨b, off, spot⟩ : Addr).add (0 * 3)).add 0) ≠ none := by
            rw [c00]
            have := (World.cells?_some hc2).2.1
            rw [List.getElem?_eq_getElem (by omega)]
            simp
          simpa [Addr.add] using this
        cases hs : spot with
        | none => rfl
        | some s0 =>
          subst hs
          exfalso
          apply hne
          simp only [Addr.add, if_true]
          unfold World.cell?
          split <;> simp
      subst hspot
      have h0 : w.cell? ⟨b, off + i * 3, none⟩ = some (.int .i64 k0) := by
        by_cases e0 : i = 0
        · subst e0; simpa [Addr.add] using c0
        · have e4 : ¬ i * 3 = 0 := by omega
          simpa [Addr.add, e4] using c0
      exact ⟨b, off, rfl, h0, h1, h2⟩
    obtain ⟨l, hll, hlp⟩ := chooseN each
    refine ⟨some a, cap, l, by rw [hll], by omega, fun j hj => ?_, fun x hx' => ?_, .inr ⟨_, _, hx.1, by simp [hll]⟩⟩
    · obtain ⟨⟨b, off, e, r⟩, _⟩ := hlp j hj
      exact ⟨b, off, by rw [e], r⟩
    · obtain ⟨j, hj, rfl⟩ := List.getElem_of_mem hx'
      exact (hlp j hj).2

theorem acts3_bound {t e : TypeId} {d : DataW H} {l : List A3} (ht : P.underlying t = some (.slice e)) (hb : P.bytesOf e = 24) (h : d = .nil ∧ l = [] ∨ ∃ D spare, d = .slice D spare ∧ D.length = l.length) (hw : ∀ x ∈ DataW.weights P t d, x ≤ reachBytes) :
    l.length * 24 ≤ 140737488351232 := by
  rcases h with ⟨_, rfl⟩ | ⟨D, spare, rfl, hD⟩
  · simp
  · have h1 := weights_slice ht (List.all_eq_true.2 (fun x hx => by simpa using hw x hx))
    rw [hb, hD] at h1
    have h3 : reachBytes = 140737488351232 := rfl
    rw [h3] at h1
    omega
end

theorem wf_u64 (n : Int) (h : (Lit.int .u64 n).wf = true) : 0 ≤ n ∧ n < 18446744073709551616 := by
  have h' : IntKind.u64.min ≤ n ∧ n ≤ IntKind.u64.max := by simpa [Lit.wf] using h
  have h1 : IntKind.u64.min = 0 := by decide
  have h2 : IntKind.u64.max = 18446744073709551615 := by decide
  omega
theorem ok_all {l : List A3} (h : ∀ x ∈ l, (Lit.int .i64 x.k).wf = true ∧ (Lit.int .u64 x.a).wf = true ∧ (Lit.int .u64 x.b).wf = true) : ∀ x ∈ l, x.ok :=
  fun x hx => ⟨wf_u64 _ (h x hx).2.1, wf_u64 _ (h x hx).2.2⟩

end Go.Proofs.YtfkhflknigemgaaGreat
