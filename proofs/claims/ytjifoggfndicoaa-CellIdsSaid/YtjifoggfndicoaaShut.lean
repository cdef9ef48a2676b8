/-
  DERIVED. A LAW's ROW: its arguments opened, its end shut. (After the template's steps (c) and (e).)
-/
import Derived.Test.YtjifoggfndicoaaPlain
import Derived.ProofKit
import Derived.OpenShut
import Derived.ShutString
import Derived.SizedLaws
import Derived.Deep.Slices
import Derived.Deep.Fields
namespace Go.Proofs.Ytjifoggfndicoaa
open Go.ChangeShapes Go.WideShapes Go.ChangeAt Go.RowKit Go.Deep

section
variable {H : Type} {enc : TypeId × Value → H} {P : Program}

/-- ALL ARGUMENTS READ AS THEY READ, in a world that is as it was below the old heap's end. -/
theorem trodAll_below (hl : laidOutB P = true) {W W' : World} (hb : Below W.heap.size W W') : ∀ {ts : List TypeId} {vs : List Value} {ds : List (DataW H)} {ps : List MemPlace},
    (∀ t ∈ ts, P.readableRec t = true ∧ t < P.types.size) → DataW.TrodAll enc P W 0 (fun _ => true) true ts vs ds ps → (∀ x ∈ ps, x.block < W.heap.size) → DataW.TrodAll enc P W' 0 (fun b => decide (b < W.heap.size)) true ts vs ds ps
  | [], [], [], _, _, h, _ => h
  | t :: ts, v :: vs, d :: ds, ps, ht, ⟨p, q, h1, h2, e⟩, hlt => by
    subst e
    exact ⟨p, q, Below.trod hl (ht t (by simp)).1 (ht t (by simp)).2 h1 hb (fun x hx => hlt x (List.mem_append.2 (.inl hx))),
      trodAll_below hl hb (fun t' h' => ht t' (List.mem_cons_of_mem _ h')) h2 (fun x hx => hlt x (List.mem_append.2 (.inr hx))), rfl⟩
  | [], _ :: _, _, _, _, h, _ => h.elim
  | [], [], _ :: _, _, _, h, _ => h.elim
  | _ :: _, [], _, _, _, h, _ => h.elim
  | _ :: _, _ :: _, [], _, _, h, _ => h.elim

/-- A LAW's END: it returned true, and nothing that was there has turned. -/
theorem law_post {f : Func} {s : ChangeSpec} {W W' : World} {args : Array Value} {ds gs : List (DataW H)} {before : List MemPlace} {tb : TypeId}
    (hW : DataW.Whole enc P f.params.toList s.vars false W args.toList ds gs before) (hv : s.vars = []) (hs : s.fn H (ds ++ gs) = { results := [.lit (.bool true)], args := ds }) (hrt : f.resultTypes = #[tb]) (htb : P.underlying tb = some .bool)
    (hl : laidOutB P = true) (hts : ∀ t ∈ f.params.toList, P.readableRec t = true ∧ t < P.types.size) (hb : Below W.heap.size W W') : s.post enc P f false true false false W args (.bool true) W' := by
  have hlt : ∀ p ∈ before, p.block < W.heap.size := fun p hp => hW.lt p hp
  obtain ⟨p, q, hA, hV, e, hfz, hnd⟩ := hW
  have hq : q = [] := by
    rw [hv] at hV
    cases gs with
    | nil => exact hV
    | cons _ _ => exact hV.elim
  subst hq
  rw [List.append_nil] at e
  subst e
  have hres : DataW.TrodAll enc P W' W.heap.size (fun _ => false) false f.resultTypes.toList ((Value.bool true).resultList f.resultTypes.size) [.lit (.bool true)] [] := by
    rw [hrt]
    exact trodAll_mk1 (shut_bool htb true)
  refine ⟨ds, gs, before, [], before, [], ⟨before, [], hA, hV, by simp, hfz, hnd⟩, ?_, ?_, ?_, hb.frame _, fun h => by cases h⟩
  · rw [hs]; exact hres
  · rw [hs]; exact trodAll_below hl hb hts hA hlt
  · rw [hs]
    rw [hv]
    exact (rfl : ([] : List MemPlace) = [])

/-- a slice of ints that came in. -/
theorem open_intsIn {t e : TypeId} {v : Value} {d : DataW H} {p : List MemPlace} {w : World} {b0 : Nat} (ht : P.underlying t = some (.slice e)) (he : P.underlying e = some (.int .i64)) (hc : P.cellsOf e = 1)
    (hv : Value.okWide P w .any b0 t v) (h : DataW.Trod enc P w 0 (fun _ => true) true t v d p) :
    ∃ (a : Option Addr) (cap : Nat) (l spare : List Int), v = .slice a l.length cap ∧ IntsIn w a l ∧ (∀ n ∈ l, (Lit.int .i64 n).wf = true) ∧ (d = .nil ∧ l = [] ∨ d = .slice (lits .i64 l) (lits .i64 spare)) := by
  obtain ⟨a0, len, cap, rfl⟩ := okWide_slice ht hv
  obtain ⟨fuel, hf⟩ := h
  rcases open_ints ht he hc hf with ⟨hcs, hx⟩ | ⟨a, len', cap', zs, hcs, _, hl, hm, hz, hx, hcell, hwz⟩
  · simp only [Value.cells, List.cons.injEq, and_true] at hcs
    injection hcs with h1 h2 h3
    subst h1 h2 h3
    simp only [Prod.mk.injEq] at hx
    exact ⟨none, 0, [], [], rfl, fun j hj => absurd hj (by simp), by simp, .inl ⟨hx.1, rfl⟩⟩
  · simp only [Value.cells, List.cons.injEq, and_true] at hcs
    injection hcs with h1 h2 h3
    subst h1 h2 h3
    simp only [if_true] at hz
    have hlz : len ≤ zs.length := by omega
    have htl : (zs.take len).length = len := by rw [List.length_take]; omega
    simp only [Prod.mk.injEq] at hx
    refine ⟨some a, cap, zs.take len, zs.drop len, by rw [htl], fun j hj => ?_, fun n hn => hwz n (List.mem_of_mem_take hn), .inr hx.1⟩
    rw [htl] at hj
    obtain ⟨b, off, rfl, hc2⟩ := ints_at hcell (by omega)
    refine ⟨b, off, rfl, ?_⟩
    rw [hc2 j (by omega), List.getElem_take, List.getD_eq_getElem?_getD, List.getElem?_eq_getElem (by omega)]
    rfl

theorem weights_slice {t e : TypeId} {elems spare : List (DataW H)} (ht : P.underlying t = some (.slice e)) (h : (DataW.weights P t (.slice elems spare)).all (· ≤ reachBytes) = true) : (elems.length + spare.length) * P.bytesOf e ≤ reachBytes := by
  unfold DataW.weights at h
  simp only [ht, List.all_cons, Bool.and_eq_true, decide_eq_true_eq] at h
  exact h.1

theorem ints_bound {t e : TypeId} {d : DataW H} {l spare : List Int} (ht : P.underlying t = some (.slice e)) (hb : P.bytesOf e = 8) (h : d = .nil ∧ l = [] ∨ d = .slice (lits .i64 l) (lits .i64 spare)) (hw : ∀ x ∈ DataW.weights P t d, x ≤ reachBytes) :
    l.length * 8 ≤ 140737488351232 := by
  rcases h with ⟨_, rfl⟩ | rfl
  · simp
  · have h1 := weights_slice ht (List.all_eq_true.2 (fun x hx => by simpa using hw x hx))
    rw [hb] at h1
    have h2 : (lits .i64 l : List (DataW H)).length = l.length := by simp [lits]
    have h3 : reachBytes = 140737488351232 := rfl
    rw [h2, h3] at h1
    omega

/-- one struct of four ints, read. -/
theorem read4 {e ti : TypeId} {f0 f1 f2 f3 : Field} {w : World} {n : Nat} {cs' : List Value} {x : DataW H × List MemPlace} (he : P.underlying e = some (.struct #[f0, f1, f2, f3])) (hi : P.underlying ti = some (.int .i64))
    (hone : oneCellFields P #[f0, f1, f2, f3] = true) (t0 : f0.type = ti) (t1 : f1.type = ti) (t2 : f2.type = ti) (t3 : f3.type = ti) (hlen : cs'.length = 4)
    (h : DataW.trod enc P w 0 (fun _ => true) true n e cs' = some x) :
    ∃ k0 k1 k2 k3 : Int, cs' = [.int .i64 k0, .int .i64 k1, .int .i64 k2, .int .i64 k3] ∧ (Lit.int .i64 k0).wf = true ∧ (Lit.int .i64 k1).wf = true ∧ (Lit.int .i64 k2).wf = true ∧ (Lit.int .i64 k3).wf = true := by
  obtain ⟨ys, n', _, hy, _, hyl, hf⟩ := DataW.trod_struct he h
  match cs', hlen with
  | [c0, c1, c2, c3], _ =>
    match ys, hyl with
    | [y0, y1, y2, y3], _ =>
      obtain ⟨o0, k0⟩ := hone_of hone 0 f0 rfl
      obtain ⟨o1, k1⟩ := hone_of hone 1 f1 rfl
      obtain ⟨o2, k2⟩ := hone_of hone 2 f2 rfl
      obtain ⟨o3, k3⟩ := hone_of hone 3 f3 rfl
      have g0 := hf 0 f0 rfl
      have g1 := hf 1 f1 rfl
      have g2 := hf 2 f2 rfl
      have g3 := hf 3 f3 rfl
      rw [o0, k0, t0] at g0
      rw [o1, k1, t1] at g1
      rw [o2, k2, t2] at g2
      rw [o3, k3, t3] at g3
      obtain ⟨a0, e0, _, w0⟩ := DataW.trod_int hi g0
      obtain ⟨a1, e1, _, w1⟩ := DataW.trod_int hi g1
      obtain ⟨a2, e2, _, w2⟩ := DataW.trod_int hi g2
      obtain ⟨a3, e3, _, w3⟩ := DataW.trod_int hi g3
      simp at e0 e1 e2 e3
      exact ⟨a0, a1, a2, a3, by rw [e0, e1, e2, e3], w0, w1, w2, w3⟩

theorem choose4 {n : Nat} {p : Nat → A4 → Prop} (h : ∀ i, i < n → ∃ x, p i x) : ∃ l : List A4, l.length = n ∧ ∀ i (hi : i < l.length), p i l[i] := by
  induction n with
  | zero => exact ⟨[], rfl, fun i hi => absurd hi (by simp)⟩
  | succ n ih =>
    obtain ⟨l, hl, hp⟩ := ih (fun i hi => h i (by omega))
    obtain ⟨x, hx⟩ := h n (by omega)
    refine ⟨l ++ [x], by simp [hl], fun i hi => ?_⟩
    by_cases e : i < l.length
    · rw [List.getElem_append_left e]; exact hp i e
    · have : i = n := by simp at hi; omega
      subst this
      rw [List.getElem_append_right (by omega)]
      simpa [hl] using hx

/-- a slice of structs of four ints that came in. -/
theorem open_acts {t e ti : TypeId} {f0 f1 f2 f3 : Field} {v : Value} {d : DataW H} {p : List MemPlace} {w : World} {b0 : Nat} (ht : P.underlying t = some (.slice e)) (he : P.underlying e = some (.struct #[f0, f1, f2, f3])) (hi : P.underlying ti = some (.int .i64))
    (hone : oneCellFields P #[f0, f1, f2, f3] = true) (hC : P.cellsOf e = 4) (t0 : f0.type = ti) (t1 : f1.type = ti) (t2 : f2.type = ti) (t3 : f3.type = ti)
    (hv : Value.okWide P w .any b0 t v) (h : DataW.Trod enc P w 0 (fun _ => true) true t v d p) :
    ∃ (a : Option Addr) (cap : Nat) (l : List A4), v = .slice a l.length cap ∧ ActsIn w a l ∧ (∀ x ∈ l, (Lit.int .i64 x.k).wf = true ∧ (Lit.int .i64 x.at_).wf = true ∧ (Lit.int .i64 x.a).wf = true ∧ (Lit.int .i64 x.b).wf = true) ∧
      (d = .nil ∧ l = [] ∨ ∃ D spare, d = .slice D spare ∧ D.length = l.length) := by
  obtain ⟨a0, len, cap, rfl⟩ := okWide_slice ht hv
  obtain ⟨fuel, hf⟩ := h
  rcases open_slice ht hf with ⟨hcs, hx⟩ | ⟨a, len', cap', m, n, D, Pl, hcs, _, hl, hm, hmm, hx, hel⟩
  · simp only [Value.cells, List.cons.injEq, and_true] at hcs
    injection hcs with h1 h2 h3
    subst h1 h2 h3
    simp only [Prod.mk.injEq] at hx
    exact ⟨none, 0, [], rfl, fun j hj => absurd hj (by simp), by simp, .inl ⟨hx.1, rfl⟩⟩
  · simp only [Value.cells, List.cons.injEq, and_true] at hcs
    injection hcs with h1 h2 h3
    subst h1 h2 h3
    simp only [if_true] at hmm
    simp only [Prod.mk.injEq] at hx
    have each : ∀ i, i < len → ∃ x : A4, (∃ b off, a = ⟨b, off, none⟩ ∧ w.cell? ⟨b, off + i * 4, none⟩ = some (.int .i64 x.k) ∧ w.cell? ⟨b, off + i * 4 + 1, none⟩ = some (.int .i64 x.at_) ∧ w.cell? ⟨b, off + i * 4 + 2, none⟩ = some (.int .i64 x.a) ∧ w.cell? ⟨b, off + i * 4 + 3, none⟩ = some (.int .i64 x.b)) ∧
        (Lit.int .i64 x.k).wf = true ∧ (Lit.int .i64 x.at_).wf = true ∧ (Lit.int .i64 x.a).wf = true ∧ (Lit.int .i64 x.b).wf = true := by
      intro i hi'
      obtain ⟨cs', hc, ht'⟩ := hel i (by omega)
      rw [hC] at hc
      obtain ⟨_, hcl, hat⟩ := World.cells?_some hc
      obtain ⟨k0, k1, k2, k3, hk, q0, q1, q2, q3⟩ := read4 he hi hone t0 t1 t2 t3 hcl ht'
      refine ⟨⟨k0, k1, k2, k3⟩, ?_, q0, q1, q2, q3⟩
      obtain ⟨b, off, spot⟩ := a
      have c0 := hat 0 (by omega)
      have c1 := hat 1 (by omega)
      have c2 := hat 2 (by omega)
      have c3 := hat 3 (by omega)
      rw [hk] at c0 c1 c2 c3
      simp only [Go.Deep.add_add] at c0 c1 c2 c3
      simp only [List.getElem?_cons_zero, List.getElem?_cons_succ] at c0 c1 c2 c3
      have h1 : w.cell? ⟨b, off + (i * 4 + 1), none⟩ = some (.int .i64 k1) := by simpa [Addr.add] using c1
      have h2 : w.cell? ⟨b, off + (i * 4 + 2), none⟩ = some (.int .i64 k2) := by simpa [Addr.add] using c2
      have h3 : w.cell? ⟨b, off + (i * 4 + 3), none⟩ = some (.int .i64 k3) := by simpa [Addr.add] using c3
      have hspot : spot = none := by
        obtain ⟨cs2, hc2, _⟩ := hel 0 (by omega)
        rw [hC] at hc2
        have c00 := (World.cells?_some hc2).2.2 0 (by omega)
        have hne : w.cell? ((⟨b, off, spot⟩ : Addr).add 0) ≠ none := by
          have : w.cell? (((⟨b, off, spot⟩ : Addr).add (0 * 4)).add 0) ≠ none := by
            rw [c00]
            have := (World.cells?_some hc2).2.1
            rw [List.getElem?_eq_getElem (by omega)]
            simp
          simpa [Addr.add] using this
        cases hs : spot with
        | none => rfl
        | some s0 =>
          subst hs
          exfalso
          apply hne
          simp only [Addr.add, if_true]
          unfold World.cell?
          split <;> simp
      subst hspot
      have h0 : w.cell? ⟨b, off + i * 4, none⟩ = some (.int .i64 k0) := by
        by_cases e0 : i = 0
        · subst e0; simpa [Addr.add] using c0
        · have e4 : ¬ i * 4 = 0 := by omega
          simpa [Addr.add, e4] using c0
      exact ⟨b, off, rfl, h0, h1, h2, h3⟩
    obtain ⟨l, hll, hlp⟩ := choose4 each
    refine ⟨some a, cap, l, by rw [hll], fun j hj => ?_, fun x hx' => ?_, .inr ⟨_, _, hx.1, by simp [hll]⟩⟩
    · obtain ⟨⟨b, off, e, r⟩, _⟩ := hlp j hj
      exact ⟨b, off, by rw [e], r⟩
    · obtain ⟨j, hj, rfl⟩ := List.getElem_of_mem hx'
      exact (hlp j hj).2

theorem acts_bound {t e : TypeId} {d : DataW H} {l : List A4} (ht : P.underlying t = some (.slice e)) (hb : P.bytesOf e = 32) (h : d = .nil ∧ l = [] ∨ ∃ D spare, d = .slice D spare ∧ D.length = l.length) (hw : ∀ x ∈ DataW.weights P t d, x ≤ reachBytes) :
    l.length * 32 ≤ 140737488351232 := by
  rcases h with ⟨_, rfl⟩ | ⟨D, spare, rfl, hD⟩
  · simp
  · have h1 := weights_slice ht (List.all_eq_true.2 (fun x hx => by simpa using hw x hx))
    rw [hb, hD] at h1
    have h3 : reachBytes = 140737488351232 := rfl
    rw [h3] at h1
    omega
end

end Go.Proofs.Ytjifoggfndicoaa
