/-
  larchlaw04.BatonLists returns true for every input. No condition. (Part 47 of 47; joined by program.)
-/
import Derived.Test.YtndppafplgilbaaK22
import Derived.Test.YtndppafplgilbaaK46
import Derived.Test.YtndppafplgilbaaK28
import Derived.Conc.LeavingOf
set_option linter.unusedVariables false
set_option linter.unusedSimpArgs false
set_option linter.unusedSectionVars false
set_option maxRecDepth 100000
namespace Go.Proofs.Ytndppafplgilbaa
open Go.ChangeShapes Go.WideShapes Go.ChangeAt Go.RowKit Go.Deep
section
variable {H : Type} {enc : TypeId × Value → H} {P : Program}
theorem post_tape {f : Func} {s : ChangeSpec} {W W' : World} {args : Array Value} {v : Value} {t : Tape} (h : s.post enc P f false true false false W args v { W' with tape := t }) : s.post enc P f false true false false W args v W' := by
  obtain ⟨ds, gs, before, pr, pa, pv, h1, h2, h3, h4, h5, h6⟩ := h
  exact ⟨ds, gs, before, pr, pa, pv, h1, h2.of_heap (by rfl), h3.of_heap (by rfl), h4.of_heap (by rfl), h5, fun ha => by cases ha⟩
theorem law_postL {f : Func} {s : ChangeSpec} {W W' : World} {args : Array Value} {ds gs : List (DataW H)} {before : List MemPlace} {tb : TypeId} {v : Value}
    (hW : DataW.Whole enc P f.params.toList s.vars false W args.toList ds gs before) (hv : s.vars = []) (hs : s.fn H (ds ++ gs) = { results := [.lit (.bool true)], args := ds }) (hrt : f.resultTypes = #[tb]) (htb : P.underlying tb = some .bool)
    (hl : laidOutB P = true) (hts : ∀ t ∈ f.params.toList, P.readableRec t = true ∧ t < P.types.size) (hp : LawPost W v W') : s.post enc P f false true false false W args v W' := by
  obtain ⟨rfl, hb⟩ := hp
  exact post_tape (law_post hW hv hs hrt htb hl hts hb)
theorem chooseN {α : Type} {n : Nat} {p : Nat → α → Prop} (h : ∀ i, i < n → ∃ x, p i x) : ∃ l : List α, l.length = n ∧ ∀ i (hi : i < l.length), p i l[i] := by
  induction n with
  | zero => exact ⟨[], rfl, fun i hi => absurd hi (by simp)⟩
  | succ n ih =>
    obtain ⟨l, hl, hp⟩ := ih (fun i hi => h i (by omega))
    obtain ⟨x, hx⟩ := h n (by omega)
    refine ⟨l ++ [x], by simp [hl], fun i hi => ?_⟩
    by_cases e : i < l.length
    · rw [List.getElem_append_left e]; exact hp i e
    · have : i = n := by simp at hi; omega
      subst this
      rw [List.getElem_append_right (by omega)]
      simpa [hl] using hx
theorem readStp {e ti tu : TypeId} {f0 f1 f2 : Field} {w : World} {n : Nat} {cs' : List Value} {x : DataW H × List MemPlace} (he : P.underlying e = some (.struct #[f0, f1, f2])) (hi : P.underlying ti = some (.int .i64)) (hu : P.underlying tu = some .bool)
    (hone : oneCellFields P #[f0, f1, f2] = true) (t0 : f0.type = ti) (t1 : f1.type = ti) (t2 : f2.type = tu) (hlen : cs'.length = 3)
    (h : DataW.trod enc P w 0 (fun _ => true) true n e cs' = some x) :
    ∃ (k0 k1 : Int) (k2 : Bool), cs' = [.int .i64 k0, .int .i64 k1, .bool k2] ∧ (Lit.int .i64 k0).wf = true ∧ (Lit.int .i64 k1).wf = true := by
  obtain ⟨ys, n', _, hy, _, hyl, hf⟩ := DataW.trod_struct he h
  match cs', hlen with
  | [c0, c1, c2], _ =>
    match ys, hyl with
    | [y0, y1, y2], _ =>
      obtain ⟨o0, k0⟩ := hone_of hone 0 f0 rfl
      obtain ⟨o1, k1⟩ := hone_of hone 1 f1 rfl
      obtain ⟨o2, k2⟩ := hone_of hone 2 f2 rfl
      have g0 := hf 0 f0 rfl
      have g1 := hf 1 f1 rfl
      have g2 := hf 2 f2 rfl
      rw [o0, k0, t0] at g0
      rw [o1, k1, t1] at g1
      rw [o2, k2, t2] at g2
      obtain ⟨a0, e0, _, w0⟩ := DataW.trod_int hi g0
      obtain ⟨a1, e1, _, w1⟩ := DataW.trod_int hi g1
      obtain ⟨a2, e2, _⟩ := DataW.trod_bool hu g2
      simp at e0 e1 e2
      exact ⟨a0, a1, a2, by rw [e0, e1, e2], w0, w1⟩
theorem open_steps {t e ti tu : TypeId} {f0 f1 f2 : Field} {v : Value} {d : DataW H} {p : List MemPlace} {w : World} {b0 : Nat} (ht : P.underlying t = some (.slice e)) (he : P.underlying e = some (.struct #[f0, f1, f2])) (hi : P.underlying ti = some (.int .i64)) (hu : P.underlying tu = some .bool)
    (hone : oneCellFields P #[f0, f1, f2] = true) (hC : P.cellsOf e = 3) (t0 : f0.type = ti) (t1 : f1.type = ti) (t2 : f2.type = tu)
    (hv : Value.okWide P w .any b0 t v) (h : DataW.Trod enc P w 0 (fun _ => true) true t v d p) :
    ∃ (a : Option Addr) (cap : Nat) (l : List Stp), v = .slice a l.length cap ∧ l.length ≤ cap ∧ StepsIn w a l ∧       (d = .nil ∧ l = [] ∨ ∃ D spare, d = .slice D spare ∧ D.length = l.length) := by
  obtain ⟨a0, len, cap, rfl⟩ := okWide_slice ht hv
  obtain ⟨fuel, hf⟩ := h
  rcases open_slice ht hf with ⟨hcs, hx⟩ | ⟨a, len', cap', m, n, D, Pl, hcs, _, hl, hm, hmm, hx, hel⟩
  · simp only [Value.cells, List.cons.injEq, and_true] at hcs
    injection hcs with h1 h2 h3
    subst h1 h2 h3
    simp only [Prod.mk.injEq] at hx
    exact ⟨none, 0, [], rfl, Nat.le_refl _, fun j hj => absurd hj (by simp), .inl ⟨hx.1, rfl⟩⟩
  · simp only [Value.cells, List.cons.injEq, and_true] at hcs
    injection hcs with h1 h2 h3
    subst h1 h2 h3
    simp only [if_true] at hmm
    simp only [Prod.mk.injEq] at hx
    have each : ∀ i, i < len → ∃ x : Stp, (∃ b off, a = ⟨b, off, none⟩ ∧ w.cell? ⟨b, off + i * 3, none⟩ = some (.int .i64 x.p) ∧ w.cell? ⟨b, off + i * 3 + 1, none⟩ = some (.int .i64 x.kd) ∧ w.cell? ⟨b, off + i * 3 + 2, none⟩ = some (.bool x.en)) := by
      intro i hi'
      obtain ⟨cs', hc, ht'⟩ := hel i (by omega)
      rw [hC] at hc
      obtain ⟨_, hcl, hat⟩ := World.cells?_some hc
      obtain ⟨k0, k1, k2, hk, q0, q1⟩ := readStp he hi hu hone t0 t1 t2 hcl ht'
      refine ⟨⟨k0, k1, k2⟩, ?_⟩
      obtain ⟨b, off, spot⟩ := a
      have c0 := hat 0 (by omega)
      have c1 := hat 1 (by omega)
      have c2 := hat 2 (by omega)
      rw [hk] at c0 c1 c2
      simp only [Go.Deep.add_add] at c0 c1 c2
      simp only [List.getElem?_cons_zero, List.getElem?_cons_succ] at c0 c1 c2
      have h1 : w.cell? ⟨b, off + (i * 3 + 1), none⟩ = some (.int .i64 k1) := by simpa [Addr.add] using c1
      have h2 : w.cell? ⟨b, off + (i * 3 + 2), none⟩ = some (.bool k2) := by simpa [Addr.add] using c2
      have hspot : spot = none := by
        obtain ⟨cs2, hc2, _⟩ := hel 0 (by omega)
        rw [hC] at hc2
        have c00 := (World.cells?_some hc2).2.2 0 (by omega)
        have hne : w.cell? ((⟨b, off, spot⟩ : Addr).add 0) ≠ none := by
          have : w.cell? (((⟨b, off, spot⟩ : Addr).add (0 * 3)).add 0) ≠ none := by
            rw [c00]
            have := (World.cells?_some hc2).2.1
            rw [List.getElem?_eq_getElem (by omega)]
            simp
          simpa [Addr.add] using this
        cases hs : spot with
        | none => rfl
        | some s0 =>
          subst hs
          exfalso
          apply hne
          simp only [Addr.add, if_true]
          unfold World.cell?
          split <;> simp
      subst hspot
      have h0 : w.cell? ⟨b, off + i * 3, none⟩ = some (.int .i64 k0) := by
        by_cases e0 : i = 0
        · subst e0; simpa [Addr.add] using c0
        · have e4 : ¬ i * 3 = 0 := by omega
          simpa [Addr.add, e4] using c0
      exact ⟨b, off, rfl, h0, h1, h2⟩
    obtain ⟨l, hll, hlp⟩ := chooseN each
    refine ⟨some a, cap, l, by rw [hll], by omega, fun j hj => ?_, .inr ⟨_, _, hx.1, by simp [hll]⟩⟩
    obtain ⟨b, off, e, r⟩ := hlp j hj
    exact ⟨b, off, by rw [e], r⟩
theorem steps_bound {t e : TypeId} {d : DataW H} {l : List Stp} (ht : P.underlying t = some (.slice e)) (hb : P.bytesOf e = 24) (h : d = .nil ∧ l = [] ∨ ∃ D spare, d = .slice D spare ∧ D.length = l.length) (hw : ∀ x ∈ DataW.weights P t d, x ≤ reachBytes) :
    l.length * 24 ≤ 140737488351232 := by
  rcases h with ⟨_, rfl⟩ | ⟨D, spare, rfl, hD⟩
  · simp
  · have h1 := weights_slice ht (List.all_eq_true.2 (fun x hx => by simpa using hw x hx))
    rw [hb, hD] at h1
    have h3 : reachBytes = 140737488351232 := rfl
    rw [h3] at h1
    omega
end
end Go.Proofs.Ytndppafplgilbaa
namespace Go.Proofs.Ytndppafplgilbaa.batonLists
open Go.ChangeShapes Go.WideShapes Go.ChangeAt Go.RowKit
open Go.ChangeMaps (open_string shut_string)
theorem own : ownKnob Try.prog.godebug = none := by kernel_rfl
theorem laidOut : laidOutB Try.prog = true := by kernel_rfl
theorem paramsOk : ∀ t ∈ Try.f8.params.toList, Try.prog.readableRec t = true ∧ t < Try.prog.types.size := by
  have h : (Try.f8.params.toList.all fun t => Try.prog.readableRec t && decide (t < Try.prog.types.size)) = true := by kernel_rfl
  intro t ht
  have := List.all_eq_true.1 h t ht
  simpa using this
set_option maxRecDepth 100000 in
theorem lifted (os : Os) (started : os.Started) (H : Type) (enc : TypeId × Value → H) :
    ReturnsInLeavingWide {} Try.checked os 8 .any (Rows.batonListsSpec.pre6 enc Try.prog Try.f8 Rows.batonListsRow.domain false) (Rows.batonListsSpec.post enc Try.prog Try.f8 false true false false) := by
  refine returnsInLeavingWide_of_change_sized (C := Try.checked) own started Try.func8
    (ChangeSpec.witness6 (enc := enc) (C := Try.checked) false ⟨#[], #[.int .i64 0, .int .i64 0, .slice none 0 0], []⟩ 8 (by kernel_rfl) (by kernel_rfl) (by kernel_rfl) (by kernel_rfl)) ?_
  intro W base args ds gs before hval0 hW hcnd hsz _
  have hval : ∀ (j : Nat) t v, Try.f8.params[j]? = some t → args[j]? = some v → Value.okWide Try.prog W .any base t v := hval0
  have hW' := hW
  obtain ⟨p, q, hA0, hV, rfl, hfz, hnd⟩ := hW
  have hA : DataW.TrodAll enc Try.prog W 0 (fun _ => true) true Try.f8.params.toList args.toList ds p := hA0
  rw [Try.params8] at hA hval
  obtain ⟨v0, vs0, d0, ds0, p0, q0, hargs, rfl, rfl, h0, r0'⟩ := trodAll_cons hA
  obtain ⟨v1, vs1, d1, ds1, p1, q1, rfl, rfl, rfl, h1, r1'⟩ := trodAll_cons r0'
  obtain ⟨v2, vs2, d2, ds2, p2, q2, rfl, rfl, rfl, h2, r2'⟩ := trodAll_cons r1'
  obtain ⟨rfl, rfl, rfl⟩ := trodAll_nil r2'
  obtain rfl : args = #[v0, v1, v2] := by cases args; simp_all
  obtain ⟨rfl, rfl⟩ := trodVars_none hV
  have hts := paramsOk
  obtain ⟨x0, rfl, rfl, rfl, w0⟩ := open_int Try.underlying3 (hval 0 3 v0 rfl rfl) h0
  obtain ⟨x1, rfl, rfl, rfl, w1⟩ := open_int Try.underlying3 (hval 1 3 v1 rfl rfl) h1
  obtain ⟨a2, c2, l2, rfl, m2, r2, e2⟩ := open_steps Try.underlying28 Try.underlying49 Try.underlying3 Try.underlying4 (by kernel_rfl) (by kernel_rfl) rfl rfl rfl (hval 2 28 v2 rfl rfl) h2
  have hw0 : (DataW.weightsEach Try.prog (Try.f8.params.toList ++ []) ([(.lit (.int .i64 x0)), (.lit (.int .i64 x1)), d2] ++ [])).all (· ≤ reachBytes) = true := hsz
  rw [List.append_nil, List.append_nil] at hw0
  have hw : ∀ x ∈ DataW.weightsEach Try.prog Try.f8.params.toList [(.lit (.int .i64 x0)), (.lit (.int .i64 x1)), d2], x ≤ reachBytes := fun x hx => by simpa using List.all_eq_true.1 hw0 x hx
  rw [Try.params8] at hw
  have z2 : l2.length * 24 ≤ 140737488351232 := steps_bound Try.underlying28 (by kernel_rfl) e2 (fun x hx => hw x (by simp [DataW.weightsEach, hx]))
  obtain ⟨M, last, o, w', t', g1, g2, g3, g4⟩ := lists_wins W x0 w0 x1 w1 a2 c2 l2 r2 z2
  exact ⟨M, last, o, w', t', g1, g2, g3, g4.mono fun v hp => law_postL hW' rfl rfl rfl Try.underlying4 laidOut hts hp⟩
theorem over : Rows.batonListsRow.holds Try.pinned (OpenSpec.ofChange Rows.batonListsSpec) :=
  OpenClaim.holds_of_wide_leaving 8 Try.f8 rfl rfl rfl rfl rfl rfl rfl ⟨rfl, rfl, rfl, rfl, rfl⟩ rfl rfl rfl rfl rfl (by kernel_rfl) Try.func8 (by kernel_rfl)
    (of_decide_eq_true (by kernel_rfl)) (by unfold Func.isWrapper; first | (rw [if_pos (by decide +kernel)]; kernel_rfl) | (rw [if_neg (by decide +kernel)]; exact ⟨rfl, rfl⟩))
    (fun os started H enc _ => lifted os started H enc)
theorem proved : Rows.BatonListsSaid := over
end Go.Proofs.Ytndppafplgilbaa.batonLists
