/-
  larchlaw04.BatonLists returns true for every input. No condition. (Part 46 of 47; joined by program.)
-/
import Derived.Test.YtndppafplgilbaaK44
import Derived.Test.YtndppafplgilbaaK45
import Derived.Test.YtndppafplgilbaaK43
import Derived.Test.YtndppafplgilbaaK36
import Derived.Test.YtndppafplgilbaaK31
import Derived.Test.YtndppafplgilbaaK34
set_option linter.unusedVariables false
set_option linter.unusedSimpArgs false
set_option linter.unusedSectionVars false
set_option maxRecDepth 100000
namespace Go.Proofs.Ytndppafplgilbaa
open Go Go.Conc Go.RowKit
open Go.ConcN (sumTo upd sumTo_upd upd_ne upd_same)
noncomputable def awB2 : Code := seqR (seqR (Try.f11.body.getD .skip))
section
variable {Post : Value → World → Prop}
set_option maxRecDepth 100000 in
set_option maxHeartbeats 8000000 in
theorem awake_b {c : Frame} {cf : List Frame} {l : List Nat} {st : Addr} {n0 : Nat} {w8 : World} {pB sg scp fcap : Nat} {fa : Option Addr} {ev pv anv : Value} {scur : Array Value} (hst : st.spot = none → st.block ∈ l) (ok : HidOk (fun k => k ∈ l) w8)
    (h8 : w8.heap[pB]? = some (.cells #[.slice (some ⟨sg, 0, none⟩) 4 scp, ev, pv, anv, .slice fa 1 fcap] 38 (0, 0))) (hpH : pB ∉ l) (hfi : IntsIn w8 fa [10]) (hfaH : ∀ g off, fa = some ⟨g, off, none⟩ → ([10] : List Int) ≠ [] → g ∉ l)
    (k1 : w8.heap[sg]? = some (.cells scur stepT (0, 0))) (k4 : scur.size = scp * 3) (k3 : 4 ≤ scp) (k5 : scur.toList.take (4 * 3) = stepsV [⟨1, 1, false⟩, ⟨0, 3, false⟩, ⟨1, 2, true⟩, ⟨0, 3, true⟩]) (hsgH : sg ∉ l)
    (H : ∀ w', Grow st (fun k => k ∈ l) (fun _ => False) w8 w' → LM Try.prog Post (sitI l st n0) (G (c.finish (.bool true)) cf) w') :
    ∀ y0 y3 y4 y5 y6 y7 y8 y9 y10 y11 y12 y13 y14 y15 y16 y17 y18 y19 y20 y21 y22 y23 y24 y25 y26 y27 y28 y29 y30 y31 y32 y33 y34 y35 y36 y37 y38 y39 : Value, LM Try.prog Post (sitI l st n0) (G ((bk 11 .normal).at ⟨#[y0, .pointer (some (c0 pB 0)), .int .i64 0, y3, y4, y5, y6, y7, y8, y9, y10, y11, y12, y13, y14, y15, y16, y17, y18, y19, y20, y21, y22, y23, y24, y25, y26, y27, y28, y29, y30, y31, y32, y33, y34, y35, y36, y37, y38, y39], []⟩ [.code awB2]) (c :: cf)) w8 := by
  intro y0 y3 y4 y5 y6 y7 y8 y9 y10 y11 y12 y13 y14 y15 y16 y17 y18 y19 y20 y21 y22 y23 y24 y25 y26 y27 y28 y29 y30 y31 y32 y33 y34 y35 y36 y37 y38 y39
  have O := ownM Try.prog Post
  have T := O.toCtl
  have hq : (Try.prog.funcs[11]?).any (·.norace) = false := by rw [Try.func11]; rfl
  have hh := hidesI (n := n0) hst
  have c4 : w8.cell? ⟨pB, 4, none⟩ = some (.slice fa 1 fcap) := cell_of_heap h8 rfl
  have c0' : w8.cell? ⟨pB, 0, none⟩ = some (.slice (some ⟨sg, 0, none⟩) 4 scp) := cell_of_heap h8 rfl
  have nl : ∀ k, w8.heap.size ≤ k → k ∉ l := fun k h1 h2 => by have := ok.lt h2; omega
  have hpl := (Array.getElem?_eq_some_iff.1 h8).1
  have K5 := Lib.hid k5
  have K1 := Lib.hid k1
  have Hfi := Lib.hid hfi
  have HfaH := Lib.hid hfaH
  have Nl := Lib.hid nl
  clear k5 k1 h8 hfi hfaH nl
  simp only [awB2, seqR, Option.getD_some, Try.f11]
  refine laW ?_
  (refine l_loadH O hh (by simp) rfl (by rfl) c4 hpH (fun w₁ hc₁ => ⟨by go_simp, by simp [listed, go_sem, hc₁]; exact seen_cell hq _ _ _⟩) ?_; walk_nrm)
  refine laW ?_
  refine l_new O hh (by simp) ok rfl (by rfl) (by kernel_rfl) (fun k => .slice (some ⟨k, 0, none⟩) 1 1) (c := #[.int .i64 10]) (t := 3) (fun v => by go_simp) (fun w9 h9 G9 s9 => ?_)
  walk_nrm
  refine laW ?_
  (refine l_enter T (fn := Try.f18) (c := .skip) (g := 18) (xs := #[.slice fa 1 fcap, .slice (some ⟨w8.heap.size, 0, none⟩) 1 1]) (by simp) rfl (by rfl) (fun w => ?_) (fun w => ?_) ?_; (focus go_simp); (focus (simp [go_sem, events_into Try.func18 (by kernel_rfl) (by kernel_rfl)])))
  refine ints_calls O hh G9.ok (l := [10]) rfl rfl (Hfi.out.keptH HfaH.out fun k h1 h2 => G9.low k h1 h2 id) (fun j hj => by
    match j, hj with
    | 0, _ => exact ⟨_, _, rfl, cell_of_heap h9 rfl⟩) HfaH.out (fun g off e _ => by cases e; exact Nl.out _ (Nat.le_refl _)) (by decide) _ _ (Sk := fun _ => True) trivial (by simp [bk, Frame.at]) rfl (fun v s' w10 hP => ?_) (fun ch s' w' hP => by cases hP.1)
  obtain ⟨hv, rfl, G10⟩ := hP
  cases hv
  rw [bk_finish rfl]
  walk_nrm
  have G810 : Grow st (fun k => k ∈ l) (fun _ => False) w8 w10 := G9.transN hst G10 (fun _ h => h) (fun _ _ h => h)
  have c10 : w10.cell? ⟨pB, 0, none⟩ = some (.slice (some ⟨sg, 0, none⟩) 4 scp) := by rw [cell_of_block (G810.low _ hpl hpH id)]; exact c0'
  have k10 : w10.heap[sg]? = some (.cells scur stepT (0, 0)) := (G810.low sg (Array.getElem?_eq_some_iff.1 K1.out).1 hsgH id).trans K1.out
  have K10 := Lib.hid k10
  clear k10 h9 c0' c4
  refine laW ?_
  (refine l_loadH O hh (by simp) rfl (by rfl) c10 hpH (fun w₁ hc₁ => ⟨by go_simp, by simp [listed, go_sem, hc₁]; exact seen_cell hq _ _ _⟩) ?_; walk_nrm)
  refine laW ?_
  (refine l_loadH O hh (by simp) rfl (by rfl) c10 hpH (fun w₁ hc₁ => ⟨by go_simp, by simp [listed, go_sem, hc₁]; exact seen_cell hq _ _ _⟩) ?_; walk_nrm)
  refine laW ?_
  have hcells : ∀ i, i < 12 → scur[i]? = (stepsV [⟨1, 1, false⟩, ⟨0, 3, false⟩, ⟨1, 2, true⟩, ⟨0, 3, true⟩])[i]? := fun i hi => by
    have e : (scur.toList.take (4 * 3))[i]? = (stepsV [⟨1, 1, false⟩, ⟨0, 3, false⟩, ⟨1, 2, true⟩, ⟨0, 3, true⟩])[i]? := by rw [K5.out]
    rw [List.getElem?_take, if_pos (by omega)] at e
    rw [← Array.getElem?_toList, e]
  have Hc := Lib.hid hcells
  clear hcells
  refine l_loadMid O hh (by simp) G10.ok rfl (by rfl) rfl (g := sg) (off := 6) (vs := [.int .i64 1, .int .i64 2, .bool true]) (by simp [Act.eval]) K10.out hsgH (fun j v hj => ?_) Try.underlying49 (by rfl) (by kernel_rfl) (fun w11 G11 s11 => ?_)
  · match j, hj with
    | 0, hj => cases hj; rw [Hc.out 6 (by decide)]; rfl
    | 1, hj => cases hj; rw [Hc.out 7 (by decide)]; rfl
    | 2, hj => cases hj; rw [Hc.out 8 (by decide)]; rfl
  walk_nrm
  refine laW ?_
  refine l_val T (v := .bool true) (by simp) rfl (by rfl) (fun w => ?_) (fun w => ?_) ?_
  · kernel_rfl
  · kernel_rfl
  walk_nrm
  refine laW ?_
  refine l_ret T ?_
  refine l_leave T Try.func11 rfl (resultsC_tmp rfl _) ?_
  exact H w11 (G810.transN hst G11 (fun _ h => h) (fun _ _ h => h))
end
end Go.Proofs.Ytndppafplgilbaa
namespace Go.Proofs.Ytndppafplgilbaa
open Go Go.Conc Go.RowKit
open Go.ConcN (sumTo upd sumTo_upd upd_ne upd_same)
def awA0 : List A4 := [⟨3, 0, 1, 0⟩, ⟨3, 0, 1, 0⟩]
def awA1 : List A4 := [⟨1, 0, 0, 0⟩, ⟨2, 0, 9, 0⟩]
theorem aw_cells : ((PQ.start [0] [awA0, awA1]).runs [awA0, awA1].length [1, 0, 1, 0]).1.cs = [10] := by kernel_rfl
theorem aw_steps : ((PQ.start [0] [awA0, awA1]).runs [awA0, awA1].length [1, 0, 1, 0]).2 = [⟨1, 1, false⟩, ⟨0, 3, false⟩, ⟨1, 2, true⟩, ⟨0, 3, true⟩] := by kernel_rfl
structure Awoke (l : List Nat) (gb : Nat) (w w' : World) : Prop where
  hid : HidOk (fun k => k ∈ gb :: l) w'
  hgb : w.heap.size ≤ gb
  cnt : w'.cell? (c0 gb 1) = some (.int .u64 0)
  low : ∀ k, k < w.heap.size → k ∉ l → w'.heap[k]? = w.heap[k]?
  size : w.heap.size ≤ w'.heap.size
section
variable {Post : Value → World → Prop}
set_option maxRecDepth 100000 in
set_option maxHeartbeats 8000000 in
theorem awake_a {c : Frame} {cf : List Frame} {l : List Nat} {st : Addr} {n0 : Nat} {w : World} (hst : st.spot = none → st.block ∈ l) (ok : HidOk (fun k => k ∈ l) w) (old : st.spot ≠ none ∨ w.cell? st = some (.int .u64 0)) (pos : 0 < n0)
    (H : ∀ gb w', Awoke l gb w w' → LM Try.prog Post (sitI (gb :: l) (c0 gb 1) (n0 + 2)) (G (c.finish (.bool true)) cf) w') :
    LM Try.prog Post (sitI l st n0) (G (Frame.enter Try.prog 11 #[] .normal) (c :: cf)) w := by
  have O := ownM Try.prog Post
  have T := O.toCtl
  have hh := hidesI (n := n0) hst
  rw [enter_bk Try.func11 rfl]
  walk_nrmf Try.f11
  refine laW ?_
  refine l_new O hh (by simp) ok rfl (by rfl) (by kernel_rfl) (fun k => .slice (some ⟨k, 0, none⟩) 1 1) (c := #[.int .i64 0]) (t := 3) (fun v => by go_simp) (fun w1 h1 G1 s1 => ?_)
  walk_nrm
  refine laW ?_
  refine l_new O hh (by simp) G1.ok rfl (by rfl) (by kernel_rfl) (fun k => .slice (some ⟨k, 0, none⟩) 2 2) (c := #[.int .i64 3, .int .i64 0, .int .i64 1, .int .i64 0, .int .i64 3, .int .i64 0, .int .i64 1, .int .i64 0]) (t := 103) (fun v => by clear h1; go_simp) (fun w2 h2 G2 s2 => ?_)
  walk_nrm
  refine laW ?_
  refine l_new O hh (by simp) G2.ok rfl (by rfl) (by kernel_rfl) (fun k => .slice (some ⟨k, 0, none⟩) 2 2) (c := #[.int .i64 1, .int .i64 0, .int .i64 0, .int .i64 0, .int .i64 2, .int .i64 0, .int .i64 9, .int .i64 0]) (t := 103) (fun v => by clear h1 h2; go_simp) (fun w3 h3 G3 s3 => ?_)
  walk_nrm
  refine laW ?_
  refine l_new O hh (by simp) G3.ok rfl (by rfl) (by kernel_rfl) (fun k => .slice (some ⟨k, 0, none⟩) 2 2) (c := #[.slice (some ⟨w1.heap.size, 0, none⟩) 2 2, .slice (some ⟨w2.heap.size, 0, none⟩) 2 2]) (t := 104) (fun v => by clear h1 h2 h3; go_simp) (fun w4 h4 G4 s4 => ?_)
  walk_nrm
  refine laW ?_
  refine l_new O hh (by simp) G4.ok rfl (by rfl) (by kernel_rfl) (fun k => .slice (some ⟨k, 0, none⟩) 4 4) (c := #[.int .i64 1, .int .i64 0, .int .i64 1, .int .i64 0]) (t := 3) (fun v => by clear h1 h2 h3 h4; go_simp) (fun w5 h5 G5 s5 => ?_)
  walk_nrm
  refine laW ?_
  have z1 := G1.size
  have z2 := G2.size
  have z3 := G3.size
  have z4 := G4.size
  have z5 := G5.size
  have nl : ∀ k, w.heap.size ≤ k → k ∉ l := fun k h1 h2 => by have := ok.lt h2; omega
  have G05 : Grow st (fun k => k ∈ l) (fun _ => False) w w5 := (((G1.transN hst G2 (fun _ h => h) (fun _ _ h => h)).transN hst G3 (fun _ h => h) (fun _ _ h => h)).transN hst G4 (fun _ h => h) (fun _ _ h => h)).transN hst G5 (fun _ h => h) (fun _ _ h => h)
  have h1' : w5.heap[w.heap.size]? = _ := (G5.low _ (by omega) (nl _ (by omega)) id).trans ((G4.low _ (by omega) (nl _ (by omega)) id).trans ((G3.low _ (by omega) (nl _ (by omega)) id).trans ((G2.low _ (by omega) (nl _ (by omega)) id).trans h1)))
  have h2' : w5.heap[w1.heap.size]? = _ := (G5.low _ (by omega) (nl _ (by omega)) id).trans ((G4.low _ (by omega) (nl _ (by omega)) id).trans ((G3.low _ (by omega) (nl _ (by omega)) id).trans h2))
  have h3' : w5.heap[w2.heap.size]? = _ := (G5.low _ (by omega) (nl _ (by omega)) id).trans ((G4.low _ (by omega) (nl _ (by omega)) id).trans h3)
  have h4' : w5.heap[w3.heap.size]? = _ := (G5.low _ (by omega) (nl _ (by omega)) id).trans h4
  have hsc : ScriptsIn w5 (some ⟨w3.heap.size, 0, none⟩) (fun j => if j = 0 then some ⟨w1.heap.size, 0, none⟩ else some ⟨w2.heap.size, 0, none⟩) (fun _ => 2) [awA0, awA1] := by
    refine ⟨fun j hj => ⟨_, _, rfl, ?_⟩, fun j hj => ?_⟩
    · match j, hj with
      | 0, _ => exact cell_of_heap h4' rfl
      | 1, _ => exact cell_of_heap h4' rfl
    · match j, hj with
      | 0, _ => exact fun i hi' => match i, hi' with
        | 0, _ => ⟨_, _, rfl, cell_of_heap h2' rfl, cell_of_heap h2' rfl, cell_of_heap h2' rfl, cell_of_heap h2' rfl⟩
        | 1, _ => ⟨_, _, rfl, cell_of_heap h2' rfl, cell_of_heap h2' rfl, cell_of_heap h2' rfl, cell_of_heap h2' rfl⟩
      | 1, _ => exact fun i hi' => match i, hi' with
        | 0, _ => ⟨_, _, rfl, cell_of_heap h3' rfl, cell_of_heap h3' rfl, cell_of_heap h3' rfl, cell_of_heap h3' rfl⟩
        | 1, _ => ⟨_, _, rfl, cell_of_heap h3' rfl, cell_of_heap h3' rfl, cell_of_heap h3' rfl, cell_of_heap h3' rfl⟩
  have hsF : ScrFree (fun k => k ∈ l) (some ⟨w3.heap.size, 0, none⟩) (fun j => if j = 0 then some ⟨w1.heap.size, 0, none⟩ else some ⟨w2.heap.size, 0, none⟩) [awA0, awA1] := by
    refine ⟨fun b off e _ => by cases e; exact nl _ (by omega), fun j hj b off e _ => ?_⟩
    dsimp only at e
    by_cases c : j = 0
    · rw [if_pos c] at e; cases e; exact nl _ (by omega)
    · rw [if_neg c] at e; cases e; exact nl _ (by omega)
  have hpk : NumsAt (fun b => b ∉ l ∧ ¬ ScrBlk (some ⟨w3.heap.size, 0, none⟩) (fun j => if j = 0 then some ⟨w1.heap.size, 0, none⟩ else some ⟨w2.heap.size, 0, none⟩) [awA0, awA1] b) (some ⟨w4.heap.size, 0, none⟩) [1, 0, 1, 0] w5 := fun j p hp => by
    refine ⟨_, rfl, rfl, ⟨nl _ (by show w.heap.size ≤ w4.heap.size; omega), fun hb => ?_⟩, ?_⟩
    · rcases hb with ⟨off, e⟩ | ⟨i, hi', _, off, e⟩
      · injection e with e; injection e with e; dsimp only at e; omega
      · dsimp only at e
        by_cases c : i = 0
        · rw [if_pos c] at e; injection e with e; injection e with e; omega
        · rw [if_neg c] at e; injection e with e; injection e with e; omega
    · match j, hp with
      | 0, hp => cases hp; exact cell_of_heap h5 rfl
      | 1, hp => cases hp; exact cell_of_heap h5 rfl
      | 2, hp => cases hp; exact cell_of_heap h5 rfl
      | 3, hp => cases hp; exact cell_of_heap h5 rfl
  (refine l_enter T (fn := Try.f14) (c := .skip) (g := 14) (xs := #[.slice (some ⟨w.heap.size, 0, none⟩) 1 1, .slice (some ⟨w3.heap.size, 0, none⟩) 2 2, .slice (some ⟨w4.heap.size, 0, none⟩) 4 4]) (by simp) rfl (by rfl) (fun w => ?_) (fun w => ?_) ?_; (focus go_simp); (focus (simp [go_sem, events_into Try.func14 (by kernel_rfl) (by kernel_rfl)])))
  refine play_calls (Post := Post) (cells := [0]) (ss := [awA0, awA1]) (ps := [1, 0, 1, 0]) hst G5.ok (old.imp id fun h => zero_grow h G05 hst) pos (by decide) (by decide) (by decide) (by decide) (by decide) (by decide) (fun j hj => ?_) (fun b off e _ => by cases e; exact nl _ (by omega)) hsc hsF hpk _ _ trivial (by simp [bk, Frame.at]) rfl (fun v s' w6 hP => ?_) (fun ch s' w' hP => by obtain ⟨_, _, _, _, _, _, h, _⟩ := hP; cases h)
  · match j, hj with
    | 0, _ => exact ⟨_, _, rfl, cell_of_heap h1' rfl⟩
  obtain ⟨gb, stv, ev, pv, anv, fv, hv, rfl, D⟩ := hP
  cases hv
  rw [bk_finish rfl]
  walk_nrm
  refine laW ?_
  have hst2 : (c0 gb 1).spot = none → (c0 gb 1).block ∈ gb :: l := fun _ => List.mem_cons_self ..
  have hh2 := hidesI (l := gb :: l) (st := c0 gb 1) (n := n0 + 2) hst2
  refine l_new O hh2 (by simp) D.hid rfl (by rfl) (by kernel_rfl) (fun n => .pointer (some (c0 n 0))) (c := zeroPlayed) (t := 38) (fun v => by clear h1 h2 h3 h4 h5 h1' h2' h3' h4'; go_simp) (fun w7 h7 G7 s7 => ?_)
  walk_nrm
  have nl6 : ∀ k, w6.heap.size ≤ k → k ∉ gb :: l := fun k h1 h2 => by have := D.hid.lt h2; omega
  have hone : (#[stv, ev, pv, anv, fv] : Array Value).all (·.oneCell') = true := by
    obtain ⟨_, _, e, _⟩ := D.an
    have e0 : ∀ a b c, (Value.slice a b c).oneCell' = true := (fun _ _ _ => rfl)
    subst e
    simp [ownsRow_one D.st, ownsRow_one D.en, ownsRow_one D.pa, ownsRow_one D.fi, e0]
  refine l_storeRow O hh2 (cells := #[stv, ev, pv, anv, fv]) (by simp) G7.ok rfl (by rfl) rfl (by simp [Act.eval]) (by simp [Act.eval]) h7 (nl6 _ (by omega)) (by kernel_rfl) rfl hone (fun w8 h8 G8 s8 => ?_)
  walk_nrm
  ((co_applyP (l_val T (by simp) rfl (by rfl) (fun w => run_eq_of ?_) (fun w => ?_) ?_); rotate_left; (focus (intro K hK; go_simp; exact hK)); (focus (solve | simp [go_sem]))); walk_nrm)
  (refine l_end T ?_)
  have Dfi := D.fi
  rw [aw_cells] at Dfi
  have Dst := D.st
  rw [aw_steps] at Dst
  have low68 : ∀ k, k < w6.heap.size → k ∉ gb :: l → w8.heap[k]? = w6.heap[k]? := fun k h1 h2 => (G8.low k (by omega) h2 (by omega)).trans (G7.low k h1 h2 id)
  have fi8 : w8.ownsRow 0 3 1 fv 1 (([10] : List Int).map (Value.int .i64)) := ownsRow_of (fun g hg => low68 g (ownsRow_lt Dfi g hg) (D.fresh g (.inr (.inr (.inr hg)))).2) Dfi
  have st8 : w8.ownsRow 0 stepT 3 stv 4 (stepsV [⟨1, 1, false⟩, ⟨0, 3, false⟩, ⟨1, 2, true⟩, ⟨0, 3, true⟩]) := ownsRow_of (fun g hg => low68 g (ownsRow_lt Dst g hg) (D.fresh g (.inl hg)).2) Dst
  obtain ⟨fa, fcap, rfl, _, hfi, hfo⟩ := ownsRow_ints fi8
  obtain ⟨_, ⟨_, h0⟩ | ⟨sg, scp, scur, rfl, _, k1, k2, k3, k4, k5⟩⟩ := st8
  · omega
  have key := awake_b (Post := Post) (c := c) (cf := cf) (n0 := n0 + 2) hst2 G8.ok h8 (nl6 _ (Nat.le_refl _)) hfi (fun g off e h => (D.fresh g (.inr (.inr (.inr (hfo g off e h))))).2) k1 k4 k2 k5 (D.fresh sg (.inl rfl)).2 (fun w' G => H gb w' ⟨G.ok, by have := D.hgb; omega, zero_grow (zero_grow (zero_grow D.cnt G7 hst2) G8 hst2) G hst2, fun k hk hkl => ?_, by have := G.size; have := D.size; omega⟩)
  · simp only [awB2, seqR, Option.getD_some, Try.f11] at key
    exact key _ _ _ _ _ _ _ _ _ _ _ _ _ _ _ _ _ _ _ _ _ _ _ _ _ _ _ _ _ _ _ _ _ _ _ _ _ _
  · have hkg : k ∉ gb :: l := fun h => by
      rcases List.mem_cons.1 h with h | h
      · have := D.hgb; omega
      · exact hkl h
    have hs6 := D.size
    exact (G.low k (by omega) hkg id).trans ((low68 k (by omega) hkg).trans ((D.low k (by omega) hkl).trans (G05.low k hk hkl id)))
theorem awake_calls {l : List Nat} {st : Addr} {n0 : Nat} {w : World} (hst : st.spot = none → st.block ∈ l) (ok : HidOk (fun k => k ∈ l) w) (old : st.spot ≠ none ∨ w.cell? st = some (.int .u64 0)) (pos : 0 < n0) :
    CallsL Try.prog (LM Try.prog Post) (fun _ => True) 11 #[] (sitI l st n0) w (fun r s' w' => ∃ gb, r = .inl (.bool true) ∧ s' = sitI (gb :: l) (c0 gb 1) (n0 + 2) ∧ Awoke l gb w w') := by
  intro c cs _ hkd hcm h1 _
  exact awake_a hst ok old pos fun gb w' A => h1 _ _ _ ⟨gb, rfl, rfl, A⟩
end
end Go.Proofs.Ytndppafplgilbaa
namespace Go.Proofs.Ytndppafplgilbaa
open Go Go.Conc Go.RowKit
def LawPost (W : World) (v : Value) (w' : World) : Prop := v = .bool true ∧ Below W.heap.size W { w' with tape := W.tape }
theorem lawOO (W : World) : OO (LawPost W) W := ⟨.bool true, W, ⟨rfl, Below.refl _ _⟩, rfl, rfl⟩
theorem lawPost_oo {W w : World} (h : OO (LawPost W) w) : w.os = W.os ∧ w.output = W.output := by
  obtain ⟨v, w₁, ⟨_, hb⟩, h1, h2⟩ := h
  exact ⟨h1.symm.trans hb.os, h2.symm.trans hb.output⟩
theorem RW.low {st : Addr} {w w₁ : World} (r : RW st w w₁) {k : Nat} (hk : k ≠ st.block) : w₁.heap[k]? = w.heap[k]? := by
  rcases r with ⟨d, rfl⟩ | ⟨n, n₁, d, _, _, rfl⟩
  · rfl
  · exact setCell_ne w st _ hk
theorem law_fin {P : Program} {W w : World} {f : FuncId} {fn : Func} {tmps : Array Value} {todo : List Item} {l : List Nat} {gb n : Nat} (hi : P.inits.idxOf? f = none) (hf : P.funcs[f]? = some fn) (hr : ResultsC P fn tmps (.bool true)) (hgb : W.heap.size ≤ gb) (hsz : W.heap.size ≤ w.heap.size) (hlow : ∀ k, k < W.heap.size → w.heap[k]? = W.heap[k]?) :
    LM P (LawPost W) (sitI l (c0 gb 1) n) (G { (bk f .normal).at ⟨tmps, []⟩ todo with mode := .returning } []) w := by
  refine LM.over (v := .bool true) hi hf (fun w => (hr w).1) (fun w => (hr w).2) fun w₁ r ho => ⟨rfl, ?_⟩
  obtain ⟨h1, h2⟩ := lawPost_oo ho
  refine ⟨h1, rfl, h2, ?_, fun k hk => ?_⟩
  · show W.heap.size ≤ w₁.heap.size
    rw [r.size]; exact hsz
  · refine (r.low ?_).trans (hlow k hk)
    show k ≠ gb
    omega
theorem law_rest {f : FuncId} {fn : Func} {W w : World} {gb n : Nat} {c : Code} {tmps : Array Value} {k : List Item} (hi : Try.prog.inits.idxOf? f = none) (hf : Try.prog.funcs[f]? = some fn) (hc : okCode Try.prog dynB f c = true) (hsl : Slots dynB f tmps) (A : Awoke [] gb W w)
    (hp : ∀ v, Masked (fun k => k ∈ [gb]) 0 v w → c.wp Try.prog (fun e a u => e = .ret ∧ a.defers = [] ∧ ResultsC Try.prog fn a.tmps (.bool true) ∧ Below v.heap.size v u) ⟨tmps, []⟩ v) :
    LM Try.prog (LawPost W) (sitI [gb] (c0 gb 1) n) (G ((bk f .normal).at ⟨tmps, []⟩ (.code c :: k)) []) w := by
  have O := ownM Try.prog (LawPost W)
  have hh := hidesI (l := [gb]) (st := c0 gb 1) (n := n) fun _ => List.mem_cons_self ..
  have key := wpL_piece O (Sk := fun _ => True) closedB hh ⟨fn, hf⟩ hc hsl A.hid (R := fun v e a u => e = .ret ∧ ResultsC Try.prog fn a.tmps (.bool true) ∧ Below v.heap.size v u) (Q := fun e s a w' => e = .ret ∧ ∀ todo, LM Try.prog (LawPost W) s (G { (bk f .normal).at a todo with mode := .returning } []) w')
    (fun v M => Code.wp_mono (fun e a u hq => ⟨.inr hq.1, hq.2.1, hq.1, hq.2.2⟩) (hp v M)) (fun v e ts v' w' M hR he Al => ⟨hR.1, fun todo => ?_⟩)
  · exact key k [] trivial fun e s' a' w' ⟨he, h⟩ => by subst he; exact h
  · have G1 : Grow (c0 gb 1) (fun k => k ∈ [gb]) (fun _ => False) w w' := Al.grow M fun k hk _ => hR.2.2.block k hk
    refine law_fin hi hf hR.2.1 A.hgb (Nat.le_trans A.size G1.size) fun k hk => ?_
    have hgb := A.hgb
    have hsz := A.size
    exact (G1.low k (by omega) (by simp; omega) id).trans (A.low k hk (by simp))
theorem law_start {f : FuncId} {args : Array Value} {W : World} (H : LM Try.prog (LawPost W) (sitI [] ⟨0, 0, some 0⟩ 1) (G (Frame.enter Try.prog f args .normal) []) W) : Wins Try.prog (LawPost W) (solo (G (Frame.enter Try.prog f args .normal) []) W) #[] :=
  lm_start (by simp) (lawOO W) H
theorem law_awake {W w : World} {n0 : Nat} (h : w = W) (pos : 0 < n0) : CallsL Try.prog (LM Try.prog (LawPost W)) (fun _ => True) 11 #[] (sitI [] ⟨0, 0, some 0⟩ n0) w (fun r s' w' => ∃ gb, r = .inl (.bool true) ∧ s' = sitI [gb] (c0 gb 1) (n0 + 2) ∧ Awoke [] gb W w') := by
  subst h
  exact awake_calls (fun h => by cases h) (fun k hk => by cases hk) (.inl (by simp)) pos
end Go.Proofs.Ytndppafplgilbaa
namespace Go.Proofs.Ytndppafplgilbaa
open Go Go.Conc Go.RowKit
theorem Masked.stepsIn {v w : World} {H : Nat → Prop} (M : Masked H 0 v w) {a : Option Addr} {l : List Stp} (h : StepsIn w a l) (hH : ∀ b off, a = some ⟨b, off, none⟩ → l ≠ [] → ¬ H b) : StepsIn v a l := fun j hj => by
  obtain ⟨b, off, e, h1, h2, h3⟩ := h j hj
  have hb : ¬ H b := hH b off e (by intro e; subst e; simp at hj)
  exact ⟨b, off, e, M.cellIn hb h1, M.cellIn hb h2, M.cellIn hb h3⟩
theorem StepsIn.at' {w w' : World} {a : Option Addr} {l : List Stp} (h : StepsIn w a l) (hb : ∀ b off, a = some ⟨b, off, none⟩ → l ≠ [] → w'.heap[b]? = w.heap[b]?) : StepsIn w' a l := fun j hj => by
  obtain ⟨b, off, e, h1, h2, h3⟩ := h j hj
  have hl := hb b off e (by intro e; subst e; simp at hj)
  exact ⟨b, off, e, by rw [cell_of_block hl]; exact h1, by rw [cell_of_block hl]; exact h2, by rw [cell_of_block hl]; exact h3⟩
theorem StepsIn.lt {w : World} {a : Option Addr} {l : List Stp} (h : StepsIn w a l) (hl : l ≠ []) {b off : Nat} (e : a = some ⟨b, off, none⟩) : b < w.heap.size := by
  obtain ⟨b', off', e', h1, _⟩ := h 0 (by cases l with | nil => exact absurd rfl hl | cons _ _ => simp)
  rw [e] at e'
  cases e'
  exact World.block_lt_of_cell? w ⟨b, off + 0 * 3, none⟩ h1
theorem StepsIn.low {w w' : World} {a : Option Addr} {l : List Stp} (h : StepsIn w a l) (hb : ∀ k, k < w.heap.size → w'.heap[k]? = w.heap[k]?) : StepsIn w' a l := h.at' fun b off e hl => hb b (h.lt hl e)
end Go.Proofs.Ytndppafplgilbaa
namespace Go.Proofs.Ytndppafplgilbaa
open Go Go.Conc Go.RowKit
set_option maxHeartbeats 8000000 in
theorem lists_wins (W : World) (n : Int) (_ : (Lit.int .i64 n).wf = true) (t : Int) (_ : (Lit.int .i64 t).wf = true) (a : Option Addr) (cap : Nat) (l : List Stp) (hr : StepsIn W a l) (hz : l.length * 24 ≤ 140737488351232) :
    Wins Try.prog (LawPost W) (solo (G (Frame.enter Try.prog 8 #[.int .i64 n, .int .i64 t, .slice a l.length cap] .normal) []) W) #[] := by
  have hn : l.length * 8 ≤ 140737488351232 := by omega
  refine law_start ?_
  have O := ownM Try.prog (LawPost W)
  have T := O.toCtl
  rw [enter_bk Try.func8 rfl]
  walk_nrmf Try.f8
  refine laW ?_
  (refine l_enter T (fn := Try.f11) (c := .skip) (g := 11) (xs := #[]) (by simp) rfl (by rfl) (fun w => ?_) (fun w => ?_) ?_; (focus go_simp); (focus (simp [go_sem, events_into Try.func11 (by kernel_rfl) (by kernel_rfl)])))
  refine law_awake rfl (by omega) _ _ trivial (by simp [bk, Frame.at]) rfl (fun v s' w' hP => ?_) (fun ch s' w' hP => by obtain ⟨_, h, _⟩ := hP; cases h)
  obtain ⟨gb, hv, rfl, A⟩ := hP
  cases hv
  rw [bk_finish rfl]
  walk_nrm
  refine laW ?_
  (refine l_cond T false (by simp [Act.eval] <;> omega) ?_; simp only [if_true, if_false, Bool.false_eq_true, ↓reduceIte])
  refine l_skip T ?_
  have hr' := hr.low fun k hk => A.low k hk (by simp)
  have key := fun v (M : Masked (fun k => k ∈ [gb]) 0 v w') => lists_tail n t a cap l v hn (M.stepsIn hr' fun b off e hl h => by
    have h1 := hr.lt hl e
    have h2 := A.hgb
    simp at h
    omega)
  simp only [listsTail, seqR, Option.getD_some, Try.f8] at key
  refine law_rest (by kernel_rfl) Try.func8 (by kernel_rfl) (slots_nil rfl _) A (fun v M => Code.wp_mono (fun e a u hq => ⟨hq.1, hq.2.1, ?_, hq.2.2.2⟩) (key v M _ _ _ _ _ _ _ _ _ _ _ _ _ _ _ _ _ _ _ _ _ _ _ _ _ _ _ _ _ _ _ _ _ _ _ _ _ _ _ _ _ _ _ _ _ _ _ _ _ _ _ _ _ _ _ _ _ _ _ _ _ _ _ _ _))
  have := resultsC_tmp (P := Try.prog) (fn := Try.f8) rfl a.tmps
  rw [hq.2.2.1] at this
  exact this
end Go.Proofs.Ytndppafplgilbaa
