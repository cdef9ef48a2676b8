/-
  DERIVED. PLAIN: rows of accesses to a word. No program in sight.
-/
import Derived.Test.YtfkhflknigemgaaGreatWPuts
namespace Go.Proofs.YtfkhflknigemgaaGreat
open Go.RowKit

/-- an access. -/
structure A3 where
  k : Int
  a : Int
  b : Int
def A3.ok (x : A3) : Prop := (0 ≤ x.a ∧ x.a < 18446744073709551616) ∧ (0 ≤ x.b ∧ x.b < 18446744073709551616)
def A3.val (x : A3) : Value := .agg #[.int .i64 x.k, .int .u64 x.a, .int .u64 x.b]

def isW (kd : Int) : Bool := decide (1 ≤ kd ∧ kd ≤ 6)
def checkW (kd : Int) : List A3 → Int
  | [] => 0
  | x :: r => if canW kd x.k = false then 5 else checkW kd r
theorem checkW_cons (kd : Int) (l : List A3) (j : Nat) (h : j < l.length) : checkW kd (l.drop j) = if canW kd l[j].k = false then 5 else checkW kd (l.drop (j + 1)) := by
  rw [List.drop_eq_getElem_cons h]
  rfl
theorem checkW_ok (kd : Int) (l : List A3) (h : checkW kd l = 0) : ∀ x ∈ l, canW kd x.k = true := by
  induction l with
  | nil => intro x hx; cases hx
  | cons y r ih =>
    unfold checkW at h
    split at h
    · simp at h
    · rename_i hk
      intro x hx
      cases hx with
      | head => simpa using hk
      | tail _ hm => exact ih h x hm
theorem checkW_or (kd : Int) (l : List A3) : checkW kd l = 0 ∨ checkW kd l = 5 := by
  induction l with
  | nil => exact .inl rfl
  | cons y r ih => unfold checkW; split; exact .inr rfl; exact ih

def wErr (kd : Int) (l : List A3) : Int := if isW kd = false then 5 else if 10000 < l.length then 2 else checkW kd l

/-- what the word holds behind an access; behind a row of them. -/
def wStep (kd v : Int) (x : A3) : Int := wNew kd v x.k x.a x.b
def wAns (kd v : Int) (x : A3) : Int × Bool := (wVal kd v x.k x.a, wOk kd v x.k x.a)
def wTo (kd v : Int) (l : List A3) : Int := l.foldl (wStep kd) v
def wOuts (kd : Int) : Int → List A3 → List (Int × Bool)
  | _, [] => []
  | v, x :: r => wAns kd v x :: wOuts kd (wStep kd v x) r
def wSteps (kd : Int) : Int → List A3 → List Int
  | _, [] => []
  | v, x :: r => wStep kd v x :: wSteps kd (wStep kd v x) r

theorem wTo_snoc (kd v : Int) (l : List A3) (j : Nat) (h : j < l.length) : wTo kd v (l.take (j + 1)) = wStep kd (wTo kd v (l.take j)) l[j] := by
  unfold wTo
  rw [List.take_succ_eq_append_getElem h, List.foldl_append]
  rfl
theorem wOuts_append (kd : Int) (l m : List A3) : ∀ v, wOuts kd v (l ++ m) = wOuts kd v l ++ wOuts kd (wTo kd v l) m := by
  induction l with
  | nil => intro v; rfl
  | cons x r ih => intro v; simp only [List.cons_append, wOuts, ih]; rfl
theorem wSteps_append (kd : Int) (l m : List A3) : ∀ v, wSteps kd v (l ++ m) = wSteps kd v l ++ wSteps kd (wTo kd v l) m := by
  induction l with
  | nil => intro v; rfl
  | cons x r ih => intro v; simp only [List.cons_append, wSteps, ih]; rfl
theorem wTo_append (kd v : Int) (l m : List A3) : wTo kd v (l ++ m) = wTo kd (wTo kd v l) m := by
  unfold wTo; rw [List.foldl_append]
theorem wOuts_len (kd : Int) (l : List A3) : ∀ v, (wOuts kd v l).length = l.length := by
  induction l with
  | nil => intro v; rfl
  | cons x r ih => intro v; simp [wOuts, ih]
theorem wSteps_len (kd : Int) (l : List A3) : ∀ v, (wSteps kd v l).length = l.length := by
  induction l with
  | nil => intro v; rfl
  | cons x r ih => intro v; simp [wSteps, ih]
theorem wOuts_snoc (kd v : Int) (l : List A3) (j : Nat) (h : j < l.length) : wOuts kd v (l.take (j + 1)) = wOuts kd v (l.take j) ++ [wAns kd (wTo kd v (l.take j)) l[j]] := by
  rw [List.take_succ_eq_append_getElem h, wOuts_append]
  rfl
theorem wSteps_snoc (kd v : Int) (l : List A3) (j : Nat) (h : j < l.length) : wSteps kd v (l.take (j + 1)) = wSteps kd v (l.take j) ++ [wStep kd (wTo kd v (l.take j)) l[j]] := by
  rw [List.take_succ_eq_append_getElem h, wSteps_append]
  rfl
theorem canon_to (kd v : Int) (l : List A3) (hk : 1 ≤ kd ∧ kd ≤ 6) (hv : Canon kd v) (hl : ∀ x ∈ l, x.ok) : Canon kd (wTo kd v l) := by
  induction l generalizing v with
  | nil => exact hv
  | cons x r ih => exact ih (wStep kd v x) (canon_new kd v x.k x.a x.b hk hv (hl x (by simp)).1 (hl x (by simp)).2) (fun y hy => hl y (by simp [hy]))

/-- the answers of Do and Steps. -/
def doOuts (kd s : Int) (l : List A3) : List (Int × Bool) := if wErr kd l = 0 then wOuts kd (cutW kd s) l else []
def doEnd (kd s : Int) (l : List A3) : Int := if wErr kd l = 0 then wTo kd (cutW kd s) l else 0
def stepsAll (kd s : Int) (l : List A3) : List Int := if wErr kd l = 0 then wSteps kd (cutW kd s) l else []

/-- the slice v reads as these accesses. -/
def ActsW (w : World) (a : Option Addr) (l : List A3) : Prop :=
  ∀ (j : Nat) (h : j < l.length), ∃ b off, a = some ⟨b, off, none⟩ ∧ w.cell? ⟨b, off + j * 3, none⟩ = some (.int .i64 l[j].k) ∧ w.cell? ⟨b, off + j * 3 + 1, none⟩ = some (.int .u64 l[j].a) ∧ w.cell? ⟨b, off + j * 3 + 2, none⟩ = some (.int .u64 l[j].b)
theorem ActsW.kept {w w' : World} {a : Option Addr} {l : List A3} (h : ActsW w a l) (hk : ∀ b off, a = some ⟨b, off, none⟩ → b < w.heap.size → w'.heap[b]? = w.heap[b]?) : ActsW w' a l := by
  intro j hj
  obtain ⟨b, off, e, h1, h2, h3⟩ := h j hj
  have hb : w'.heap[b]? = w.heap[b]? := hk b off e (World.block_lt_of_cell? w ⟨b, off + j * 3, none⟩ h1)
  have hc : ∀ o, w'.cell? ⟨b, o, none⟩ = w.cell? ⟨b, o, none⟩ := fun o => World.cell?_of_block (a := ⟨b, o, none⟩) hb
  exact ⟨b, off, e, by rw [hc]; exact h1, by rw [hc]; exact h2, by rw [hc]; exact h3⟩
theorem ActsW.below {w w' : World} {a : Option Addr} {l : List A3} (h : ActsW w a l) (hb : Below w.heap.size w w') : ActsW w' a l :=
  h.kept fun b _ _ hlt => hb.block b hlt
theorem ActsW.block_lt {w : World} {b off j : Nat} {l : List A3} (h : ActsW w (some ⟨b, off, none⟩) l) (hj : j < l.length) : b < w.heap.size := by
  obtain ⟨b', off', e, h1, _⟩ := h j hj
  have h2 := World.block_lt_of_cell? w ⟨b', off' + j * 3, none⟩ h1
  injection e with e
  injection e with e1
  rw [e1]
  exact h2
theorem ActsW.turns {S : Nat → Prop} {w w' : World} {a : Option Addr} {l : List A3} (h : ActsW w a l) (ht : Turns S w w') (hn : ∀ b off, a = some ⟨b, off, none⟩ → ¬ S b) : ActsW w' a l :=
  h.kept fun b off e hlt => ht.block b hlt (hn b off e)

/-- rows of one's own: accesses, answers, numbers. -/
def actWCells (l : List A3) : List Value := l.flatMap fun x => [.int .i64 x.k, .int .u64 x.a, .int .u64 x.b]
def outCellsOf (l : List (Int × Bool)) : List Value := l.flatMap fun x => [.int .u64 x.1, .bool x.2]
theorem actWCells_snoc (l : List A3) (x : A3) : actWCells (l ++ [x]) = actWCells l ++ [.int .i64 x.k, .int .u64 x.a, .int .u64 x.b] := by simp [actWCells, List.flatMap_append]
theorem outCellsOf_snoc (l : List (Int × Bool)) (x : Int × Bool) : outCellsOf (l ++ [x]) = outCellsOf l ++ [.int .u64 x.1, .bool x.2] := by simp [outCellsOf, List.flatMap_append]
abbrev RowO (w : World) (B : Nat) (v : Value) (xs : List (Int × Bool)) : Prop := w.ownsRow B 44 2 v xs.length (outCellsOf xs)
abbrev RowA (w : World) (B : Nat) (v : Value) (xs : List A3) : Prop := w.ownsRow B 42 3 v xs.length (actWCells xs)
abbrev RowU (w : World) (B : Nat) (v : Value) (xs : List Int) : Prop := w.ownsRow B 22 1 v xs.length (xs.map (Value.int .u64))

theorem actWCells_len (l : List A3) : (actWCells l).length = l.length * 3 := by
  induction l with
  | nil => rfl
  | cons x r ih => simp [actWCells] at ih ⊢; omega
theorem actWCells_get (l : List A3) : ∀ (j : Nat) (h : j < l.length), (actWCells l)[j * 3]? = some (.int .i64 l[j].k) ∧ (actWCells l)[j * 3 + 1]? = some (.int .u64 l[j].a) ∧ (actWCells l)[j * 3 + 2]? = some (.int .u64 l[j].b) := by
  induction l with
  | nil => intro j h; exact absurd h (by simp)
  | cons x r ih =>
    intro j h
    have hc : actWCells (x :: r) = .int .i64 x.k :: .int .u64 x.a :: .int .u64 x.b :: actWCells r := rfl
    rw [hc]
    cases j with
    | zero => exact ⟨rfl, rfl, rfl⟩
    | succ j =>
      have := ih j (by simpa using h)
      rw [show (j + 1) * 3 = j * 3 + 1 + 1 + 1 by omega, show j * 3 + 1 + 1 + 1 + 1 = j * 3 + 1 + 1 + 1 + 1 from rfl]
      simpa using this
theorem outCellsOf_get (l : List (Int × Bool)) : ∀ (j : Nat) (h : j < l.length), (outCellsOf l)[j * 2]? = some (.int .u64 l[j].1) ∧ (outCellsOf l)[j * 2 + 1]? = some (.bool l[j].2) := by
  induction l with
  | nil => intro j h; exact absurd h (by simp)
  | cons x r ih =>
    intro j h
    have hc : outCellsOf (x :: r) = .int .u64 x.1 :: .bool x.2 :: outCellsOf r := rfl
    rw [hc]
    cases j with
    | zero => exact ⟨rfl, rfl⟩
    | succ j =>
      have := ih j (by simpa using h)
      rw [show (j + 1) * 2 = j * 2 + 1 + 1 by omega]
      simpa using this

/-- the cells of an owned row. -/
theorem own_cell {w : World} {B n k c : Nat} {e : TypeId} {a : Option Addr} {vs : List Value} (h : w.ownsRow B e k (.slice a n c) n vs) {i : Nat} {u : Value} (hu : vs[i]? = some u) : ∃ g, a = some ⟨g, 0, none⟩ ∧ w.cell? ⟨g, i, none⟩ = some u ∧ B ≤ g := by
  rcases h.2 with ⟨hv, hn⟩ | ⟨g, cap, cur, hv, h1, h2, h3, h4, h5, h6⟩
  · have := h.1
    rw [hn, Nat.zero_mul] at this
    rw [List.getElem?_eq_none (by omega)] at hu
    exact absurd hu (by simp)
  · injection hv with ha hb hc
    subst ha
    refine ⟨g, rfl, ?_, (h.lt g (by simp [Value.ownBlock])).1⟩
    have := h.cells (g := g) (by simp [Value.ownBlock]) i u hu
    have hadd : (⟨g, 0, none⟩ : Addr).add i = ⟨g, i, none⟩ := by unfold Addr.add; split <;> simp_all
    rwa [hadd] at this
theorem actsW_row {w : World} {B c : Nat} {a : Option Addr} {l : List A3} (h : RowA w B (.slice a l.length c) l) : ActsW w a l := by
  intro j hj
  have h0 := actWCells_get l j hj
  obtain ⟨g, e1, c1, _⟩ := own_cell h h0.1
  obtain ⟨g2, e2, c2, _⟩ := own_cell h h0.2.1
  obtain ⟨g3, e3, c3, _⟩ := own_cell h h0.2.2
  rw [e1] at e2 e3
  injection e2 with e2
  injection e2 with e2
  injection e3 with e3
  injection e3 with e3
  subst e2 e3
  exact ⟨g, 0, e1, by rw [Nat.zero_add]; exact c1, by rw [Nat.zero_add]; exact c2, by rw [Nat.zero_add]; exact c3⟩

end Go.Proofs.YtfkhflknigemgaaGreat
