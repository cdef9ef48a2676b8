/-
  DERIVED. LAWS of whatever program that WordApart's walk meets: make and copy of rows of three cells; rows that are written over.
-/
import Derived.Test.YtfkhflknigemgaaGreatWDoesW
import Derived.Laws.CopyOwn
import Derived.Laws.MakeOwn
namespace Go.Proofs.YtfkhflknigemgaaGreat
open Go.RowKit
set_option maxRecDepth 100000

section
variable {P : Program}

theorem run_copy_rows (w : World) (dT sT ty elem : TypeId) (size : Nat) (g o dLen dCap : Nat) (a : Addr) (sLen sCap : Nat) (cur : Array Value) (t : TypeId) (cs : List Value)
    (hu : P.underlying dT = some (.slice elem)) (hs : (P.info? elem).map (·.size) = some size)
    (hg : w.heap[g]? = some (.cells cur t (0, 0))) (hn : cs.length = Nat.min sLen dLen * size)
    (hsrc : ∀ j v, cs[j]? = some v → w.cell? (a.add j) = some v) (hfit : o + cs.length ≤ cur.size) (h1 : ∀ v ∈ cs, v.oneCell' = true) :
    (Builtin.copy_ #[dT, sT] ty #[.slice (some ⟨g, o, none⟩) dLen dCap, .slice (some a) sLen sCap]).run P w =
      .ok (goInt (Nat.min sLen dLen)) (w.setRow g (cur.toList.take o ++ cs ++ cur.toList.drop (o + cs.length)).toArray) := by
  have hl := run_loadCells_list (P := P) w a cs hsrc
  have hst := run_storeCells_at P g o t cs 0 cur w hg (by simpa using hfit) h1
  cases hq : P.info? elem with
  | none => simp [hq] at hs
  | some i =>
    have hi : i.size = size := by simpa [hq] using hs
    simp [Builtin.copy_, run_underlying hu, Builtin.lenOf, Builtin.firstCells, sizeOf, typeInfo, hq, hi, ← hn, hl, hst]

/-- 'copy(full, l)', l a row of one's own that is no longer, nil or not. -/
theorem wpList_copy_rows {w : World} {ops : Array Oper} {rest : List Oper} {o : Oper} {a : Act} {Q : Exit → Act → World → Prop} (hgd : o.guard = none) (d s : Operand) (dT sT : TypeId)
    (ho : o.op = .call { callee := .builtin .copy, args := #[d, s], argTypes := #[dT, sT] }) (elem : TypeId) (size : Nat) (hu : P.underlying dT = some (.slice elem)) (hsz : (P.info? elem).map (·.size) = some size)
    (g dLen dCap : Nat) (sa : Option Addr) (sLen sCap : Nat) (hd : a.eval d = .slice (some ⟨g, 0, none⟩) dLen dCap) (hs : a.eval s = .slice sa sLen sCap)
    (cur : Array Value) (t : TypeId) (hg : w.heap[g]? = some (.cells cur t (0, 0))) (hle : sLen ≤ dLen) (B : Nat) (e : TypeId) (cs : List Value) (hrow : w.ownsRow B e size (.slice sa sLen sCap) sLen cs)
    (hfit : sLen * size ≤ cur.size) (h1 : ∀ v ∈ cs, v.oneCell' = true)
    (h : ∀ w' : World, w'.heap[g]? = some (.cells (cs ++ cur.toList.drop cs.length).toArray t (0, 0)) → Turns (fun k => k = g) w w' → wpList P ops Q rest (a.put o.dst (goInt sLen)) w') : wpList P ops Q (o :: rest) a w := by
  refine wpList_plain hgd fun K hK => ?_
  have hmin : Nat.min sLen dLen = sLen := Nat.min_eq_left hle
  have hlen := hrow.1
  rcases hrow.2 with ⟨hv, h0⟩ | ⟨gs, cap, cu, hv, _⟩
  · injection hv with e1 e2 e3
    subst e1 h0
    have hcs : cs = [] := List.eq_nil_of_length_eq_zero (by simpa using hlen)
    subst hcs
    have hrun : (Builtin.copy_ #[dT, sT] o.type #[.slice (some ⟨g, 0, none⟩) dLen dCap, .slice none 0 sCap]).run P w = .ok (goInt 0) w := by
      cases hq : P.info? elem with
      | none => simp [hq] at hsz
      | some i => simp [Builtin.copy_, run_underlying hu, Builtin.lenOf, Builtin.firstCells, sizeOf, typeInfo, hq, storeCells]
    unfold Oper.wp
    simp [execOp, ho, resolve, invoke, builtin, hd, hs, hrun, Result.andThen]
    exact hK _ _ (h w (by simpa using hg) (Turns.refl _ _))
  · injection hv with e1 e2 e3
    subst e1
    have hsrc : ∀ j v, cs[j]? = some v → w.cell? ((⟨gs, 0, none⟩ : Addr).add j) = some v := fun j v hj => hrow.cells (g := gs) rfl j v hj
    have hrun := run_copy_rows (P := P) w dT sT o.type elem size g 0 dLen dCap ⟨gs, 0, none⟩ sLen sCap cur t cs hu hsz hg (by rw [hmin]; exact hlen) hsrc (by omega) h1
    rw [hmin] at hrun
    unfold Oper.wp
    simp [execOp, ho, resolve, invoke, builtin, hd, hs, hrun, Result.andThen]
    refine hK _ _ (h _ ?_ ?_)
    · rw [setRow_heap w g _ _ t _ hg]
    · exact ⟨rfl, rfl, rfl, by simp [World.setRow], fun k _ hk => setRow_other w g k _ hk⟩
end

theorem made_acts (n : Nat) : (madeCells #[.int .i64 0, .int .u64 0, .int .u64 0] (n * 3)).toList = actWCells (List.replicate n ⟨0, 0, 0⟩) := by
  induction n with
  | zero => simp [madeCells, actWCells]
  | succ n ih =>
    have h1 : madeCells #[.int .i64 0, .int .u64 0, .int .u64 0] ((n + 1) * 3) = madeCells #[.int .i64 0, .int .u64 0, .int .u64 0] (n * 3) ++ #[.int .i64 0, .int .u64 0, .int .u64 0] := by
      apply Array.ext_getElem?
      intro i
      rw [Array.getElem?_append, size_madeCells]
      by_cases hi : i < n * 3
      · rw [if_pos hi]
        simp [madeCells, hi, show i < (n + 1) * 3 by omega]
      · rw [if_neg hi]
        by_cases hj : i < (n + 1) * 3
        · have e : i - n * 3 = 0 ∨ i - n * 3 = 1 ∨ i - n * 3 = 2 := by omega
          have em : i % 3 = i - n * 3 := by omega
          simp only [madeCells, Array.getElem?_map, Array.getElem?_range, hj, if_true, Option.map_some]
          rcases e with e | e | e <;> · simp [em, e]
        · simp [madeCells, hj]
          omega
    rw [h1, Array.toList_append, ih, List.replicate_succ', actWCells_snoc]

theorem rowM_shape {w : World} {base size : Nat} {e : TypeId} {n c : Nat} {a : Option Addr} {xs : List Value} (h : w.ownsRow base e size (.slice a n c) n xs) (hn : 0 < n) : ∃ g, a = some ⟨g, 0, none⟩ := by
  rcases h.2 with ⟨_, h2⟩ | ⟨g, _, _, h1, _⟩
  · omega
  · injection h1 with h1; exact ⟨g, h1⟩
theorem rowM_block {w : World} {base size : Nat} {e : TypeId} {n g c : Nat} {xs : List Value} (h : w.ownsRow base e size (.slice (some ⟨g, 0, none⟩) n c) n xs) :
    ∃ cur : Array Value, w.heap[g]? = some (.cells cur e (0, 0)) ∧ n ≤ c ∧ c ≤ maxLen ∧ cur.size = c * size ∧ cur.toList.take (n * size) = xs ∧ base ≤ g := by
  rcases h.2 with ⟨h1, _⟩ | ⟨g', cap, cur, h1, h2, h3, h4, h5, h6, h7⟩
  · cases h1
  · injection h1 with e1 e2 e3
    injection e1 with e1
    injection e1 with e1
    subst e1 e3
    exact ⟨cur, h3, h4, h5, h6, h7, h2⟩
theorem rowM_set {w : World} {base size : Nat} {e : TypeId} {n g c m : Nat} {xs : List Value} (h : w.ownsRow base e size (.slice (some ⟨g, 0, none⟩) n c) n xs) (u : Value) :
    (w.setCell ⟨g, m, none⟩ u).ownsRow base e size (.slice (some ⟨g, 0, none⟩) n c) n (xs.set m u) := by
  obtain ⟨cur, h1, h2, h3, h4, h5, h6⟩ := rowM_block h
  refine ⟨by rw [List.length_set]; exact h.1, .inr ⟨g, c, _, rfl, h6, heap_setCell h1 u, h2, h3, by simpa using h4, ?_⟩⟩
  rw [Array.toList_setIfInBounds, ← h5, List.take_set]
theorem rowM_cell {w : World} {base size : Nat} {e : TypeId} {n g c m : Nat} {xs : List Value} (h : w.ownsRow base e size (.slice (some ⟨g, 0, none⟩) n c) n xs) (hm : m < n * size) : ∃ u, w.cell? ⟨g, m, none⟩ = some u := by
  have hx : m < xs.length := by have := h.1; omega
  have := h.cells (g := g) rfl m _ (List.getElem?_eq_getElem hx)
  have hadd : (⟨g, 0, none⟩ : Addr).add m = ⟨g, m, none⟩ := by unfold Addr.add; split <;> simp_all
  rw [hadd] at this
  exact ⟨_, this⟩


/-- a row of accesses, of whatever type of theirs. -/
theorem actsW_rowE {w : World} {B n c : Nat} {e : TypeId} {a : Option Addr} {l : List A3} (h : w.ownsRow B e 3 (.slice a n c) n (actWCells l)) : ActsW w a l := by
  intro j hj
  have h0 := actWCells_get l j hj
  obtain ⟨g, e1, c1, _⟩ := own_cell h h0.1
  obtain ⟨g2, e2, c2, _⟩ := own_cell h h0.2.1
  obtain ⟨g3, e3, c3, _⟩ := own_cell h h0.2.2
  rw [e1] at e2 e3
  injection e2 with e2
  injection e2 with e2
  injection e3 with e3
  injection e3 with e3
  subst e2 e3
  exact ⟨g, 0, e1, by rw [Nat.zero_add]; exact c1, by rw [Nat.zero_add]; exact c2, by rw [Nat.zero_add]; exact c3⟩
theorem actsW_front {w : World} {g : Nat} {l m : List A3} (h : ActsW w (some ⟨g, 0, none⟩) (l ++ m)) : ActsW w (some ⟨g, 0, none⟩) l := by
  intro j hj
  obtain ⟨b, off, e, h1, h2, h3⟩ := h j (by simp; omega)
  rw [List.getElem_append_left hj] at h1 h2 h3
  exact ⟨b, off, e, h1, h2, h3⟩
theorem actW_oneCell (l : List A3) : ∀ u ∈ actWCells l, u.oneCell' = true := by
  intro u hu
  simp only [actWCells, List.mem_flatMap] at hu
  obtain ⟨x, _, hx⟩ := hu
  simp at hx
  rcases hx with rfl | rfl | rfl <;> rfl
theorem actWCells_append (l m : List A3) : actWCells (l ++ m) = actWCells l ++ actWCells m := by simp [actWCells, List.flatMap_append]
theorem info_act_size : (Tryz.prog.info? 42).map (·.size) = some 3 := by kernel_rfl
theorem neq_act (x : A3) (w : World) : (binOp .neq 42 (.agg #[.int .i64 x.k, .int .u64 x.a, .int .u64 x.b]) (.agg #[.int .i64 x.k, .int .u64 x.a, .int .u64 x.b])).run Tryz.prog w = .ok (.bool false) w := by simp [go_sem]

/-- 'full' and 'was' read the same. -/
def fiveZ : List A3 := List.replicate 5 ⟨0, 0, 0⟩

theorem full_cells (l : List A3) : actWCells l ++ (madeCells #[.int .i64 0, .int .u64 0, .int .u64 0] ((l.length + 5) * 3)).toList.drop (actWCells l).length = actWCells (l ++ fiveZ) := by
  rw [made_acts, show List.replicate (l.length + 5) (⟨0, 0, 0⟩ : A3) = List.replicate l.length ⟨0, 0, 0⟩ ++ fiveZ by unfold fiveZ; rw [List.replicate_append_replicate], actWCells_append, actWCells_append]
  congr 1
  have e : (actWCells l).length = (actWCells (List.replicate l.length (⟨0, 0, 0⟩ : A3))).length := by rw [actWCells_len, actWCells_len, List.length_replicate]
  rw [e, List.drop_left]
theorem full_row {w : World} {B g : Nat} (l : List A3) (hB : B ≤ g) (hn : l.length * 24 ≤ 140737488351232) (h : w.heap[g]? = some (.cells (actWCells (l ++ fiveZ)).toArray 42 (0, 0))) :
    w.ownsRow B 42 3 (.slice (some ⟨g, 0, none⟩) (l.length + 5) (l.length + 5)) (l.length + 5) (actWCells (l ++ fiveZ)) := by
  have hl : (l ++ fiveZ).length = l.length + 5 := by simp [fiveZ]
  refine ⟨by rw [actWCells_len, hl], .inr ⟨g, l.length + 5, _, rfl, hB, h, Nat.le_refl _, by unfold maxLen; omega, by simp [actWCells_len, hl], ?_⟩⟩
  rw [List.take_of_length_le (by simp [actWCells_len, hl])]

theorem outCells_set (ys : List (Int × Bool)) : ∀ (j : Nat) (x : Int × Bool), j < ys.length → outCellsOf (ys.set j x) = ((outCellsOf ys).set (j * 2) (.int .u64 x.1)).set (j * 2 + 1) (.bool x.2) := by
  induction ys with
  | nil => intro j x h; exact absurd h (by simp)
  | cons y r ih =>
    intro j x h
    cases j with
    | zero => rfl
    | succ j =>
      have := ih j x (by simpa using h)
      have e : outCellsOf (y :: r) = .int .u64 y.1 :: .bool y.2 :: outCellsOf r := rfl
      have e2 : outCellsOf (y :: r.set j x) = .int .u64 y.1 :: .bool y.2 :: outCellsOf (r.set j x) := rfl
      rw [List.set_cons_succ, e2, e, this, show (j + 1) * 2 = j * 2 + 1 + 1 by omega, show j * 2 + 1 + 1 + 1 = j * 2 + 1 + 1 + 1 from rfl]
      simp
theorem actCells_setA (ys : List A3) : ∀ (j : Nat) (h : j < ys.length) (v : Int), actWCells (ys.set j ⟨ys[j].k, v, ys[j].b⟩) = (actWCells ys).set (j * 3 + 1) (.int .u64 v) := by
  induction ys with
  | nil => intro j h; exact absurd h (by simp)
  | cons y r ih =>
    intro j h v
    cases j with
    | zero => rfl
    | succ j =>
      have := ih j (by simpa using h) v
      have e : actWCells (y :: r) = .int .i64 y.k :: .int .u64 y.a :: .int .u64 y.b :: actWCells r := rfl
      have e2 : ∀ z, actWCells (y :: r.set j z) = .int .i64 y.k :: .int .u64 y.a :: .int .u64 y.b :: actWCells (r.set j z) := fun _ => rfl
      rw [List.getElem_cons_succ, List.set_cons_succ, e2, e, this, show (j + 1) * 3 + 1 = j * 3 + 1 + 1 + 1 + 1 by omega]
      simp

/-- one more. -/
def inc (x : A3) : A3 := ⟨x.k, (x.a + 1) % 18446744073709551616, x.b⟩
def bump (l : List A3) (j : Nat) : List A3 := l.mapIdx fun i x => if i < j then inc x else x
theorem bump_at (l : List A3) (j i : Nat) : (bump l j)[i]? = l[i]?.map fun x => if i < j then inc x else x := by
  unfold bump; rw [List.getElem?_mapIdx]
theorem bump_zero (l : List A3) : bump l 0 = l := by
  apply List.ext_getElem?; intro i; rw [bump_at]; simp
theorem bump_all (l : List A3) (j : Nat) (h : l.length ≤ j) : bump l j = l.map inc := by
  apply List.ext_getElem?; intro i; rw [bump_at, List.getElem?_map]
  by_cases hi : i < l.length
  · simp [show i < j by omega]
  · rw [List.getElem?_eq_none (by omega)]; rfl
theorem bump_len (l : List A3) (j : Nat) : (bump l j).length = l.length := by simp [bump]
theorem bump_get (l : List A3) (j : Nat) (h : j < l.length) (h2 : j < (bump l j).length) : (bump l j)[j] = l[j] := by
  have h1 := bump_at l j j
  rw [List.getElem?_eq_getElem h, List.getElem?_eq_getElem h2] at h1
  simpa using h1
theorem bump_succ (l : List A3) (j : Nat) (h : j < l.length) : bump l (j + 1) = (bump l j).set j (inc l[j]) := by
  apply List.ext_getElem?
  intro i
  rw [List.getElem?_set, bump_at, bump_at, bump_len]
  by_cases h1 : j = i
  · subst h1
    simp [h]
  · rw [if_neg h1]
    congr 1
    funext x
    by_cases h2 : i < j
    · rw [if_pos h2, if_pos (by omega)]
    · rw [if_neg h2, if_neg (by omega)]

end Go.Proofs.YtfkhflknigemgaaGreat
