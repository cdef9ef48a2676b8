/-
  DERIVED. THE WALK over larchlaw02's CellKeeps.
-/
import Derived.Test.YtjifoggfndicoaaRefn
import Derived.Test.YtjifoggfndicoaaTo
import Derived.Test.YtjifoggfndicoaaShut
namespace Go.Proofs.Ytjifoggfndicoaa
open Go.RowKit
set_option maxRecDepth 100000

theorem ints_news {w : World} {ad : Addr} {xs : List Int} (o : Obj) (hr : IntsIn w (some ad) xs) : ∀ j u, (xs.map (Value.int .i64))[j]? = some u → (w.alloc o).cell? (ad.add j) = some u := fun j u hu => by
  have hj : j < xs.length := by
    rcases Nat.lt_or_ge j xs.length with h | h
    · exact h
    · rw [List.getElem?_eq_none (by simpa using h)] at hu; cases hu
  obtain ⟨b, off, h1, h2⟩ := hr j hj
  injection h1 with h1
  subst h1
  have hadd : (⟨b, off, none⟩ : Addr).add j = ⟨b, off + j, none⟩ := by unfold Addr.add; split <;> simp_all
  rw [hadd]
  have h3 : u = .int .i64 xs[j] := by simpa [hj] using hu.symm
  rw [h3]
  exact boxed_cell h2 _

theorem RowI.intsOf {w : World} {B n c : Nat} {a : Option Addr} {xs : List Int} (h : RowI w B (.slice a n c) xs) : IntsIn w a xs := by
  obtain ⟨a', c', e, hi⟩ := h.intsIn
  injection e with e1
  rw [e1]
  exact hi

theorem ints_of_row {w : World} {B m c : Nat} {a : Option Addr} {xs : List Int} (h : w.ownsRow B 3 1 (.slice a m c) m (xs.map (Value.int .i64))) : IntsIn w a xs := by
  have hm : xs.length = m := by have := h.1; simpa using this
  subst hm
  exact RowI.intsOf h

theorem rowN_shape {w : World} {base size : Nat} {e : TypeId} {n c : Nat} {a : Option Addr} {xs : List Value} (h : w.ownsRow base e size (.slice a n c) n xs) (hn : 0 < n) : ∃ g, a = some ⟨g, 0, none⟩ := by
  rcases h.2 with ⟨_, h2⟩ | ⟨g, _, _, h1, _⟩
  · omega
  · injection h1 with h1; exact ⟨g, h1⟩
theorem rowN_block {w : World} {base size : Nat} {e : TypeId} {n g c : Nat} {xs : List Value} (h : w.ownsRow base e size (.slice (some ⟨g, 0, none⟩) n c) n xs) :
    ∃ cur : Array Value, w.heap[g]? = some (.cells cur e (0, 0)) ∧ n ≤ c ∧ c ≤ maxLen ∧ cur.size = c * size ∧ cur.toList.take (n * size) = xs ∧ base ≤ g := by
  rcases h.2 with ⟨h1, _⟩ | ⟨g', cap, cur, h1, h2, h3, h4, h5, h6, h7⟩
  · cases h1
  · injection h1 with e1 e2 e3
    injection e1 with e1
    injection e1 with e1
    subst e1 e3
    exact ⟨cur, h3, h4, h5, h6, h7, h2⟩
theorem rowN_set {w : World} {base size : Nat} {e : TypeId} {n g c m : Nat} {xs : List Value} (h : w.ownsRow base e size (.slice (some ⟨g, 0, none⟩) n c) n xs) (u : Value) :
    (w.setCell ⟨g, m, none⟩ u).ownsRow base e size (.slice (some ⟨g, 0, none⟩) n c) n (xs.set m u) := by
  obtain ⟨cur, h1, h2, h3, h4, h5, h6⟩ := rowN_block h
  refine ⟨by rw [List.length_set]; exact h.1, .inr ⟨g, c, _, rfl, h6, heap_setCell h1 u, h2, h3, by simpa using h4, ?_⟩⟩
  rw [Array.toList_setIfInBounds, ← h5, List.take_set]
theorem rowN_cell {w : World} {base size : Nat} {e : TypeId} {n g c m : Nat} {xs : List Value} (h : w.ownsRow base e size (.slice (some ⟨g, 0, none⟩) n c) n xs) (hm : m < n * size) : ∃ u, w.cell? ⟨g, m, none⟩ = some u := by
  have hx : m < xs.length := by have := h.1; omega
  have := h.cells (g := g) rfl m _ (List.getElem?_eq_getElem hx)
  have hadd : (⟨g, 0, none⟩ : Addr).add m = ⟨g, m, none⟩ := by unfold Addr.add; split <;> simp_all
  rw [hadd] at this
  exact ⟨_, this⟩

/-- THE SIX LISTS that are compared at the end: three of the reference's (from br on, below bx), three of the second Nums (from bu on, below bn). -/
structure Six (w0 : World) (br bx bu bn : Nat) (A B K : List Int) (va vb vk vu vv vw : Value) (wx : World) : Prop where
  below : Below w0.heap.size w0 wx
  size : bn ≤ wx.heap.size
  low : w0.heap.size ≤ br ∧ br ≤ bx ∧ bx ≤ bu ∧ bu ≤ bn
  ra : wx.ownsRow br 3 1 va A.length (A.map (Value.int .i64))
  rb : wx.ownsRow br 3 1 vb B.length (B.map (Value.int .i64))
  rk : wx.ownsRow br 3 1 vk K.length (K.map (Value.int .i64))
  ru : wx.ownsRow bu 3 1 vu A.length (A.map (Value.int .i64))
  rv : wx.ownsRow bu 3 1 vv B.length (B.map (Value.int .i64))
  rw_ : wx.ownsRow bu 3 1 vw K.length (K.map (Value.int .i64))
  la : ∀ g, va.ownBlock = some g ∨ vb.ownBlock = some g ∨ vk.ownBlock = some g → br ≤ g ∧ g < bx
  lu : ∀ g, vu.ownBlock = some g ∨ vv.ownBlock = some g ∨ vw.ownBlock = some g → bu ≤ g ∧ g < bn

/-- what may be written to: whatever is not theirs and not the caller's. -/
def Free (w0 : World) (br bx bu bn : Nat) (i : Nat) : Prop := w0.heap.size ≤ i ∧ (i < br ∨ (bx ≤ i ∧ i < bu) ∨ bn ≤ i)
theorem Six.turns {w0 : World} {br bx bu bn : Nat} {A B K : List Int} {va vb vk vu vv vw : Value} {wx wy : World} (h : Six w0 br bx bu bn A B K va vb vk vu vv vw wx) (ht : Turns (Free w0 br bx bu bn) wx wy) : Six w0 br bx bu bn A B K va vb vk vu vv vw wy := by
  obtain ⟨l1, l2, l3, l4⟩ := h.low
  have fa : ∀ g, va.ownBlock = some g ∨ vb.ownBlock = some g ∨ vk.ownBlock = some g → ¬ Free w0 br bx bu bn g := fun g hg hf => by
    have := h.la g hg
    rcases hf.2 with h | h | h <;> omega
  have fu : ∀ g, vu.ownBlock = some g ∨ vv.ownBlock = some g ∨ vw.ownBlock = some g → ¬ Free w0 br bx bu bn g := fun g hg hf => by
    have := h.lu g hg
    rcases hf.2 with h | h | h <;> omega
  exact ⟨h.below.trans (ht.below (fun k hk _ => hk.1) h.below.size), Nat.le_trans h.size ht.size, h.low, ht.row h.ra (fun k hk => fa k (.inl hk)), ht.row h.rb (fun k hk => fa k (.inr (.inl hk))), ht.row h.rk (fun k hk => fa k (.inr (.inr hk))),
    ht.row h.ru (fun k hk => fu k (.inl hk)), ht.row h.rv (fun k hk => fu k (.inr (.inl hk))), ht.row h.rw_ (fun k hk => fu k (.inr (.inr hk))), h.la, h.lu⟩
theorem Six.later {w0 : World} {br bx bu bn : Nat} {A B K : List Int} {va vb vk vu vv vw : Value} {wx wy : World} (h : Six w0 br bx bu bn A B K va vb vk vu vv vw wx) (hb : Below bn wx wy) : Six w0 br bx bu bn A B K va vb vk vu vv vw wy := by
  obtain ⟨l1, l2, l3, l4⟩ := h.low
  exact h.turns (Turns.of_below hb (fun k hk _ => ⟨by omega, .inr (.inr hk)⟩))

theorem ints_front {w : World} {g : Nat} {l m : List Int} (h : IntsIn w (some ⟨g, 0, none⟩) (l ++ m)) : IntsIn w (some ⟨g, 0, none⟩) l := by
  intro j hj
  obtain ⟨b, off, e, h1⟩ := h j (by simp; omega)
  exact ⟨b, off, e, by rw [List.getElem_append_left hj] at h1; exact h1⟩

theorem numsAns_le (cells : List Int) (acts : List A4) : (numsAns cells acts).length ≤ acts.length := by
  unfold numsAns; split
  · rw [(numTo_len cells acts).1]; exact Nat.le_refl _
  · simp
theorem numsEnd_le (cells : List Int) (acts : List A4) : (numsEnd cells acts).length ≤ cells.length := by
  unfold numsEnd; split
  · rw [(numTo_len cells acts).2]; exact Nat.le_refl _
  · simp
theorem numsKinds_le (cells : List Int) (acts : List A4) : (numsKinds cells acts).length ≤ acts.length := by
  unfold numsKinds; split
  · simp
  · simp

theorem grown_same (w : World) (r : Option Nat) : w.grownBy w r := ⟨rfl, rfl, rfl, Nat.le_refl _, fun _ _ _ => rfl⟩

/-- a row of one's own, whatever it holds. -/
def Ow (B : Nat) (v : Value) (n : Nat) (w : World) : Prop := ∃ xs, w.ownsRow B 3 1 v n xs
theorem Ow.turns {S : Nat → Prop} {B : Nat} {v : Value} {n : Nat} {w w' : World} (h : Ow B v n w) (ht : Turns S w w') (hS : ∀ k, v.ownBlock = some k → ¬ S k) : Ow B v n w' := by
  obtain ⟨xs, h⟩ := h
  exact ⟨xs, ht.row h hS⟩

/-- the three rows that are written over one behind the other: those that still wait are there. -/
structure Three (B : Nat) (vx vy vz : Value) (nx ny nz : Nat) (j : Nat) (w : World) : Prop where
  x : j ≤ 0 → Ow B vx nx w
  y : j ≤ 1 → Ow B vy ny w
  z : j ≤ 2 → Ow B vz nz w
theorem Three.turns {S : Nat → Prop} {B : Nat} {vx vy vz : Value} {nx ny nz j : Nat} {w w' : World} (h : Three B vx vy vz nx ny nz j w) (ht : Turns S w w') (hS : ∀ k, vx.ownBlock = some k ∨ vy.ownBlock = some k ∨ vz.ownBlock = some k → ¬ S k) : Three B vx vy vz nx ny nz j w' :=
  ⟨fun hj => (h.x hj).turns ht (fun k hk => hS k (.inl hk)), fun hj => (h.y hj).turns ht (fun k hk => hS k (.inr (.inl hk))), fun hj => (h.z hj).turns ht (fun k hk => hS k (.inr (.inr hk)))⟩
theorem Three.pick {B C lit : Nat} {px py pz : Option Addr} {nx ny nz qx qy qz j : Nat} {w : World} (h : Three B (.slice px nx qx) (.slice py ny qy) (.slice pz nz qz) nx ny nz j w) (hj : j < 3)
    (hl : w.heap[lit]? = some (.cells #[.slice px nx qx, .slice py ny qy, .slice pz nz qz] 22 (0, 0)))
    (bx : ∀ k, (Value.slice px nx qx).ownBlock = some k → B ≤ k ∧ k < C) (by_ : ∀ k, (Value.slice py ny qy).ownBlock = some k → B ≤ k ∧ k < C) (bz : ∀ k, (Value.slice pz nz qz).ownBlock = some k → B ≤ k ∧ k < C)
    (hn : nx ≤ 17592186043904 ∧ ny ≤ 17592186043904 ∧ nz ≤ 17592186043904)
    (d1 : ∀ k, (Value.slice px nx qx).ownBlock = some k → (Value.slice py ny qy).ownBlock ≠ some k ∧ (Value.slice pz nz qz).ownBlock ≠ some k) (d2 : ∀ k, (Value.slice py ny qy).ownBlock = some k → (Value.slice pz nz qz).ownBlock ≠ some k) :
    ∃ p n q, w.cell? ⟨lit, j, none⟩ = some (.slice p n q) ∧ Ow B (.slice p n q) n w ∧ (∀ k, (Value.slice p n q).ownBlock = some k → B ≤ k ∧ k < C) ∧ n ≤ 17592186043904 ∧
      ∀ w', Turns (fun k => (Value.slice p n q).ownBlock = some k) w w' → Three B (.slice px nx qx) (.slice py ny qy) (.slice pz nz qz) nx ny nz (j + 1) w' := by
  obtain rfl | rfl | rfl : j = 0 ∨ j = 1 ∨ j = 2 := by omega
  · refine ⟨px, nx, qx, cell_of_heap hl rfl, h.x (by omega), bx, hn.1, fun w' ht => ⟨fun h => by omega, fun _ => (h.y (by omega)).turns ht (fun k hk e => (d1 k e).1 hk), fun _ => (h.z (by omega)).turns ht (fun k hk e => (d1 k e).2 hk)⟩⟩
  · refine ⟨py, ny, qy, cell_of_heap hl rfl, h.y (by omega), by_, hn.2.1, fun w' ht => ⟨fun h => by omega, fun h => by omega, fun _ => (h.z (by omega)).turns ht (fun k hk e => d2 k e hk)⟩⟩
  · refine ⟨pz, nz, qz, cell_of_heap hl rfl, h.z (by omega), bz, hn.2.2, fun w' ht => ⟨fun h => by omega, fun h => by omega, fun h => by omega⟩⟩

section
variable {P : Program} {w : World}
/-- 'append([]int{}, l...)', l nil or not: as new memory. -/
theorem wpList_append_copy {ops : Array Oper} {rest : List Oper} {o : Oper} {a : Act} {Q : Exit → Act → World → Prop} (hgd : o.guard = none) (s x : Operand) (t : TypeId)
    (ho : o.op = .call { callee := .builtin .append, args := #[s, x], argTypes := #[t, t] }) (base : Nat) (e : TypeId) (i : TypeInfo) (ht : P.underlying t = some (.slice e)) (hi : P.info? e = some i) (hz : i.zero = some (.int .i64 0))
    (hsize : i.size = 1) (hby : i.bytes = 8) (v : Value) (hs : a.eval s = v) (hown : w.ownsRow base e 1 v 0 []) (sa : Option Addr) (c : Nat) (l : List Int) (hx : a.eval x = .slice sa l.length c)
    (hnews : ∀ ad, sa = some ad → ∀ j u, (l.map (Value.int .i64))[j]? = some u → w.cell? (ad.add j) = some u) (hno : sa = none → l = []) (hbytes : l.length * 8 ≤ 140737488351232) (hbase : base ≤ w.heap.size)
    (h : ∀ v' w', w'.ownsRow base e 1 v' l.length (l.map (Value.int .i64)) → w.grownBy w' v.ownBlock → wpList P ops Q rest (a.put o.dst v') w') : wpList P ops Q (o :: rest) a w := by
  cases sa with
  | none =>
    obtain rfl := hno rfl
    have hrun : (Builtin.append_ #[t, t] o.type #[v, .slice none 0 c]).run P w = .ok v w := by
      rcases hown.2 with ⟨rfl, _⟩ | ⟨g, cap, cur, rfl, _, _, hnc, _⟩
      · simp [Builtin.append_, run_underlying ht, sizeOf, typeInfo, hi, Builtin.lenOf, Builtin.firstCells]
      · simp [Builtin.append_, run_underlying ht, sizeOf, typeInfo, hi, Builtin.lenOf, Builtin.firstCells, storeCells]
    have hx' : a.eval x = .slice none 0 c := hx
    refine wpList_plain hgd fun K hK => ?_
    unfold Oper.wp
    simp [execOp, ho, resolve, invoke, builtin, hs, hx', hrun, Result.andThen]
    exact hK _ _ (h v w hown (grown_same w _))
  | some ad =>
    refine wpList_append_own w hgd s x t ho base e i (.int .i64 0) 1 8 ht hi hz hsize hby rfl (by decide) v 0 [] hs hown ad l.length c (l.map (Value.int .i64)) hx (by simp) (hnews ad rfl) (ints_oneCell _ _) (by unfold maxLen; omega) (by omega) hbase ?_
    intro v' w' h1 h2 _
    rw [Nat.zero_add, List.nil_append] at h1
    exact h v' w' h1 h2
end

set_option maxHeartbeats 8000000 in
theorem keeps_any (sa : Option Addr) (c0 : Nat) (l0 : List Int) (a1 : Option Addr) (c1 : Nat) (l1 : List A4) (w0 : World) (r0 : IntsIn w0 sa l0) (z0 : l0.length * 8 ≤ 140737488351232) (r1 : ActsIn w0 a1 l1) (z1 : l1.length * 32 ≤ 140737488351232) :
    Calls Try.prog 6 #[.slice sa l0.length c0, .slice a1 l1.length c1] w0 fun e w' => e = .returned (.bool true) ∧ Below w0.heap.size w0 w' := by
  obtain ⟨i0, hi, hz0, hz1, hz2⟩ := info_parts info_int
  have R0 := Lib.hid r0
  have Hno := Lib.hid (show sa = none → l0 = [] from fun e => by
    cases hl : l0 with
    | nil => rfl
    | cons y r =>
      obtain ⟨_, _, h, _⟩ := r0 0 (by rw [hl]; simp)
      rw [e] at h
      cases h)
  have R1 := Lib.hid r1
  clear r0 r1
  go_enter Try.func6, Try.ntmps6
  go_wp2_with fail
  refine (awake_any _).mono ?_
  rintro e wA ⟨rfl, hbA⟩
  have BA := Lib.hid hbA
  have hbA0 := Lib.hid hbA.size
  have RA := Lib.hid (R0.out.below hbA)
  have SA := Lib.hid (R1.out.below hbA)
  have Hn := Lib.hid (fun ad (e : sa = some ad) => ints_news (.cells #[] 3) (e ▸ RA.out))
  have Hm := Lib.hid (World.ownsRow_made wA (e := 3) (size := 1) #[] 0 (Nat.le_refl _) (Nat.zero_le _) rfl)
  clear hbA
  go_wp2_with (at_builtin; refine wpList_append_copy rfl _ _ 22 rfl wA.heap.size 3 i0 Try.underlying22 hi hz0 hz1 hz2 _ rfl Hm.out sa c0 l0 rfl Hn.out Hno.out (by omega) (by simp) ?_)
  intro v1 w1 o1 g1
  obtain ⟨p1, q1, rfl⟩ := row_shape o1
  have hs1 : wA.heap.size ≤ w1.heap.size := by have := g1.size; simp at this; omega
  have t1 : Below wA.heap.size wA w1 := ((Below.refl _ _).alloc (Nat.le_refl _) _).grown g1 (by simp) (fun k hk => by simp [Value.ownBlock] at hk; omega)
  have O1 := Lib.hid (o1.alloc (.cells #[.int .i64 77, .int .i64 78] 3))
  have P1 := Lib.hid o1.lt
  have T1 := Lib.hid t1
  clear o1 g1 t1 Hn Hm
  go_wp2_with (at_builtin; refine wpList_append_own _ rfl _ _ 22 rfl wA.heap.size 3 i0 (.int .i64 0) 1 8 Try.underlying22 hi hz0 hz1 hz2 rfl (by decide) _ _ _ rfl O1.out ⟨w1.heap.size, 0, none⟩ 2 2 [.int .i64 77, .int .i64 78] rfl (by simp) (cells_in_new w1 [.int .i64 77, .int .i64 78] 3) (by simp [Value.oneCell']) (by unfold maxLen; omega) (by omega) (by simp; omega) ?_)
  intro v2 w2 o2 g2 n2
  obtain ⟨g, c, rfl⟩ : ∃ g c, v2 = .slice (some ⟨g, 0, none⟩) (l0.length + 2) c := by
    rcases o2.2 with ⟨h1, h2⟩ | ⟨g, c, cur, h1, _⟩
    · exact absurd h1 n2
    · exact ⟨g, c, h1⟩
  have b2 : Below w0.heap.size w0 w2 := (BA.out.trans (T1.out.mono BA.out.size)).trans (((Turns.alloc _ w1 _).trans (Turns.grown g2 (fun _ h => h))).below (fun k hk _ => by have := (P1.out k hk).1; have := BA.out.size; omega) (by have := BA.out.size; omega))
  have w2row : w2.ownsRow wA.heap.size 3 1 (.slice (some ⟨g, 0, none⟩) (l0.length + 2) c) (l0.length + 2) ((l0 ++ [77, 78]).map (Value.int .i64)) := by
    rw [List.map_append]; exact o2
  obtain ⟨cur, _, hcc, hcm, _⟩ := row_block w2row
  have hnc : l0.length ≤ c := by omega
  have W2 := Lib.hid w2row
  have B2 := Lib.hid b2
  have S2 := Lib.hid (R1.out.below b2)
  have U2 := Lib.hid (R0.out.below b2)
  clear o2 g2 n2 b2 w2row O1 P1 T1 RA SA BA
  go_wp2_with fail
  refine (to_any _ _ l1 _ z1 S2.out).mono ?_
  rintro e w3 ⟨v3, rfl, o3, b3⟩
  obtain ⟨p3, q3, rfl⟩ := row_shape o3
  have W3 := Lib.hid (row_below W2.out b3)
  have L3 := Lib.hid o3
  have B3 := Lib.hid (B2.out.trans (b3.mono B2.out.size))
  have S3 := Lib.hid (S2.out.below b3)
  have U3 := Lib.hid (U2.out.below b3)
  have hs3 := b3.size
  have Hb0 := Lib.hid (show w0.heap.size ≤ w3.heap.size by have := B2.out.size; omega)
  have hbr : wA.heap.size ≤ w2.heap.size := by have := (W2.out.lt g rfl); omega
  have HgF := Lib.hid (show w0.heap.size ≤ g ∧ g < w2.heap.size ∧ w2.heap.size ≤ w3.heap.size by have h1 := (W2.out.lt g rfl); have h2 := hbA0.out; exact ⟨by omega, h1.2, hs3⟩)
  have HLl := Lib.hid L3.out.lt
  clear o3 b3 W2 B2 S2 U2 hbr hbA0
  go_wp2_with fail
  refine (refnums_any _ _ _ _ l0 l1 _ S3.out U3.out).mono ?_
  rintro e w4 ⟨va, vb, vk, rfl, oa, ob, ok, b4⟩
  obtain ⟨pa, qa, rfl⟩ := row_shape oa
  obtain ⟨pb, qb, rfl⟩ := row_shape ob
  obtain ⟨pk, qk, rfl⟩ := row_shape ok
  have W4 := Lib.hid (row_below W3.out b4)
  have L4 := Lib.hid (row_below L3.out b4)
  have B4 := Lib.hid (B3.out.trans (b4.mono B3.out.size))
  have OA4 := Lib.hid oa
  have OB4 := Lib.hid ob
  have OK4 := Lib.hid ok
  have hs4 := b4.size
  clear b4 oa ob ok W3 L3 B3 S3 U3
  have hint4 : IntsIn w4 (some ⟨g, 0, none⟩) l0 := ints_front (m := [77, 78]) (ints_of_row W4.out)
  have hact4 : ActsIn w4 p3 l1 := actsIn_row L4.out
  have I4 := Lib.hid hint4
  have A4' := Lib.hid hact4
  clear hint4 hact4
  go_wp2_with fail
  refine (nums_any _ _ _ _ l0 l1 _ A4'.out I4.out).mono ?_
  rintro e w5 ⟨vx, vy, vz, rfl, ox, oy, oz, b5, d1, d2⟩
  have hla : ∀ b, (Value.slice pa _ qa).ownBlock = some b ∨ (Value.slice pb _ qb).ownBlock = some b ∨ (Value.slice pk _ qk).ownBlock = some b → w3.heap.size ≤ b ∧ b < w4.heap.size := fun b hb => by
    rcases hb with hb | hb | hb
    · exact OA4.out.lt b hb
    · exact OB4.out.lt b hb
    · exact OK4.out.lt b hb
  have LAA := Lib.hid hla
  clear hla
  obtain ⟨px, qx, rfl⟩ := row_shape ox
  obtain ⟨py, qy, rfl⟩ := row_shape oy
  obtain ⟨pz, qz, rfl⟩ := row_shape oz
  have W5 := Lib.hid (row_below W4.out b5)
  have L5 := Lib.hid (row_below L4.out b5)
  have B5 := Lib.hid (B4.out.trans (b5.mono B4.out.size))
  have OA5 := Lib.hid (row_below OA4.out b5)
  have OB5 := Lib.hid (row_below OB4.out b5)
  have OK5 := Lib.hid (row_below OK4.out b5)
  have LA := Lib.hid OA4.out.lt
  have LB := Lib.hid OB4.out.lt
  have LK := Lib.hid OK4.out.lt
  have I5 := Lib.hid (I4.out.below b5)
  have A5 := Lib.hid (A4'.out.below b5)
  have OX5 := Lib.hid ox
  have OY5 := Lib.hid oy
  have OZ5 := Lib.hid oz
  have D1 := Lib.hid d1
  have D2 := Lib.hid d2
  have hs5 := b5.size
  clear b5 ox oy oz d1 d2 W4 L4 B4 OA4 OB4 OK4 I4 A4'
  go_wp2_with fail
  refine (nums_any _ _ _ _ l0 l1 _ A5.out I5.out).mono ?_
  rintro e w6 ⟨vu, vv, vw, rfl, ou, ov, ow, b6, d3, d4⟩
  obtain ⟨pu, qu, rfl⟩ := row_shape ou
  obtain ⟨pv, qv, rfl⟩ := row_shape ov
  obtain ⟨pw, qw, rfl⟩ := row_shape ow
  have W6 := Lib.hid (row_below W5.out b6)
  have L6 := Lib.hid (row_below L5.out b6)
  have B6 := Lib.hid (B5.out.trans (b6.mono B5.out.size))
  have OA6 := Lib.hid (row_below OA5.out b6)
  have OB6 := Lib.hid (row_below OB5.out b6)
  have OK6 := Lib.hid (row_below OK5.out b6)
  have OX6 := Lib.hid (row_below OX5.out b6)
  have OY6 := Lib.hid (row_below OY5.out b6)
  have OZ6 := Lib.hid (row_below OZ5.out b6)
  have LX := Lib.hid OX5.out.lt
  have LY := Lib.hid OY5.out.lt
  have LZ := Lib.hid OZ5.out.lt
  have OU6 := Lib.hid ou
  have OV6 := Lib.hid ov
  have OW6 := Lib.hid ow
  have D3 := Lib.hid d3
  have D4 := Lib.hid d4
  have hs6 := b6.size
  have hsix : Six w0 w3.heap.size w4.heap.size w5.heap.size w6.heap.size (numsAns l0 l1) (numsEnd l0 l1) (numsKinds l0 l1) _ _ _ _ _ _ w6 :=
    ⟨B6.out, Nat.le_refl _, ⟨by have := (L6.out.alloc (.cells #[] 3)); have := Hb0.out; omega, hs4, hs5, hs6⟩, OA6.out, OB6.out, OK6.out, OU6.out, OV6.out, OW6.out, LAA.out, fun b hb => by
      rcases hb with hb | hb | hb
      · exact OU6.out.lt b hb
      · exact OV6.out.lt b hb
      · exact OW6.out.lt b hb⟩
  have Hsix := Lib.hid hsix
  have Ho := Lib.hid (fun ad (e : sa = some ad) => ints_news (.cells #[] 3) (e ▸ (R0.out.below B6.out)))
  have Hp := Lib.hid (World.ownsRow_made w6 (e := 3) (size := 1) #[] 0 (Nat.le_refl _) (Nat.zero_le _) rfl)
  clear b6 ou ov ow d3 d4 W5 L5 B5 OA5 OB5 OK5 I5 A5 OX5 OY5 OZ5
  go_wp2_with (at_builtin; refine wpList_append_copy rfl _ _ 22 rfl w6.heap.size 3 i0 Try.underlying22 hi hz0 hz1 hz2 _ rfl Hp.out sa c0 l0 rfl Ho.out Hno.out (by omega) (by simp) ?_)
  intro v7 w7 o7 g7
  obtain ⟨p7, q7, rfl⟩ := row_shape o7
  have hs7 : w6.heap.size ≤ w7.heap.size := by have := g7.size; simp at this; omega
  have t7 : Below w6.heap.size w6 w7 := ((Below.refl _ _).alloc (Nat.le_refl _) _).grown g7 (by simp) (fun k hk => by simp [Value.ownBlock] at hk; omega)
  have O7 := Lib.hid (o7.alloc (.cells #[.int .i64 77, .int .i64 78] 3))
  have P7 := Lib.hid o7.lt
  have T7 := Lib.hid t7
  clear o7 g7 t7 Ho Hp
  go_wp2_with (at_builtin; refine wpList_append_own _ rfl _ _ 22 rfl w6.heap.size 3 i0 (.int .i64 0) 1 8 Try.underlying22 hi hz0 hz1 hz2 rfl (by decide) _ _ _ rfl O7.out ⟨w7.heap.size, 0, none⟩ 2 2 [.int .i64 77, .int .i64 78] rfl (by simp) (cells_in_new w7 [.int .i64 77, .int .i64 78] 3) (by simp [Value.oneCell']) (by unfold maxLen; omega) (by omega) (by simp; omega) ?_)
  intro v8 w8 o8 g8 n8
  obtain ⟨p8, q8, rfl⟩ := row_shape o8
  have t8 : Below w6.heap.size w6 w8 := T7.out.trans (((Turns.alloc _ w7 _).trans (Turns.grown g8 (fun _ h => h))).below (fun k hk _ => (P7.out k hk).1) hs7)
  have Six8 := Lib.hid (Hsix.out.later t8)
  have W8 := Lib.hid (row_below W6.out t8)
  have L8 := Lib.hid (row_below L6.out t8)
  have X8 := Lib.hid (row_below OX6.out t8)
  have Y8 := Lib.hid (row_below OY6.out t8)
  have Z8 := Lib.hid (row_below OZ6.out t8)
  have I8 := Lib.hid (ints_of_row W8.out)
  have J8 := Lib.hid (show IntsIn w8 p8 (l0 ++ [77, 78]) from ints_of_row (B := w6.heap.size) (m := l0.length + 2) (c := q8) (by rw [List.map_append]; exact o8))
  clear o8 g8 n8 t8 O7 P7 T7 Hsix W6 L6 OX6 OY6 OZ6 OA6 OB6 OK6 OU6 OV6 OW6
  go_wp2_with fail
  refine (ints_same' _ _ _ _ _ _ (l0 ++ [77, 78]) _ (by simp) (by simp) I8.out J8.out (by simp; omega)).mono ?_
  rintro e w9 ⟨rfl, t9⟩
  have b9 : Below w8.heap.size w8 w9 := t9.below (fun _ h => h.elim) (Nat.le_refl _)
  have Six9 := Lib.hid (Six8.out.turns (t9.mono (fun _ _ h => h.elim)))
  have W9 := Lib.hid (row_below W8.out b9)
  have L9 := Lib.hid (row_below L8.out b9)
  have X9 := Lib.hid (row_below X8.out b9)
  have Y9 := Lib.hid (row_below Y8.out b9)
  have Z9 := Lib.hid (row_below Z8.out b9)
  have LW := Lib.hid W9.out.lt
  have LL := Lib.hid L9.out.lt
  clear t9 b9 Six8 W8 L8 X8 Y8 Z8 I8 J8
  go_wp2_with fail
  go_loopw [75] (fun i wr => ∃ (j : Nat) (xs : List Int), j ≤ l0.length ∧ i = .int .i64 j ∧ xs.length = l0.length + 2 ∧ wr.ownsRow wA.heap.size 3 1 (.slice (some ⟨g, 0, none⟩) (l0.length + 2) c) (l0.length + 2) (xs.map (Value.int .i64)) ∧ Turns (fun k => k = g) w9 wr) (fun i _ => l0.length - (intOf i).toNat)
  case atStart => exact ⟨0, l0 ++ [77, 78], Nat.zero_le _, rfl, by simp, W9.out, Turns.refl _ _⟩

  case round =>
    obtain ⟨j, xs, hj, rfl, hxl, hrow, ht⟩ := hrel
    by_cases hlt : j < l0.length
    · have hcell := row_cell hrow (show (xs.map (Value.int .i64))[j]? = some (.int .i64 (xs[j]'(by omega))) by simp [show j < xs.length by omega])
      obtain ⟨cur2, hcur, _⟩ := row_block hrow
      have hfr : wr.frozen? ⟨g, j, none⟩ = false := frozen_of_heap hcur
      have j0 : (0 : Int) ≤ (j : Int) := by omega
      have j1 : (j : Int) < (l0.length : Int) := by omega
      have Hrow := Lib.hid hrow
      have Ht := Lib.hid ht
      clear hrow ht hcur
      go_wp2_with fail
      refine ⟨⟨j + 1, xs.set j (wrap64 (xs[j]'(by omega) + 1)), by omega, by go_num, by simp [hxl], ?_, Ht.out.trans (Turns.setCell (S := fun k => k = g) _ (a := ⟨g, j, none⟩) rfl _)⟩, by simp [intOf]; omega⟩
      rw [List.map_set]
      exact row_set Hrow.out _
    · have hF := HgF.out
      have fg : ∀ k, k < w9.heap.size → k = g → Free w0 w3.heap.size w4.heap.size w5.heap.size w6.heap.size k := fun k _ hk => by
        subst hk
        exact ⟨hF.1, .inl (by omega)⟩
      have SixA := Lib.hid (Six9.out.turns (ht.mono fg))
      have LA9 := Lib.hid (ht.row L9.out (fun k hk e => by have := (HLl.out k hk).1; omega))
      have XA := Lib.hid (ht.row X9.out (fun k hk e => by have := (LX.out k hk).1; omega))
      have YA := Lib.hid (ht.row Y9.out (fun k hk e => by have := (LY.out k hk).1; omega))
      have ZA := Lib.hid (ht.row Z9.out (fun k hk e => by have := (LZ.out k hk).1; omega))
      clear ht hrow Six9 L9 X9 Y9 Z9 W9 hF fg
      go_wp2_with fail
      clear hlt hj
      obtain ⟨wB, rfl⟩ : ∃ wB, wB = wr := ⟨wr, rfl⟩
      go_loopw [87] (fun i wx => ∃ (j : Nat) (xs : List Value), j ≤ l1.length ∧ i = .int .i64 j ∧ wx.ownsRow w2.heap.size 57 4 (.slice p3 l1.length q3) l1.length xs ∧ Turns (fun k => (Value.slice p3 l1.length q3).ownBlock = some k) wB wx) (fun i _ => l1.length - (intOf i).toNat)
      case atStart => exact ⟨0, _, Nat.zero_le _, rfl, LA9.out, Turns.refl _ _⟩

      case round =>
        obtain ⟨j, xs, hj, rfl, hrow, ht⟩ := hrel
        by_cases hlt : j < l1.length
        · obtain ⟨lb, rfl⟩ := rowN_shape hrow (by omega)
          obtain ⟨u0, e0⟩ := rowN_cell hrow (m := j * 4) (by omega)
          obtain ⟨u1, e1⟩ := rowN_cell hrow (m := j * 4 + 1) (by omega)
          obtain ⟨u2, e2⟩ := rowN_cell hrow (m := j * 4 + 2) (by omega)
          obtain ⟨u3, e3⟩ := rowN_cell hrow (m := j * 4 + 3) (by omega)
          obtain ⟨cur3, hcur, _⟩ := rowN_block hrow
          have hfr : ∀ m, wr.frozen? ⟨lb, m, none⟩ = false := fun m => frozen_of_heap hcur
          have j0 : (0 : Int) ≤ (j : Int) := by omega
          have j1 : (j : Int) < (l1.length : Int) := by omega
          have Hrow := Lib.hid hrow
          have Ht := Lib.hid ht
          clear hrow ht hcur
          go_wp2_with fail
          refine ⟨⟨j + 1, _, by omega, by go_num, rowN_set (rowN_set (rowN_set (rowN_set Hrow.out _) _) _) _, Ht.out.trans ((((Turns.setCell (S := fun k => (Value.slice (some ⟨lb, 0, none⟩) l1.length q3).ownBlock = some k) wr (a := ⟨lb, j * 4, none⟩) rfl _).trans (Turns.setCell (S := fun k => (Value.slice (some ⟨lb, 0, none⟩) l1.length q3).ownBlock = some k) _ (a := ⟨lb, j * 4 + 1, none⟩) rfl _)).trans (Turns.setCell (S := fun k => (Value.slice (some ⟨lb, 0, none⟩) l1.length q3).ownBlock = some k) _ (a := ⟨lb, j * 4 + 2, none⟩) rfl _)).trans (Turns.setCell (S := fun k => (Value.slice (some ⟨lb, 0, none⟩) l1.length q3).ownBlock = some k) _ (a := ⟨lb, j * 4 + 3, none⟩) rfl _))⟩, by simp [intOf]; omega⟩
        · have fl : ∀ k, k < wB.heap.size → (Value.slice p3 l1.length q3).ownBlock = some k → Free w0 w3.heap.size w4.heap.size w5.heap.size w6.heap.size k := fun k _ hk => by
            have h1 := HLl.out k hk
            have h2 := HgF.out
            exact ⟨by omega, .inl h1.2⟩
          have SixB := Lib.hid (SixA.out.turns (ht.mono fl))
          have XB := Lib.hid (ht.row XA.out (fun k hk e => by have := (HLl.out k e).2; have := (LX.out k hk).1; omega))
          have YB := Lib.hid (ht.row YA.out (fun k hk e => by have := (HLl.out k e).2; have := (LY.out k hk).1; omega))
          have ZB := Lib.hid (ht.row ZA.out (fun k hk e => by have := (HLl.out k e).2; have := (LZ.out k hk).1; omega))
          clear ht hrow SixA LA9 XA YA ZA fl
          obtain ⟨wC, rfl⟩ : ∃ wC, wC = wr := ⟨wr, rfl⟩
          have hC := SixB.out.size
          have tC := Turns.alloc (fun _ => False) wC (.cells #[.slice px (numsAns l0 l1).length qx, .slice py (numsEnd l0 l1).length qy, .slice pz (numsKinds l0 l1).length qz] 22)
          have SixC := Lib.hid (SixB.out.turns (tC.mono (fun _ _ h => h.elim)))
          have ThC := Lib.hid (show Three w4.heap.size (.slice px (numsAns l0 l1).length qx) (.slice py (numsEnd l0 l1).length qy) (.slice pz (numsKinds l0 l1).length qz) (numsAns l0 l1).length (numsEnd l0 l1).length (numsKinds l0 l1).length 0 _ from
            ⟨fun _ => ⟨_, tC.row XB.out (fun _ _ h => h)⟩, fun _ => ⟨_, tC.row YB.out (fun _ _ h => h)⟩, fun _ => ⟨_, tC.row ZB.out (fun _ _ h => h)⟩⟩)
          have HlC := Lib.hid (heap_alloc_new wC (.cells #[.slice px (numsAns l0 l1).length qx, .slice py (numsEnd l0 l1).length qy, .slice pz (numsKinds l0 l1).length qz] 22))
          obtain ⟨lit, hlit⟩ : ∃ lit, lit = wC.heap.size := ⟨_, rfl⟩
          have hli : w6.heap.size ≤ lit := by omega
          go_wp2_with fail
          rw [← hlit] at HlC ⊢
          clear hlt hj SixB XB YB ZB tC hlit hC
          go_loopw [100] (fun i wx => ∃ (j : Nat), j ≤ 3 ∧ i = .int .i64 j ∧ Six w0 w3.heap.size w4.heap.size w5.heap.size w6.heap.size (numsAns l0 l1) (numsEnd l0 l1) (numsKinds l0 l1) (.slice pa (numsAns l0 l1).length qa) (.slice pb (numsEnd l0 l1).length qb) (.slice pk (numsKinds l0 l1).length qk) (.slice pu (numsAns l0 l1).length qu) (.slice pv (numsEnd l0 l1).length qv) (.slice pw (numsKinds l0 l1).length qw) wx ∧
              Three w4.heap.size (.slice px (numsAns l0 l1).length qx) (.slice py (numsEnd l0 l1).length qy) (.slice pz (numsKinds l0 l1).length qz) (numsAns l0 l1).length (numsEnd l0 l1).length (numsKinds l0 l1).length j wx ∧
              wx.heap[lit]? = some (.cells #[.slice px (numsAns l0 l1).length qx, .slice py (numsEnd l0 l1).length qy, .slice pz (numsKinds l0 l1).length qz] 22 (0, 0))) (fun i _ => 3 - (intOf i).toNat)
          case atStart => exact ⟨0, by omega, rfl, SixC.out, ThC.out, HlC.out⟩
          case round =>
            obtain ⟨j, hj, rfl, hsix, hth, hlb⟩ := hrel
            clear SixC ThC HlC
            by_cases hlt : j < 3
            · have hb5 := LX.out
              obtain ⟨p, n, q, hcell, hown, hbd, hn, hnext⟩ := hth.pick hlt hlb LX.out LY.out LZ.out (by have := numsAns_le l0 l1; have := numsEnd_le l0 l1; have := numsKinds_le l0 l1; omega) D1.out D2.out
              have Hsix := Lib.hid hsix
              have Hlb := Lib.hid hlb
              have Hown := Lib.hid hown
              have Hbd := Lib.hid hbd
              have Hnext := Lib.hid hnext
              clear hsix hlb hown hbd hnext hth hb5
              obtain ⟨wD, rfl⟩ : ∃ wD, wD = wr := ⟨wr, rfl⟩
              go_wp2_with fail
              go_loopw [106] (fun i wx => ∃ (k : Nat) (xs : List Value), k ≤ n ∧ i = .int .i64 k ∧ wx.ownsRow w4.heap.size 3 1 (.slice p n q) n xs ∧ Turns (fun b => (Value.slice p n q).ownBlock = some b) wD wx) (fun i _ => n - (intOf i).toNat)
              case atStart =>
                obtain ⟨xs, hx⟩ := Hown.out
                exact ⟨0, xs, Nat.zero_le _, rfl, hx, Turns.refl _ _⟩

              case round =>
                obtain ⟨k, xs, hk, rfl, hrow, ht⟩ := hrel
                by_cases hkt : k < n
                · obtain ⟨mb, rfl⟩ := rowN_shape hrow (by omega)
                  obtain ⟨u0, e0⟩ := rowN_cell hrow (m := k) (by omega)
                  obtain ⟨cur4, hcur, _⟩ := rowN_block hrow
                  have hfr : ∀ m, wr.frozen? ⟨mb, m, none⟩ = false := fun m => frozen_of_heap hcur
                  have k0 : (0 : Int) ≤ (k : Int) := by omega
                  have k1 : (k : Int) < (n : Int) := by omega
                  have Hrow := Lib.hid hrow
                  have Ht := Lib.hid ht
                  clear hrow ht hcur
                  go_wp2_with fail
                  refine ⟨⟨k + 1, _, by omega, by go_num, rowN_set Hrow.out _, Ht.out.trans (Turns.setCell (S := fun b => (Value.slice (some ⟨mb, 0, none⟩) n q).ownBlock = some b) wr (a := ⟨mb, k, none⟩) rfl _)⟩, by simp [intOf]; omega⟩
                · have hws := ht.size
                  have hbs : w4.heap.size ≤ wr.heap.size := by have := Hsix.out.size; omega
                  have Hrow := Lib.hid (hrow.alloc (.cells #[.int .i64 (-8), .int .i64 (-8)] 3))
                  have Ht := Lib.hid ht
                  clear hrow ht
                  go_wp2_with (at_builtin; refine wpList_append_own _ rfl _ _ 22 rfl w4.heap.size 3 i0 (.int .i64 0) 1 8 Try.underlying22 hi hz0 hz1 hz2 rfl (by decide) _ _ _ rfl Hrow.out ⟨wr.heap.size, 0, none⟩ 2 2 [.int .i64 (-8), .int .i64 (-8)] rfl (by simp) (cells_in_new wr [.int .i64 (-8), .int .i64 (-8)] 3) (by simp [Value.oneCell']) (by unfold maxLen; omega) (by omega) (by simp; omega) ?_)
                  intro v9 wE o9 g9 _
                  have tE : Turns (fun b => (Value.slice p n q).ownBlock = some b) wD wE := Ht.out.trans ((Turns.alloc _ wr _).trans (Turns.grown g9 (fun _ h => h)))
                  have fE : ∀ b, b < wD.heap.size → (Value.slice p n q).ownBlock = some b → Free w0 w3.heap.size w4.heap.size w5.heap.size w6.heap.size b := fun b _ hb => by
                    have h1 := Hbd.out b hb
                    have h2 := HgF.out
                    have h3 := Hsix.out.low
                    exact ⟨by omega, .inr (.inl h1)⟩
                  have SixE := Lib.hid (Hsix.out.turns (tE.mono fE))
                  have ThE := Lib.hid (Hnext.out _ tE)
                  have HlE := Lib.hid (tE.heap Hlb.out (fun e => by have := (Hbd.out _ e).2; have := Hsix.out.low; omega))
                  clear o9 g9 tE fE hws hbs Hrow Ht
                  go_wp2_with fail
                  refine ⟨⟨j + 1, by omega, by go_num, SixE.out, ThE.out, HlE.out⟩, by simp [intOf]; omega⟩
            · clear hth hlb
              obtain ⟨wF, rfl⟩ : ∃ wF, wF = wr := ⟨wr, rfl⟩
              have hF := hsix.size
              have fN : ∀ b, wF.heap.size ≤ b → Free w0 w3.heap.size w4.heap.size w5.heap.size w6.heap.size b := fun b hb => by
                have := hsix.low
                exact ⟨by omega, .inr (.inr (by omega))⟩
              have tF := (Turns.alloc (fun _ => False) wF (.cells #[.slice none 0 0] 108)).trans (Turns.alloc _ _ (.cells #[.int .i64 1] 45))
              have SixF := Lib.hid (hsix.turns (tF.mono (fun _ _ h => h.elim)))
              have TaF := Lib.hid (show TapeAt ((wF.alloc (.cells #[.slice none 0 0] 108)).alloc (.cells #[.int .i64 1] 45)) (wF.heap.size + 2) wF.heap.size (.slice none 0 0) [] from by
                have := (TapeAt.new wF (wF.heap.size + 2)).turns (Turns.alloc (fun _ => False) _ (.cells #[.int .i64 1] 45)) (fun h => h) (fun _ _ h => h)
                exact this)
              have NbF := Lib.hid (show ((wF.alloc (.cells #[.slice none 0 0] 108)).alloc (.cells #[.int .i64 1] 45)).heap[wF.heap.size + 1]? = some (.cells #[.int .i64 1] 45 (0, 0)) from by
                simpa using heap_alloc_new (wF.alloc (.cells #[.slice none 0 0] 108)) (.cells #[.int .i64 1] 45))
              have szF : ((wF.alloc (.cells #[.slice none 0 0] 108)).alloc (.cells #[.int .i64 1] 45)).heap.size = wF.heap.size + 2 := by simp
              have FN := Lib.hid fN
              have Hf := Lib.hid hF
              clear hsix tF fN hF
              go_wp2_with (go_at_call 16; refine (newtape_any _).mono ?_; rintro e w2 ⟨rfl, rfl⟩)
              refine (newnum_any _ _).mono ?_
              rintro e wq ⟨rfl, rfl⟩
              simp only [World.size_alloc]
              generalize ((wF.alloc (.cells #[.slice none 0 0] 108)).alloc (.cells #[.int .i64 1] 45)) = wG at *
              generalize wF.heap.size = tb at *
              have hpass := pass_tape (tb + 2) tb (.slice none 0 0) [] 1 wG TaF.out (by simp) (by omega)
              go_wp2_with fail
              refine (num_load _ (tb + 1) 1 wG _ hpass ?_).mono ?_
              · rintro wh ⟨v', h1, h2, h3⟩
                exact h2.heap NbF.out (fun e => by rcases e with e | e; omega; cases e)
              rintro e wH ⟨rfl, tv, h1, h2, h3⟩
              have SixH := Lib.hid (SixF.out.turns (h2.mono (fun b _ hb => by rcases hb with hb | hb; exact FN.out b (by omega); cases hb)))
              have TaH := Lib.hid h1
              have szH : tb + 2 ≤ wH.heap.size := by have := h2.size; omega
              clear h1 h2 h3 hpass SixF TaF NbF szF
              go_wp2_with fail
              refine (kinds_any (tb + 2) tb tv [1] _ TaH.out (by simp)).mono ?_
              rintro e wI ⟨v1, rfl, g1, g2⟩
              obtain ⟨p9, q9, rfl⟩ := row_shape g1
              have hTl := TaH.out.row.lt
              have hTb := heap_lt TaH.out.blk
              have hOl := g1.lt
              have tHI := Turns.of_below (S := fun b => wH.heap.size ≤ b) g2 (fun k hk _ => hk)
              have SixI := Lib.hid (SixH.out.turns (tHI.mono (fun b _ hb => FN.out b (by omega))))
              have TaI := Lib.hid (TaH.out.turns tHI (by omega) (fun k hk e => by have := (hTl k hk).2; omega))
              have OneI := Lib.hid g1
              have HTl := Lib.hid hTl
              have HOl := Lib.hid hOl
              have szI := g2.size
              clear g1 g2 hTl hOl tHI SixH TaH
              go_wp2_with fail
              have OneJ := Lib.hid (show wI.ownsRow wH.heap.size 3 1 (.slice p9 1 q9) 1 [.int .i64 1] from OneI.out)
              have HOJ := Lib.hid (show ∀ k, (Value.slice p9 1 q9).ownBlock = some k → wH.heap.size ≤ k ∧ k < wI.heap.size from HOl.out)
              clear OneI HOl
              go_loopw [126] (fun i wx => ∃ (k : Nat) (xs : List Value), k ≤ 1 ∧ i = .int .i64 k ∧ wx.ownsRow wH.heap.size 3 1 (.slice p9 1 q9) 1 xs ∧ Turns (fun b => (Value.slice p9 1 q9).ownBlock = some b) wI wx) (fun i _ => 1 - (intOf i).toNat)
              case atStart => exact ⟨0, _, Nat.zero_le _, rfl, OneJ.out, Turns.refl _ _⟩
              case round =>
                obtain ⟨k, xs, hk, rfl, hrow, ht⟩ := hrel
                by_cases hkt : k < 1
                · obtain rfl : k = 0 := by omega
                  obtain ⟨mb, rfl⟩ := rowN_shape hrow (by omega)
                  obtain ⟨u0, e0⟩ := rowN_cell hrow (m := 0) (by omega)
                  obtain ⟨cur4, hcur, _⟩ := rowN_block hrow
                  have hfr : ∀ m, wr.frozen? ⟨mb, m, none⟩ = false := fun m => frozen_of_heap hcur
                  have Hrow := Lib.hid hrow
                  have Ht := Lib.hid ht
                  clear hrow ht hcur
                  go_wp2_with fail
                  refine ⟨⟨1, _, by omega, by go_num, rowN_set Hrow.out _, Ht.out.trans (Turns.setCell (S := fun b => (Value.slice (some ⟨mb, 0, none⟩) 1 q9).ownBlock = some b) wr (a := ⟨mb, 0, none⟩) rfl _)⟩, by simp [intOf]⟩
                · obtain rfl : k = 1 := by omega
                  have hws := ht.size
                  have hbs : wH.heap.size ≤ wr.heap.size := by omega
                  have Hrow := Lib.hid (hrow.alloc (.cells #[.int .i64 98] 3))
                  have Hrow0 := Lib.hid hrow
                  have Ht := Lib.hid ht
                  clear hrow ht
                  go_wp2_with (at_builtin; refine wpList_append_one rfl _ _ 22 rfl wH.heap.size 3 i0 (.int .i64 0) 1 8 Try.underlying22 hi hz0 hz1 hz2 rfl (by decide) (by decide) (.slice p9 1 q9) 1 _ [.int .i64 98] rfl Hrow0.out rfl rfl (by simp [Value.oneCell']) (by omega) hbs ?_)
                  intro v9 wJ o9 g9 _
                  have tJ : Turns (fun b => (Value.slice p9 1 q9).ownBlock = some b) wI wJ := Ht.out.trans g9
                  have SixJ := Lib.hid (SixI.out.turns (tJ.mono (fun b _ hb => FN.out b (by have := (HOJ.out b hb).1; omega))))
                  have TaJ := Lib.hid (TaI.out.turns tJ (fun e => by have := (HOJ.out _ e).1; omega) (fun k hk e => by have := (HTl.out k hk).2; have := (HOJ.out _ e).1; omega))
                  have szJ : wI.heap.size ≤ wJ.heap.size := tJ.size
                  clear o9 g9 tJ Hrow Hrow0 Ht hbs hws
                  go_wp2_with (go_at_call 17; refine (newnum_any _ _).mono ?_; rintro e wq ⟨rfl, rfl⟩)
                  have tK := Turns.alloc (fun _ => False) wJ (.cells #[.int .i64 1] 45)
                  have SixK := Lib.hid (SixJ.out.turns (tK.mono (fun _ _ h => h.elim)))
                  have TaK := Lib.hid (TaJ.out.turns tK (fun h => h) (fun _ _ h => h))
                  have NbK := Lib.hid (heap_alloc_new wJ (.cells #[.int .i64 1] 45))
                  have szK : (wJ.alloc (.cells #[.int .i64 1] 45)).heap.size = wJ.heap.size + 1 := by simp
                  have hTv := HTl.out
                  clear tK SixJ TaJ
                  generalize wJ.alloc (.cells #[.int .i64 1] 45) = wK at *
                  have hpass := pass_tape (tb + 2) tb tv [1] 2 wK TaK.out (by simp) (by omega)
                  refine (num_store _ wJ.heap.size 1 5 wK _ hpass ?_).mono ?_
                  · rintro wh ⟨v', h1, h2, h3⟩
                    exact h2.heap NbK.out (fun e => by
                      rcases e with e | e
                      · omega
                      · have := (hTv _ e).2; omega)
                  rintro e wL ⟨rfl, wl, ⟨tw, h1, h2, h3⟩, rfl⟩
                  have tS := Turns.setCell (S := fun b => b = wJ.heap.size) wl (a := ⟨wJ.heap.size, 0, none⟩) rfl (.int .i64 5)
                  have SixL := Lib.hid ((SixK.out.turns (h2.mono (fun b _ hb => FN.out b (by
                    rcases hb with hb | hb
                    · omega
                    · have := (TaK.out.row.lt b hb).1; omega)))).turns (tS.mono (fun b _ hb => FN.out b (by omega))))
                  have TaL := Lib.hid (h1.turns tS (by omega) (fun k hk e => by
                    rcases h3 k hk with h | h
                    · have := (hTv k h).2; omega
                    · omega))
                  clear h1 h2 h3 tS hpass SixK TaK NbK hTv
                  generalize wl.setCell ⟨wJ.heap.size, 0, none⟩ (.int .i64 5) = wM at *
                  have E1 := Lib.hid (ints_of_row SixL.out.ru)
                  have E2 := Lib.hid (ints_of_row SixL.out.ra)
                  go_wp2_with fail
                  refine (ints_same _ _ _ _ (numsAns l0 l1) _ E1.out E2.out (by have := numsAns_le l0 l1; omega)).mono ?_
                  rintro e wN ⟨rfl, tN⟩
                  have SixN := Lib.hid (SixL.out.turns (tN.mono (fun _ _ h => h.elim)))
                  have TaN := Lib.hid (TaL.out.turns tN (fun h => h) (fun _ _ h => h))
                  have E3 := Lib.hid (ints_of_row SixN.out.rv)
                  have E4 := Lib.hid (ints_of_row SixN.out.rb)
                  clear tN E1 E2 SixL TaL
                  go_wp2_with fail
                  refine (ints_same _ _ _ _ (numsEnd l0 l1) _ E3.out E4.out (by have := numsEnd_le l0 l1; omega)).mono ?_
                  rintro e wO ⟨rfl, tO⟩
                  have SixO := Lib.hid (SixN.out.turns (tO.mono (fun _ _ h => h.elim)))
                  have TaO := Lib.hid (TaN.out.turns tO (fun h => h) (fun _ _ h => h))
                  have E5 := Lib.hid (ints_of_row SixO.out.rw_)
                  have E6 := Lib.hid (ints_of_row SixO.out.rk)
                  clear tO E3 E4 SixN TaN
                  go_wp2_with fail
                  refine (ints_same _ _ _ _ (numsKinds l0 l1) _ E5.out E6.out (by have := numsKinds_le l0 l1; omega)).mono ?_
                  rintro e wP ⟨rfl, tP⟩
                  have BP := Lib.hid ((SixO.out.turns (tP.mono (fun _ _ h => h.elim))).below)
                  have TaP := Lib.hid (TaO.out.turns tP (fun h => h) (fun _ _ h => h))
                  clear tP E5 E6 SixO TaO
                  go_wp2_with fail
                  refine (kinds_any (tb + 2) tb tw [1, 2] _ TaP.out (by simp)).mono ?_
                  rintro e wQ ⟨vk2, rfl, g1, g2⟩
                  obtain ⟨xk, ck, rfl, ik⟩ := g1.intsIn
                  have bq := BP.out.trans (g2.mono BP.out.size)
                  have ik2 := ik.below ((Below.refl wQ.heap.size wQ).alloc (Nat.le_refl _) (.cells #[.int .i64 1, .int .i64 2] 3))
                  have BQ := Lib.hid (bq.alloc bq.size (.cells #[.int .i64 1, .int .i64 2] 3))
                  have IK := Lib.hid ik2
                  clear g1 g2 ik ik2 bq BP TaP
                  go_wp2_with fail
                  refine (ints_same' _ _ _ _ _ _ [1, 2] _ (by simp) (by simp) IK.out (intsIn_block (e := 3) (f := (0, 0)) (heap_alloc_new wQ _)) (by simp)).mono ?_
                  rintro e wR ⟨rfl, tR⟩
                  have BR := Lib.hid (BQ.out.trans (tR.below (fun _ h => h.elim) BQ.out.size))
                  clear tR BQ IK
                  go_wp2
                  go_ret
                  exact ⟨rfl, BR.out⟩

theorem keeps_law (a0 : Option Addr) (c0 : Nat) (l0 : List Int) {w : World} (r0 : IntsIn w a0 l0) (_w0 : ∀ n ∈ l0, (Lit.int .i64 n).wf = true) (z0 : l0.length * 8 ≤ 140737488351232)
    (a1 : Option Addr) (c1 : Nat) (l1 : List A4) (r1 : ActsIn w a1 l1) (_w1 : ∀ x ∈ l1, (Lit.int .i64 x.k).wf = true ∧ (Lit.int .i64 x.at_).wf = true ∧ (Lit.int .i64 x.a).wf = true ∧ (Lit.int .i64 x.b).wf = true) (z1 : l1.length * 32 ≤ 140737488351232) (w' : World) (e : w' = w) :
    Calls Try.prog 6 #[.slice a0 l0.length c0, .slice a1 l1.length c1] w' fun e w'' => e = .returned (.bool true) ∧ Below w'.heap.size w' w'' := by
  subst e
  exact keeps_any a0 c0 l0 a1 c1 l1 _ r0 z0 r1 z1

end Go.Proofs.Ytjifoggfndicoaa
