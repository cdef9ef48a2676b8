/-
  DERIVED. PLAIN: what acts on numbers come to. No program in sight.
-/
import Derived.Test.YtjifoggfndicoaaAtom
namespace Go.Proofs.Ytjifoggfndicoaa
open Go.RowKit

def bitOf (b : Bool) : Int := if b then 1 else 0

/-- what an act answers, of a number that holds x. -/
def numAns (k x a : Int) : Int :=
  if k = 2 then 0 else if k = 3 then wrap64 (x + a) else if k = 5 then bitOf (x == a) else x
/-- what the number holds then. -/
def numNew (k x a b : Int) : Int :=
  if k = 2 then a else if k = 3 then wrap64 (x + a) else if k = 4 then a else if k = 5 then casNew x a b else if k = 6 then Go.bits .and .i64 x a else if k = 7 then Go.bits .or .i64 x a else x

/-- an act as plain data. -/
structure A4 where
  k : Int
  at_ : Int
  a : Int
  b : Int

/-- does the kind lie among the seven? -/
def known7 (k : Int) : Bool := decide (1 ≤ k ∧ k ≤ 7)

/-- the error of acts on so many cells. -/
def checkNums (cells : Int) : List A4 → Int
  | [] => 0
  | x :: r => if known7 x.k = false then 5 else if x.at_ < 0 ∨ cells ≤ x.at_ then 1 else checkNums cells r

/-- the slice v reads as these acts. -/
def ActsIn (w : World) (a : Option Addr) (l : List A4) : Prop :=
  ∀ (j : Nat) (h : j < l.length), ∃ b off, a = some ⟨b, off, none⟩ ∧ w.cell? ⟨b, off + j * 4, none⟩ = some (.int .i64 l[j].k) ∧ w.cell? ⟨b, off + j * 4 + 1, none⟩ = some (.int .i64 l[j].at_) ∧
    w.cell? ⟨b, off + j * 4 + 2, none⟩ = some (.int .i64 l[j].a) ∧ w.cell? ⟨b, off + j * 4 + 3, none⟩ = some (.int .i64 l[j].b)

theorem cell_of_block {w w' : World} {b : Nat} (h : w'.heap[b]? = w.heap[b]?) (o : Nat) : w'.cell? ⟨b, o, none⟩ = w.cell? ⟨b, o, none⟩ := World.cell?_of_block (a := ⟨b, o, none⟩) h

theorem ActsIn.kept {w w' : World} {a : Option Addr} {l : List A4} (h : ActsIn w a l) (hk : ∀ b off, a = some ⟨b, off, none⟩ → b < w.heap.size → w'.heap[b]? = w.heap[b]?) : ActsIn w' a l := by
  intro j hj
  obtain ⟨b, off, e, h1, h2, h3, h4⟩ := h j hj
  have hb : w'.heap[b]? = w.heap[b]? := hk b off e (World.block_lt_of_cell? w ⟨b, off + j * 4, none⟩ h1)
  exact ⟨b, off, e, by rw [cell_of_block hb]; exact h1, by rw [cell_of_block hb]; exact h2, by rw [cell_of_block hb]; exact h3, by rw [cell_of_block hb]; exact h4⟩

theorem ActsIn.below {w w' : World} {a : Option Addr} {l : List A4} (h : ActsIn w a l) (hb : Below w.heap.size w w') : ActsIn w' a l :=
  h.kept fun b _ _ hlt => hb.block b hlt

theorem checkNums_cons (cells : Int) (l : List A4) (j : Nat) (h : j < l.length) : checkNums cells (l.drop j) = if known7 l[j].k = false then 5 else if l[j].at_ < 0 ∨ cells ≤ l[j].at_ then 1 else checkNums cells (l.drop (j + 1)) := by
  rw [List.drop_eq_getElem_cons h]
  rfl

/-- an act on a row of numbers: what has been answered and what they hold. -/
def numStep (p : List Int × List Int) (x : A4) : List Int × List Int :=
  (p.1 ++ [numAns x.k (p.2.getD x.at_.toNat 0) x.a], p.2.set x.at_.toNat (numNew x.k (p.2.getD x.at_.toNat 0) x.a x.b))
def numTo (cells : List Int) (l : List A4) : List Int × List Int := l.foldl numStep ([], cells)

theorem numTo_snoc (cells : List Int) (l : List A4) (j : Nat) (h : j < l.length) : numTo cells (l.take (j + 1)) = numStep (numTo cells (l.take j)) l[j] := by
  unfold numTo
  rw [List.take_succ_eq_append_getElem h, List.foldl_append]
  rfl
theorem numStep_len (p : List Int × List Int) (x : A4) : (numStep p x).1.length = p.1.length + 1 ∧ (numStep p x).2.length = p.2.length := by simp [numStep]
theorem numTo_len (cells : List Int) (l : List A4) : (numTo cells l).1.length = l.length ∧ (numTo cells l).2.length = cells.length := by
  suffices h : ∀ (l : List A4) (p : List Int × List Int), (l.foldl numStep p).1.length = p.1.length + l.length ∧ (l.foldl numStep p).2.length = p.2.length by
    have := h l ([], cells)
    simpa [numTo] using this
  intro l
  induction l with
  | nil => intro p; simp
  | cons x r ih =>
    intro p
    have h1 := ih (numStep p x)
    have h2 := numStep_len p x
    simp only [List.foldl_cons, List.length_cons]
    omega

/-- the error of a row of numbers and its acts. -/
def numsErr (cells : List Int) (l : List A4) : Int := if 64 < cells.length ∨ 1000 < l.length then 2 else checkNums cells.length l
def numsAns (cells : List Int) (l : List A4) : List Int := if numsErr cells l = 0 then (numTo cells l).1 else []
def numsEnd (cells : List Int) (l : List A4) : List Int := if numsErr cells l = 0 then (numTo cells l).2 else []
def numsKinds (cells : List Int) (l : List A4) : List Int := if numsErr cells l = 0 then l.map (·.k) else []

/-- where all is well each act has its place. -/
theorem checkNums_ok (cells : Int) (l : List A4) (h : checkNums cells l = 0) : ∀ x ∈ l, 1 ≤ x.k ∧ x.k ≤ 7 ∧ 0 ≤ x.at_ ∧ x.at_ < cells := by
  induction l with
  | nil => intro x hx; cases hx
  | cons y r ih =>
    unfold checkNums at h
    split at h
    · simp at h
    · rename_i hk
      split at h
      · simp at h
      · rename_i ha
        have hk' : 1 ≤ y.k ∧ y.k ≤ 7 := by simpa [known7] using hk
        intro x hx
        cases hx with
        | head => exact ⟨hk'.1, hk'.2, by omega, by omega⟩
        | tail _ hm => exact ih h x hm

/-- a slice of ints that came in (or of one's own) reads as l. -/
def IntsIn (w : World) (a : Option Addr) (l : List Int) : Prop :=
  ∀ (j : Nat) (h : j < l.length), ∃ b off, a = some ⟨b, off, none⟩ ∧ w.cell? ⟨b, off + j, none⟩ = some (.int .i64 l[j])
theorem IntsIn.kept {w w' : World} {a : Option Addr} {l : List Int} (h : IntsIn w a l) (hk : ∀ b off, a = some ⟨b, off, none⟩ → b < w.heap.size → w'.heap[b]? = w.heap[b]?) : IntsIn w' a l := by
  intro j hj
  obtain ⟨b, off, e, h1⟩ := h j hj
  have hb : w'.heap[b]? = w.heap[b]? := hk b off e (World.block_lt_of_cell? w ⟨b, off + j, none⟩ h1)
  exact ⟨b, off, e, by rw [cell_of_block hb]; exact h1⟩
theorem IntsIn.below {w w' : World} {a : Option Addr} {l : List Int} (h : IntsIn w a l) (hb : Below w.heap.size w w') : IntsIn w' a l :=
  h.kept fun b _ _ hlt => hb.block b hlt

/-- a row of ints of one's own. -/
abbrev RowI (w : World) (B : Nat) (v : Value) (xs : List Int) : Prop := w.ownsRow B 3 1 v xs.length (xs.map (Value.int .i64))
theorem RowI.intsIn {w : World} {B : Nat} {v : Value} {xs : List Int} (h : RowI w B v xs) : ∃ a c, v = .slice a xs.length c ∧ IntsIn w a xs := by
  obtain ⟨a, c, rfl⟩ := row_shape h
  refine ⟨a, c, rfl, fun j hj => ?_⟩
  rcases h.2 with ⟨hv, hn⟩ | ⟨g, cap, cur, hv, _⟩
  · omega
  · injection hv with ha hb hc
    subst ha
    refine ⟨g, 0, rfl, ?_⟩
    have := h.cells (g := g) (by simp [Value.ownBlock]) j (.int .i64 xs[j]) (by simp [hj])
    have hadd : (⟨g, 0, none⟩ : Addr).add j = ⟨g, j, none⟩ := by unfold Addr.add; split <;> simp_all
    rw [hadd] at this
    rw [Nat.zero_add]
    exact this

def mkRow (z : Value) (n : Nat) : Array Value := Array.replicate n z
theorem mkRow_size (z : Value) (n : Nat) : (mkRow z n).size = n := by simp [mkRow]
theorem mkRow_get (z : Value) (n i : Nat) (h : i < n) : (mkRow z n)[i]? = some z := by simp [mkRow, h]
theorem madeCells_one (z : Value) (n : Nat) : madeCells #[z] n = mkRow z n := by
  apply Array.ext
  · simp [madeCells, mkRow]
  · intro i h1 h2
    simp [madeCells, mkRow, Nat.mod_one]

theorem run_makeN {P : Program} (t e : TypeId) (z : Value) (bytes : Nat) (ht : P.underlying t = some (.slice e)) (hinfo : (P.info? e).map (fun i => (i.zero, i.size, i.bytes)) = some (some z, 1, bytes)) (hz : z.cells = #[z])
    (n : Nat) (hb : bytes * n ≤ 281474976710656) (h63 : n ≤ 9223372036854775807) (w : World) :
    (Instr.makeSlice t (.int .i64 (n : Int)) (.int .i64 (n : Int))).run P w = .ok (.slice (some ⟨w.heap.size, 0, none⟩) n n) (w.alloc (.cells (mkRow z n) e)) := by
  obtain ⟨i, hi, h0, h1, h2⟩ := info_parts hinfo
  have hr := run_make (P := P) w t e i z ht hi h0 .i64 .i64 n n (by omega) (Int.le_refl _) (by rw [h2]; omega) (by omega)
  rw [hr, h1, hz, Nat.mul_one]
  simp only [Int.toNat_natCast, madeCells_one]

end Go.Proofs.Ytjifoggfndicoaa
