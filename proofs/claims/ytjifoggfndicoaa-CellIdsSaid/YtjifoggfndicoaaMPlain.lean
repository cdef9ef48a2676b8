/-
  DERIVED. PLAIN: acts on marks: a mark is a number that is 0 or 1. No program in sight.
-/
import Derived.Test.YtjifoggfndicoaaMark
namespace Go.Proofs.Ytjifoggfndicoaa
open Go.RowKit

/-- an act on a mark, as an act on a number. -/
def mAct (x : A4) : A4 := ⟨x.k, x.at_, bitOf (x.a != 0), bitOf (x.b != 0)⟩
def known4 (k : Int) : Bool := k == 1 || k == 2 || k == 4 || k == 5
def checkMarks (cells : Int) : List A4 → Int
  | [] => 0
  | x :: r => if known4 x.k = false then 5 else if x.at_ < 0 ∨ cells ≤ x.at_ then 1 else checkMarks cells r
theorem checkMarks_cons (cells : Int) (l : List A4) (j : Nat) (h : j < l.length) : checkMarks cells (l.drop j) = if known4 l[j].k = false then 5 else if l[j].at_ < 0 ∨ cells ≤ l[j].at_ then 1 else checkMarks cells (l.drop (j + 1)) := by
  rw [List.drop_eq_getElem_cons h]
  rfl
theorem known4_or {k : Int} (h : known4 k = true) : k = 1 ∨ k = 2 ∨ k = 4 ∨ k = 5 := by
  simp [known4] at h; omega
theorem checkMarks_ok (cells : Int) (l : List A4) (h : checkMarks cells l = 0) : ∀ x ∈ l, known4 x.k = true ∧ 0 ≤ x.at_ ∧ x.at_ < cells := by
  induction l with
  | nil => intro x hx; cases hx
  | cons y r ih =>
    unfold checkMarks at h
    split at h
    · simp at h
    · rename_i hk
      split at h
      · simp at h
      · rename_i ha
        intro x hx
        cases hx with
        | head => exact ⟨by simpa using hk, by omega, by omega⟩
        | tail _ hm => exact ih h x hm

/-- the numbers of marks. -/
def mCells (l : List Bool) : List Int := l.map bitOf
def isBit (x : Int) : Prop := x = 0 ∨ x = 1
theorem isBit_of (b : Bool) : isBit (bitOf b) := by cases b <;> simp [isBit, bitOf]
theorem bit_ne {x : Int} (h : isBit x) : (x != 0) = (x == 1) := by rcases h with rfl | rfl <;> rfl
theorem numAns_bit {k x a : Int} (hk : known4 k = true) (hx : isBit x) : isBit (numAns k x a) := by
  rcases known4_or hk with rfl | rfl | rfl | rfl
  · simpa [numAns] using hx
  · simp [numAns, isBit]
  · simpa [numAns] using hx
  · simp only [numAns]; exact isBit_of _
theorem numNew_bit {k x a b : Int} (hk : known4 k = true) (hx : isBit x) (ha : isBit a) (hb : isBit b) : isBit (numNew k x a b) := by
  rcases known4_or hk with rfl | rfl | rfl | rfl
  · simpa [numNew] using hx
  · simpa [numNew] using ha
  · simpa [numNew] using ha
  · simp only [numNew, casNew]
    simp only [show ¬ (5 : Int) = 2 by omega, show ¬ (5 : Int) = 3 by omega, show ¬ (5 : Int) = 4 by omega, if_false, if_true]
    split
    · exact hb
    · exact hx
def Bits (l : List Int) : Prop := ∀ x ∈ l, isBit x
theorem numStep_bits (p : List Int × List Int) (x : A4) (hk : known4 x.k = true) (h1 : Bits p.1) (h2 : Bits p.2) : Bits (numStep p (mAct x)).1 ∧ Bits (numStep p (mAct x)).2 := by
  have hg : isBit (p.2.getD (mAct x).at_.toNat 0) := by
    rw [List.getD_eq_getElem?_getD]
    cases h : p.2[(mAct x).at_.toNat]? with
    | none => exact .inl rfl
    | some y => exact h2 y (List.mem_of_getElem? h)
  constructor
  · intro y hy
    simp only [numStep, List.mem_append, List.mem_singleton] at hy
    rcases hy with hy | rfl
    · exact h1 y hy
    · exact numAns_bit hk hg
  · intro y hy
    simp only [numStep] at hy
    rcases List.mem_or_eq_of_mem_set hy with hy | rfl
    · exact h2 y hy
    · exact numNew_bit hk hg (isBit_of _) (isBit_of _)
theorem numTo_bits (cells : List Bool) (l : List A4) (hk : ∀ x ∈ l, known4 x.k = true) : Bits (numTo (mCells cells) (l.map mAct)).1 ∧ Bits (numTo (mCells cells) (l.map mAct)).2 := by
  suffices h : ∀ (l : List A4) (p : List Int × List Int), (∀ x ∈ l, known4 x.k = true) → Bits p.1 → Bits p.2 → Bits ((l.map mAct).foldl numStep p).1 ∧ Bits ((l.map mAct).foldl numStep p).2 by
    refine h l ([], mCells cells) hk (fun x hx => by cases hx) (fun x hx => ?_)
    simp only [mCells, List.mem_map] at hx
    obtain ⟨b, _, rfl⟩ := hx
    exact isBit_of b
  intro l
  induction l with
  | nil => intro p _ h1 h2; exact ⟨h1, h2⟩
  | cons x r ih =>
    intro p hk h1 h2
    have h3 := numStep_bits p x (hk x (by simp)) h1 h2
    exact ih _ (fun y hy => hk y (by simp [hy])) h3.1 h3.2

def marksErr (cells : List Bool) (l : List A4) : Int := if 64 < cells.length ∨ 1000 < l.length then 2 else checkMarks cells.length l
def ones (l : List Int) : List Bool := l.map (· == 1)
def marksAns (cells : List Bool) (l : List A4) : List Bool := if marksErr cells l = 0 then ones (numTo (mCells cells) (l.map mAct)).1 else []
def marksEnd (cells : List Bool) (l : List A4) : List Bool := if marksErr cells l = 0 then ones (numTo (mCells cells) (l.map mAct)).2 else []
def marksKinds (cells : List Bool) (l : List A4) : List Int := if marksErr cells l = 0 then l.map (·.k) else []
theorem map_k (l : List A4) : (l.map mAct).map (·.k) = l.map (·.k) := by
  rw [List.map_map]; rfl
theorem mCells_len (l : List Bool) : (mCells l).length = l.length := by simp [mCells]

/-- a slice of bools that came in (or of one's own) reads as l. -/
def BoolsIn (w : World) (a : Option Addr) (l : List Bool) : Prop :=
  ∀ (j : Nat) (h : j < l.length), ∃ b off, a = some ⟨b, off, none⟩ ∧ w.cell? ⟨b, off + j, none⟩ = some (.bool l[j])
theorem BoolsIn.below {w w' : World} {a : Option Addr} {l : List Bool} (h : BoolsIn w a l) (hb : Below w.heap.size w w') : BoolsIn w' a l := by
  intro j hj
  obtain ⟨b, off, e, h1⟩ := h j hj
  exact ⟨b, off, e, by rw [cell_of_block (hb.block b (World.block_lt_of_cell? w ⟨b, off + j, none⟩ h1))]; exact h1⟩
theorem BoolsIn.turns {w w' : World} {a : Option Addr} {l : List Bool} (h : BoolsIn w a l) (ht : Turns (fun _ => False) w w') : BoolsIn w' a l :=
  h.below (ht.below (fun _ h => h.elim) (Nat.le_refl _))
abbrev RowB (w : World) (B : Nat) (v : Value) (xs : List Bool) : Prop := w.ownsRow B 4 1 v xs.length (xs.map Value.bool)
theorem RowB.boolsIn {w : World} {B : Nat} {v : Value} {xs : List Bool} (h : RowB w B v xs) : ∃ a c, v = .slice a xs.length c ∧ BoolsIn w a xs := by
  obtain ⟨a, c, rfl⟩ := row_shape h
  refine ⟨a, c, rfl, fun j hj => ?_⟩
  rcases h.2 with ⟨hv, hn⟩ | ⟨g, cap, cur, hv, _⟩
  · omega
  · injection hv with ha hb hc
    subst ha
    refine ⟨g, 0, rfl, ?_⟩
    have := h.cells (g := g) (by simp [Value.ownBlock]) j (.bool xs[j]) (by simp [hj])
    have hadd : (⟨g, 0, none⟩ : Addr).add j = ⟨g, j, none⟩ := by unfold Addr.add; split <;> simp_all
    rw [hadd] at this
    rw [Nat.zero_add]
    exact this
theorem info_bool : (Try.prog.info? 4).map (fun i => (i.zero, i.size, i.bytes)) = some (some (.bool false), 1, 1) := by kernel_rfl

end Go.Proofs.Ytjifoggfndicoaa
