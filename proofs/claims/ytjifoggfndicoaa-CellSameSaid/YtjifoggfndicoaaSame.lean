/-
  DERIVED. What CellSame's cell and tape come to, call by call.
-/
import Derived.Test.YtjifoggfndicoaaPtr
import Derived.Test.YtjifoggfndicoaaClone
import Derived.Test.YtjifoggfndicoaaInts
import Derived.Test.YtjifoggfndicoaaAwake
import Derived.Test.YtjifoggfndicoaaMark
namespace Go.Proofs.Ytjifoggfndicoaa
open Go.RowKit
set_option maxRecDepth 100000

/-- three things at s, s + 1, s + 2; the cell, which holds p, at s + 3; the tape at s + 4. -/
structure SameAt (w0 : World) (s : Nat) (n : Int) (st : ByteArray) (p : Option Addr) (tv : Value) (ks : List Int) (wx : World) : Prop where
  below : Below w0.heap.size w0 wx
  low : w0.heap.size ≤ s
  size : s + 5 ≤ wx.heap.size
  things : ∀ i, i < 3 → wx.heap[s + i]? = some (.cells #[.int .i64 n, .string st] 62 (0, 0))
  cell : wx.heap[s + 3]? = some (.cells #[.pointer p] 120 (0, 0))
  tape : TapeAt wx (s + 5) (s + 4) tv ks

def Among (s : Nat) (p : Option Addr) : Prop := ∀ a, p = some a → ∃ i, i < 3 ∧ a = ⟨s + i, 0, none⟩
theorem among_none (s : Nat) : Among s none := fun a h => by cases h
theorem among_of (s i : Nat) (h : i < 3) : Among s (some ⟨s + i, 0, none⟩) := fun a e => ⟨i, h, by injection e with e; exact e.symm⟩

theorem SameAt.ptr {w0 : World} {s : Nat} {n : Int} {st : ByteArray} {p : Option Addr} {tv : Value} {ks : List Int} {wx : World} (h : SameAt w0 s n st p tv ks wx) {o : Option Addr} (ho : Among s o) : PtrTo 62 2 wx o := by
  intro a e
  obtain ⟨i, hi, rfl⟩ := ho a e
  exact ⟨rfl, rfl, _, rfl, h.things i hi⟩

theorem SameAt.pass {w0 : World} {s : Nat} {n : Int} {st : ByteArray} {p : Option Addr} {tv v' : Value} {ks ks' : List Int} {wx w1 : World} (h : SameAt w0 s n st p tv ks wx) (h1 : TapeAt w1 (s + 5) (s + 4) v' ks')
    (h2 : Turns (fun b => b = s + 4 ∨ tv.ownBlock = some b) wx w1) : SameAt w0 s n st p v' ks' w1 := by
  have hl := h.tape.row.lt
  have hlow := h.low
  refine ⟨h.below.trans (h2.below (fun k hk _ => ?_) h.below.size), h.low, Nat.le_trans h.size h2.size, fun i hi => h2.heap (h.things i hi) (fun e => ?_), h2.heap h.cell (fun e => ?_), h1⟩
  · rcases hk with hk | hk
    · omega
    · have := (hl k hk).1; omega
  · rcases e with e | e
    · omega
    · have := (hl _ e).1; omega
  · rcases e with e | e
    · omega
    · have := (hl _ e).1; omega
theorem SameAt.set {w0 : World} {s : Nat} {n : Int} {st : ByteArray} {p : Option Addr} {tv : Value} {ks : List Int} {wx : World} (h : SameAt w0 s n st p tv ks wx) (d : Option Addr) : SameAt w0 s n st d tv ks (wx.setCell ⟨s + 3, 0, none⟩ (.pointer d)) := by
  have t := Turns.setCell (S := fun i => i = s + 3) wx (a := ⟨s + 3, 0, none⟩) rfl (.pointer d)
  have hlow := h.low
  refine ⟨h.below.setCell (by show w0.heap.size ≤ s + 3; omega) _, h.low, by simpa [World.setCell] using h.size, fun i hi => t.heap (h.things i hi) (by omega), ?_, h.tape.turns t (by omega) (fun k hk e => ?_)⟩
  · rw [heap_setCell h.cell]; simp
  · have := (h.tape.row.lt k hk).1; omega
theorem SameAt.quiet {w0 : World} {s : Nat} {n : Int} {st : ByteArray} {p : Option Addr} {tv : Value} {ks : List Int} {wx w1 : World} (h : SameAt w0 s n st p tv ks wx) (t : Turns (fun _ => False) wx w1) : SameAt w0 s n st p tv ks w1 :=
  ⟨h.below.trans (t.below (fun _ h => h.elim) h.below.size), h.low, Nat.le_trans h.size t.size, fun i hi => t.heap (h.things i hi) (fun h => h), t.heap h.cell (fun h => h), h.tape.turns t (fun h => h) (fun _ _ h => h)⟩

section
variable {w0 : World} {s : Nat} {n : Int} {st : ByteArray} {p : Option Addr} {tv : Value} {ks : List Int} {wx : World}

theorem same_cas (h : SameAt w0 s n st p tv ks wx) (o d : Option Addr) (b : Bool) (q : Option Addr) (hp : Among s p) (ho : Among s o) (hd : Among s d) (hk : ks.length ≤ 100) (hb : decide (p = o) = b) (hq : casNew p o d = q) :
    Calls Try.prog 30 #[.pointer (some ⟨s + 3, 0, none⟩), .iface 35 (.pointer (some ⟨s + 4, 0, none⟩)), .pointer o, .pointer d] wx fun e w' => e = .returned (.bool b) ∧ ∃ tv', SameAt w0 s n st q tv' (ks ++ [5]) w' := by
  have hP := pass_tape (s + 5) (s + 4) tv ks 5 wx h.tape (by omega) h.size
  refine (cellpair_cas _ (s + 3) p o d wx _ hP ?_ ?_).mono ?_
  · rintro w1 ⟨v', h1, h2, h3⟩
    exact (h.pass h1 h2).cell
  · rintro w1 ⟨v', h1, h2, h3⟩
    exact ⟨(h.pass h1 h2).ptr hp, (h.pass h1 h2).ptr ho, (h.pass h1 h2).ptr hd⟩
  · rintro e w' ⟨rfl, w1, ⟨v', h1, h2, h3⟩, rfl⟩
    rw [hb]
    exact ⟨rfl, v', hq ▸ (h.pass h1 h2).set _⟩
theorem same_load (h : SameAt w0 s n st p tv ks wx) (hp : Among s p) (hk : ks.length ≤ 100) :
    Calls Try.prog 31 #[.pointer (some ⟨s + 3, 0, none⟩), .iface 35 (.pointer (some ⟨s + 4, 0, none⟩))] wx fun e w' => e = .returned (.pointer p) ∧ ∃ tv', SameAt w0 s n st p tv' (ks ++ [1]) w' := by
  have hP := pass_tape (s + 5) (s + 4) tv ks 1 wx h.tape (by omega) h.size
  refine (cellpair_load _ (s + 3) p wx _ hP ?_ ?_).mono ?_
  · rintro w1 ⟨v', h1, h2, h3⟩
    exact (h.pass h1 h2).cell
  · rintro w1 ⟨v', h1, h2, h3⟩
    exact (h.pass h1 h2).ptr hp
  · rintro e w' ⟨rfl, v', h1, h2, h3⟩
    exact ⟨rfl, v', h.pass h1 h2⟩
theorem same_swap (h : SameAt w0 s n st p tv ks wx) (d : Option Addr) (hp : Among s p) (hd : Among s d) (hk : ks.length ≤ 100) :
    Calls Try.prog 32 #[.pointer (some ⟨s + 3, 0, none⟩), .iface 35 (.pointer (some ⟨s + 4, 0, none⟩)), .pointer d] wx fun e w' => e = .returned (.pointer p) ∧ ∃ tv', SameAt w0 s n st d tv' (ks ++ [4]) w' := by
  have hP := pass_tape (s + 5) (s + 4) tv ks 4 wx h.tape (by omega) h.size
  refine (cellpair_swap _ (s + 3) p d wx _ hP ?_ ?_).mono ?_
  · rintro w1 ⟨v', h1, h2, h3⟩
    exact (h.pass h1 h2).cell
  · rintro w1 ⟨v', h1, h2, h3⟩
    exact ⟨(h.pass h1 h2).ptr hp, (h.pass h1 h2).ptr hd⟩
  · rintro e w' ⟨rfl, w1, ⟨v', h1, h2, h3⟩, rfl⟩
    exact ⟨rfl, v', (h.pass h1 h2).set _⟩
theorem same_store (h : SameAt w0 s n st p tv ks wx) (d : Option Addr) (hd : Among s d) (hk : ks.length ≤ 100) :
    Calls Try.prog 33 #[.pointer (some ⟨s + 3, 0, none⟩), .iface 35 (.pointer (some ⟨s + 4, 0, none⟩)), .pointer d] wx fun e w' => e = .returned (.tuple #[]) ∧ ∃ tv', SameAt w0 s n st d tv' (ks ++ [2]) w' := by
  have hP := pass_tape (s + 5) (s + 4) tv ks 2 wx h.tape (by omega) h.size
  refine (cellpair_store _ (s + 3) p d wx _ hP ?_ ?_).mono ?_
  · rintro w1 ⟨v', h1, h2, h3⟩
    exact (h.pass h1 h2).cell
  · rintro w1 ⟨v', h1, h2, h3⟩
    exact (h.pass h1 h2).ptr hd
  · rintro e w' ⟨rfl, w1, ⟨v', h1, h2, h3⟩, rfl⟩
    exact ⟨rfl, v', (h.pass h1 h2).set _⟩
theorem same_loadn (h : SameAt w0 s n st p tv ks wx) (hp : Among s p) :
    Calls Try.prog 31 #[.pointer (some ⟨s + 3, 0, none⟩), .nilIface] wx fun e w' => e = .returned (.pointer p) ∧ wx = w' := by
  refine (cellpair_load _ (s + 3) p wx (fun w' => wx = w') (pass_nil 1 _) ?_ ?_).mono ?_
  · rintro w1 rfl
    exact h.cell
  · rintro w1 rfl
    exact h.ptr hp
  · rintro e w' ⟨rfl, rfl⟩
    exact ⟨rfl, rfl⟩
end

/-! a cell of strings and a mark, without a gate. -/
theorem str_load (nb : Nat) (x : Option Addr) (w : World) (h : w.heap[nb]? = some (.cells #[.pointer x] 75 (0, 0))) (hx : PtrTo 9 1 w x) :
    Calls Try.prog 34 #[.pointer (some ⟨nb, 0, none⟩), .nilIface] w fun e w' => e = .returned (.pointer x) ∧ w = w' := by
  refine (cellstring_load _ nb x w (fun w' => w = w') (pass_nil 1 _) ?_ ?_).mono ?_
  · rintro w1 rfl
    exact h
  · rintro w1 rfl
    exact hx
  · rintro e w' ⟨rfl, rfl⟩
    exact ⟨rfl, rfl⟩
theorem str_cas (nb : Nat) (x o d : Option Addr) (b : Bool) (q : Option Addr) (w : World) (h : w.heap[nb]? = some (.cells #[.pointer x] 75 (0, 0))) (hx : PtrTo 9 1 w x) (ho : PtrTo 9 1 w o) (hd : PtrTo 9 1 w d) (hb : decide (x = o) = b) (hq : casNew x o d = q) :
    Calls Try.prog 35 #[.pointer (some ⟨nb, 0, none⟩), .nilIface, .pointer o, .pointer d] w fun e w' => e = .returned (.bool b) ∧ w.setCell ⟨nb, 0, none⟩ (.pointer q) = w' := by
  refine (cellstring_cas _ nb x o d w (fun w' => w = w') (pass_nil 5 _) ?_ ?_).mono ?_
  · rintro w1 rfl
    exact h
  · rintro w1 rfl
    exact ⟨hx, ho, hd⟩
  · rintro e w' ⟨rfl, w1, rfl, rfl⟩
    rw [hb, hq]
    exact ⟨rfl, rfl⟩
theorem mk_load (nb : Nat) (x : Int) (w : World) (h : w.heap[nb]? = some (.cells #[.int .u32 x] 84 (0, 0))) :
    Calls Try.prog 37 #[.pointer (some ⟨nb, 0, none⟩), .nilIface] w fun e w' => e = .returned (.bool (x != 0)) ∧ w = w' := by
  refine (mark_load _ nb x w (fun w' => w = w') (pass_nil 1 _) ?_).mono ?_
  · rintro w1 rfl
    exact h
  · rintro e w' ⟨rfl, rfl⟩
    exact ⟨rfl, rfl⟩
theorem mk_cas (nb : Nat) (x : Int) (o d : Bool) (w : World) (h : w.heap[nb]? = some (.cells #[.int .u32 x] 84 (0, 0))) :
    Calls Try.prog 38 #[.pointer (some ⟨nb, 0, none⟩), .nilIface, .bool o, .bool d] w fun e w' => e = .returned (.bool (x == bitOf o)) ∧ (w.setCell ⟨nb, 0, none⟩ (.int .u32 (casNew x (bitOf o) (bitOf d)))).drew = w' := by
  refine (mark_cas _ nb x o d w (fun w' => w = w') (pass_nil 5 _) ?_).mono ?_
  · rintro w1 rfl
    exact h
  · rintro e w' ⟨rfl, w1, rfl, rfl⟩
    exact ⟨rfl, rfl⟩
theorem mk_swap (nb : Nat) (x : Int) (d : Bool) (w : World) (h : w.heap[nb]? = some (.cells #[.int .u32 x] 84 (0, 0))) :
    Calls Try.prog 39 #[.pointer (some ⟨nb, 0, none⟩), .nilIface, .bool d] w fun e w' => e = .returned (.bool (x != 0)) ∧ (w.setCell ⟨nb, 0, none⟩ (.int .u32 (bitOf d))).drew = w' := by
  refine (mark_swap _ nb x d w (fun w' => w = w') (pass_nil 4 _) ?_).mono ?_
  · rintro w1 rfl
    exact h
  · rintro e w' ⟨rfl, w1, rfl, rfl⟩
    exact ⟨rfl, rfl⟩

end Go.Proofs.Ytjifoggfndicoaa
