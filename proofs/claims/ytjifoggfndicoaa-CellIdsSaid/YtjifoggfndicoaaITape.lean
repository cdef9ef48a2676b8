/-
  DERIVED. THE WALKS over the cells' methods with the tape, the things' row standing by.
-/
import Derived.Test.YtjifoggfndicoaaIMeth
namespace Go.Proofs.Ytjifoggfndicoaa
open Go.RowKit
set_option maxRecDepth 100000

section
variable {base nb tb A nt : Nat} {tv : Value} {ks : List Int} {x : Int} {w : World}
theorem ctape_load (ht : TapeAt w base tb tv ks) (hn : w.heap[nb]? = some (.cells #[.pointer (thP A x)] 174 (0, 0))) (hks : (ks.length + 1) * 8 ≤ 140737488355328) (hbase : base ≤ w.heap.size) (hne : tv.ownBlock ≠ some nb) (hth : ThRow w A nt nt) (hA : A + 2 + nt ≤ tb) (hB : A + 2 + nt ≤ base) (hx : right nt x = true) :
    Calls Try.prog 86 #[.pointer (some ⟨nb, 0, none⟩), .iface 35 (.pointer (some ⟨tb, 0, none⟩))] w fun e w' => e = .returned (.pointer (thP A x)) ∧ CPost base nb tb tv ks 1 (thP A x) w w' := by
  have hnt := cell_ne ht hn
  have hp := pass_tape base tb tv ks 1 _ ht hks hbase
  have hthr : ∀ w1, Turns (fun b => b = tb ∨ tv.ownBlock = some b) w w1 → ThRow w1 A nt nt := fun w1 h2 => hth.turns h2 (fun i hi _ e => by
    rcases e with e | e
    · omega
    · have := (ht.row.lt i e).1; omega)
  refine (cellthing_load _ nb (thP A x) w _ hp ?_ ?_).mono ?_
  · rintro w1 ⟨v', h1, h2, h3⟩
    exact h2.heap hn (fun h => by rcases h with h | h; exact hnt h; exact hne h)
  · rintro w1 ⟨v', h1, h2, h3⟩
    have h := hthr w1 h2
    exact h.ptr hx
  · rintro e w' ⟨rfl, v', h1, h2, h3⟩
    exact ⟨rfl, v', h1, h2.heap hn (fun h => by rcases h with h | h; exact hnt h; exact hne h), h2.mono (fun i _ hi => .inr hi), h3⟩

theorem ctape_store (d : Int) (ht : TapeAt w base tb tv ks) (hn : w.heap[nb]? = some (.cells #[.pointer (thP A x)] 174 (0, 0))) (hks : (ks.length + 1) * 8 ≤ 140737488355328) (hbase : base ≤ w.heap.size) (hne : tv.ownBlock ≠ some nb) (hth : ThRow w A nt nt) (hA : A + 2 + nt ≤ tb) (hB : A + 2 + nt ≤ base) (hd : right nt d = true) :
    Calls Try.prog 87 #[.pointer (some ⟨nb, 0, none⟩), .iface 35 (.pointer (some ⟨tb, 0, none⟩)), .pointer (thP A d)] w fun e w' => e = .returned (.tuple #[]) ∧ CPost base nb tb tv ks 2 (thP A d) w w' := by
  have hnt := cell_ne ht hn
  have hp := pass_tape base tb tv ks 2 _ ht hks hbase
  have hthr : ∀ w1, Turns (fun b => b = tb ∨ tv.ownBlock = some b) w w1 → ThRow w1 A nt nt := fun w1 h2 => hth.turns h2 (fun i hi _ e => by
    rcases e with e | e
    · omega
    · have := (ht.row.lt i e).1; omega)
  refine (cellthing_store _ nb (thP A x) (thP A d) w _ hp ?_ ?_).mono ?_
  · rintro w1 ⟨v', h1, h2, h3⟩
    exact h2.heap hn (fun h => by rcases h with h | h; exact hnt h; exact hne h)
  · rintro w1 ⟨v', h1, h2, h3⟩
    have h := hthr w1 h2
    exact h.ptr hd
  · rintro e w' ⟨rfl, w1, ⟨v', h1, h2, h3⟩, rfl⟩
    exact ⟨rfl, cpost_of ht hn hne h1 h2 h3⟩

theorem ctape_swap (d : Int) (ht : TapeAt w base tb tv ks) (hn : w.heap[nb]? = some (.cells #[.pointer (thP A x)] 174 (0, 0))) (hks : (ks.length + 1) * 8 ≤ 140737488355328) (hbase : base ≤ w.heap.size) (hne : tv.ownBlock ≠ some nb) (hth : ThRow w A nt nt) (hA : A + 2 + nt ≤ tb) (hB : A + 2 + nt ≤ base) (hx : right nt x = true) (hd : right nt d = true) :
    Calls Try.prog 88 #[.pointer (some ⟨nb, 0, none⟩), .iface 35 (.pointer (some ⟨tb, 0, none⟩)), .pointer (thP A d)] w fun e w' => e = .returned (.pointer (thP A x)) ∧ CPost base nb tb tv ks 4 (thP A d) w w' := by
  have hnt := cell_ne ht hn
  have hp := pass_tape base tb tv ks 4 _ ht hks hbase
  have hthr : ∀ w1, Turns (fun b => b = tb ∨ tv.ownBlock = some b) w w1 → ThRow w1 A nt nt := fun w1 h2 => hth.turns h2 (fun i hi _ e => by
    rcases e with e | e
    · omega
    · have := (ht.row.lt i e).1; omega)
  refine (cellthing_swap _ nb (thP A x) (thP A d) w _ hp ?_ ?_).mono ?_
  · rintro w1 ⟨v', h1, h2, h3⟩
    exact h2.heap hn (fun h => by rcases h with h | h; exact hnt h; exact hne h)
  · rintro w1 ⟨v', h1, h2, h3⟩
    have h := hthr w1 h2
    exact ⟨h.ptr hx, h.ptr hd⟩
  · rintro e w' ⟨rfl, w1, ⟨v', h1, h2, h3⟩, rfl⟩
    exact ⟨rfl, cpost_of ht hn hne h1 h2 h3⟩

theorem ctape_cas (o d : Int) (ht : TapeAt w base tb tv ks) (hn : w.heap[nb]? = some (.cells #[.pointer (thP A x)] 174 (0, 0))) (hks : (ks.length + 1) * 8 ≤ 140737488355328) (hbase : base ≤ w.heap.size) (hne : tv.ownBlock ≠ some nb) (hth : ThRow w A nt nt) (hA : A + 2 + nt ≤ tb) (hB : A + 2 + nt ≤ base) (hx : right nt x = true) (ho : right nt o = true) (hd : right nt d = true) :
    Calls Try.prog 90 #[.pointer (some ⟨nb, 0, none⟩), .iface 35 (.pointer (some ⟨tb, 0, none⟩)), .pointer (thP A o), .pointer (thP A d)] w fun e w' => e = .returned (.bool (x == o)) ∧ CPost base nb tb tv ks 5 (thP A (casNew x o d)) w w' := by
  have hnt := cell_ne ht hn
  have hp := pass_tape base tb tv ks 5 _ ht hks hbase
  have hthr : ∀ w1, Turns (fun b => b = tb ∨ tv.ownBlock = some b) w w1 → ThRow w1 A nt nt := fun w1 h2 => hth.turns h2 (fun i hi _ e => by
    rcases e with e | e
    · omega
    · have := (ht.row.lt i e).1; omega)
  refine (cellthing_cas _ nb (thP A x) (thP A o) (thP A d) w _ hp ?_ ?_).mono ?_
  · rintro w1 ⟨v', h1, h2, h3⟩
    exact h2.heap hn (fun h => by rcases h with h | h; exact hnt h; exact hne h)
  · rintro w1 ⟨v', h1, h2, h3⟩
    have h := hthr w1 h2
    exact ⟨h.ptr hx, h.ptr ho, h.ptr hd⟩
  · rintro e w' ⟨rfl, w1, ⟨v', h1, h2, h3⟩, rfl⟩
    simp [right] at hx ho
    rw [thP_inj (by omega) (by omega), thP_cas (by omega) (by omega)]
    exact ⟨rfl, cpost_of ht hn hne h1 h2 h3⟩

end

end Go.Proofs.Ytjifoggfndicoaa
