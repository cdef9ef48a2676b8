/-
  DERIVED. THE WALK over larchlaw01's our; rows of answers and of numbers as they read.
-/
import Derived.Test.YtfkhflknigemgaaGreatWSteps
import Derived.Deep.RegionHeld3
import Derived.Deep.AppendLies
namespace Go.Proofs.YtfkhflknigemgaaGreat
open Go.RowKit
set_option maxRecDepth 100000

/-- a slice that reads as these answers. -/
def OutsIn (w : World) (a : Option Addr) (l : List (Int × Bool)) : Prop :=
  ∀ (j : Nat) (h : j < l.length), ∃ b off, a = some ⟨b, off, none⟩ ∧ w.cell? ⟨b, off + j * 2, none⟩ = some (.int .u64 l[j].1) ∧ w.cell? ⟨b, off + j * 2 + 1, none⟩ = some (.bool l[j].2)
def U64In (w : World) (a : Option Addr) (l : List Int) : Prop :=
  ∀ (j : Nat) (h : j < l.length), ∃ b off, a = some ⟨b, off, none⟩ ∧ w.cell? ⟨b, off + j, none⟩ = some (.int .u64 l[j])
theorem OutsIn.below {w w' : World} {a : Option Addr} {l : List (Int × Bool)} (h : OutsIn w a l) (hb : Below w.heap.size w w') : OutsIn w' a l := by
  intro j hj
  obtain ⟨b, off, e, h1, h2⟩ := h j hj
  have hlt := World.block_lt_of_cell? w ⟨b, off + j * 2, none⟩ h1
  have hc : ∀ o, w'.cell? ⟨b, o, none⟩ = w.cell? ⟨b, o, none⟩ := fun o => World.cell?_of_block (a := ⟨b, o, none⟩) (hb.block b hlt)
  exact ⟨b, off, e, by rw [hc]; exact h1, by rw [hc]; exact h2⟩
theorem U64In.below {w w' : World} {a : Option Addr} {l : List Int} (h : U64In w a l) (hb : Below w.heap.size w w') : U64In w' a l := by
  intro j hj
  obtain ⟨b, off, e, h1⟩ := h j hj
  have hlt := World.block_lt_of_cell? w ⟨b, off + j, none⟩ h1
  exact ⟨b, off, e, by rw [World.cell?_of_block (a := ⟨b, off + j, none⟩) (hb.block b hlt)]; exact h1⟩
theorem outsIn_row {w : World} {B n c : Nat} {e : TypeId} {a : Option Addr} {l : List (Int × Bool)} (h : w.ownsRow B e 2 (.slice a n c) n (outCellsOf l)) : OutsIn w a l := by
  intro j hj
  have h0 := outCellsOf_get l j hj
  obtain ⟨g, e1, c1, _⟩ := own_cell h h0.1
  obtain ⟨g2, e2, c2, _⟩ := own_cell h h0.2
  rw [e1] at e2
  injection e2 with e2
  injection e2 with e2
  subst e2
  exact ⟨g, 0, e1, by rw [Nat.zero_add]; exact c1, by rw [Nat.zero_add]; exact c2⟩
theorem u64In_row {w : World} {B n c : Nat} {e : TypeId} {a : Option Addr} {l : List Int} (h : w.ownsRow B e 1 (.slice a n c) n (l.map (Value.int .u64))) : U64In w a l := by
  intro j hj
  obtain ⟨g, e1, c1, _⟩ := own_cell h (show (l.map (Value.int .u64))[j]? = some (.int .u64 l[j]) by simp [hj])
  exact ⟨g, 0, e1, by rw [Nat.zero_add]; exact c1⟩

theorem info_act3 : (Tryz.prog.info? 42).map (fun i => (i.zero, i.size, i.bytes)) = some (some (.agg #[.int .i64 0, .int .u64 0, .int .u64 0]), 3, 24) := by kernel_rfl

set_option maxHeartbeats 2000000 in
theorem our_any (a : Option Addr) (cap : Nat) (l : List A3) (w : World) (hn : l.length * 24 ≤ 140737488351232) (hr : ActsW w a l) :
    Calls Tryz.prog 9 #[.slice a l.length cap] w fun e w' => ∃ v, e = .returned v ∧ RowA w' w.heap.size v l ∧ Below w.heap.size w w' := by
  obtain ⟨i0, hi0, hz0, hz1, hz2⟩ := info_parts info_act3
  have Hr := Lib.hid hr
  clear hr
  go_enter Tryz.func9, Tryz.ntmps9
  go_wp2_with fail
  go_loopw [3, 4] (fun v i wr => ∃ j : Nat, j ≤ l.length ∧ i = .int .i64 j ∧ Below w.heap.size w wr ∧ wr.ownsRow w.heap.size 42 3 v j (actWCells (l.take j))) (fun _ i _ => l.length - (intOf i).toNat)
  case atStart => exact ⟨0, Nat.zero_le _, rfl, Below.refl _ _, World.ownsRow_nil _ _ _ _⟩
  case round =>
    obtain ⟨j, hj, rfl, hb, hown⟩ := hrel
    by_cases hlt : j < l.length
    · obtain ⟨b, off, rfl, h1, h2, h3⟩ := (Hr.out.below hb) j hlt
      have hblt : b < w.heap.size := ActsW.block_lt Hr.out hlt
      have hbs := hb.size
      have hne : u3.ownBlock ≠ some b := fun e => by have := (hown.lt b e).1; omega
      have hblt2 : b < wr.heap.size := by omega
      have Hb := Lib.hid hb
      have Ho := Lib.hid hown
      have Hne := Lib.hid hne
      clear hb hown hne
      go_wp2_with fail
      go_region_held3 (fun w' => w'.cell? ⟨b, off + j * 3, none⟩ = some (.int .i64 l[j].k) ∧ w'.cell? ⟨b, off + j * 3 + 1, none⟩ = some (.int .u64 l[j].a) ∧ w'.cell? ⟨b, off + j * 3 + 2, none⟩ = some (.int .u64 l[j].b))
        (first | go_keep | (have gt := ((Turns.alloc (fun i => u3.ownBlock = some i) wr _).trans (Turns.drew _ _)).trans (Turns.grown hgrow (fun _ h => h)); exact ⟨gt.cell h1 Hne.out, gt.cell h2 Hne.out, gt.cell h3 Hne.out⟩))
        (first | (refine step_append_lies _ (by rfl) _ _ _ (by rfl) w.heap.size 42 i0 _ 3 24 Tryz.underlying32 hi0 hz0 hz1 hz2 rfl (by omega) u3 j _ (by rfl) ((Ho.out.alloc _).drew) ⟨wr.heap.size, 0, none⟩ 1 1 [.int .i64 l[j].k, .int .u64 l[j].a, .int .u64 l[j].b] (by rfl) (by rfl) (World.news_of_block (cs := #[.int .i64 l[j].k, .int .u64 l[j].a, .int .u64 l[j].b]) (t := 42) (fr := (0, 0)) (heap_alloc_new wr _)) (by simp [Value.oneCell']) (by omega) (by unfold maxLen; omega) (by omega) (by simp; omega) (wr.heap.size + 1) (by simp) ?_; intro gg cap w1 hown1 hgrow hat hlt1))
      have hb1 : Below w.heap.size w w1 := Hb.out.trans ((((Turns.alloc (fun i => u3.ownBlock = some i) wr _).trans (Turns.drew _ _)).trans (Turns.grown hgrow (fun _ h => h))).below (fun k hk _ => (Ho.out.lt k hk).1) Hb.out.size)
      have Hb1 := Lib.hid hb1
      have Hown := Lib.hid hown1
      clear hb1 hown1 hgrow hat hlt1
      go_wp2
      go_roundw
      case rel =>
        refine ⟨j + 1, by omega, by go_num, Hb1.out, ?_⟩
        rw [List.take_succ_eq_append_getElem hlt, actWCells_snoc]
        exact Hown.out
      case measure => simp [intOf]; omega
    · obtain rfl : j = l.length := by omega
      rw [List.take_length] at hown
      have Hb := Lib.hid hb
      have Ho := Lib.hid hown
      clear hb hown
      go_wp2
      go_ret
      exact ⟨_, rfl, Ho.out, Hb.out⟩

end Go.Proofs.YtfkhflknigemgaaGreat
