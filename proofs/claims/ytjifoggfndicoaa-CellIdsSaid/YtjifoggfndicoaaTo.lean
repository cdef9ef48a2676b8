/-
  DERIVED. THE WALK over larchlaw02's to: the acts as the program's.
-/
import Derived.Test.YtjifoggfndicoaaAwake
import Derived.Deep.RegionHeld3
import Derived.Deep.AppendLies
namespace Go.Proofs.Ytjifoggfndicoaa
open Go.RowKit
set_option maxRecDepth 100000

theorem info_act : (Try.prog.info? 57).map (fun i => (i.zero, i.size, i.bytes)) = some (some (.agg #[.int .i64 0, .int .i64 0, .int .i64 0, .int .i64 0]), 4, 32) := by kernel_rfl

theorem actCells_snoc (l : List A4) (x : A4) : actCells (l ++ [x]) = actCells l ++ [.int .i64 x.k, .int .i64 x.at_, .int .i64 x.a, .int .i64 x.b] := by
  simp [actCells, List.flatMap_append]

theorem actsIn_row {w : World} {base n : Nat} {e : TypeId} {a : Option Addr} {c : Nat} {l : List A4} (h : w.ownsRow base e 4 (.slice a n c) n (actCells l)) : ActsIn w a l := by
  intro j hj
  rcases h.2 with ⟨hv, hn⟩ | ⟨g, cap, cur, hv, h1, h2, h3, h4, h5, h6⟩
  · have := h.1
    rw [hn] at this
    have h0 := actCells_get l j hj
    rw [List.getElem?_eq_none (by omega)] at h0
    exact absurd h0.1 (by simp)
  · injection hv with ha hb hc
    subst ha
    have hcell : ∀ i u, (actCells l)[i]? = some u → w.cell? ⟨g, i, none⟩ = some u := fun i u hu => by
      have := h.cells (g := g) (by simp [Value.ownBlock]) i u hu
      have hadd : (⟨g, 0, none⟩ : Addr).add i = ⟨g, i, none⟩ := by unfold Addr.add; split <;> simp_all
      rwa [hadd] at this
    have h0 := actCells_get l j hj
    refine ⟨g, 0, rfl, ?_⟩
    simp only [Nat.zero_add]
    exact ⟨hcell _ _ h0.1, hcell _ _ h0.2.1, hcell _ _ h0.2.2.1, hcell _ _ h0.2.2.2⟩

theorem ActsIn.block_lt {w : World} {b off j : Nat} {l : List A4} (h : ActsIn w (some ⟨b, off, none⟩) l) (hj : j < l.length) : b < w.heap.size := by
  obtain ⟨b', off', e, h1, _⟩ := h j hj
  have h2 := World.block_lt_of_cell? w ⟨b', off' + j * 4, none⟩ h1
  injection e with e
  injection e with e1
  rw [e1]
  exact h2

set_option maxHeartbeats 2000000 in
theorem to_any (a : Option Addr) (cap : Nat) (l : List A4) (w : World) (hn : l.length * 32 ≤ 140737488351232) (hr : ActsIn w a l) :
    Calls Try.prog 13 #[.slice a l.length cap] w fun e w' => ∃ v, e = .returned v ∧ w'.ownsRow w.heap.size 57 4 v l.length (actCells l) ∧ Below w.heap.size w w' := by
  obtain ⟨i0, hi0, hz0, hz1, hz2⟩ := info_parts info_act
  have Hr := Lib.hid hr
  clear hr
  go_enter Try.func13, Try.ntmps13
  go_wp2_with fail
  go_loopw [3, 7] (fun v i wr => ∃ j : Nat, j ≤ l.length ∧ i = .int .i64 j ∧ Below w.heap.size w wr ∧ wr.ownsRow w.heap.size 57 4 v j (actCells (l.take j))) (fun _ i _ => l.length - (intOf i).toNat)
  case atStart => exact ⟨0, Nat.zero_le _, rfl, Below.refl _ _, World.ownsRow_nil _ _ _ _⟩
  case round =>
    obtain ⟨j, hj, rfl, hb, hown⟩ := hrel
    by_cases hlt : j < l.length
    · obtain ⟨b, off, rfl, h1, h2, h3, h4⟩ := (Hr.out.below hb) j hlt
      have hblt : b < w.heap.size := ActsIn.block_lt Hr.out hlt
      have hbs := hb.size
      have hne : u3.ownBlock ≠ some b := fun e => by have := (hown.lt b e).1; omega
      have hblt2 : b < wr.heap.size := by omega
      have Hb := Lib.hid hb
      have Ho := Lib.hid hown
      have Hne := Lib.hid hne
      clear hb hown hne
      go_wp2_with fail
      go_region_held3 (fun w' => w'.cell? ⟨b, off + j * 4, none⟩ = some (.int .i64 l[j].k) ∧ w'.cell? ⟨b, off + j * 4 + 1, none⟩ = some (.int .i64 l[j].at_) ∧ w'.cell? ⟨b, off + j * 4 + 2, none⟩ = some (.int .i64 l[j].a) ∧ w'.cell? ⟨b, off + j * 4 + 3, none⟩ = some (.int .i64 l[j].b))
        (first | go_keep | (have gt := ((Turns.alloc (fun i => u3.ownBlock = some i) wr _).trans (Turns.drew _ _)).trans (Turns.grown hgrow (fun _ h => h)); exact ⟨gt.cell h1 Hne.out, gt.cell h2 Hne.out, gt.cell h3 Hne.out, gt.cell h4 Hne.out⟩))
        (first | (refine step_append_lies _ (by rfl) _ _ _ (by rfl) w.heap.size 57 i0 _ 4 32 Try.underlying30 hi0 hz0 hz1 hz2 rfl (by omega) u3 j _ (by rfl) ((Ho.out.alloc _).drew) ⟨wr.heap.size, 0, none⟩ 1 1 [.int .i64 l[j].k, .int .i64 l[j].at_, .int .i64 l[j].a, .int .i64 l[j].b] (by rfl) (by rfl) (World.news_of_block (cs := #[.int .i64 l[j].k, .int .i64 l[j].at_, .int .i64 l[j].a, .int .i64 l[j].b]) (t := 57) (fr := (0, 0)) (heap_alloc_new wr _)) (by simp [Value.oneCell']) (by omega) (by unfold maxLen; omega) (by omega) (by simp; omega) (wr.heap.size + 1) (by simp) ?_; intro gg cap w1 hown1 hgrow hat hlt1))
      have hb1 : Below w.heap.size w w1 := Hb.out.trans ((((Turns.alloc (fun i => u3.ownBlock = some i) wr _).trans (Turns.drew _ _)).trans (Turns.grown hgrow (fun _ h => h))).below (fun k hk _ => (Ho.out.lt k hk).1) Hb.out.size)
      have Hb1 := Lib.hid hb1
      have Hown := Lib.hid hown1
      clear hb1 hown1 hgrow hat hlt1
      go_wp2
      go_roundw
      case rel =>
        refine ⟨j + 1, by omega, by go_num, Hb1.out, ?_⟩
        rw [List.take_succ_eq_append_getElem hlt, actCells_snoc]
        exact Hown.out
      case measure => simp [intOf]; omega
    · obtain rfl : j = l.length := by omega
      rw [List.take_length] at hown
      have Hb := Lib.hid hb
      have Ho := Lib.hid hown
      clear hb hown
      go_wp2
      go_ret
      exact ⟨_, rfl, Ho.out, Hb.out⟩

end Go.Proofs.Ytjifoggfndicoaa
