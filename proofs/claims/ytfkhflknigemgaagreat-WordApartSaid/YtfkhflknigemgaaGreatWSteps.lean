/-
  DERIVED. THE WALK over word's Steps.
-/
import Derived.Test.YtfkhflknigemgaaGreatWRow
import Derived.Deep.RegionHeld3
namespace Go.Proofs.YtfkhflknigemgaaGreat
open Go.RowKit
set_option maxRecDepth 100000

theorem info_u64 : (Tryz.prog.info? 22).map (fun i => (i.zero, i.size, i.bytes)) = some (some (.int .u64 0), 1, 8) := by kernel_rfl

/-- what Steps leaves. -/
def StepsRow (w : World) (kd s : Int) (l : List A3) (e : Ending) (w' : World) : Prop :=
  ∃ v, e = .returned (.tuple #[v, .int .i64 (wErr kd l)]) ∧ RowU w' w.heap.size v (stepsAll kd s l) ∧ Below w.heap.size w w'

set_option maxHeartbeats 1000000 in
theorem steps_bad (kd s : Int) (a : Option Addr) (cap : Nat) (l : List A3) (w : World) (hr : ActsW w a l) (he : wErr kd l ≠ 0) :
    Calls Tryz.prog 12 #[.int .i64 kd, .int .u64 s, .slice a l.length cap] w (StepsRow w kd s l) := by
  have Hr := Lib.hid hr
  have he' : (wErr kd l != 0) = true := by simpa using he
  have He := Lib.hid he
  clear hr he
  go_enter Tryz.func12, Tryz.ntmps12
  go_wp2_with (go_at_call 27; refine (check_any kd _ cap l _ Hr.out).mono ?_; rintro e w1 ⟨rfl, hb⟩)
  refine bodyPost_ret (v := .tuple #[.slice none 0 0, .int .i64 (wErr kd l)]) (by simp [results, Tryz.results12, go_sem]) rfl ⟨.slice none 0 0, rfl, ?_, hb⟩
  rw [stepsAll, if_neg He.out]; exact World.ownsRow_nil _ _ _ _

theorem steps_step (kd v : Int) (l : List A3) (j : Nat) (h : j < l.length) : (wSteps kd v (l.take (j + 1))).map (Value.int .u64) = (wSteps kd v (l.take j)).map (Value.int .u64) ++ [.int .u64 (wTo kd v (l.take (j + 1)))] := by
  rw [wSteps_snoc kd v l j h, wTo_snoc kd v l j h, List.map_append]
  rfl

set_option maxHeartbeats 1000000 in
theorem steps_ok (kd s : Int) (a : Option Addr) (cap : Nat) (l : List A3) (w : World) (hr : ActsW w a l) (hs : 0 ≤ s ∧ s < 18446744073709551616) (hl : ∀ x ∈ l, x.ok) (he : wErr kd l = 0) (hk : 1 ≤ kd ∧ kd ≤ 6) (hn : l.length ≤ 10000) (hc : ∀ x ∈ l, canW kd x.k = true) :
    Calls Tryz.prog 12 #[.int .i64 kd, .int .u64 s, .slice a l.length cap] w (StepsRow w kd s l) := by
  obtain ⟨i0, hi0, hz0, hz1, hz2⟩ := info_parts info_u64
  have Hr := Lib.hid hr
  have Hl := Lib.hid hl
  have Hc := Lib.hid hc
  have he' : (wErr kd l != 0) = false := by simpa using he
  have He := Lib.hid he
  clear hr hl he hc
  go_enter Tryz.func12, Tryz.ntmps12
  go_wp2_with (first | (go_at_call 27; refine (check_any kd _ cap l _ Hr.out).mono ?_; rintro e w1 ⟨rfl, hb⟩) | (go_at_call 28; refine (holding_any kd s hk hs _).mono ?_; rintro e w2 ⟨bl, rfl, hbl, hh, ht⟩))
  have hm := box_method kd bl hk
  have hent := box_enter kd hk
  have hlt0 := heap_lt hh.blk
  have hbw : Below w.heap.size w w2 := hb.trans (ht.below (fun _ h _ => h.elim) hb.size)
  have hinv : InvW w kd (cutW kd s) l bl w2.heap.size 0 w2 := ⟨hbw, hh, Nat.le_refl _, Nat.le_trans hb.size hbl, hlt0⟩
  obtain ⟨B, hB⟩ : ∃ B, B = w2.heap.size := ⟨_, rfl⟩
  rw [← hB] at hinv
  have Hi := Lib.hid hinv
  clear hb ht hbl hbw hh hB hlt0 hinv
  go_loopw [10, 24] (fun v i wr => ∃ j : Nat, j ≤ l.length ∧ i = .int .i64 j ∧ InvW w kd (cutW kd s) l bl B j wr ∧ wr.ownsRow B 22 1 v j ((wSteps kd (cutW kd s) (l.take j)).map (Value.int .u64))) (fun _ i _ => l.length - (intOf i).toNat)
  case atStart => exact ⟨0, Nat.zero_le _, rfl, Hi.out, World.ownsRow_nil _ _ _ _⟩
  case round =>
    obtain ⟨j, hj, rfl, hinv, hown⟩ := hrel
    clear Hi
    by_cases hlt : j < l.length
    · obtain ⟨b, off, rfl, h1, h2, h3⟩ := (Hr.out.below hinv.below) j hlt
      have Hi := Lib.hid hinv
      have Ho := Lib.hid hown
      have Hcj := Lib.hid (Hc.out l[j] (List.getElem_mem hlt))
      have Hok := Lib.hid (Hl.out l[j] (List.getElem_mem hlt))
      clear hinv hown
      go_wp2_with fail
      refine (box_do kd bl (wTo kd (cutW kd s) (l.take j)) l[j].k l[j].a l[j].b _ (Hi.out.holds.turns (Turns.alloc (fun _ => False) wr _) (fun h => h)) Hcj.out Hok.out.1 Hok.out.2).mono ?_
      rintro e w3 ⟨rfl, t3, hh3⟩
      have hus : ∀ g, u10.ownBlock = some g → B ≤ g := fun g hg => (Ho.out.lt g hg).1
      have hune : ∀ k, u10.ownBlock = some k → ¬ k = bl := fun k hg e => by have := hus k hg; have := Hi.out.low.2; omega
      have hown3 := t3.row (Ho.out.alloc _) hune
      have hs3 : B ≤ w3.heap.size := by have := Hi.out.size; have := t3.size; simp at this; omega
      have Hown3 := Lib.hid hown3
      have Hus := Lib.hid hus
      have Hune := Lib.hid hune
      have T3 := Lib.hid t3
      have Hh3 := Lib.hid hh3
      clear t3 hh3 hown3 hus hune Ho
      go_wp2_with (first | (go_at_call 29; refine (load_any kd bl _ _ Hh3.out).mono ?_; rintro e w4 ⟨rfl, t4, h4⟩) | (at_builtin; refine wpList_append_one rfl _ _ 35 rfl B 22 i0 (.int .u64 0) 1 8 Tryz.underlying35 hi0 hz0 hz1 hz2 rfl (by decide) (by decide) u10 j _ [_] rfl (t4.row Hown3.out Hune.out) rfl rfl (by simp [Value.oneCell']) (by omega) (by have := t4.size; omega) ?_))
      intro v' w5 g1 g2 g3
      have hstep := Hi.out.step hlt Hus.out (T3.out.trans t4) h4 g2
      have Hstep := Lib.hid hstep
      clear hstep t4 h4 g2 g3
      go_wp2
      go_roundw
      case rel =>
        refine ⟨j + 1, by omega, by go_num, Hstep.out, ?_⟩
        rw [steps_step kd _ l j hlt, wTo_snoc kd _ l j hlt]
        exact g1
      case measure => simp [intOf]; omega
    · obtain rfl : j = l.length := by omega
      rw [List.take_length] at hown
      obtain ⟨va, vc, rfl⟩ := row_shape hown
      have Hi := Lib.hid hinv
      have Ho := Lib.hid hown
      clear hinv hown
      go_wp2_with fail
      refine bodyPost_ret (v := .tuple #[.slice va l.length vc, .int .i64 0]) (by simp [results, Tryz.results12, go_sem]) rfl ⟨.slice va l.length vc, ?_, ?_, ?_⟩
      · rw [He.out]
      · have hlow := Hi.out.low
        have h5 := row_base Ho.out (base' := w.heap.size) (by omega)
        rw [stepsAll, if_pos He.out]
        unfold RowU
        rw [wSteps_len]
        exact h5
      · exact Hi.out.below

theorem steps_any (kd s : Int) (a : Option Addr) (cap : Nat) (l : List A3) (w : World) (hr : ActsW w a l) (hs : 0 ≤ s ∧ s < 18446744073709551616) (hl : ∀ x ∈ l, x.ok) :
    Calls Tryz.prog 12 #[.int .i64 kd, .int .u64 s, .slice a l.length cap] w (StepsRow w kd s l) := by
  by_cases he : wErr kd l = 0
  · obtain ⟨h1, h2, h3⟩ := err_ok kd l he
    exact steps_ok kd s a cap l w hr hs hl he h1 h2 h3
  · exact steps_bad kd s a cap l w hr he

end Go.Proofs.YtfkhflknigemgaaGreat
