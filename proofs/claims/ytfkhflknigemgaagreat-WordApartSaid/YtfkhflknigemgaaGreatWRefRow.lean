/-
  DERIVED. THE WALKS over the reference's asked, Do and Steps.
-/
import Derived.Test.YtfkhflknigemgaaGreatWRefDo
namespace Go.Proofs.YtfkhflknigemgaaGreat
open Go.RowKit
set_option maxRecDepth 100000

theorem drop_done {α : Type} (l : List α) (j : Nat) (h : ¬ j < l.length) : l.drop j = [] := List.drop_eq_nil_of_le (by omega)

set_option maxHeartbeats 1000000 in
theorem asked_ref (kd : Int) (a : Option Addr) (cap : Nat) (l : List A3) (w : World) (hr : ActsW w a l) :
    Calls Tryz.prog 24 #[.int .i64 kd, .slice a l.length cap] w fun e w' => e = .returned (.int .i64 (wErr kd l)) ∧ w = w' := by
  have Hr := Lib.hid hr
  clear hr
  by_cases hk : isW kd = true
  · by_cases hn : 10000 < l.length
    · have E := Lib.hid (show wErr kd l = 2 by simp [wErr, hk, hn])
      have hn' : (10000 : Int) < (l.length : Int) := by omega
      go_enter Tryz.func24, Tryz.ntmps24
      go_wp2_with (go_at_call 30; refine (is_any _ _).mono ?_; rintro e w1 ⟨rfl, rfl⟩)
      go_ret
      exact ⟨by rw [E.out]; rfl, rfl⟩
    · have E := Lib.hid (show wErr kd l = checkW kd l by simp [wErr, hk, hn])
      have hn' : decide ((10000 : Int) < (l.length : Int)) = false := by simp; omega
      go_enter Tryz.func24, Tryz.ntmps24
      go_wp2_with (go_at_call 30; refine (is_any _ _).mono ?_; rintro e w1 ⟨rfl, rfl⟩)
      go_loop [5] (fun i => ∃ j : Nat, j ≤ l.length ∧ i = .int .i64 j ∧ Hid (checkW kd (l.drop j) = checkW kd l)) (fun i => l.length - (intOf i).toNat)
      case atStart => exact ⟨0, Nat.zero_le _, rfl, rfl⟩
      case round =>
        obtain ⟨j, hj, rfl, hspec⟩ := hrel
        by_cases hlt : j < l.length
        · obtain ⟨b, off, rfl, h1, h2, h3⟩ := Hr.out j hlt
          have Hs := Lib.hid ((checkW_cons kd l j hlt).symm.trans hspec.out)
          clear hspec h2 h3
          by_cases hc : canW kd l[j].k = true
          · have H5 := Lib.hid (show checkW kd (l.drop (j + 1)) = checkW kd l by have := Hs.out; rw [if_neg (by simp [hc])] at this; exact this)
            go_wp2_with (go_at_call 37; refine (can_ref _ _ _).mono ?_; rintro e w1 ⟨rfl, rfl⟩)
            go_round
            case rel => exact ⟨j + 1, by omega, by go_num, H5.out⟩
            case measure => simp [intOf]; omega
          · have hc' : canW kd l[j].k = false := by simpa using hc
            have H5 := Lib.hid (show 5 = checkW kd l by have := Hs.out; rw [if_pos hc'] at this; exact this)
            clear hc
            go_wp2_with (go_at_call 37; refine (can_ref _ _ _).mono ?_; rintro e w1 ⟨rfl, rfl⟩)
            go_ret
            exact ⟨by rw [E.out, ← H5.out]; rfl, rfl⟩
        · have H5 := Lib.hid (show 0 = checkW kd l by rw [← hspec.out, drop_done l j hlt]; rfl)
          clear hspec
          go_wp2
          go_ret
          exact ⟨by rw [E.out, ← H5.out]; rfl, rfl⟩
  · have hk' : isW kd = false := by simpa using hk
    have E := Lib.hid (show wErr kd l = 5 by simp [wErr, hk'])
    clear hk
    go_enter Tryz.func24, Tryz.ntmps24
    go_wp2_with (go_at_call 30; refine (is_any _ _).mono ?_; rintro e w1 ⟨rfl, rfl⟩)
    go_ret
    exact ⟨by rw [E.out]; rfl, rfl⟩

theorem info_outR : (Tryz.prog.info? 59).map (fun i => (i.zero, i.size, i.bytes)) = some (some (.agg #[.int .u64 0, .bool false]), 2, 16) := by kernel_rfl

/-- what the reference's Do leaves. -/
def RefDoRow (w : World) (kd s : Int) (l : List A3) (e : Ending) (w' : World) : Prop :=
  ∃ v, e = .returned (.tuple #[v, .int .u64 (doEnd kd s l), .int .i64 (wErr kd l)]) ∧ w'.ownsRow w.heap.size 59 2 v (doOuts kd s l).length (outCellsOf (doOuts kd s l)) ∧ Below w.heap.size w w'

set_option maxHeartbeats 1000000 in
theorem refdo_bad (kd s : Int) (a : Option Addr) (cap : Nat) (l : List A3) (w : World) (hr : ActsW w a l) (he : wErr kd l ≠ 0) :
    Calls Tryz.prog 7 #[.int .i64 kd, .int .u64 s, .slice a l.length cap] w (RefDoRow w kd s l) := by
  have Hr := Lib.hid hr
  have he' : (wErr kd l != 0) = true := by simpa using he
  have He := Lib.hid he
  clear hr he
  go_enter Tryz.func7, Tryz.ntmps7
  go_wp2_with (go_at_call 24; refine (asked_ref kd _ cap l _ Hr.out).mono ?_; rintro e w1 ⟨rfl, rfl⟩)
  refine bodyPost_ret (v := .tuple #[.slice none 0 0, .int .u64 0, .int .i64 (wErr kd l)]) (by simp [results, Tryz.results7, go_sem]) rfl ⟨.slice none 0 0, ?_, ?_, Below.refl _ _⟩
  · rw [doEnd, if_neg He.out]
  · rw [doOuts, if_neg He.out]; exact World.ownsRow_nil _ _ _ _

theorem canon_wide (kd v : Int) (h : Canon kd v) : 0 ≤ v ∧ v < 18446744073709551616 := by
  unfold Canon at h
  obtain ⟨h0, h1⟩ := h
  refine ⟨h0, ?_⟩
  split at h1
  · omega
  · split at h1 <;> omega

set_option maxHeartbeats 1000000 in
theorem refdo_ok (kd s : Int) (a : Option Addr) (cap : Nat) (l : List A3) (w : World) (hr : ActsW w a l) (hs : 0 ≤ s ∧ s < 18446744073709551616) (hl : ∀ x ∈ l, x.ok) (he : wErr kd l = 0) (hk : 1 ≤ kd ∧ kd ≤ 6) (hn : l.length ≤ 10000) (hc : ∀ x ∈ l, canW kd x.k = true) :
    Calls Tryz.prog 7 #[.int .i64 kd, .int .u64 s, .slice a l.length cap] w (RefDoRow w kd s l) := by
  obtain ⟨i0, hi0, hz0, hz1, hz2⟩ := info_parts info_outR
  have Hr := Lib.hid hr
  have Hl := Lib.hid hl
  have Hc := Lib.hid hc
  have he' : (wErr kd l != 0) = false := by simpa using he
  have He := Lib.hid he
  have Hk := Lib.hid hk
  clear hr hl he hc hk
  go_enter Tryz.func7, Tryz.ntmps7
  go_wp2_with (first | (go_at_call 24; refine (asked_ref kd _ cap l _ Hr.out).mono ?_; rintro e w1 ⟨rfl, rfl⟩) | (go_at_call 25; refine (cut_any kd _ _ hs).mono ?_; rintro e w' ⟨rfl, rfl⟩))
  go_loopw [10, 11, 12] (fun x v i wr => ∃ j : Nat, j ≤ l.length ∧ i = .int .i64 j ∧ x = .int .u64 (wTo kd (cutW kd s) (l.take j)) ∧ Below w.heap.size w wr ∧ wr.ownsRow w.heap.size 59 2 v j (outCellsOf (wOuts kd (cutW kd s) (l.take j)))) (fun _ _ i _ => l.length - (intOf i).toNat)
  case atStart => exact ⟨0, Nat.zero_le _, rfl, rfl, Below.refl _ _, World.ownsRow_nil _ _ _ _⟩

  case round =>
    obtain ⟨j, hj, rfl, rfl, hb, hown⟩ := hrel
    by_cases hlt : j < l.length
    · obtain ⟨b, off, rfl, h1, h2, h3⟩ := (Hr.out.below hb) j hlt
      have hbs := hb.size
      have Hcan := Lib.hid (canon_to kd (cutW kd s) (l.take j) Hk.out (canon_cut kd s Hk.out hs) (fun x hx => Hl.out x (List.mem_of_mem_take hx)))
      have Hcj := Lib.hid (Hc.out l[j] (List.getElem_mem hlt))
      have Hok := Lib.hid (Hl.out l[j] (List.getElem_mem hlt))
      have Hb := Lib.hid hb
      have Ho := Lib.hid hown
      clear hb hown
      go_wp2_with fail
      refine (one_ref kd _ _ _ _ _ Hcj.out Hok.out.1 Hok.out.2).mono ?_
      rintro e w1 ⟨rfl, b1⟩
      have Hb1 := Lib.hid (Hb.out.trans (b1.mono hbs))
      have Ho1 := Lib.hid (row_below Ho.out b1)
      have hs1 := Hb1.out.size
      clear b1 Hb Ho
      go_wp2_with (at_builtin; refine wpList_append_oneH rfl _ _ 25 rfl w.heap.size 59 i0 (.agg #[.int .u64 0, .bool false]) 2 16 Tryz.underlying25 hi0 hz0 hz1 hz2 rfl (by decide) (by decide) u11 j _ [_, _] rfl (Ho1.out.alloc _) (w1.heap.size + 1) (by simp) rfl rfl (by simp [Value.oneCell']) (by omega) (by simp; omega) ?_)
      intro v' w2 g1 g2 g3
      have Hb2 := Lib.hid (Hb1.out.trans (((Turns.alloc _ w1 _).trans g2).below (fun k hk _ => (Ho1.out.lt k hk).1) Hb1.out.size))
      have Hg := Lib.hid g1
      clear g1 g2 g3
      go_wp2
      go_roundw
      case rel =>
        refine ⟨j + 1, by omega, by go_num, ?_, Hb2.out, ?_⟩
        · rw [wTo_snoc kd _ l j hlt]; rfl
        · rw [outs_step kd _ l j hlt]; exact Hg.out
      case measure => simp [intOf]; omega
    · obtain rfl : j = l.length := by omega
      rw [List.take_length] at hown ⊢
      obtain ⟨va, vc, rfl⟩ := row_shape hown
      have Hb := Lib.hid hb
      have Ho := Lib.hid hown
      clear hb hown
      go_wp2_with fail
      refine bodyPost_ret (v := .tuple #[.slice va l.length vc, .int .u64 (wTo kd (cutW kd s) l), .int .i64 0]) (by simp [results, Tryz.results7, go_sem]) rfl ⟨.slice va l.length vc, ?_, ?_, Hb.out⟩
      · rw [doEnd, if_pos He.out, He.out]
      · rw [doOuts, if_pos He.out, wOuts_len]; exact Ho.out

theorem refdo_any (kd s : Int) (a : Option Addr) (cap : Nat) (l : List A3) (w : World) (hr : ActsW w a l) (hs : 0 ≤ s ∧ s < 18446744073709551616) (hl : ∀ x ∈ l, x.ok) :
    Calls Tryz.prog 7 #[.int .i64 kd, .int .u64 s, .slice a l.length cap] w (RefDoRow w kd s l) := by
  by_cases he : wErr kd l = 0
  · obtain ⟨h1, h2, h3⟩ := err_ok kd l he
    exact refdo_ok kd s a cap l w hr hs hl he h1 h2 h3
  · exact refdo_bad kd s a cap l w hr he

/-- what the reference's Steps leaves. -/
def RefStepsRow (w : World) (kd s : Int) (l : List A3) (e : Ending) (w' : World) : Prop :=
  ∃ v, e = .returned (.tuple #[v, .int .i64 (wErr kd l)]) ∧ RowU w' w.heap.size v (stepsAll kd s l) ∧ Below w.heap.size w w'

set_option maxHeartbeats 1000000 in
theorem refsteps_bad (kd s : Int) (a : Option Addr) (cap : Nat) (l : List A3) (w : World) (hr : ActsW w a l) (he : wErr kd l ≠ 0) :
    Calls Tryz.prog 11 #[.int .i64 kd, .int .u64 s, .slice a l.length cap] w (RefStepsRow w kd s l) := by
  have Hr := Lib.hid hr
  have he' : (wErr kd l != 0) = true := by simpa using he
  have He := Lib.hid he
  clear hr he
  go_enter Tryz.func11, Tryz.ntmps11
  go_wp2_with (go_at_call 24; refine (asked_ref kd _ cap l _ Hr.out).mono ?_; rintro e w1 ⟨rfl, rfl⟩)
  refine bodyPost_ret (v := .tuple #[.slice none 0 0, .int .i64 (wErr kd l)]) (by simp [results, Tryz.results11, go_sem]) rfl ⟨.slice none 0 0, rfl, ?_, Below.refl _ _⟩
  rw [stepsAll, if_neg He.out]; exact World.ownsRow_nil _ _ _ _

set_option maxHeartbeats 1000000 in
theorem refsteps_ok (kd s : Int) (a : Option Addr) (cap : Nat) (l : List A3) (w : World) (hr : ActsW w a l) (hs : 0 ≤ s ∧ s < 18446744073709551616) (hl : ∀ x ∈ l, x.ok) (he : wErr kd l = 0) (hk : 1 ≤ kd ∧ kd ≤ 6) (hn : l.length ≤ 10000) (hc : ∀ x ∈ l, canW kd x.k = true) :
    Calls Tryz.prog 11 #[.int .i64 kd, .int .u64 s, .slice a l.length cap] w (RefStepsRow w kd s l) := by
  obtain ⟨i0, hi0, hz0, hz1, hz2⟩ := info_parts info_u64
  have Hr := Lib.hid hr
  have Hl := Lib.hid hl
  have Hc := Lib.hid hc
  have he' : (wErr kd l != 0) = false := by simpa using he
  have He := Lib.hid he
  have Hk := Lib.hid hk
  clear hr hl he hc hk
  go_enter Tryz.func11, Tryz.ntmps11
  go_wp2_with (first | (go_at_call 24; refine (asked_ref kd _ cap l _ Hr.out).mono ?_; rintro e w1 ⟨rfl, rfl⟩) | (go_at_call 25; refine (cut_any kd _ _ hs).mono ?_; rintro e w' ⟨rfl, rfl⟩))
  go_loopw [9, 10, 11] (fun x v i wr => ∃ j : Nat, j ≤ l.length ∧ i = .int .i64 j ∧ x = .int .u64 (wTo kd (cutW kd s) (l.take j)) ∧ Below w.heap.size w wr ∧ wr.ownsRow w.heap.size 22 1 v j ((wSteps kd (cutW kd s) (l.take j)).map (Value.int .u64))) (fun _ _ i _ => l.length - (intOf i).toNat)
  case atStart => exact ⟨0, Nat.zero_le _, rfl, rfl, Below.refl _ _, World.ownsRow_nil _ _ _ _⟩
  case round =>
    obtain ⟨j, hj, rfl, rfl, hb, hown⟩ := hrel
    by_cases hlt : j < l.length
    · obtain ⟨b, off, rfl, h1, h2, h3⟩ := (Hr.out.below hb) j hlt
      have hbs := hb.size
      have Hcj := Lib.hid (Hc.out l[j] (List.getElem_mem hlt))
      have Hok := Lib.hid (Hl.out l[j] (List.getElem_mem hlt))
      have Hb := Lib.hid hb
      have Ho := Lib.hid hown
      clear hb hown
      go_wp2_with fail
      refine (one_ref kd _ _ _ _ _ Hcj.out Hok.out.1 Hok.out.2).mono ?_
      rintro e w1 ⟨rfl, b1⟩
      have Hb1 := Lib.hid (Hb.out.trans (b1.mono hbs))
      have Ho1 := Lib.hid (row_below Ho.out b1)
      have hs1 := Hb1.out.size
      clear b1 Hb Ho
      go_wp2_with (at_builtin; refine wpList_append_one rfl _ _ 35 rfl w.heap.size 22 i0 (.int .u64 0) 1 8 Tryz.underlying35 hi0 hz0 hz1 hz2 rfl (by decide) (by decide) u10 j _ [_] rfl Ho1.out rfl rfl (by simp [Value.oneCell']) (by omega) hs1 ?_)
      intro v' w2 g1 g2 g3
      have Hb2 := Lib.hid (Hb1.out.trans (g2.below (fun k hk _ => (Ho1.out.lt k hk).1) Hb1.out.size))
      have Hg := Lib.hid g1
      clear g1 g2 g3
      go_wp2
      go_roundw
      case rel =>
        refine ⟨j + 1, by omega, by go_num, ?_, Hb2.out, ?_⟩
        · rw [wTo_snoc kd _ l j hlt]; rfl
        · rw [steps_step kd _ l j hlt, wTo_snoc kd _ l j hlt]; exact Hg.out
      case measure => simp [intOf]; omega
    · obtain rfl : j = l.length := by omega
      rw [List.take_length] at hown ⊢
      obtain ⟨va, vc, rfl⟩ := row_shape hown
      have Hb := Lib.hid hb
      have Ho := Lib.hid hown
      clear hb hown
      go_wp2_with fail
      refine bodyPost_ret (v := .tuple #[.slice va l.length vc, .int .i64 0]) (by simp [results, Tryz.results11, go_sem]) rfl ⟨.slice va l.length vc, ?_, ?_, Hb.out⟩
      · rw [He.out]
      · rw [stepsAll, if_pos He.out]; unfold RowU; rw [wSteps_len]; exact Ho.out

theorem refsteps_any (kd s : Int) (a : Option Addr) (cap : Nat) (l : List A3) (w : World) (hr : ActsW w a l) (hs : 0 ≤ s ∧ s < 18446744073709551616) (hl : ∀ x ∈ l, x.ok) :
    Calls Tryz.prog 11 #[.int .i64 kd, .int .u64 s, .slice a l.length cap] w (RefStepsRow w kd s l) := by
  by_cases he : wErr kd l = 0
  · obtain ⟨h1, h2, h3⟩ := err_ok kd l he
    exact refsteps_ok kd s a cap l w hr hs hl he h1 h2 h3
  · exact refsteps_bad kd s a cap l w hr he

end Go.Proofs.YtfkhflknigemgaaGreat
