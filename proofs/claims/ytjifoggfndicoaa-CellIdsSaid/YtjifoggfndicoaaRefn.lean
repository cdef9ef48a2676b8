/-
  DERIVED. THE WALK over the reference's Nums where all is well.
-/
import Derived.Test.YtjifoggfndicoaaRef
namespace Go.Proofs.Ytjifoggfndicoaa
open Go.RowKit
set_option maxRecDepth 100000

set_option maxHeartbeats 4000000 in
theorem refnums_ok (ca aa : Option Addr) (cc ac : Nat) (cells : List Int) (acts : List A4) (w : World) (he : numsErr cells acts = 0) (hr : ActsIn w aa acts) (hi : IntsIn w ca cells) :
    Calls Try.prog 11 #[.slice ca cells.length cc, .slice aa acts.length ac] w (RefPost w cells acts) := by
  obtain ⟨i0, hi0, hz0, hz1, hz2⟩ := info_parts info_int
  have h12 : cells.length ≤ 64 ∧ acts.length ≤ 1000 := by
    rcases Nat.lt_or_ge 64 cells.length with h | h
    · rw [numsErr, if_pos (.inl h)] at he; simp at he
    · rcases Nat.lt_or_ge 1000 acts.length with h' | h'
      · rw [numsErr, if_pos (.inr h')] at he; simp at he
      · exact ⟨h, h'⟩
  obtain ⟨h1, h2⟩ := h12
  have hz : checkNums cells.length acts = 0 := by rw [numsErr, if_neg (by omega)] at he; exact he
  have hz' : (checkNums cells.length acts != 0) = false := by rw [bne_eq_false_iff_eq]; exact hz
  have h3 : ¬ (64 : Int) < (cells.length : Int) := by omega
  have h4 : ¬ (1000 : Int) < (acts.length : Int) := by omega
  have Hr := Lib.hid hr
  have Hi := Lib.hid hi
  have Hz := Lib.hid hz
  have He := Lib.hid he
  clear hr hi hz he
  go_enter Try.func11, Try.ntmps11
  go_wp2_with (first | (go_at_call 45; refine (bad_any _ _ _ acts _ (by omega) Hr.out).mono ?_; rintro e w1 ⟨rfl, rfl⟩) | (go_at_call 46; refine (copy_any _ _ cells _ Hi.out (by omega)).mono ?_; rintro e w1 ⟨g, c, rfl, g1, g2⟩))
  have hr2 : R2 w cells [] g c (.slice none 0 0) w1 := ⟨g2, g1, World.ownsRow_nil _ _ _ _, by simp [Value.ownBlock]⟩
  have Hr2 := Lib.hid hr2
  clear hr2 g1 g2
  go_loopw [10, 11] (fun ov i wx => ∃ j : Nat, j ≤ acts.length ∧ i = .int .i64 j ∧ R2 w cells (acts.take j) g c ov wx) (fun _ i _ => acts.length - (intOf i).toNat)
  case atStart => exact ⟨0, Nat.zero_le _, rfl, Hr2.out⟩
  case round =>
    obtain ⟨j, hj, rfl, hinv⟩ := hrel
    clear Hr2
    by_cases hlt : j < acts.length
    · obtain ⟨b, off, rfl, hc1, hc2, hc3, hc4⟩ := (Hr.out.below hinv.below) j hlt
      obtain ⟨k1, k2, k3, k4⟩ := checkNums_ok _ acts Hz.out acts[j] (List.getElem_mem hlt)
      obtain ⟨m, hm⟩ := Int.eq_ofNat_of_zero_le k3
      rw [hm] at hc2 k4
      have hmn : m < cells.length := by omega
      have hlen := numTo_len cells (acts.take j)
      have htl : (acts.take j).length = j := by rw [List.length_take]; omega
      have hcell : wr.cell? ⟨g, m, none⟩ = some (.int .i64 ((numTo cells (acts.take j)).2.getD m 0)) := by
        refine row_cell hinv.now ?_
        rw [List.getElem?_map, List.getElem?_eq_getElem (by omega), List.getD_eq_getElem?_getD, List.getElem?_eq_getElem (by omega)]
        rfl
      obtain ⟨cur, hcur, _⟩ := row_block hinv.now
      have hfr : ∀ o, (wr.alloc o).frozen? ⟨g, m, none⟩ = false := fun o => frozen_of_heap ((Turns.alloc (fun _ => False) wr o).heap hcur (fun h => h))
      have hsz := hinv.below.size
      have hgl := (hinv.now.lt g rfl)
      have Hinv := Lib.hid hinv
      have Hcell := Lib.hid hcell
      have Hfr := Lib.hid hfr
      have Hm := Lib.hid hm
      have Htl := Lib.hid htl
      clear hinv hcell hfr hm htl hcur hlen
      go_wp2_with fail
      refine (one_any _ ⟨k1, k2⟩ g _ _ m _ _ _ _ hmn Hcell.out Hfr.out).mono ?_
      rintro e w2 ⟨rfl, q0⟩
      have Hown := Lib.hid (show w2.ownsRow w.heap.size 3 1 u10 (acts.take j).length ((numTo cells (acts.take j)).1.map (Value.int .i64)) by
        rw [← q0]
        exact ((Turns.alloc (fun k => k = g) wr _).trans (Turns.setCell (S := fun k => k = g) _ (a := ⟨g, m, none⟩) rfl _)).row Hinv.out.out (fun k hk e => Hinv.out.ne (e ▸ hk)))
      have hs2 : w2.heap.size = wr.heap.size + 1 := by rw [← q0]; simp [World.setCell]
      have hs3 : w.heap.size ≤ w2.heap.size := by omega
      have Hs2 := Lib.hid hs2
      have Q0 := Lib.hid q0
      clear hs2 q0
      go_wp2_with (at_builtin; refine wpList_append_one rfl _ _ 22 rfl w.heap.size 3 i0 (.int .i64 0) 1 8 Try.underlying22 hi0 hz0 hz1 hz2 rfl (by decide) (by decide) u10 _ _ [.int .i64 (numAns acts[j].k ((numTo cells (acts.take j)).2.getD m 0) acts[j].a)] rfl Hown.out rfl rfl (by simp [Value.oneCell']) (by rw [Htl.out]; omega) hs3 ?_)
      intro v' w3 q1 q2 q3
      have hstep : R2 w cells (acts.take j ++ [acts[j]]) g c v' w3 := Hinv.out.step Hm.out (by rw [Htl.out]; exact q1) (Q0.out ▸ q2) (fun b hb => by
        rcases q3 b hb with h | h
        · exact .inl h
        · exact .inr (by rw [Hs2.out] at h; omega))
      have Hstep := Lib.hid hstep
      clear hstep q1 q2 q3
      go_wp2
      go_roundw
      case rel =>
        refine ⟨j + 1, by omega, by go_num, ?_⟩
        rw [List.take_succ_eq_append_getElem hlt]
        exact Hstep.out
      case measure => simp [intOf]; omega
    · obtain rfl : j = acts.length := by omega
      rw [List.take_length] at hinv
      have hlen := numTo_len cells acts
      obtain ⟨ova, ovc, rfl⟩ := row_shape hinv.out
      have Hinv := Lib.hid hinv
      have Hlen := Lib.hid hlen
      have Hk := Lib.hid (Hr.out.below hinv.below)
      clear hinv hlen hlt hj
      go_wp2_with (go_at_call 47; refine (kinds_ref _ _ acts _ (by omega) Hk.out).mono ?_; rintro e w2 ⟨v3, rfl, q1, q2⟩)
      have hb := Hinv.out.below
      have e1 : numsAns cells acts = (numTo cells acts).1 := by rw [numsAns, if_pos He.out]
      have e2 : numsEnd cells acts = (numTo cells acts).2 := by rw [numsEnd, if_pos He.out]
      have e3 : numsKinds cells acts = acts.map (·.k) := by rw [numsKinds, if_pos He.out]
      refine bodyPost_ret (v := .tuple #[.slice ova acts.length ovc, .slice (some ⟨g, 0, none⟩) cells.length c, v3, .int .i64 0]) (by simp [results, Try.results11, go_sem]) rfl ⟨_, _, v3, by rw [He.out], ?_, ?_, ?_, hb.trans (q2.mono hb.size)⟩
      · rw [e1]
        unfold RowI
        rw [Hlen.out.1]
        exact row_below Hinv.out.out q2
      · rw [e2]
        unfold RowI
        rw [Hlen.out.2]
        exact row_below Hinv.out.now q2
      · rw [e3]
        exact row_base q1 hb.size

theorem refnums_any (ca aa : Option Addr) (cc ac : Nat) (cells : List Int) (acts : List A4) (w : World) (hr : ActsIn w aa acts) (hi : IntsIn w ca cells) :
    Calls Try.prog 11 #[.slice ca cells.length cc, .slice aa acts.length ac] w (RefPost w cells acts) := by
  by_cases he : numsErr cells acts = 0
  · exact refnums_ok ca aa cc ac cells acts w he hr hi
  · exact refnums_bad ca aa cc ac cells acts w he hr

end Go.Proofs.Ytjifoggfndicoaa
