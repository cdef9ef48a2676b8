/-
  DERIVED. THE WALK over the reference's Ids.
-/
import Derived.Test.YtjifoggfndicoaaIPlain
namespace Go.Proofs.Ytjifoggfndicoaa
open Go.RowKit
set_option maxRecDepth 100000

theorem allRight_cons (things : Int) (l : List Int) (j : Nat) (h : j < l.length) : allRight things (l.drop j) = (right things l[j] && allRight things (l.drop (j + 1))) := by
  rw [List.drop_eq_getElem_cons h]
  rfl

theorem rids_big (ca aa : Option Addr) (cc ac : Nat) (cells : List Int) (things : Int) (acts : List A4) (w : World) (h : 64 < cells.length ∨ 64 < things ∨ 1000 < acts.length) :
    Calls Try.prog 43 #[.slice ca cells.length cc, .int .i64 things, .slice aa acts.length ac] w (IdsPost w cells things acts) := by
  have Hp := Lib.hid (ids_none w cells things acts w 2 (by rw [idsErr, if_pos h]) (by decide) (Below.refl _ _))
  by_cases h1 : 64 < cells.length
  · clear h
    have h1' : (64 : Int) < (cells.length : Int) := by omega
    go_enter Try.func43, Try.ntmps43
    go_wp2_with fail
    all_goals exact bodyPost_ret (v := .tuple #[.slice none 0 0, .slice none 0 0, .slice none 0 0, .int .i64 2]) (by simp [results, Try.results43, go_sem]) rfl Hp.out
  · have h3 : ¬ (64 : Int) < (cells.length : Int) := by omega
    by_cases h2 : 64 < things
    · clear h h1
      go_enter Try.func43, Try.ntmps43
      go_wp2_with fail
      all_goals exact bodyPost_ret (v := .tuple #[.slice none 0 0, .slice none 0 0, .slice none 0 0, .int .i64 2]) (by simp [results, Try.results43, go_sem]) rfl Hp.out
    · have h4 : (1000 : Int) < (acts.length : Int) := by omega
      clear h h1
      go_enter Try.func43, Try.ntmps43
      go_wp2_with fail
      all_goals exact bodyPost_ret (v := .tuple #[.slice none 0 0, .slice none 0 0, .slice none 0 0, .int .i64 2]) (by simp [results, Try.results43, go_sem]) rfl Hp.out

theorem rids_neg (ca aa : Option Addr) (cc ac : Nat) (cells : List Int) (things : Int) (acts : List A4) (w : World) (h1 : cells.length ≤ 64) (h2 : acts.length ≤ 1000) (h : things < 0) :
    Calls Try.prog 43 #[.slice ca cells.length cc, .int .i64 things, .slice aa acts.length ac] w (IdsPost w cells things acts) := by
  have Hp := Lib.hid (ids_none w cells things acts w 1 (by rw [idsErr, if_neg (by omega), if_pos (.inl h)]) (by decide) (Below.refl _ _))
  have h3 : ¬ (64 : Int) < (cells.length : Int) := by omega
  have h4 : ¬ (1000 : Int) < (acts.length : Int) := by omega
  have h5 : ¬ 64 < things := by omega
  go_enter Try.func43, Try.ntmps43
  go_wp2_with fail
  all_goals exact bodyPost_ret (v := .tuple #[.slice none 0 0, .slice none 0 0, .slice none 0 0, .int .i64 1]) (by simp [results, Try.results43, go_sem]) rfl Hp.out

set_option maxHeartbeats 8000000 in
theorem rids_small (ca aa : Option Addr) (cc ac : Nat) (cells : List Int) (things : Int) (acts : List A4) (w : World) (h1 : cells.length ≤ 64) (h2 : acts.length ≤ 1000) (h5 : ¬ 64 < things) (h6 : 0 ≤ things) (hr : ActsIn w aa acts) (hi : IntsIn w ca cells) :
    Calls Try.prog 43 #[.slice ca cells.length cc, .int .i64 things, .slice aa acts.length ac] w (IdsPost w cells things acts) := by
  obtain ⟨i0, hi0, hz0, hz1, hz2⟩ := info_parts info_int
  have h3 : ¬ (64 : Int) < (cells.length : Int) := by omega
  have h4 : ¬ (1000 : Int) < (acts.length : Int) := by omega
  have h7 : ¬ things < 0 := by omega
  have Hr := Lib.hid hr
  have Hi := Lib.hid hi
  clear hr hi
  go_enter Try.func43, Try.ntmps43
  go_wp2_with fail
  go_loop [10] (fun i => ∃ j : Nat, j ≤ cells.length ∧ i = .int .i64 j ∧ Hid (allRight things (cells.drop j) = allRight things cells)) (fun i => cells.length - (intOf i).toNat)
  case atStart => exact ⟨0, Nat.zero_le _, rfl, rfl⟩

  case round =>
    obtain ⟨j, hj, rfl, hspec⟩ := hrel
    by_cases hlt : j < cells.length
    · obtain ⟨b, off, rfl, h⟩ := Hi.out j hlt
      have Hs := Lib.hid ((allRight_cons things cells j hlt).symm.trans hspec.out)
      clear hspec
      cases ra : right things cells[j]
      · have Hp := Lib.hid (ids_none w cells things acts w 1 (by
          have := Hs.out
          rw [ra, Bool.false_and] at this
          rw [idsErr, if_neg (by omega), if_pos (.inr this.symm)]) (by decide) (Below.refl _ _))
        go_wp2_with (go_at_call 76; refine (rthing_lit _ _ _ (by assumption) _).mono ?_; rintro e w1 ⟨rfl, rfl⟩)
        exact bodyPost_ret (v := .tuple #[.slice none 0 0, .slice none 0 0, .slice none 0 0, .int .i64 1]) (by simp [results, Try.results43, go_sem]) rfl Hp.out
      · have H5 := Lib.hid (show allRight things (cells.drop (j + 1)) = allRight things cells by have := Hs.out; rw [ra, Bool.true_and] at this; exact this)
        go_wp2_with (go_at_call 76; refine (rthing_lit _ _ _ (by assumption) _).mono ?_; rintro e w1 ⟨rfl, rfl⟩)
        go_round
        case rel => exact ⟨j + 1, by omega, by go_num, H5.out⟩
        case measure => simp [intOf]; omega
    · have har : allRight things cells = true := by rw [← hspec.out, List.drop_eq_nil_of_le (by omega)]; rfl
      have herr : idsErr cells things acts = checkIds cells.length things acts := by rw [idsErr, if_neg (by omega), if_neg (by rw [har]; simp; omega)]
      have Herr := Lib.hid herr
      clear hspec har herr
      by_cases hz : checkIds cells.length things acts = 0
      · have Hz := Lib.hid hz
        have He := Lib.hid (Herr.out.trans hz)
        have hz' : (checkIds cells.length things acts != 0) = false := by rw [bne_eq_false_iff_eq]; exact hz
        clear hz
        go_wp2_with fail
        refine (badid_any _ _ _ _ acts _ (by omega) Hr.out).mono ?_
        rintro e w1 ⟨rfl, hb1⟩
        have Hi1 := Lib.hid (Hi.out.below hb1)
        have Hb1 := Lib.hid hb1
        clear hb1 hlt hj
        go_wp2_with fail
        refine (copy_any _ _ cells _ Hi1.out (by omega)).mono ?_
        rintro e w2 ⟨g, c, rfl, g1, g2⟩
        have hr2 : R2 w cells [] g c (.slice none 0 0) w2 := ⟨Hb1.out.trans (g2.mono Hb1.out.size), row_base g1 Hb1.out.size, World.ownsRow_nil _ _ _ _, by simp [Value.ownBlock]⟩
        have Hr2 := Lib.hid hr2
        clear hr2 g1 g2 Hi1 Hb1
        go_wp2_with fail
        go_loopw [13, 14] (fun ov i wx => ∃ j : Nat, j ≤ acts.length ∧ i = .int .i64 j ∧ R2 w cells (acts.take j) g c ov wx) (fun _ i _ => acts.length - (intOf i).toNat)
        case atStart => exact ⟨0, Nat.zero_le _, rfl, Hr2.out⟩
        case round =>
          obtain ⟨j, hj, rfl, hinv⟩ := hrel
          clear Hr2
          by_cases hlt : j < acts.length
          · obtain ⟨b, off, rfl, hc1, hc2, hc3, hc4⟩ := (Hr.out.below hinv.below) j hlt
            obtain ⟨kk, k3, k4, _⟩ := checkIds_ok _ _ acts Hz.out acts[j] (List.getElem_mem hlt)
            have k12 : 1 ≤ acts[j].k ∧ acts[j].k ≤ 7 := by rcases known4_or kk with e | e | e | e <;> rw [e] <;> decide
            obtain ⟨m, hm⟩ := Int.eq_ofNat_of_zero_le k3
            rw [hm] at hc2 k4
            have hmn : m < cells.length := by omega
            have hlen := numTo_len cells (acts.take j)
            have htl : (acts.take j).length = j := by rw [List.length_take]; omega
            have hcell : wr.cell? ⟨g, m, none⟩ = some (.int .i64 ((numTo cells (acts.take j)).2.getD m 0)) := by
              refine row_cell hinv.now ?_
              rw [List.getElem?_map, List.getElem?_eq_getElem (by omega), List.getD_eq_getElem?_getD, List.getElem?_eq_getElem (by omega)]
              rfl
            obtain ⟨cur, hcur, _⟩ := row_block hinv.now
            have hfr : ∀ o, (wr.alloc o).frozen? ⟨g, m, none⟩ = false := fun o => frozen_of_heap ((Turns.alloc (fun _ => False) wr o).heap hcur (fun h => h))
            have hsz := hinv.below.size
            have hgl := (hinv.now.lt g rfl)
            have Hinv := Lib.hid hinv
            have Hcell := Lib.hid hcell
            have Hfr := Lib.hid hfr
            have Hm := Lib.hid hm
            have Htl := Lib.hid htl
            clear hinv hcell hfr hm htl hcur hlen kk
            go_wp2_with fail
            refine (one_any _ k12 g _ _ m _ _ _ _ hmn Hcell.out Hfr.out).mono ?_
            rintro e w2 ⟨rfl, q0⟩
            have Hown := Lib.hid (show w2.ownsRow w.heap.size 3 1 u13 (acts.take j).length ((numTo cells (acts.take j)).1.map (Value.int .i64)) by
              rw [← q0]
              exact ((Turns.alloc (fun k => k = g) wr _).trans (Turns.setCell (S := fun k => k = g) _ (a := ⟨g, m, none⟩) rfl _)).row Hinv.out.out (fun k hk e => Hinv.out.ne (e ▸ hk)))
            have hs2 : w2.heap.size = wr.heap.size + 1 := by rw [← q0]; simp [World.setCell]
            have hs3 : w.heap.size ≤ w2.heap.size := by omega
            have Hs2 := Lib.hid hs2
            have Q0 := Lib.hid q0
            clear hs2 q0
            go_wp2_with (at_builtin; refine wpList_append_one rfl _ _ 22 rfl w.heap.size 3 i0 (.int .i64 0) 1 8 Try.underlying22 hi0 hz0 hz1 hz2 rfl (by decide) (by decide) u13 _ _ [.int .i64 (numAns acts[j].k ((numTo cells (acts.take j)).2.getD m 0) acts[j].a)] rfl Hown.out rfl rfl (by simp [Value.oneCell']) (by rw [Htl.out]; omega) hs3 ?_)
            intro v' w3 q1 q2 q3
            have hstep : R2 w cells (acts.take j ++ [acts[j]]) g c v' w3 := Hinv.out.step Hm.out (by rw [Htl.out]; exact q1) (Q0.out ▸ q2) (fun b hb => by
              rcases q3 b hb with h | h
              · exact .inl h
              · exact .inr (by rw [Hs2.out] at h; omega))
            have Hstep := Lib.hid hstep
            clear hstep q1 q2 q3
            go_wp2
            go_roundw
            case rel =>
              refine ⟨j + 1, by omega, by go_num, ?_⟩
              rw [List.take_succ_eq_append_getElem hlt]
              exact Hstep.out
            case measure => simp [intOf]; omega
          · obtain rfl : j = acts.length := by omega
            rw [List.take_length] at hinv
            have hlen := numTo_len cells acts
            obtain ⟨ova, ovc, rfl⟩ := row_shape hinv.out
            have Hinv := Lib.hid hinv
            have Hlen := Lib.hid hlen
            have Hk := Lib.hid (Hr.out.below hinv.below)
            clear hinv hlen hlt hj
            go_wp2_with (go_at_call 47; refine (kinds_ref _ _ acts _ (by omega) Hk.out).mono ?_; rintro e w2 ⟨v3, rfl, q1, q2⟩)
            have hb := Hinv.out.below
            have e1 : idsAns cells things acts = (numTo cells acts).1 := by rw [idsAns, if_pos He.out]
            have e2 : idsEnd cells things acts = (numTo cells acts).2 := by rw [idsEnd, if_pos He.out]
            have e3 : idsKinds cells things acts = acts.map (·.k) := by rw [idsKinds, if_pos He.out]
            refine bodyPost_ret (v := .tuple #[.slice ova acts.length ovc, .slice (some ⟨g, 0, none⟩) cells.length c, v3, .int .i64 0]) (by simp [results, Try.results43, go_sem]) rfl ⟨_, _, v3, by rw [He.out], ?_, ?_, ?_, hb.trans (q2.mono hb.size)⟩
            · rw [e1]
              unfold RowI
              rw [Hlen.out.1]
              exact row_below Hinv.out.out q2
            · rw [e2]
              unfold RowI
              rw [Hlen.out.2]
              exact row_below Hinv.out.now q2
            · rw [e3]
              exact row_base q1 hb.size
      · have hz' : (checkIds cells.length things acts != 0) = true := by rw [bne_iff_ne]; exact hz
        have Hn := Lib.hid (fun w' => ids_none w cells things acts w' (checkIds cells.length things acts) Herr.out hz)
        clear hz
        go_wp2_with (go_at_call 77; refine (badid_any _ _ _ _ acts _ (by omega) Hr.out).mono ?_; rintro e w1 ⟨rfl, hb1⟩)
        exact bodyPost_ret (v := .tuple #[.slice none 0 0, .slice none 0 0, .slice none 0 0, .int .i64 (checkIds cells.length things acts)]) (by simp [results, Try.results43, go_sem]) rfl (Hn.out _ hb1)

theorem rids_any (ca aa : Option Addr) (cc ac : Nat) (cells : List Int) (things : Int) (acts : List A4) (w : World) (hr : ActsIn w aa acts) (hi : IntsIn w ca cells) :
    Calls Try.prog 43 #[.slice ca cells.length cc, .int .i64 things, .slice aa acts.length ac] w (IdsPost w cells things acts) := by
  by_cases h1 : 64 < cells.length ∨ 64 < things ∨ 1000 < acts.length
  · exact rids_big ca aa cc ac cells things acts w h1
  · by_cases h2 : things < 0
    · exact rids_neg ca aa cc ac cells things acts w (by omega) (by omega) h2
    · exact rids_small ca aa cc ac cells things acts w (by omega) (by omega) (by omega) (by omega) hr hi

end Go.Proofs.Ytjifoggfndicoaa
