/-
  DERIVED. THE WALKS over the reference's swapping, Bools and Marks.
-/
import Derived.Test.YtjifoggfndicoaaMCheck
import Derived.Test.YtjifoggfndicoaaRef
namespace Go.Proofs.Ytjifoggfndicoaa
open Go.RowKit
set_option maxRecDepth 100000

theorem swapping_any (k : Int) (w : World) : Calls Try.prog 72 #[.int .i64 k] w fun e w' => e = .returned (.bool (known4 k)) ∧ w = w' := by
  go_enter Try.func72, Try.ntmps72
  go_wp2_with fail
  all_goals
    go_ret
    refine ⟨?_, rfl⟩
    first | (simp [known4]; done) | (simp [known4, *]; done) | simp_all [known4]

set_option maxHeartbeats 400000 in
theorem bools_same (a b : Option Addr) (n m ca cb : Nat) (l : List Bool) (w : World) (hn : n = l.length) (hm : m = l.length) (ha : BoolsIn w a l) (hb : BoolsIn w b l) (hl : l.length ≤ 9223372036854775807) :
    Calls Try.prog 42 #[.slice a n ca, .slice b m cb] w fun e w' => e = .returned (.bool true) ∧ Turns (fun _ => False) w w' := by
  subst hn hm
  have Ha := Lib.hid ha
  have Hb := Lib.hid hb
  clear ha hb
  go_enter Try.func42, Try.ntmps42
  go_wp2_with fail
  go_loopw [5] (fun i wr => ∃ j : Nat, j ≤ l.length ∧ i = .int .i64 j ∧ Turns (fun _ => False) w wr) (fun i _ => l.length - (intOf i).toNat)
  case atStart => exact ⟨0, Nat.zero_le _, rfl, Turns.refl _ _⟩
  case round =>
    obtain ⟨j, hj, rfl, ht⟩ := hrel
    by_cases hlt : j < l.length
    · obtain ⟨b1, o1, rfl, h1⟩ := (Ha.out.turns ht) j hlt
      obtain ⟨b2, o2, rfl, h2⟩ := (Hb.out.turns ht) j hlt
      have Ht := Lib.hid ht
      clear ht
      have j0 : (0 : Int) ≤ (j : Int) := by omega
      have j1 : (j : Int) < (l.length : Int) := by omega
      go_wp2_with fail
      go_quiet (fail)
      go_wp2
      go_roundw
      case rel => exact ⟨j + 1, by omega, by go_num, Ht.out.trans (Turns.drewN _ _ _)⟩
      case measure => simp [intOf]; omega
    · have Ht := Lib.hid ht
      clear ht
      go_wp2
      go_ret
      exact ⟨rfl, Ht.out⟩

theorem rmarks_big (ca aa : Option Addr) (cc ac : Nat) (cells : List Bool) (acts : List A4) (w : World) (h : 64 < cells.length ∨ 1000 < acts.length) :
    Calls Try.prog 40 #[.slice ca cells.length cc, .slice aa acts.length ac] w (MarksPost w cells acts) := by
  have he : marksErr cells acts = 2 := by rw [marksErr, if_pos h]
  have hp := marks_none w cells acts w (by rw [he]; decide) (Below.refl _ _)
  rw [he] at hp
  have Hp := Lib.hid hp
  clear hp he
  by_cases h1 : 64 < cells.length
  · clear h
    have h1' : (64 : Int) < (cells.length : Int) := by omega
    go_enter Try.func40, Try.ntmps40
    go_wp2_with fail
    all_goals exact bodyPost_ret (v := .tuple #[.slice none 0 0, .slice none 0 0, .slice none 0 0, .int .i64 2]) (by simp [results, Try.results40, go_sem]) rfl Hp.out
  · have h2 : 1000 < acts.length := by omega
    clear h
    have h3 : ¬ (64 : Int) < (cells.length : Int) := by omega
    have h4 : (1000 : Int) < (acts.length : Int) := by omega
    clear h1
    go_enter Try.func40, Try.ntmps40
    go_wp2_with fail
    all_goals exact bodyPost_ret (v := .tuple #[.slice none 0 0, .slice none 0 0, .slice none 0 0, .int .i64 2]) (by simp [results, Try.results40, go_sem]) rfl Hp.out

/-- THE REFERENCE's LOOP: its numbers, its answers. -/
structure RM (w : World) (cells : List Int) (l : List A4) (nv ov : Value) (wx : World) : Prop where
  below : Below w.heap.size w wx
  now : wx.ownsRow w.heap.size 3 1 nv cells.length ((numTo cells l).2.map (Value.int .i64))
  out : wx.ownsRow w.heap.size 4 1 ov l.length ((ones (numTo cells l).1).map Value.bool)
  ne : ∀ g, ov.ownBlock = some g → nv.ownBlock ≠ some g

theorem RM.step {w wx w3 : World} {cells : List Int} {l : List A4} {g c m : Nat} {ov ov' : Value} {x : A4} {o : Obj} (h : RM w cells l (.slice (some ⟨g, 0, none⟩) cells.length c) ov wx) (hm : x.at_ = (m : Int))
    (g1 : w3.ownsRow w.heap.size 4 1 ov' (l.length + 1) ((ones (numTo cells l).1).map Value.bool ++ [.bool (numAns x.k ((numTo cells l).2.getD m 0) x.a == 1)]))
    (g2 : Turns (fun k => ov.ownBlock = some k) ((wx.alloc o).setCell ⟨g, m, none⟩ (.int .i64 (numNew x.k ((numTo cells l).2.getD m 0) x.a x.b))) w3)
    (g3 : ∀ b, ov'.ownBlock = some b → ov.ownBlock = some b ∨ wx.heap.size ≤ b) : RM w cells (l ++ [x]) (.slice (some ⟨g, 0, none⟩) cells.length c) ov' w3 := by
  have hst := numTo_step cells l x
  have hmt : x.at_.toNat = m := by rw [hm]; rfl
  have hg := (h.now.lt g rfl)
  have hT := ((Turns.alloc (fun k => k = g ∨ ov.ownBlock = some k) wx o).trans (Turns.setCell _ (a := ⟨g, m, none⟩) (.inl rfl) (.int .i64 (numNew x.k ((numTo cells l).2.getD m 0) x.a x.b)))).trans (g2.mono (fun _ _ h => .inr h))
  refine ⟨h.below.trans (hT.below (fun k hk _ => ?_) h.below.size), ?_, ?_, ?_⟩
  · rcases hk with hk | hk
    · omega
    · exact (h.out.lt k hk).1
  · rw [hst]
    simp only [numStep, hmt, List.map_set]
    exact g2.row (row_set ((Turns.alloc (fun _ => False) wx o).row h.now (fun _ _ h => h)) _) (fun k hk e => h.ne k e (by simp only [Value.ownBlock, Option.some.injEq] at hk ⊢; exact hk))
  · rw [hst]
    simp only [numStep, hmt, ones, List.map_append, List.length_append, List.length_cons, List.length_nil]
    exact g1
  · intro b hb e
    rcases g3 b hb with h5 | h5
    · exact h.ne b h5 e
    · simp only [Value.ownBlock, Option.some.injEq] at e
      omega

theorem RM.turns {w wx wy : World} {cells : List Int} {l : List A4} {nv ov : Value} (h : RM w cells l nv ov wx) (ht : Turns (fun _ => False) wx wy) : RM w cells l nv ov wy :=
  ⟨h.below.trans (ht.below (fun _ h => h.elim) h.below.size), ht.row h.now (fun _ _ h => h), ht.row h.out (fun _ _ h => h), h.ne⟩
theorem RM.quiet1 {w wx : World} {cells : List Int} {l : List A4} {nv ov : Value} {o : Obj} (h : RM w cells l nv ov wx) : RM w cells l nv ov (wx.alloc o).drew :=
  h.turns ((Turns.alloc _ wx o).trans (Turns.drew _ _))

set_option maxHeartbeats 8000000 in
theorem rmarks_small (ca aa : Option Addr) (cc ac : Nat) (cells : List Bool) (acts : List A4) (w : World) (h1 : cells.length ≤ 64) (h2 : acts.length ≤ 1000) (hr : ActsIn w aa acts) (hi : BoolsIn w ca cells) :
    Calls Try.prog 40 #[.slice ca cells.length cc, .slice aa acts.length ac] w (MarksPost w cells acts) := by
  obtain ⟨i0, hi0, hz0, hz1, hz2⟩ := info_parts info_bool
  obtain ⟨i1, hi1, hy0, hy1, hy2⟩ := info_parts info_int
  have h3 : ¬ (64 : Int) < (cells.length : Int) := by omega
  have h4 : ¬ (1000 : Int) < (acts.length : Int) := by omega
  have Hr := Lib.hid hr
  have Hi := Lib.hid hi
  have Hn := Lib.hid (fun (n : Int) (w' : World) (hn : n ≠ 0) (he : checkMarks cells.length acts = n) => (by
    have e : marksErr cells acts = n := by rw [marksErr, if_neg (by omega)]; exact he
    have := marks_none w cells acts w' (by rw [e]; exact hn)
    rw [e] at this
    exact this : Below w.heap.size w w' → MarksPost w cells acts (.returned (.tuple #[.slice none 0 0, .slice none 0 0, .slice none 0 0, .int .i64 n])) w'))
  clear hr hi
  go_enter Try.func40, Try.ntmps40
  go_wp2_with fail
  go_loop [8] (fun i => ∃ j : Nat, j ≤ acts.length ∧ i = .int .i64 j ∧ Hid (checkMarks cells.length (acts.drop j) = checkMarks cells.length acts)) (fun i => acts.length - (intOf i).toNat)
  case atStart => exact ⟨0, Nat.zero_le _, rfl, rfl⟩
  case round =>
    obtain ⟨j, hj, rfl, hspec⟩ := hrel
    by_cases hlt : j < acts.length
    · obtain ⟨b, off, rfl, c1, c2, _, _⟩ := Hr.out j hlt
      have Hs := Lib.hid ((checkMarks_cons cells.length acts j hlt).symm.trans hspec.out)
      clear hspec
      by_cases hk : known4 acts[j].k = true
      · by_cases ha : acts[j].at_ < 0 ∨ (cells.length : Int) ≤ acts[j].at_
        · have H5 := Lib.hid (show checkMarks cells.length acts = 1 by have := Hs.out; rw [hk, if_neg (by simp), if_pos ha] at this; exact this.symm)
          go_wp2_with (go_at_call 72; refine (swapping_any _ _).mono ?_; rintro e w1 ⟨rfl, rfl⟩)
          all_goals exact bodyPost_ret (v := .tuple #[.slice none 0 0, .slice none 0 0, .slice none 0 0, .int .i64 1]) (by simp [results, Try.results40, go_sem]) rfl (Hn.out 1 _ (by decide) H5.out (Below.refl _ _))
        · have H5 := Lib.hid (show checkMarks cells.length (acts.drop (j + 1)) = checkMarks cells.length acts by have := Hs.out; rw [hk, if_neg (by simp), if_neg ha] at this; exact this)
          have ha1 : decide (acts[j].at_ < 0) = false := by simp; omega
          have ha2 : decide ((cells.length : Int) ≤ acts[j].at_) = false := by simp; omega
          clear ha
          go_wp2_with (go_at_call 72; refine (swapping_any _ _).mono ?_; rintro e w1 ⟨rfl, rfl⟩)
          all_goals
            go_round
            case rel => exact ⟨j + 1, by omega, by go_num, H5.out⟩
            case measure => simp [intOf]; omega
      · have hk2 : known4 acts[j].k = false := by simpa using hk
        have H5 := Lib.hid (show checkMarks cells.length acts = 5 by have := Hs.out; rw [if_pos hk2] at this; exact this.symm)
        clear hk
        go_wp2_with (go_at_call 72; refine (swapping_any _ _).mono ?_; rintro e w1 ⟨rfl, rfl⟩)
        all_goals exact bodyPost_ret (v := .tuple #[.slice none 0 0, .slice none 0 0, .slice none 0 0, .int .i64 5]) (by simp [results, Try.results40, go_sem]) rfl (Hn.out 5 _ (by decide) H5.out (Below.refl _ _))
    · have hz : checkMarks cells.length acts = 0 := by rw [← hspec.out, List.drop_eq_nil_of_le (by omega)]; rfl
      have Hz := Lib.hid hz
      clear hz hspec
      go_wp2_with fail
      clear hlt hj
      go_loopw [9, 10] (fun v i wr => ∃ j : Nat, j ≤ cells.length ∧ i = .int .i64 j ∧ Below w.heap.size w wr ∧ wr.ownsRow w.heap.size 3 1 v j ((mCells (cells.take j)).map (Value.int .i64))) (fun _ i _ => cells.length - (intOf i).toNat)
      case atStart => exact ⟨0, Nat.zero_le _, rfl, Below.refl _ _, World.ownsRow_nil _ _ _ _⟩

      case round =>
        obtain ⟨j, hj, rfl, hb, hown⟩ := hrel
        by_cases hlt : j < cells.length
        · obtain ⟨b, off, rfl, h1⟩ := (Hi.out.below hb) j hlt
          have hbs := hb.size
          have Hb := Lib.hid hb
          have Ho := Lib.hid hown
          clear hb hown
          go_wp2_with (first | (go_at_call 53; refine (refbit_any _ _).mono ?_; rintro e w3 ⟨rfl, rfl⟩) | (at_builtin; refine wpList_append_one rfl _ _ 22 rfl w.heap.size 3 i1 (.int .i64 0) 1 8 Try.underlying22 hi1 hy0 hy1 hy2 rfl (by decide) (by decide) u9 j _ [_] rfl Ho.out rfl rfl (by simp [Value.oneCell']) (by omega) hbs ?_))
          intro v' w1 g1 g2 g3
          have Hb1 := Lib.hid (Hb.out.trans (g2.below (fun k hk _ => (Ho.out.lt k hk).1) Hb.out.size))
          have Hg := Lib.hid g1
          clear g1 g2 g3
          go_wp2
          go_roundw
          case rel =>
            refine ⟨j + 1, by omega, by go_num, Hb1.out, ?_⟩
            have := Hg.out
            rw [List.take_succ_eq_append_getElem hlt, mCells, List.map_append, List.map_append]
            exact this
          case measure => simp [intOf]; omega
        · obtain rfl : j = cells.length := by omega
          rw [List.take_length] at hown
          have Hml := Lib.hid (mCells_len cells)
          obtain ⟨na, nc, rfl⟩ := row_shape hown
          have hrm : RM w (mCells cells) [] (.slice na cells.length nc) (.slice none 0 0) wr := ⟨hb, by rw [Hml.out]; exact hown, World.ownsRow_nil _ _ _ _, by simp [Value.ownBlock]⟩
          have Hrm := Lib.hid hrm
          clear hrm hb hown
          go_wp2_with fail
          clear hlt hj
          go_loopw [11, 12] (fun ov i wx => ∃ j : Nat, j ≤ acts.length ∧ i = .int .i64 j ∧ RM w (mCells cells) ((acts.take j).map mAct) (.slice na cells.length nc) ov wx) (fun _ i _ => acts.length - (intOf i).toNat)
          case atStart => exact ⟨0, Nat.zero_le _, rfl, Hrm.out⟩
          case round =>
            obtain ⟨j, hj, rfl, hinv⟩ := hrel
            clear Hrm
            by_cases hlt : j < acts.length
            · obtain ⟨b, off, rfl, hc1, hc2, hc3, hc4⟩ := (Hr.out.below hinv.below) j hlt
              obtain ⟨k1, k3, k4⟩ := checkMarks_ok _ acts Hz.out acts[j] (List.getElem_mem hlt)
              obtain ⟨m, hm⟩ := Int.eq_ofNat_of_zero_le k3
              rw [hm] at hc2 k4
              have hmn : m < cells.length := by omega
              have hkk : 1 ≤ acts[j].k ∧ acts[j].k ≤ 7 := by rcases known4_or k1 with e | e | e | e <;> rw [e] <;> decide
              obtain ⟨g, rfl⟩ : ∃ g, na = some ⟨g, 0, none⟩ := by
                rcases hinv.now.2 with ⟨_, h⟩ | ⟨g, _, _, h, _⟩
                · rw [Hml.out] at h; omega
                · injection h with h; exact ⟨g, h⟩
              have htl : ((acts.take j).map mAct).length = j := by rw [List.length_map, List.length_take]; omega
              obtain ⟨L, hL⟩ : ∃ L, (acts.take j).map mAct = L := ⟨_, rfl⟩
              rw [hL] at hinv htl
              have hlen := numTo_len (mCells cells) L
              have hnow := hinv.now
              have hcell : wr.cell? ⟨g, m, none⟩ = some (.int .i64 ((numTo (mCells cells) L).2.getD m 0)) := by
                refine row_cell (by rw [Hml.out] at hnow; exact hnow) ?_
                rw [List.getElem?_map, List.getElem?_eq_getElem (by rw [hlen.2, Hml.out]; omega), List.getD_eq_getElem?_getD, List.getElem?_eq_getElem (by rw [hlen.2, Hml.out]; omega)]
                rfl
              obtain ⟨X, hX⟩ : ∃ X, (numTo (mCells cells) L).2.getD m 0 = X := ⟨_, rfl⟩
              rw [hX] at hcell
              obtain ⟨cur, hcur, _⟩ := row_block (by rw [Hml.out] at hnow; exact hnow)
              have hgl := heap_lt hcur
              have hA := (Turns.alloc (fun _ => False) wr (.cells #[.int .i64 acts[j].k, .int .i64 (m : Int), .int .i64 acts[j].a, .int .i64 acts[j].b] 47)).trans (Turns.drew _ _)
              have hcell2 := hA.cell hcell (fun h => h)
              have hcur2 := hA.heap hcur (fun h => h)
              have hfr : ∀ o, (((wr.alloc (.cells #[.int .i64 acts[j].k, .int .i64 (m : Int), .int .i64 acts[j].a, .int .i64 acts[j].b] 47)).drew).alloc o).frozen? ⟨g, m, none⟩ = false := fun o => frozen_of_heap ((Turns.alloc (fun _ => False) _ o).heap hcur2 (fun h => h))
              have hq : ∀ o v, #[Value.int .i64 acts[j].k, .int .i64 (m : Int), .int .i64 acts[j].a, .int .i64 acts[j].b][o]? = some v → ((wr.alloc (.cells #[.int .i64 acts[j].k, .int .i64 (m : Int), .int .i64 acts[j].a, .int .i64 acts[j].b] 47)).drew).cell? ⟨wr.heap.size, o, none⟩ = some v := fun o v h => cell_of_heap (heap_alloc_new wr _) h
              have hq2 : ∀ o v u, #[Value.int .i64 acts[j].k, .int .i64 (m : Int), .int .i64 acts[j].a, .int .i64 acts[j].b][o]? = some v → ((((wr.alloc (.cells #[.int .i64 acts[j].k, .int .i64 (m : Int), .int .i64 acts[j].a, .int .i64 acts[j].b] 47)).drew).alloc (.cells #[.int .i64 acts[j].k, .int .i64 (m : Int), .int .i64 (bitOf (acts[j].a != 0)), .int .i64 (bitOf (acts[j].b != 0))] 47)).setCell ⟨g, m, none⟩ u).cell? ⟨wr.heap.size, o, none⟩ = some v := fun o v u h =>
                ((Turns.alloc (fun i => i = g) _ (.cells #[.int .i64 acts[j].k, .int .i64 (m : Int), .int .i64 (bitOf (acts[j].a != 0)), .int .i64 (bitOf (acts[j].b != 0))] 47)).trans (Turns.setCell (S := fun i => i = g) _ (a := ⟨g, m, none⟩) rfl u)).cell (hq o v h) (by omega)
              have Hinv := Lib.hid hinv
              have Hcell := Lib.hid hcell2
              have Hfr := Lib.hid hfr
              have Hq := Lib.hid hq
              have Hq2 := Lib.hid hq2
              have HX := Lib.hid hX
              have HL := Lib.hid hL
              have Htl := Lib.hid htl
              have Hm := Lib.hid hm
              have Hgl := Lib.hid hgl
              clear hinv hnow hcell hcell2 hcur hcur2 hfr hq hq2 hX hL htl hm hA hlen hgl k1 k3 k4
              go_wp2_with fail
              go_region_held3 (fun w' => w'.cell? ⟨wr.heap.size, 0, none⟩ = some (.int .i64 acts[j].k) ∧ w'.cell? ⟨wr.heap.size, 1, none⟩ = some (.int .i64 (m : Int)) ∧ w'.cell? ⟨wr.heap.size, 2, none⟩ = some (.int .i64 acts[j].a) ∧ w'.cell? ⟨wr.heap.size, 3, none⟩ = some (.int .i64 acts[j].b))
                (first | go_keep | exact ⟨Hq.out 0 _ rfl, Hq.out 1 _ rfl, Hq.out 2 _ rfl, Hq.out 3 _ rfl⟩ | (rw [← q0]; exact ⟨Hq2.out 0 _ _ rfl, Hq2.out 1 _ _ rfl, Hq2.out 2 _ _ rfl, Hq2.out 3 _ _ rfl⟩))
                (first | (go_at_call 53; refine (refbit_any _ _).mono ?_; rintro e w3 ⟨rfl, rfl⟩) | (go_at_call 18; refine (one_any _ hkk g _ _ m X _ _ _ hmn Hcell.out Hfr.out).mono ?_; rintro e w2 ⟨rfl, q0⟩))
              have hsz : w2.heap.size = wr.heap.size + 1 + 1 := by rw [← q0]; simp [World.setCell]
              have hs0 := Hinv.out.below.size
              have hs2 : w.heap.size ≤ w2.heap.size := by omega
              have Hq0 := Lib.hid q0
              have hown2 : w2.ownsRow w.heap.size 4 1 u11 L.length ((ones (numTo (mCells cells) L).1).map Value.bool) := by
                rw [← q0]
                exact ((((Turns.alloc (fun k => k = g) wr _).trans (Turns.drew _ _)).trans (Turns.alloc _ _ _)).trans (Turns.setCell (S := fun k => k = g) _ (a := ⟨g, m, none⟩) rfl _)).row Hinv.out.out (fun k hk e => Hinv.out.ne k hk (by rw [e]; rfl))
              have Hown2 := Lib.hid hown2
              have Hsz := Lib.hid hsz
              clear q0 hown2 hsz
              go_wp2_with (at_builtin; refine wpList_append_one rfl _ _ 89 rfl w.heap.size 4 i0 (.bool false) 1 1 Try.underlying89 hi0 hz0 hz1 hz2 rfl (by decide) (by decide) u11 _ _ [_] rfl Hown2.out rfl rfl (by simp [Value.oneCell']) (by rw [Htl.out]; omega) hs2 ?_)
              intro v' w3 r1 r2 r3
              have hstep : RM w (mCells cells) (L ++ [mAct acts[j]]) (.slice (some ⟨g, 0, none⟩) cells.length nc) v' w3 := by
                have hi' := Hinv.out.quiet1 (o := (.cells #[.int .i64 acts[j].k, .int .i64 (m : Int), .int .i64 acts[j].a, .int .i64 acts[j].b] 47))
                rw [← Hml.out] at hi' ⊢
                refine hi'.step (x := mAct acts[j]) (o := (.cells #[.int .i64 acts[j].k, .int .i64 (m : Int), .int .i64 (bitOf (acts[j].a != 0)), .int .i64 (bitOf (acts[j].b != 0))] 47)) Hm.out (by rw [HX.out]; exact r1) ?_ (fun b hb => ?_)
                · rw [HX.out]
                  rw [← Hq0.out] at r2
                  exact r2
                · rcases r3 b hb with h | h
                  · exact .inl h
                  · exact .inr (by rw [Hsz.out] at h; simp; omega)
              have Hstep := Lib.hid hstep
              clear hstep r1 r2 r3
              go_wp2
              go_roundw
              case rel =>
                refine ⟨j + 1, by omega, by go_num, ?_⟩
                rw [List.take_succ_eq_append_getElem hlt, List.map_append, HL.out]
                exact Hstep.out
              case measure => simp [intOf]; omega
            · obtain rfl : j = acts.length := by omega
              rw [List.take_length] at hinv
              obtain ⟨L, hL⟩ : ∃ L, acts.map mAct = L := ⟨_, rfl⟩
              have hll : L.length = acts.length := by rw [← hL, List.length_map]
              rw [hL] at hinv
              obtain ⟨ova, ovc, rfl⟩ := row_shape hinv.out
              have Hinv := Lib.hid hinv
              have HL := Lib.hid hL
              have Hll := Lib.hid hll
              clear hinv hL hll
              go_wp2_with fail
              clear hlt hj
              go_loopw [15, 16] (fun lv i wx => ∃ j : Nat, j ≤ cells.length ∧ i = .int .i64 j ∧ RM w (mCells cells) L (.slice na cells.length nc) (.slice ova L.length ovc) wx ∧ wx.ownsRow w.heap.size 4 1 lv j ((ones ((numTo (mCells cells) L).2.take j)).map Value.bool) ∧ (∀ g, lv.ownBlock = some g → (Value.slice na cells.length nc).ownBlock ≠ some g ∧ (Value.slice ova L.length ovc).ownBlock ≠ some g)) (fun _ i _ => cells.length - (intOf i).toNat)
              case atStart => exact ⟨0, Nat.zero_le _, rfl, Hinv.out, World.ownsRow_nil _ _ _ _, by simp [Value.ownBlock]⟩

              case round =>
                obtain ⟨j, hj, rfl, hinv, hlast, hne⟩ := hrel
                clear Hinv
                by_cases hlt : j < cells.length
                · obtain ⟨g, rfl⟩ : ∃ g, na = some ⟨g, 0, none⟩ := by
                    rcases hinv.now.2 with ⟨_, h⟩ | ⟨g, _, _, h, _⟩
                    · rw [Hml.out] at h; omega
                    · injection h with h; exact ⟨g, h⟩
                  have hlen := numTo_len (mCells cells) L
                  have hnow := hinv.now
                  have hcell : wr.cell? ⟨g, j, none⟩ = some (.int .i64 ((numTo (mCells cells) L).2.getD j 0)) := by
                    refine row_cell (by rw [Hml.out] at hnow; exact hnow) ?_
                    rw [List.getElem?_map, List.getElem?_eq_getElem (by rw [hlen.2, Hml.out]; omega), List.getD_eq_getElem?_getD, List.getElem?_eq_getElem (by rw [hlen.2, Hml.out]; omega)]
                    rfl
                  have hnx : (numTo (mCells cells) L).2.take (j + 1) = (numTo (mCells cells) L).2.take j ++ [(numTo (mCells cells) L).2.getD j 0] := by
                    rw [List.take_succ_eq_append_getElem (by rw [hlen.2, Hml.out]; omega), List.getD_eq_getElem?_getD, List.getElem?_eq_getElem (by rw [hlen.2, Hml.out]; omega)]
                    rfl
                  obtain ⟨X, hX⟩ : ∃ X, (numTo (mCells cells) L).2.getD j 0 = X := ⟨_, rfl⟩
                  rw [hX] at hcell hnx
                  have hbs := hinv.below.size
                  have Hinv := Lib.hid hinv
                  have Hlast := Lib.hid hlast
                  have Hne := Lib.hid hne
                  have Hnx := Lib.hid hnx
                  clear hinv hlast hne hnx hnow hlen hX
                  go_wp2_with (at_builtin; refine wpList_append_one rfl _ _ 89 rfl w.heap.size 4 i0 (.bool false) 1 1 Try.underlying89 hi0 hz0 hz1 hz2 rfl (by decide) (by decide) u15 _ _ [_] rfl Hlast.out rfl rfl (by simp [Value.oneCell']) (by omega) hbs ?_)
                  intro v' w3 r1 r2 r3
                  have hb3 := r2.below (fun k hk _ => (Hlast.out.lt k hk).1) hbs
                  have hrm : RM w (mCells cells) L (.slice (some ⟨g, 0, none⟩) cells.length nc) (.slice ova L.length ovc) w3 :=
                    ⟨Hinv.out.below.trans hb3, r2.row Hinv.out.now (fun k hk e => (Hne.out k e).1 hk), r2.row Hinv.out.out (fun k hk e => (Hne.out k e).2 hk), Hinv.out.ne⟩
                  have hne' : ∀ b, v'.ownBlock = some b → (Value.slice (some ⟨g, 0, none⟩) cells.length nc).ownBlock ≠ some b ∧ (Value.slice ova L.length ovc).ownBlock ≠ some b := fun b hb => by
                    rcases r3 b hb with h | h
                    · exact Hne.out b h
                    · exact ⟨fun e => by have := (Hinv.out.now.lt b e).2; omega, fun e => by have := (Hinv.out.out.lt b e).2; omega⟩
                  have hla : w3.ownsRow w.heap.size 4 1 v' (j + 1) ((ones ((numTo (mCells cells) L).2.take (j + 1))).map Value.bool) := by
                    rw [Hnx.out, ones, List.map_append, List.map_append]
                    exact r1
                  have Hrm := Lib.hid hrm
                  have Hne' := Lib.hid hne'
                  have Hla := Lib.hid hla
                  clear hb3 hrm hne' hla r1 r2 r3 hcell
                  go_wp2
                  go_roundw
                  case rel => exact ⟨j + 1, by omega, by go_num, Hrm.out, Hla.out, Hne'.out⟩
                  case measure => simp [intOf]; omega
                · obtain rfl : j = cells.length := by omega
                  have hlen := numTo_len (mCells cells) L
                  rw [List.take_of_length_le (by rw [hlen.2, Hml.out]; exact Nat.le_refl _)] at hlast
                  obtain ⟨lva, lvc, rfl⟩ := row_shape hlast
                  have Hk := Lib.hid (Hr.out.below hinv.below)
                  have Hinv := Lib.hid hinv
                  have Hlast := Lib.hid hlast
                  have Hlen := Lib.hid hlen
                  clear hinv hlast hne hlen
                  go_wp2_with (go_at_call 47; refine (kinds_ref _ _ acts _ (by omega) Hk.out).mono ?_; rintro e w4 ⟨v3, rfl, q1, q2⟩)
                  have he : marksErr cells acts = 0 := by rw [marksErr, if_neg (by omega)]; exact Hz.out
                  have hb := Hinv.out.below
                  refine bodyPost_ret (v := .tuple #[.slice ova L.length ovc, .slice lva cells.length lvc, v3, .int .i64 0]) (by simp [results, Try.results40, go_sem]) rfl ⟨_, _, v3, by rw [he], ?_, ?_, ?_, hb.trans (q2.mono hb.size)⟩
                  · rw [marksAns, if_pos he, HL.out]
                    show World.ownsRow _ _ _ _ _ _ _
                    rw [show (ones (numTo (mCells cells) L).1).length = L.length by rw [ones, List.length_map, Hlen.out.1]]
                    exact row_below Hinv.out.out q2
                  · rw [marksEnd, if_pos he, HL.out]
                    show World.ownsRow _ _ _ _ _ _ _
                    rw [show (ones (numTo (mCells cells) L).2).length = cells.length by rw [ones, List.length_map, Hlen.out.2, Hml.out]]
                    exact row_below Hlast.out q2
                  · rw [marksKinds, if_pos he]
                    exact row_base q1 hb.size

theorem rmarks_any (ca aa : Option Addr) (cc ac : Nat) (cells : List Bool) (acts : List A4) (w : World) (hr : ActsIn w aa acts) (hi : BoolsIn w ca cells) :
    Calls Try.prog 40 #[.slice ca cells.length cc, .slice aa acts.length ac] w (MarksPost w cells acts) := by
  by_cases h1 : 64 < cells.length ∨ 1000 < acts.length
  · exact rmarks_big ca aa cc ac cells acts w h1
  · exact rmarks_small ca aa cc ac cells acts w (by omega) (by omega) hr hi

end Go.Proofs.Ytjifoggfndicoaa
