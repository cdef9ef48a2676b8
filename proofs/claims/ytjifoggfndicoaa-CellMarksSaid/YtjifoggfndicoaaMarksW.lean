/-
  DERIVED. THE WALK over package cell's Marks where all is well.
-/
import Derived.Test.YtjifoggfndicoaaMCheck
import Derived.Test.YtjifoggfndicoaaMLoad
namespace Go.Proofs.Ytjifoggfndicoaa
open Go.RowKit
set_option maxRecDepth 100000

theorem MarkRow.cellM {w : World} {rb n j : Nat} {vals : List Int} (h : MarkRow w rb n j vals) {i : Nat} (hi : i < j) : w.cell? ⟨rb, i, none⟩ = some (.pointer (some ⟨rb + 1 + i, 0, none⟩)) := h.cell hi

theorem m_ans {k X a : Int} (hX : isBit X) (h : k = 1 ∨ k = 4) : (X != 0) = (numAns k X a == 1) := by
  rcases h with rfl | rfl
  · rw [bit_ne hX]; simp [numAns]
  · rw [bit_ne hX]; simp [numAns]
theorem m_ans2 (X a : Int) : false = (numAns 2 X a == 1) := by simp [numAns]
theorem m_ans5 (X : Int) (b : Bool) : (X == bitOf b) = (numAns 5 X (bitOf b) == 1) := by
  simp only [numAns, show ¬ (5 : Int) = 2 by omega, show ¬ (5 : Int) = 3 by omega, if_false, if_true]
  cases h : (X == bitOf b) <;> rfl
theorem m_bit {cells : List Bool} {l : List A4} (hk : ∀ x ∈ l, known4 x.k = true) (m : Nat) : isBit ((numTo (mCells cells) (l.map mAct)).2.getD m 0) := by
  have h := (numTo_bits cells l hk).2
  rw [List.getD_eq_getElem?_getD]
  cases e : (numTo (mCells cells) (l.map mAct)).2[m]? with
  | none => exact .inl rfl
  | some y => exact h y (List.mem_of_getElem? e)

set_option maxHeartbeats 8000000 in
theorem marks_ok (ca aa : Option Addr) (cc ac : Nat) (cells : List Bool) (acts : List A4) (w : World) (h1 : cells.length ≤ 64) (h2 : acts.length ≤ 1000) (hz : checkMarks cells.length acts = 0) (hr : ActsIn w aa acts) (hi : BoolsIn w ca cells) :
    Calls Try.prog 41 #[.slice ca cells.length cc, .slice aa acts.length ac] w (MarksPost w cells acts) := by
  obtain ⟨i0, hi0, hz0, hz1, hz2⟩ := info_parts info_bool
  have hz' : (checkMarks cells.length acts != 0) = false := by rw [bne_eq_false_iff_eq]; exact hz
  have h3 : decide ((64 : Int) < (cells.length : Int)) = false := by simp; omega
  have h4 : decide ((1000 : Int) < (acts.length : Int)) = false := by simp; omega
  have Hr := Lib.hid hr
  have Hi := Lib.hid hi
  have Hz := Lib.hid hz
  clear hr hi hz
  have hmk := run_makeN (P := Try.prog) 131 78 (.pointer none) 8 Try.underlying131 info_ptrM rfl cells.length (by omega) (by omega)
  go_enter Try.func41, Try.ntmps41
  go_wp2_with (go_at_call 49; refine (mcheck_any _ _ _ acts _ h2 Hr.out).mono ?_; rintro e w1 ⟨rfl, hb1⟩)
  have Hb1 := Lib.hid hb1
  clear hb1 hmk
  obtain ⟨rb, hrb⟩ : ∃ rb, rb = w1.heap.size := ⟨_, rfl⟩
  rw [← hrb]
  have Hrb := Lib.hid hrb
  clear hrb
  have hml := mCells_len cells
  have Hml := Lib.hid hml
  clear hml
  go_loopw [40] (fun i wr => ∃ j : Nat, j ≤ cells.length ∧ i = .int .i64 j ∧ MarkRow wr rb cells.length j (mCells cells) ∧ wr.heap.size = rb + 1 + j ∧ Below rb w1 wr) (fun i _ => cells.length - (intOf i).toNat)
  case atStart =>
    have hrb := Hrb.out
    refine ⟨0, Nat.zero_le _, rfl, ⟨⟨mkRow (.pointer none) cells.length, ?_, mkRow_size _ _, fun i hi => by omega⟩, fun i _ hi => by omega⟩, ?_, ?_⟩
    · rw [hrb]; exact heap_alloc_new w1 _
    · rw [hrb]; simp
    · exact (Below.refl _ _).alloc (by omega) _
  case round =>
    obtain ⟨j, hj, rfl, hrow, hsz, hb⟩ := hrel
    by_cases hlt : j < cells.length
    · have hw : Below w.heap.size w wr := Hb1.out.trans (hb.mono (by have := Hrb.out; have := Hb1.out.size; omega))
      obtain ⟨b, off, rfl, hcell⟩ := (Hi.out.below hw) j hlt
      obtain ⟨c, hc1, hc2, hc3⟩ := hrow.row
      have hgrow := (Turns.alloc (fun _ => False) wr (.cells #[.int .u32 (bitOf cells[j])] 84)).trans (Turns.drew _ _)
      have hc1' : ((wr.alloc (.cells #[.int .u32 (bitOf cells[j])] 84)).drew).heap[rb]? = some (.cells c 78 (0, 0)) := hgrow.heap hc1 (fun h => h)
      obtain ⟨u, hu⟩ : ∃ u, c[j]? = some u := ⟨_, Array.getElem?_eq_getElem (by omega)⟩
      have hcj : ((wr.alloc (.cells #[.int .u32 (bitOf cells[j])] 84)).drew).cell? ⟨rb, j, none⟩ = some u := cell_of_heap hc1' hu
      have hfj : ((wr.alloc (.cells #[.int .u32 (bitOf cells[j])] 84)).drew).frozen? ⟨rb, j, none⟩ = false := frozen_of_heap hc1'
      have H1 := Lib.hid hrow
      have H2 := Lib.hid hsz
      have H3 := Lib.hid hb
      have H4 := Lib.hid hc1'
      have H5 := Lib.hid hgrow
      have H6 := Lib.hid hc2
      have H7 := Lib.hid hc3
      clear hrow hsz hb hw hc1 hc1' hgrow hc2 hc3 hu
      go_wp2_with (go_at_call 36; refine (newmark_any _ _).mono ?_; rintro e w2 ⟨rfl, rfl⟩)
      go_roundw
      case rel =>
        have h5 := H1.out.push H2.out (by rw [Hml.out]; exact hlt) hlt
        rw [show (mCells cells)[j]'(by rw [Hml.out]; exact hlt) = bitOf cells[j] by simp [mCells]] at h5
        exact ⟨j + 1, by omega, by go_num, h5.1.turns (Turns.drew (fun _ => False) _) (fun _ _ h => h), h5.2, ((H3.out.alloc (by rw [H2.out]; omega) _).setCell (Nat.le_refl _) _).drew⟩
      case measure => simp [intOf]; omega
    · obtain rfl : j = cells.length := by omega
      have hw : Below w.heap.size w wr := Hb1.out.trans (hb.mono (by have := Hrb.out; have := Hb1.out.size; omega))
      have hrle : w.heap.size ≤ rb := by rw [Hrb.out]; exact Hb1.out.size
      clear hb hlt hj Hrb Hb1
      have hnr : MarkRow (wr.alloc (.cells #[.slice none 0 0] 108)) rb cells.length cells.length (mCells cells) := hrow.turns (Turns.alloc (fun _ => False) wr _) (fun _ _ h => h)
      have htp : TapeAt (wr.alloc (.cells #[.slice none 0 0] 108)) (rb + 2 + cells.length) (rb + 1 + cells.length) (.slice none 0 0) [] := by
        have := TapeAt.new wr (rb + 2 + cells.length)
        rwa [hsz] at this
      have hw2 : Below w.heap.size w (wr.alloc (.cells #[.slice none 0 0] 108)) := hw.alloc hw.size _
      have hs2 : (wr.alloc (.cells #[.slice none 0 0] 108)).heap.size = rb + 2 + cells.length := by simp; omega
      have Hnr := Lib.hid hnr
      have Htp := Lib.hid htp
      have Hw2 := Lib.hid hw2
      have Hs2 := Lib.hid hs2
      have Hsz := Lib.hid hsz
      clear hnr htp hw2 hs2 hsz hw hrow
      go_wp2_with (go_at_call 16; refine (newtape_any _).mono ?_; rintro e w2 ⟨rfl, rfl⟩)
      rw [Hsz.out]
      generalize (wr.alloc (.cells #[.slice none 0 0] 108)) = wt at *
      have hk2 : K2 w rb cells.length (mCells cells) [] (.slice none 0 0) (.slice none 0 0) wt := ⟨Hw2.out, Hnr.out, Htp.out, World.ownsRow_nil _ _ _ _, by simp [Value.ownBlock], by rw [Hs2.out]; exact Nat.le_refl _, hrle⟩
      have Hk2 := Lib.hid hk2
      clear hk2 Hw2 Hnr Htp Hs2 hrle
      go_loopw [13, 54] (fun av i wx => ∃ (j : Nat) (tv : Value), j ≤ acts.length ∧ i = .int .i64 j ∧ K2 w rb cells.length (mCells cells) ((acts.take j).map mAct) tv av wx) (fun _ i _ => acts.length - (intOf i).toNat)
      case atStart => exact ⟨0, .slice none 0 0, Nat.zero_le _, rfl, Hk2.out⟩

      case round =>
        obtain ⟨j, tv, hj, rfl, hinv⟩ := hrel
        clear Hk2
        by_cases hlt : j < acts.length
        · obtain ⟨b, off, rfl, hc1, hc2, hc3, hc4⟩ := (Hr.out.below hinv.below) j hlt
          obtain ⟨k1, k3, k4⟩ := checkMarks_ok _ acts Hz.out acts[j] (List.getElem_mem hlt)
          obtain ⟨m, hm⟩ := Int.eq_ofNat_of_zero_le k3
          rw [hm] at hc2 k4
          have hmn : m < cells.length := by omega
          have hrow := hinv.row.cell hmn
          have htl : ((acts.take j).map mAct).length = j := by rw [List.length_map, List.length_take]; omega
          have hbs := hinv.size
          have hlt1 : rb < wr.heap.size := by omega
          have hm0 : (0 : Int) ≤ (m : Int) := by omega
          have hm1 : (m : Int) < (cells.length : Int) := by omega
          have Hm := Lib.hid hm
          have Htl := Lib.hid htl
          have Hi0 := Lib.hid hinv
          have Hbit := Lib.hid (m_bit (cells := cells) (l := acts.take j) (fun x hx => (checkMarks_ok _ acts Hz.out x (List.mem_of_mem_take hx)).1) m)
          have hs1 : (wr.alloc (.cells #[.int .i64 acts[j].k, .int .i64 (m : Int), .int .i64 acts[j].a, .int .i64 acts[j].b] 57)).heap.size = wr.heap.size + 1 := by simp
          have Hs1 := Lib.hid hs1
          obtain ⟨L, hL⟩ : ∃ L, (acts.take j).map mAct = L := ⟨_, rfl⟩
          rw [hL] at Hi0 Hbit Htl
          have HL := Lib.hid hL
          have hnum := (Hi0.out.turns (Turns.alloc (fun _ => False) wr (.cells #[.int .i64 acts[j].k, .int .i64 (m : Int), .int .i64 acts[j].a, .int .i64 acts[j].b] 57))).num Hml.out.symm hmn
          obtain ⟨X, hX⟩ : ∃ X, (numTo (mCells cells) L).2.getD m 0 = X := ⟨_, rfl⟩
          rw [hX] at hnum Hbit
          have Hnum := Lib.hid hnum
          have HX := Lib.hid hX
          have Hi1 := Lib.hid (Hi0.out.turns (Turns.alloc (fun _ => False) wr (.cells #[.int .i64 acts[j].k, .int .i64 (m : Int), .int .i64 acts[j].a, .int .i64 acts[j].b] 57)))
          clear hm htl hinv hs1 hL hnum hX
          rcases known4_or k1 with ek | ek | ek | ek
          · rw [ek] at hc1 Hi1 Hs1 Hnum
            go_wp2_with fail
            refine (mtape_load Hi1.out.tape Hnum.out (by rw [List.length_map, Htl.out]; omega) (by rw [Hs1.out]; omega) (Hi1.out.tape_free hmn)).mono ?_
            rintro e w2 ⟨rfl, tv', g1, g2, g3, g4⟩
            have hw2 : rb + 2 + cells.length ≤ w2.heap.size := by have := g3.size; have := Hs1.out; omega
            have Hrow := Lib.hid (g3.row Hi1.out.ans (Hi1.out.ans_free hmn))
            have G1 := Lib.hid g1
            have G2 := Lib.hid g2
            have G3 := Lib.hid g3
            have G4 := Lib.hid g4
            clear g1 g2 g3 g4
            go_wp2_with (at_builtin; refine wpList_append_one rfl _ _ 89 rfl (rb + 2 + cells.length) 4 i0 (.bool false) 1 1 Try.underlying89 hi0 hz0 hz1 hz2 rfl (by decide) (by decide) u13 _ _ [_] rfl Hrow.out rfl rfl (by simp [Value.oneCell']) (by rw [Htl.out]; omega) hw2 ?_)
            intro v' w3 q1 q2 q3
            have hstep := Hi1.out.step (x := mAct acts[j]) (tv' := tv') (av' := v') Hml.out.symm Hm.out hmn (by rw [show (mAct acts[j]).k = 1 from ek]; exact G1.out) (by rw [HX.out, show (mAct acts[j]).k = 1 from ek]; exact G2.out) G3.out G4.out (by rw [HX.out, show (mAct acts[j]).k = 1 from ek, show (mAct acts[j]).a = bitOf (acts[j].a != 0) from rfl, ← m_ans Hbit.out (.inl rfl)]; exact q1) q2 q3
            have Hstep := Lib.hid hstep
            clear hstep q1 q2 q3 G1 G2 G3 G4 Hrow hw2
            go_wp2
            go_roundw
            case rel =>
              refine ⟨j + 1, tv', by omega, by go_num, ?_⟩
              rw [List.take_succ_eq_append_getElem hlt, List.map_append, HL.out]
              exact Hstep.out
            case measure => simp [intOf]; omega
          · rw [ek] at hc1 Hi1 Hs1 Hnum
            go_wp2_with fail
            refine (mtape_store (acts[j].a != 0) Hi1.out.tape Hnum.out (by rw [List.length_map, Htl.out]; omega) (by rw [Hs1.out]; omega) (Hi1.out.tape_free hmn)).mono ?_
            rintro e w2 ⟨rfl, tv', g1, g2, g3, g4⟩
            have hw2 : rb + 2 + cells.length ≤ w2.heap.size := by have := g3.size; have := Hs1.out; omega
            have Hrow := Lib.hid (g3.row Hi1.out.ans (Hi1.out.ans_free hmn))
            have G1 := Lib.hid g1
            have G2 := Lib.hid g2
            have G3 := Lib.hid g3
            have G4 := Lib.hid g4
            clear g1 g2 g3 g4
            go_wp2_with (at_builtin; refine wpList_append_one rfl _ _ 89 rfl (rb + 2 + cells.length) 4 i0 (.bool false) 1 1 Try.underlying89 hi0 hz0 hz1 hz2 rfl (by decide) (by decide) u13 _ _ [_] rfl Hrow.out rfl rfl (by simp [Value.oneCell']) (by rw [Htl.out]; omega) hw2 ?_)
            intro v' w3 q1 q2 q3
            have hstep := Hi1.out.step (x := mAct acts[j]) (tv' := tv') (av' := v') Hml.out.symm Hm.out hmn (by rw [show (mAct acts[j]).k = 2 from ek]; exact G1.out) (by rw [HX.out, show (mAct acts[j]).k = 2 from ek]; exact G2.out) G3.out G4.out (by rw [HX.out, show (mAct acts[j]).k = 2 from ek, show (mAct acts[j]).a = bitOf (acts[j].a != 0) from rfl, ← m_ans2 _ _]; exact q1) q2 q3
            have Hstep := Lib.hid hstep
            clear hstep q1 q2 q3 G1 G2 G3 G4 Hrow hw2
            go_wp2
            go_roundw
            case rel =>
              refine ⟨j + 1, tv', by omega, by go_num, ?_⟩
              rw [List.take_succ_eq_append_getElem hlt, List.map_append, HL.out]
              exact Hstep.out
            case measure => simp [intOf]; omega
          · rw [ek] at hc1 Hi1 Hs1 Hnum
            go_wp2_with fail
            refine (mtape_swap (acts[j].a != 0) Hi1.out.tape Hnum.out (by rw [List.length_map, Htl.out]; omega) (by rw [Hs1.out]; omega) (Hi1.out.tape_free hmn)).mono ?_
            rintro e w2 ⟨rfl, tv', g1, g2, g3, g4⟩
            have hw2 : rb + 2 + cells.length ≤ w2.heap.size := by have := g3.size; have := Hs1.out; omega
            have Hrow := Lib.hid (g3.row Hi1.out.ans (Hi1.out.ans_free hmn))
            have G1 := Lib.hid g1
            have G2 := Lib.hid g2
            have G3 := Lib.hid g3
            have G4 := Lib.hid g4
            clear g1 g2 g3 g4
            go_wp2_with (at_builtin; refine wpList_append_one rfl _ _ 89 rfl (rb + 2 + cells.length) 4 i0 (.bool false) 1 1 Try.underlying89 hi0 hz0 hz1 hz2 rfl (by decide) (by decide) u13 _ _ [_] rfl Hrow.out rfl rfl (by simp [Value.oneCell']) (by rw [Htl.out]; omega) hw2 ?_)
            intro v' w3 q1 q2 q3
            have hstep := Hi1.out.step (x := mAct acts[j]) (tv' := tv') (av' := v') Hml.out.symm Hm.out hmn (by rw [show (mAct acts[j]).k = 4 from ek]; exact G1.out) (by rw [HX.out, show (mAct acts[j]).k = 4 from ek]; exact G2.out) G3.out G4.out (by rw [HX.out, show (mAct acts[j]).k = 4 from ek, show (mAct acts[j]).a = bitOf (acts[j].a != 0) from rfl, ← m_ans Hbit.out (.inr rfl)]; exact q1) q2 q3
            have Hstep := Lib.hid hstep
            clear hstep q1 q2 q3 G1 G2 G3 G4 Hrow hw2
            go_wp2
            go_roundw
            case rel =>
              refine ⟨j + 1, tv', by omega, by go_num, ?_⟩
              rw [List.take_succ_eq_append_getElem hlt, List.map_append, HL.out]
              exact Hstep.out
            case measure => simp [intOf]; omega
          · rw [ek] at hc1 Hi1 Hs1 Hnum
            go_wp2_with fail
            refine (mtape_cas (acts[j].a != 0) (acts[j].b != 0) Hi1.out.tape Hnum.out (by rw [List.length_map, Htl.out]; omega) (by rw [Hs1.out]; omega) (Hi1.out.tape_free hmn)).mono ?_
            rintro e w2 ⟨rfl, tv', g1, g2, g3, g4⟩
            have hw2 : rb + 2 + cells.length ≤ w2.heap.size := by have := g3.size; have := Hs1.out; omega
            have Hrow := Lib.hid (g3.row Hi1.out.ans (Hi1.out.ans_free hmn))
            have G1 := Lib.hid g1
            have G2 := Lib.hid g2
            have G3 := Lib.hid g3
            have G4 := Lib.hid g4
            clear g1 g2 g3 g4
            go_wp2_with (at_builtin; refine wpList_append_one rfl _ _ 89 rfl (rb + 2 + cells.length) 4 i0 (.bool false) 1 1 Try.underlying89 hi0 hz0 hz1 hz2 rfl (by decide) (by decide) u13 _ _ [_] rfl Hrow.out rfl rfl (by simp [Value.oneCell']) (by rw [Htl.out]; omega) hw2 ?_)
            intro v' w3 q1 q2 q3
            have hstep := Hi1.out.step (x := mAct acts[j]) (tv' := tv') (av' := v') Hml.out.symm Hm.out hmn (by rw [show (mAct acts[j]).k = 5 from ek]; exact G1.out) (by rw [HX.out, show (mAct acts[j]).k = 5 from ek]; exact G2.out) G3.out G4.out (by rw [HX.out, show (mAct acts[j]).k = 5 from ek, show (mAct acts[j]).a = bitOf (acts[j].a != 0) from rfl, ← m_ans5 _ _]; exact q1) q2 q3
            have Hstep := Lib.hid hstep
            clear hstep q1 q2 q3 G1 G2 G3 G4 Hrow hw2
            go_wp2
            go_roundw
            case rel =>
              refine ⟨j + 1, tv', by omega, by go_num, ?_⟩
              rw [List.take_succ_eq_append_getElem hlt, List.map_append, HL.out]
              exact Hstep.out
            case measure => simp [intOf]; omega
        · obtain rfl : j = acts.length := by omega
          rw [List.take_length] at hinv
          clear Hr hlt hj
          have hk3 : K3 w rb cells.length (mCells cells) (acts.map mAct) tv u13 (.slice none 0 0) 0 wr := ⟨hinv, World.ownsRow_nil _ _ _ _, by simp [Value.ownBlock]⟩
          have hbits := (numTo_bits cells acts (fun x hx => (checkMarks_ok _ acts Hz.out x hx).1)).2
          obtain ⟨L, hL⟩ : ∃ L, acts.map mAct = L := ⟨_, rfl⟩
          have hll : L.length = acts.length := by rw [← hL, List.length_map]
          rw [hL] at hinv hk3 hbits
          obtain ⟨ava, avc, rfl⟩ := row_shape hinv.ans
          have HL := Lib.hid hL
          have Hll := Lib.hid hll
          have Hk3 := Lib.hid hk3
          have Hbits := Lib.hid hbits
          clear hk3 hinv hL hbits hll
          go_wp2_with fail
          go_loopw [14, 116] (fun ev i wx => ∃ j : Nat, j ≤ cells.length ∧ i = .int .i64 j ∧ K3 w rb cells.length (mCells cells) L tv (.slice ava L.length avc) ev j wx) (fun _ i _ => cells.length - (intOf i).toNat)
          case atStart => exact ⟨0, Nat.zero_le _, rfl, Hk3.out⟩
          case round =>
            obtain ⟨j, hj, rfl, hinv⟩ := hrel
            clear Hk3
            by_cases hlt : j < cells.length
            · have hnum := hinv.k2.num Hml.out.symm hlt
              have hrow := hinv.k2.row.cell hlt
              have hbs := hinv.k2.size
              have hbit : isBit ((numTo (mCells cells) L).2.getD j 0) := by
                rw [List.getD_eq_getElem?_getD]
                cases e : (numTo (mCells cells) L).2[j]? with
                | none => exact .inl rfl
                | some y => exact Hbits.out y (List.mem_of_getElem? e)
              obtain ⟨X, hX⟩ : ∃ X, (numTo (mCells cells) L).2.getD j 0 = X := ⟨_, rfl⟩
              rw [hX] at hnum hbit
              have Hi := Lib.hid hinv
              have Hnum := Lib.hid hnum
              have Hbit := Lib.hid hbit
              have HX := Lib.hid hX
              clear hinv hnum hbit hX
              go_wp2_with (first | (go_at_call 37; refine (mark_nil (rb + 1 + j) X _ Hnum.out).mono ?_; rintro e w1 ⟨rfl, rfl⟩) | (at_builtin; refine wpList_append_one rfl _ _ 89 rfl (rb + 2 + cells.length) 4 i0 (.bool false) 1 1 Try.underlying89 hi0 hz0 hz1 hz2 rfl (by decide) (by decide) u14 j _ [_] rfl Hi.out.out rfl rfl (by simp [Value.oneCell']) (by omega) hbs ?_))
              intro v' w3 g1 g2 g3
              have Hstep := Lib.hid (Hi.out.step (ev' := v') Hml.out.symm hlt (by rw [HX.out, ← bit_ne Hbit.out]; exact g1) g2 g3)
              clear g1 g2 g3
              go_wp2
              go_roundw
              case rel => exact ⟨j + 1, by omega, by go_num, Hstep.out⟩
              case measure => simp [intOf]; omega
            · obtain rfl : j = cells.length := by omega
              have hlen := numTo_len (mCells cells) L
              obtain ⟨eva, evc, rfl⟩ := row_shape hinv.out
              have Hi := Lib.hid hinv
              have Hlen := Lib.hid hlen
              clear hinv hlen hlt hj
              go_wp2_with (go_at_call 20; refine (kinds_any _ _ tv _ _ Hi.out.k2.tape (by rw [List.length_map, Hll.out]; omega)).mono ?_; rintro e w1 ⟨v3, rfl, g1, g2⟩)
              have he : marksErr cells acts = 0 := by rw [marksErr, if_neg (by omega)]; exact Hz.out
              refine bodyPost_ret (v := .tuple #[.slice ava L.length avc, .slice eva cells.length evc, v3, .int .i64 0]) (by simp [results, Try.results41, go_sem]) rfl ⟨.slice ava L.length avc, .slice eva cells.length evc, v3, by rw [he], ?_, ?_, ?_, ?_⟩
              · have hlow := Hi.out.k2.low
                have h5 := row_base (row_below Hi.out.k2.ans g2) (base' := w.heap.size) (by omega)
                show RowB _ _ _ _
                rw [marksAns, if_pos he, HL.out]
                unfold RowB
                rw [show (ones (numTo (mCells cells) L).1).length = L.length by rw [ones, List.length_map, Hlen.out.1]]
                exact h5
              · have hlow := Hi.out.k2.low
                have h5 := row_base (row_below Hi.out.out g2) (base' := w.heap.size) (by omega)
                rw [List.take_of_length_le (by rw [Hlen.out.2, Hml.out]; exact Nat.le_refl _)] at h5
                show RowB _ _ _ _
                rw [marksEnd, if_pos he, HL.out]
                unfold RowB
                rw [show (ones (numTo (mCells cells) L).2).length = cells.length by rw [ones, List.length_map, Hlen.out.2, Hml.out]]
                exact h5
              · have := Hi.out.k2.below.size
                rw [marksKinds, if_pos he, ← map_k, HL.out]
                exact row_base g1 (by omega)
              · exact Hi.out.k2.below.trans (g2.mono Hi.out.k2.below.size)

theorem marks_any (ca aa : Option Addr) (cc ac : Nat) (cells : List Bool) (acts : List A4) (w : World) (hr : ActsIn w aa acts) (hi : BoolsIn w ca cells) :
    Calls Try.prog 41 #[.slice ca cells.length cc, .slice aa acts.length ac] w (MarksPost w cells acts) := by
  by_cases h1 : 64 < cells.length ∨ 1000 < acts.length
  · exact marks_big ca aa cc ac cells acts w h1
  · by_cases h2 : checkMarks cells.length acts = 0
    · exact marks_ok ca aa cc ac cells acts w (by omega) (by omega) h2 hr hi
    · exact marks_bad ca aa cc ac cells acts w (by omega) (by omega) h2 hr

end Go.Proofs.Ytjifoggfndicoaa
