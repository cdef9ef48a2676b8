/-
  DERIVED. THE WALK over larchlaw01's WordApart.
-/
import Derived.Test.YtfkhflknigemgaaGreatApartP
namespace Go.Proofs.YtfkhflknigemgaaGreat
open Go.RowKit
set_option maxRecDepth 100000

theorem steps_anyN (n : Nat) (kd s : Int) (a : Option Addr) (cap : Nat) (l : List A3) (w : World) (hn : l.length = n) (hr : ActsW w a l) (hs : 0 ≤ s ∧ s < 18446744073709551616) (hl : ∀ x ∈ l, x.ok) :
    Calls Tryz.prog 12 #[.int .i64 kd, .int .u64 s, .slice a n cap] w (StepsRow w kd s l) := by
  subst hn
  exact steps_any kd s a cap l w hr hs hl

theorem info_actR : (Tryz.prog.info? 45).map (fun i => (i.zero, i.size, i.bytes)) = some (some (.agg #[.int .i64 0, .int .u64 0, .int .u64 0]), 3, 24) := by kernel_rfl

theorem refdo_readsN (kd s : Int) (n : Nat) (a : Option Addr) (cap : Nat) (l : List A3) (w : World) (hn : l.length = n) (hr : ActsW w a l) (hs : 0 ≤ s ∧ s < 18446744073709551616) (hl : ∀ x ∈ l, x.ok) :
    Calls Tryz.prog 7 #[.int .i64 kd, .int .u64 s, .slice a n cap] w fun e w' => ∃ b c, e = .returned (.tuple #[.slice b (doOuts kd s l).length c, .int .u64 (doEnd kd s l), .int .i64 (wErr kd l)]) ∧ OutsIn w' b (doOuts kd s l) ∧ Below w.heap.size w w' := by
  subst hn
  exact refdo_reads kd s a cap l w hr hs hl

set_option maxHeartbeats 8000000 in
theorem apart_any (kd s : Int) (a : Option Addr) (cap : Nat) (l : List A3) (w : World) (hs : 0 ≤ s ∧ s < 18446744073709551616) (hl : ∀ x ∈ l, x.ok) (hz : l.length * 24 ≤ 140737488351232) (hr : ActsW w a l) :
    Calls Tryz.prog 4 #[.int .i64 kd, .int .u64 s, .slice a l.length cap] w fun e w' => e = .returned (.bool true) ∧ Below w.heap.size w w' := by
  obtain ⟨i0, hi0, hz0, hz1, hz2⟩ := info_parts info_act3
  have hna := doOuts_le kd s l
  have hns := steps_le kd s l
  have hmk := fun w => run_make (P := Tryz.prog) w 32 42 i0 _ Tryz.underlying32 hi0 hz0 .i64 .i64 ((l.length : Int) + 5) ((l.length : Int) + 5) (by omega) (Int.le_refl _) (by rw [hz2]; omega) (by omega)
  rw [hz1, show ((l.length : Int) + 5).toNat = l.length + 5 by omega] at hmk
  have Hr := Lib.hid hr
  have Hl := Lib.hid hl
  clear hr hl
  go_enter Tryz.func4, Tryz.ntmps4
  go_wp2_with fail
  refine (known_any _).mono ?_
  rintro e w1 ⟨rfl, b1⟩
  have R1 := Lib.hid (Hr.out.below b1)
  have B1 := Lib.hid b1
  clear b1
  go_wp2_with fail
  have b1m := B1.out.alloc B1.out.size (.cells (madeCells #[.int .i64 0, .int .u64 0, .int .u64 0] ((l.length + 5) * 3)) 42)
  refine (our_any _ _ l _ hz (R1.out.below ((Below.refl _ w1).alloc (Nat.le_refl _) _))).mono ?_
  rintro e w2 ⟨v2, rfl, o2, b2⟩
  obtain ⟨p2, q2, rfl⟩ := row_shape o2
  obtain ⟨g, hg⟩ : ∃ g, g = w1.heap.size := ⟨_, rfl⟩
  have hfull : w2.heap[g]? = some (.cells (madeCells #[.int .i64 0, .int .u64 0, .int .u64 0] ((l.length + 5) * 3)) 42 (0, 0)) := by
    rw [hg, b2.block _ (by simp)]; exact heap_alloc_new w1 _
  have B2 := Lib.hid (b1m.trans (b2.mono b1m.size))
  have Hf := Lib.hid hfull
  have Ho := Lib.hid o2
  have hgw : w.heap.size ≤ g := by rw [hg]; exact B1.out.size
  have hg2 : g < w2.heap.size := by have := b2.size; simp at this; omega
  have hb0 : w1.heap.size + 1 ≤ (w1.alloc (.cells (madeCells #[.int .i64 0, .int .u64 0, .int .u64 0] ((l.length + 5) * 3)) 42)).heap.size := by simp
  have Hlow := Lib.hid o2.lt
  rw [← hg]
  clear hfull o2 b2 b1m hg
  go_wp2_with (refine wpList_copy_rows rfl _ _ 32 32 rfl 42 3 Tryz.underlying32 info_act_size g (l.length + 5) (l.length + 5) p2 l.length q2 rfl rfl _ _ Hf.out (by omega) _ _ (actWCells l) Ho.out (by rw [size_madeCells]; omega) (actW_oneCell l) ?_)
  intro w3 f3 t3
  have hrow : w3.ownsRow w.heap.size 42 3 (.slice (some ⟨g, 0, none⟩) (l.length + 5) (l.length + 5)) (l.length + 5) (actWCells (l ++ fiveZ)) := full_row l hgw hz (by rw [full_cells] at f3; exact f3)
  have F3 := Lib.hid hrow
  have B3 := Lib.hid (B2.out.trans (t3.below (fun k hk _ => by omega) B2.out.size))
  have hfl : (l ++ fiveZ).length = l.length + 5 := by simp [fiveZ]
  have Hfl := Lib.hid hfl
  have hs3 : w2.heap.size ≤ w3.heap.size := t3.size
  have Hn := Lib.hid (show ∀ j u, (actWCells (l ++ fiveZ))[j]? = some u → (w3.alloc (.cells #[] 42)).cell? ((⟨g, 0, none⟩ : Addr).add j) = some u from fun j u hu => (hrow.alloc (.cells #[] 42)).cells (g := g) rfl j u hu)
  have Hm := Lib.hid (World.ownsRow_made w3 (e := 42) (size := 3) #[] 0 (Nat.le_refl _) (Nat.zero_le _) rfl)
  clear f3 t3 hrow B2 Hf Ho hfl
  go_wp2_with (at_builtin; refine wpList_append_own _ rfl _ _ 32 rfl w3.heap.size 42 i0 (.agg #[.int .i64 0, .int .u64 0, .int .u64 0]) 3 24 Tryz.underlying32 hi0 hz0 hz1 hz2 rfl (by decide) _ 0 [] rfl Hm.out ⟨g, 0, none⟩ (l.length + 5) (l.length + 5) (actWCells (l ++ fiveZ)) rfl (by rw [actWCells_len, Hfl.out]) Hn.out (actW_oneCell _) (by unfold maxLen; omega) (by omega) (by simp) ?_)
  intro v4 w4 o4 g4 n4
  obtain ⟨h4, c4, rfl⟩ : ∃ h c, v4 = .slice (some ⟨h, 0, none⟩) (l.length + 5) c := by
    rcases o4.2 with ⟨h1, _⟩ | ⟨h, c, _, h1, _⟩
    · exact absurd h1 n4
    · exact ⟨h, c, h1⟩
  have t4 : Below w3.heap.size w3 w4 := ((Below.refl _ _).alloc (Nat.le_refl _) _).grown g4 (by simp) (fun k hk => by simp [Value.ownBlock] at hk; omega)
  have F4 := Lib.hid (row_below F3.out t4)
  have W4 := Lib.hid o4
  have B4 := Lib.hid (B3.out.trans (t4.mono B3.out.size))
  have A4 := Lib.hid (actsW_front (actsW_rowE F4.out))
  have hs4 := t4.size
  clear o4 g4 n4 t4 F3 B3 Hn Hm
  go_wp2_with fail
  refine (do_anyN l.length kd s _ _ l _ rfl A4.out hs Hl.out).mono ?_
  rintro e w5 ⟨va, rfl, oa, b5⟩
  obtain ⟨pa, qa, rfl⟩ := row_shape oa
  have F5 := Lib.hid (row_below F4.out b5)
  have W5 := Lib.hid (row_below W4.out b5)
  have A5 := Lib.hid (A4.out.below b5)
  have B5 := Lib.hid (B4.out.trans (b5.mono B4.out.size))
  have OA5 := Lib.hid oa
  have hs5 := b5.size
  clear oa b5 F4 W4 A4 B4
  go_wp2_with fail
  refine (do_anyN l.length kd s _ _ l _ rfl A5.out hs Hl.out).mono ?_
  rintro e w6 ⟨vb, rfl, ob, b6⟩
  obtain ⟨pb, qb, rfl⟩ := row_shape ob
  have F6 := Lib.hid (row_below F5.out b6)
  have W6 := Lib.hid (row_below W5.out b6)
  have A6 := Lib.hid (A5.out.below b6)
  have B6 := Lib.hid (B5.out.trans (b6.mono B5.out.size))
  have OA6 := Lib.hid (row_below OA5.out b6)
  have LA := Lib.hid OA5.out.lt
  have OB6 := Lib.hid ob
  have hs6 := b6.size
  clear ob b6 F5 W5 A5 B5 OA5
  go_wp2_with fail
  refine (steps_anyN l.length kd s _ _ l _ rfl A6.out hs Hl.out).mono ?_
  rintro e w7 ⟨vs, rfl, os, b7⟩
  obtain ⟨ps, qs, rfl⟩ := row_shape os
  have F7 := Lib.hid (row_below F6.out b7)
  have W7 := Lib.hid (row_below W6.out b7)
  have A7 := Lib.hid (A6.out.below b7)
  have B7 := Lib.hid (B6.out.trans (b7.mono B6.out.size))
  have OA7 := Lib.hid (row_below OA6.out b7)
  have OB7 := Lib.hid (row_below OB6.out b7)
  have LB := Lib.hid OB6.out.lt
  have OS7 := Lib.hid os
  have hs7 := b7.size
  clear os b7 F6 W6 A6 B6 OA6 OB6
  go_wp2_with fail
  refine (steps_anyN l.length kd s _ _ l _ rfl A7.out hs Hl.out).mono ?_
  rintro e w8 ⟨vt, rfl, ot, b8⟩
  obtain ⟨pt, qt, rfl⟩ := row_shape ot
  have F8 := Lib.hid (row_below F7.out b8)
  have W8 := Lib.hid (row_below W7.out b8)
  have A8 := Lib.hid (A7.out.below b8)
  have B8 := Lib.hid (B7.out.trans (b8.mono B7.out.size))
  have OA8 := Lib.hid (row_below OA7.out b8)
  have OB8 := Lib.hid (row_below OB7.out b8)
  have OS8 := Lib.hid (row_below OS7.out b8)
  have LS := Lib.hid OS7.out.lt
  have OT8 := Lib.hid ot
  have LT := Lib.hid ot.lt
  have hs8 := b8.size
  clear ot b8 F7 W7 A7 B7 OA7 OB7 OS7
  go_wp2_with fail
  have FW := Lib.hid (actsW_rowE F8.out)
  have WW := Lib.hid (actsW_rowE W8.out)
  go_loopw [20] (fun i wr => ∃ j : Nat, j ≤ l.length + 5 ∧ i = .int .i64 j ∧ Turns (fun _ => False) w8 wr) (fun i _ => l.length + 5 - (intOf i).toNat)
  case atStart => exact ⟨0, Nat.zero_le _, rfl, Turns.refl _ _⟩

  case round =>
    obtain ⟨j, hj, rfl, ht⟩ := hrel
    by_cases hlt : j < l.length + 5
    · have htb : Below w8.heap.size w8 wr := ht.below (fun _ h => h.elim) (Nat.le_refl _)
      have hjl : j < (l ++ fiveZ).length := by rw [Hfl.out]; exact hlt
      obtain ⟨b1, o1, e1, x1, x2, x3⟩ := (FW.out.below htb) j hjl
      obtain ⟨b2, o2, e2, y1, y2, y3⟩ := (WW.out.below htb) j hjl
      injection e1 with e1
      injection e1 with e1 e1'
      injection e2 with e2
      injection e2 with e2 e2'
      subst e1 e1' e2 e2'
      generalize (l ++ fiveZ)[j] = x at x1 x2 x3 y1 y2 y3
      have hne := neq_act x
      have j0 : (0 : Int) ≤ (j : Int) := by omega
      have j1 : (j : Int) < (l.length : Int) + 5 := by omega
      have Ht := Lib.hid ht
      clear ht htb
      simp only [Nat.zero_add] at x1 x2 x3 y1 y2 y3
      go_wp2_with fail
      go_quiet (fail)
      go_wp2_with fail
      go_roundw
      case rel => exact ⟨j + 1, by omega, by go_num, Ht.out.trans (Turns.drewNW _ _ _)⟩
      case measure => simp [intOf]; omega
    · obtain ⟨w9, rfl⟩ : ∃ x, x = wr := ⟨wr, rfl⟩
      have b9 : Below w8.heap.size w8 w9 := ht.below (fun _ h => h.elim) (Nat.le_refl _)
      have B9 := Lib.hid (B8.out.trans (b9.mono B8.out.size))
      have R9 := Lib.hid (Hr.out.below (B8.out.trans (b9.mono B8.out.size)))
      have F9 := Lib.hid (row_below F8.out b9)
      have OA9 := Lib.hid (row_below OA8.out b9)
      have OB9 := Lib.hid (row_below OB8.out b9)
      have OS9 := Lib.hid (row_below OS8.out b9)
      have OT9 := Lib.hid (row_below OT8.out b9)
      have hs9 := b9.size
      clear ht b9 B8 F8 W8 OA8 OB8 OS8 OT8 FW WW A8
      go_wp2_with fail
      clear hlt hj
      refine (refdo_any kd s _ _ l _ R9.out hs Hl.out).mono ?_
      rintro e wA ⟨vw, rfl, ow, bA⟩
      obtain ⟨pw, qw, rfl⟩ := row_shape ow
      have BA := Lib.hid (B9.out.trans (bA.mono B9.out.size))
      have FA := Lib.hid (row_below F9.out bA)
      have OAA := Lib.hid (row_below OA9.out bA)
      have OBA := Lib.hid (row_below OB9.out bA)
      have OSA := Lib.hid (row_below OS9.out bA)
      have OTA := Lib.hid (row_below OT9.out bA)
      have OWA := Lib.hid ow
      have LW := Lib.hid ow.lt
      have hsA := bA.size
      clear ow bA B9 F9 OA9 OB9 OS9 OT9 R9
      go_wp2_with fail
      go_loopw [24] (fun i wr => ∃ (j : Nat) (ys : List (Int × Bool)), j ≤ (doOuts kd s l).length ∧ i = .int .i64 j ∧ ys.length = (doOuts kd s l).length ∧ wr.ownsRow w4.heap.size 44 2 (.slice pa (doOuts kd s l).length qa) (doOuts kd s l).length (outCellsOf ys) ∧ Turns (fun k => (Value.slice pa (doOuts kd s l).length qa).ownBlock = some k) wA wr) (fun i _ => (doOuts kd s l).length - (intOf i).toNat)
      case atStart => exact ⟨0, doOuts kd s l, Nat.zero_le _, rfl, rfl, OAA.out, Turns.refl _ _⟩

      case round =>
        obtain ⟨j, ys, hj, rfl, hyl, hrow, ht⟩ := hrel
        by_cases hlt : j < (doOuts kd s l).length
        · have hx := outCellsOf_get ys j (by omega)
          obtain ⟨ga, rfl, x1, _⟩ := own_cell hrow hx.1
          obtain ⟨gb, e2, x2, _⟩ := own_cell hrow hx.2
          injection e2 with e2
          injection e2 with e2
          subst e2
          obtain ⟨cur, hcur, _⟩ := rowM_block hrow
          have hfr : ∀ m, wr.frozen? ⟨ga, m, none⟩ = false := fun m => frozen_of_heap hcur
          have j0 : (0 : Int) ≤ (j : Int) := by omega
          have j1 : (j : Int) < ((doOuts kd s l).length : Int) := by omega
          obtain ⟨yb, hyb⟩ : ∃ yb, ys[j].2 = yb := ⟨_, rfl⟩
          rw [hyb] at x2
          have Hrow := Lib.hid hrow
          have Ht := Lib.hid ht
          clear hrow ht hcur hx hyb
          go_wp2_with fail
          refine ⟨⟨j + 1, ys.set j (12345, !yb), by omega, by go_num, by simp [hyl], ?_, Ht.out.trans ((Turns.setCell (S := fun k => (Value.slice (some ⟨ga, 0, none⟩) (doOuts kd s l).length qa).ownBlock = some k) wr (a := ⟨ga, j * 2, none⟩) rfl _).trans (Turns.setCell (S := fun k => (Value.slice (some ⟨ga, 0, none⟩) (doOuts kd s l).length qa).ownBlock = some k) _ (a := ⟨ga, j * 2 + 1, none⟩) rfl _))⟩, by simp [intOf]; omega⟩
          rw [outCells_set ys j _ (by omega)]
          exact rowM_set (rowM_set Hrow.out _) _
        · obtain ⟨wB, rfl⟩ : ∃ x, x = wr := ⟨wr, rfl⟩
          have dA : ∀ k, (Value.slice pa (doOuts kd s l).length qa).ownBlock = some k → w4.heap.size ≤ k ∧ k < w5.heap.size := LA.out
          have BB := Lib.hid (BA.out.trans (ht.below (fun k hk _ => by have := dA k hk; have := BA.out.size; omega) BA.out.size))
          have FB := Lib.hid (ht.row FA.out (fun k hk e => by have := dA k e; simp only [Value.ownBlock, Option.some.injEq] at hk; omega))
          have OBB := Lib.hid (ht.row OBA.out (fun k hk e => by have := dA k e; have := LB.out k hk; omega))
          have OSB := Lib.hid (ht.row OSA.out (fun k hk e => by have := dA k e; have := LS.out k hk; omega))
          have OTB := Lib.hid (ht.row OTA.out (fun k hk e => by have := dA k e; have := LT.out k hk; omega))
          have OWB := Lib.hid (ht.row OWA.out (fun k hk e => by have := dA k e; have := LW.out k hk; omega))
          have RB := Lib.hid (Hr.out.below BB.out)
          have hsB := ht.size
          clear ht hrow dA BA FA OAA OBA OSA OTA OWA
          go_wp2_with fail
          clear hlt hj
          refine (refsteps_any kd s _ _ l _ RB.out hs Hl.out).mono ?_
          rintro e wC ⟨vr, rfl, or_, bC⟩
          obtain ⟨pr, qr, rfl⟩ := row_shape or_
          have BC := Lib.hid (BB.out.trans (bC.mono BB.out.size))
          have FC := Lib.hid (row_below FB.out bC)
          have OBC := Lib.hid (row_below OBB.out bC)
          have OSC := Lib.hid (row_below OSB.out bC)
          have OTC := Lib.hid (row_below OTB.out bC)
          have OWC := Lib.hid (row_below OWB.out bC)
          have ORC := Lib.hid or_
          have LR := Lib.hid or_.lt
          have hsC := bC.size
          clear or_ bC BB FB OBB OSB OTB OWB RB
          go_wp2_with fail
          go_loopw [27] (fun i wr => ∃ (j : Nat) (ys : List Value), j ≤ (stepsAll kd s l).length ∧ i = .int .i64 j ∧ wr.ownsRow w6.heap.size 22 1 (.slice ps (stepsAll kd s l).length qs) (stepsAll kd s l).length ys ∧ Turns (fun k => (Value.slice ps (stepsAll kd s l).length qs).ownBlock = some k) wC wr) (fun i _ => (stepsAll kd s l).length - (intOf i).toNat)
          case atStart => exact ⟨0, _, Nat.zero_le _, rfl, OSC.out, Turns.refl _ _⟩

          case round =>
            obtain ⟨j, ys, hj, rfl, hrow, ht⟩ := hrel
            by_cases hlt : j < (stepsAll kd s l).length
            · obtain ⟨ga, rfl⟩ := rowM_shape hrow (by omega)
              obtain ⟨u0, e0⟩ := rowM_cell hrow (m := j) (by omega)
              obtain ⟨cur, hcur, _⟩ := rowM_block hrow
              have hfr : ∀ m, wr.frozen? ⟨ga, m, none⟩ = false := fun m => frozen_of_heap hcur
              have j0 : (0 : Int) ≤ (j : Int) := by omega
              have j1 : (j : Int) < ((stepsAll kd s l).length : Int) := by omega
              have Hrow := Lib.hid hrow
              have Ht := Lib.hid ht
              clear hrow ht hcur
              go_wp2_with fail
              refine ⟨⟨j + 1, _, by omega, by go_num, rowM_set Hrow.out _, Ht.out.trans (Turns.setCell (S := fun k => (Value.slice (some ⟨ga, 0, none⟩) (stepsAll kd s l).length qs).ownBlock = some k) wr (a := ⟨ga, j, none⟩) rfl _)⟩, by simp [intOf]; omega⟩
            · obtain ⟨wD, rfl⟩ : ∃ x, x = wr := ⟨wr, rfl⟩
              have dS : ∀ k, (Value.slice ps (stepsAll kd s l).length qs).ownBlock = some k → w6.heap.size ≤ k ∧ k < w7.heap.size := LS.out
              have BD := Lib.hid (BC.out.trans (ht.below (fun k hk _ => by have := dS k hk; have := BC.out.size; omega) BC.out.size))
              have FD := Lib.hid (ht.row FC.out (fun k hk e => by have := dS k e; simp only [Value.ownBlock, Option.some.injEq] at hk; omega))
              have OBD := Lib.hid (ht.row OBC.out (fun k hk e => by have := dS k e; have := LB.out k hk; omega))
              have OTD := Lib.hid (ht.row OTC.out (fun k hk e => by have := dS k e; have := LT.out k hk; omega))
              have OWD := Lib.hid (ht.row OWC.out (fun k hk e => by have := dS k e; have := LW.out k hk; omega))
              have ORD := Lib.hid (ht.row ORC.out (fun k hk e => by have := dS k e; have := LR.out k hk; omega))
              have hsD := ht.size
              have IB := Lib.hid (outsIn_row OBD.out)
              have IW := Lib.hid (outsIn_row OWD.out)
              have IT := Lib.hid (u64In_row OTD.out)
              have IR := Lib.hid (u64In_row ORD.out)
              clear ht hrow dS BC FC OBC OSC OTC OWC ORC OTD ORD
              go_wp2_with fail
              clear hlt hj
              refine (are_same _ _ _ _ (doOuts kd s l) _ IB.out IW.out (by omega)).mono ?_
              rintro e wE ⟨rfl, tE⟩
              have BE := Lib.hid (BD.out.trans (tE.below (fun _ h => h.elim) BD.out.size))
              have FE := Lib.hid (tE.row FD.out (fun _ _ h => h))
              have OBE := Lib.hid (tE.row OBD.out (fun _ _ h => h))
              have OWE := Lib.hid (tE.row OWD.out (fun _ _ h => h))
              have IT := Lib.hid (IT.out.turns tE)
              have IR := Lib.hid (IR.out.turns tE)
              have hsE := tE.size
              clear tE BD FD OBD OWD IB IW
              go_wp2_with fail
              refine (words_same _ _ _ _ (stepsAll kd s l) _ IT.out IR.out (by omega)).mono ?_
              rintro e wF ⟨rfl, tF⟩
              have BF := Lib.hid (BE.out.trans (tF.below (fun _ h => h.elim) BE.out.size))
              have FF := Lib.hid (tF.row FE.out (fun _ _ h => h))
              have OBF := Lib.hid (tF.row OBE.out (fun _ _ h => h))
              have OWF := Lib.hid (tF.row OWE.out (fun _ _ h => h))
              have hsF := tF.size
              clear tF BE FE OBE OWE IT IR
              go_wp2_with fail
              obtain ⟨i1, hi1, hy0, hy1, hy2⟩ := info_parts info_actR
              go_loopw [28, 29] (fun nv i wr => ∃ (j : Nat), j ≤ l.length ∧ i = .int .i64 j ∧ wr.ownsRow w.heap.size 42 3 (.slice (some ⟨g, 0, none⟩) (l.length + 5) (l.length + 5)) (l.length + 5) (actWCells (bump l j ++ fiveZ)) ∧ wr.ownsRow wF.heap.size 45 3 nv j (actWCells ((l.take j).map inc)) ∧ Turns (fun k => k = g) wF wr) (fun _ i _ => l.length - (intOf i).toNat)
              case atStart => exact ⟨0, Nat.zero_le _, rfl, by rw [bump_zero]; exact FF.out, World.ownsRow_nil _ _ _ _, Turns.refl _ _⟩

              case round =>
                obtain ⟨j, hj, rfl, hrow, hnow, ht⟩ := hrel
                by_cases hlt : j < l.length
                · have hbl := bump_len l j
                  have hjb : j < (bump l j ++ fiveZ).length := by rw [List.length_append, hbl]; omega
                  obtain ⟨b1, o1, e1, x1, x2, x3⟩ := (actsW_rowE hrow) j hjb
                  injection e1 with e1
                  injection e1 with e1 e1'
                  subst e1 e1'
                  have hgj : (bump l j ++ fiveZ)[j] = l[j] := by rw [List.getElem_append_left (by rw [hbl]; exact hlt), bump_get l j hlt]
                  rw [hgj] at x1 x2 x3
                  simp only [Nat.zero_add] at x1 x2 x3
                  obtain ⟨cur, hcur, _⟩ := rowM_block hrow
                  have hfr : ∀ m, wr.frozen? ⟨g, m, none⟩ = false := fun m => frozen_of_heap hcur
                  have j0 : (0 : Int) ≤ (j : Int) := by omega
                  have j1 : (j : Int) < (l.length : Int) := by omega
                  have Hrow := Lib.hid hrow
                  have Hnow := Lib.hid hnow
                  have Ht := Lib.hid ht
                  clear hrow hnow ht hcur hgj hjb hbl
                  go_wp2_with fail
                  rw [wrap_u64]
                  have hbl := bump_len l j
                  have hrS := rowM_set (m := j * 3 + 1) Hrow.out (.int .u64 ((l[j].a + 1) % 18446744073709551616))
                  have hcs : (actWCells (bump l j ++ fiveZ)).set (j * 3 + 1) (.int .u64 ((l[j].a + 1) % 18446744073709551616)) = actWCells (bump l (j + 1) ++ fiveZ) := by
                    rw [bump_succ l j hlt]
                    have e := actCells_setA (bump l j ++ fiveZ) j (by rw [List.length_append, hbl]; omega) ((l[j].a + 1) % 18446744073709551616)
                    have hgj : (bump l j ++ fiveZ)[j]'(by rw [List.length_append, hbl]; omega) = l[j] := by rw [List.getElem_append_left (by rw [hbl]; exact hlt), bump_get l j hlt]
                    rw [hgj] at e
                    rw [← e, List.set_append_left _ _ (by rw [hbl]; exact hlt)]
                    rfl
                  rw [hcs] at hrS
                  have tS := Turns.setCell (S := fun k => k = g) wr (a := ⟨g, j * 3 + 1, none⟩) rfl (.int .u64 ((l[j].a + 1) % 18446744073709551616))
                  have hgF : g < wF.heap.size := by omega
                  have hnS := tS.row Hnow.out (fun k hk e => by have := (Hnow.out.lt k hk).1; omega)
                  have hneS : u28.ownBlock ≠ some g := fun e => by have := (Hnow.out.lt g e).1; omega
                  have hszS : wF.heap.size ≤ (wr.setCell ⟨g, j * 3 + 1, none⟩ (.int .u64 ((l[j].a + 1) % 18446744073709551616))).heap.size := by have := Ht.out.size; have := tS.size; omega
                  have htS := Ht.out.trans tS
                  generalize wr.setCell ⟨g, j * 3 + 1, none⟩ (.int .u64 ((l[j].a + 1) % 18446744073709551616)) = wS at *
                  have hjb : j < (bump l (j + 1) ++ fiveZ).length := by rw [List.length_append, bump_len]; omega
                  obtain ⟨b1, o1, e1, z1, z2, z3⟩ := (actsW_rowE hrS) j hjb
                  injection e1 with e1
                  injection e1 with e1 e1'
                  subst e1 e1'
                  have hgj2 : (bump l (j + 1) ++ fiveZ)[j] = inc l[j] := by
                    rw [List.getElem_append_left (by rw [bump_len]; exact hlt)]
                    have h1 := bump_at l (j + 1) j
                    rw [List.getElem?_eq_getElem hlt, List.getElem?_eq_getElem (by rw [bump_len]; exact hlt)] at h1
                    simpa using h1
                  rw [hgj2] at z1 z2 z3
                  simp only [Nat.zero_add, inc] at z1 z2 z3
                  have HrS := Lib.hid hrS
                  have HnS := Lib.hid hnS
                  have HneS := Lib.hid hneS
                  have HtS := Lib.hid htS
                  clear hrS hcs tS hnS hneS htS hjb hgj2 hbl Hrow Hnow Ht x1 x2 x3
                  go_region_held3 (fun w' => w'.cell? ⟨g, j * 3, none⟩ = some (.int .i64 l[j].k) ∧ w'.cell? ⟨g, j * 3 + 1, none⟩ = some (.int .u64 ((l[j].a + 1) % 18446744073709551616)) ∧ w'.cell? ⟨g, j * 3 + 2, none⟩ = some (.int .u64 l[j].b))
                    (first | go_keep | (have gt := ((Turns.alloc (fun i => u28.ownBlock = some i) wS _).trans (Turns.drew _ _)).trans (Turns.grown hgrow (fun _ h => h)); exact ⟨gt.cell z1 HneS.out, gt.cell z2 HneS.out, gt.cell z3 HneS.out⟩))
                    (first | (refine step_append_lies _ (by rfl) _ _ _ (by rfl) wF.heap.size 45 i1 _ 3 24 Tryz.underlying23 hi1 hy0 hy1 hy2 rfl (by omega) u28 j _ (by rfl) ((HnS.out.alloc _).drew) ⟨wS.heap.size, 0, none⟩ 1 1 [.int .i64 l[j].k, .int .u64 ((l[j].a + 1) % 18446744073709551616), .int .u64 l[j].b] (by rfl) (by rfl) (World.news_of_block (cs := #[.int .i64 l[j].k, .int .u64 ((l[j].a + 1) % 18446744073709551616), .int .u64 l[j].b]) (t := 45) (fr := (0, 0)) (heap_alloc_new wS _)) (by simp [Value.oneCell']) (by omega) (by unfold maxLen; omega) (by omega) (by simp; omega) (wS.heap.size + 1) (by simp) ?_; intro gg cap2 w1b hown1 hgrow hat hlt1))
                  have gt := ((Turns.alloc (fun i => u28.ownBlock = some i) wS _).trans (Turns.drew _ _)).trans (Turns.grown hgrow (fun _ h => h))
                  have tAll : Turns (fun k => k = g) wF w1b := ((HtS.out.mono (S' := fun k => k = g ∨ wF.heap.size ≤ k) (fun _ _ h => .inl h)).trans (gt.mono (fun k _ h => .inr (HnS.out.lt k h).1))).mono (fun k hk h => by
                    rcases h with h | h
                    · exact h
                    · omega)
                  have Fr := Lib.hid (gt.row HrS.out (fun k hk e => by have := (HnS.out.lt k e).1; simp only [Value.ownBlock, Option.some.injEq] at hk; omega))
                  have Nr := Lib.hid (show w1b.ownsRow wF.heap.size 45 3 (.slice (some ⟨gg, 0, none⟩) (j + 1) cap2) (j + 1) (actWCells ((l.take (j + 1)).map inc)) from by
                    rw [List.take_succ_eq_append_getElem hlt, List.map_append, List.map_cons, List.map_nil, actWCells_snoc]
                    exact hown1)
                  have Ta := Lib.hid tAll
                  clear gt tAll hown1 hgrow hat hlt1 HrS HnS HneS HtS z1 z2 z3
                  go_wp2
                  go_roundw
                  case rel => exact ⟨j + 1, by omega, by go_num, Fr.out, Nr.out, Ta.out⟩
                  case measure => simp [intOf]; omega
                · obtain ⟨wG, rfl⟩ : ∃ x, x = wr := ⟨wr, rfl⟩
                  have hjl : l.length ≤ j := by omega
                  rw [bump_all l j hjl] at hrow
                  rw [List.take_of_length_le hjl] at hnow
                  have hjn : j = (l.map inc).length := by rw [List.length_map]; omega
                  have BG := Lib.hid (BF.out.trans (ht.below (fun k hk _ => by omega) BF.out.size))
                  have OBG := Lib.hid (ht.row OBF.out (fun k hk e => by have := (LB.out k hk).1; omega))
                  have OWG := Lib.hid (ht.row OWF.out (fun k hk e => by have := (LW.out k hk).1; omega))
                  have hlen2 : (l.map inc).length = l.length := by simp
                  have AG := Lib.hid (actsW_front (actsW_rowE hrow))
                  obtain ⟨pn, qn, rfl⟩ := row_shape hnow
                  have NG := Lib.hid (actsW_rowE hnow)
                  have Hok := Lib.hid (show ∀ x ∈ l.map inc, x.ok from fun x hx => by
                    obtain ⟨y, hy, rfl⟩ := List.mem_map.1 hx
                    exact ⟨⟨Int.emod_nonneg _ (by omega), Int.emod_lt_of_pos _ (by omega)⟩, (Hl.out y hy).2⟩)
                  have hsG := ht.size
                  clear ht hrow hnow BF FF OBF OWF
                  go_wp2_with fail
                  clear hlt hj
                  refine (do_reads kd s l.length _ _ (l.map inc) _ hlen2 AG.out hs Hok.out).mono ?_
                  rintro e wH ⟨pc, qc, rfl, oc, bH⟩
                  have BH := Lib.hid (BG.out.trans (bH.mono BG.out.size))
                  have IC := Lib.hid oc
                  have OBH := Lib.hid (row_below OBG.out bH)
                  have OWH := Lib.hid (row_below OWG.out bH)
                  have NH := Lib.hid (NG.out.below bH)
                  clear oc bH BG OBG OWG NG AG
                  go_wp2_with fail
                  refine (refdo_readsN kd s l.length _ _ (l.map inc) _ hlen2 NH.out hs Hok.out).mono ?_
                  rintro e wI ⟨pz, qz, rfl, oz, bI⟩
                  have BI := Lib.hid (BH.out.trans (bI.mono BH.out.size))
                  have II := Lib.hid (IC.out.below bI)
                  have IZ := Lib.hid oz
                  have OBI := Lib.hid (outsIn_row (row_below OBH.out bI))
                  have OWI := Lib.hid (outsIn_row (row_below OWH.out bI))
                  have hnl := doOuts_le kd s (l.map inc)
                  have hnl2 : (doOuts kd s (l.map inc)).length ≤ 9223372036854775807 := by rw [hlen2] at hnl; omega
                  clear oz bI BH IC OBH OWH NH
                  go_wp2_with fail
                  refine (are_same _ _ _ _ (doOuts kd s (l.map inc)) _ II.out IZ.out hnl2).mono ?_
                  rintro e wJ ⟨rfl, tJ⟩
                  have BJ := Lib.hid (BI.out.trans (tJ.below (fun _ h => h.elim) BI.out.size))
                  have OBJ := Lib.hid (OBI.out.turns tJ)
                  have OWJ := Lib.hid (OWI.out.turns tJ)
                  clear tJ BI II IZ OBI OWI
                  go_wp2_with fail
                  refine (are_same _ _ _ _ (doOuts kd s l) _ OBJ.out OWJ.out (by omega)).mono ?_
                  rintro e wK ⟨rfl, tK⟩
                  have BK := Lib.hid (BJ.out.trans (tK.below (fun _ h => h.elim) BJ.out.size))
                  clear tK BJ
                  go_wp2
                  go_ret
                  exact ⟨rfl, BK.out⟩

theorem apart_law (x0 : Int) (_w0 : (Lit.int .i64 x0).wf = true) (x1 : Int) (w1 : (Lit.int .u64 x1).wf = true) (a2 : Option Addr) (c2 : Nat) (l2 : List A3) (_m2 : l2.length ≤ c2) {w : World} (r2 : ActsW w a2 l2)
    (w2 : ∀ x ∈ l2, (Lit.int .i64 x.k).wf = true ∧ (Lit.int .u64 x.a).wf = true ∧ (Lit.int .u64 x.b).wf = true) (z2 : l2.length * 24 ≤ 140737488351232) (w' : World) (e : w' = w) :
    Calls Tryz.prog 4 #[.int .i64 x0, .int .u64 x1, .slice a2 l2.length c2] w' fun e w'' => e = .returned (.bool true) ∧ Below w'.heap.size w' w'' := by
  subst e
  exact apart_any x0 x1 a2 c2 l2 _ (wf_u64 _ w1) (ok_all w2) z2 r2

end Go.Proofs.YtfkhflknigemgaaGreat
