/-
  DERIVED. THE WALK over larchlaw02's CellGates: the body.
-/
import Derived.Test.YtjifoggfndicoaaGates
import Derived.Deep.RegionHeld3
namespace Go.Proofs.Ytjifoggfndicoaa
open Go.RowKit
set_option maxRecDepth 100000

theorem load_nil (nb : Nat) (x : Int) (w : World) (hc : w.cell? ⟨nb, 0, none⟩ = some (.int .i64 x)) :
    Calls Try.prog 22 #[.pointer (some ⟨nb, 0, none⟩), .nilIface] w fun e w' => e = .returned (.int .i64 x) ∧ w = w' := by
  go_enter Try.func22, Try.ntmps22
  go_wp2_with (first | (go_at_call 55; refine (pass_nil _ _).mono ?_; rintro e w1 ⟨rfl, rfl⟩) | (go_at_call 56; refine (i64_load _ _ _ _ hc).mono ?_; rintro e w2 ⟨rfl, rfl⟩))
  go_ret
  exact ⟨rfl, rfl⟩

theorem kinds_new (w : World) (b : Nat) (hc : w.cell? ⟨b, 0, none⟩ = some (.slice none 0 0)) :
    Calls Try.prog 20 #[.pointer (some ⟨b, 0, none⟩)] w fun e w' => e = .returned (.slice none 0 0) ∧ w = w' := by
  have he := fun w => Lib.run_eql_slice_nil (P := Try.prog) w 22 3 none 0 0 0 0 Try.underlying22
  go_enter Try.func20, Try.ntmps20
  go_wp2
  go_ret
  exact ⟨rfl, rfl⟩

set_option maxHeartbeats 1000000 in
theorem gates_any (aa : Option Addr) (ac : Nat) (acts : List A4) {w : World} (hr : ActsIn w aa acts) (hn : acts.length * 32 ≤ 140737488351232) :
    Calls Try.prog 4 #[.slice aa acts.length ac] w fun e w' => e = .returned (.bool true) ∧ Below w.heap.size w w' := by
  obtain ⟨i0, hi0, hz0, hz1, hz2⟩ := info_parts info_int
  have Hr := Lib.hid hr
  clear hr
  go_enter Try.func4, Try.ntmps4
  go_wp2_with fail
  refine (awake_any _).mono ?_
  rintro e wA ⟨rfl, hbA⟩
  have hg : GI w wA.heap.size 0 0 0 [] [] (.slice none 0 0) (.slice none 0 0) ((((wA.alloc (.cells #[.slice none 0 0] 108)).alloc (.cells #[.int .i64 0] 45)).alloc (.cells #[.int .i64 0] 45)).alloc (.cells #[.int .i64 0] 3)) := by
    have t1 := Turns.alloc (fun _ => False) (wA.alloc (.cells #[.slice none 0 0] 108)) (.cells #[.int .i64 0] 45)
    have t2 := Turns.alloc (fun _ => False) ((wA.alloc (.cells #[.slice none 0 0] 108)).alloc (.cells #[.int .i64 0] 45)) (.cells #[.int .i64 0] 45)
    have t3 := Turns.alloc (fun _ => False) (((wA.alloc (.cells #[.slice none 0 0] 108)).alloc (.cells #[.int .i64 0] 45)).alloc (.cells #[.int .i64 0] 45)) (.cells #[.int .i64 0] 3)
    have h1 := heap_alloc_new (wA.alloc (.cells #[.slice none 0 0] 108)) (.cells #[.int .i64 0] 45)
    have h2 := heap_alloc_new ((wA.alloc (.cells #[.slice none 0 0] 108)).alloc (.cells #[.int .i64 0] 45)) (.cells #[.int .i64 0] 45)
    have h3 := heap_alloc_new (((wA.alloc (.cells #[.slice none 0 0] 108)).alloc (.cells #[.int .i64 0] 45)).alloc (.cells #[.int .i64 0] 45)) (.cells #[.int .i64 0] 3)
    refine ⟨(((hbA.alloc hbA.size _).alloc (by have := hbA.size; simp; omega) _).alloc (by have := hbA.size; simp; omega) _).alloc (by have := hbA.size; simp; omega) _, hbA.size,
      (TapeAt.new wA _).turns ((t1.trans t2).trans t3) (fun h => h) (fun _ _ h => h), ?_, ?_, ?_, World.ownsRow_nil _ _ _ _, by simp [Value.ownBlock], by simp⟩
    · refine (t2.trans t3).heap ?_ (fun h => h)
      simpa using h1
    · refine t3.heap ?_ (fun h => h)
      simpa using h2
    · simpa using h3
  have Hg := Lib.hid hg
  clear hg hbA
  go_wp2_with (first | (go_at_call 16; refine (newtape_any _).mono ?_; rintro e w2 ⟨rfl, rfl⟩) | (go_at_call 17; refine (newnum_any _ _).mono ?_; rintro e w2 ⟨rfl, rfl⟩))
  simp only [Nat.add_assoc, Nat.reduceAdd]
  generalize ((((wA.alloc (.cells #[.slice none 0 0] 108)).alloc (.cells #[.int .i64 0] 45)).alloc (.cells #[.int .i64 0] 45)).alloc (.cells #[.int .i64 0] 3)) = ws at *
  generalize wA.heap.size = s at *
  go_loopw [6, 18] (fun kv i wx => ∃ (j : Nat) (x : Int) (ks : List Int) (tv : Value), j ≤ acts.length ∧ i = .int .i64 j ∧ ks.length ≤ j ∧ GI w s x x x ks ks tv kv wx) (fun _ i _ => acts.length - (intOf i).toNat)
  case atStart => exact ⟨0, 0, [], .slice none 0 0, Nat.zero_le _, rfl, Nat.zero_le _, Hg.out⟩
  case round =>
    obtain ⟨j, x, ks, tv, hj, rfl, hkl, hinv⟩ := hrel
    clear Hg
    by_cases hlt : j < acts.length
    · obtain ⟨b, off, rfl, hc1, hc2, hc3, hc4⟩ := (Hr.out.below hinv.below) j hlt
      by_cases hk : acts[j].k < 1 ∨ 7 < acts[j].k
      · have Hinv := Lib.hid hinv
        clear hinv
        go_wp2_with fail
        all_goals
          go_roundw
          case rel => exact ⟨j + 1, x, ks, tv, by omega, by go_num, by omega, Hinv.out.quiet (Turns.alloc _ _ _)⟩
          case measure => simp [intOf]; omega
      · obtain ⟨k1, k2⟩ : 1 ≤ acts[j].k ∧ acts[j].k ≤ 7 := by omega
        have hd1 : decide (acts[j].k < 1) = false := by simp; omega
        have hinv1 := hinv.quiet (Turns.alloc _ wr (.cells #[.int .i64 acts[j].k, .int .i64 0, .int .i64 acts[j].a, .int .i64 acts[j].b] 47))
        have hq1 : ∀ o v, #[Value.int .i64 acts[j].k, .int .i64 0, .int .i64 acts[j].a, .int .i64 acts[j].b][o]? = some v → (wr.alloc (.cells #[.int .i64 acts[j].k, .int .i64 0, .int .i64 acts[j].a, .int .i64 acts[j].b] 47)).cell? ⟨wr.heap.size, o, none⟩ = some v := fun o v h => cell_of_heap (heap_alloc_new wr _) h
        have hs0 := hinv.size
        have hcell := cell_of_heap hinv1.now (j := 0) rfl
        have hfr : ∀ o, ((wr.alloc (.cells #[.int .i64 acts[j].k, .int .i64 0, .int .i64 acts[j].a, .int .i64 acts[j].b] 47)).alloc o).frozen? ⟨s + 3, 0, none⟩ = false := fun o => frozen_of_heap ((Turns.alloc (fun _ => False) _ o).heap hinv1.now (fun h => h))
        have hs1 : (wr.alloc (.cells #[.int .i64 acts[j].k, .int .i64 0, .int .i64 acts[j].a, .int .i64 acts[j].b] 47)).heap.size = wr.heap.size + 1 := by simp
        have Hinv := Lib.hid hinv
        have H1 := Lib.hid hinv1
        have Hq1 := Lib.hid hq1
        have Hcell := Lib.hid hcell
        have Hfr := Lib.hid hfr
        have Hs1 := Lib.hid hs1
        clear hinv hk hinv1 hq1 hcell hfr hs1
        go_wp2_with fail
        generalize wr.alloc (.cells #[.int .i64 acts[j].k, .int .i64 0, .int .i64 acts[j].a, .int .i64 acts[j].b] 47) = wb at *
        refine (one_any _ ⟨k1, k2⟩ (s + 3) 1 1 0 x _ _ _ (by omega) Hcell.out Hfr.out).mono ?_
        rintro e w2 ⟨rfl, q0⟩
        have t2 : Turns (fun i => i = s + 3) wb w2 := by rw [← q0]; exact (Turns.alloc _ wb _).trans (Turns.setCell (S := fun i => i = s + 3) _ rfl _)
        have h2 := H1.out.setNow t2 (y := numNew acts[j].k x acts[j].a acts[j].b) (by
          rw [← q0, heap_setCell ((Turns.alloc (fun _ => False) wb _).heap H1.out.now (fun h => h))]; rfl)
        have hc : ∀ o v, #[Value.int .i64 acts[j].k, .int .i64 0, .int .i64 acts[j].a, .int .i64 acts[j].b][o]? = some v → w2.cell? ⟨wr.heap.size, o, none⟩ = some v := fun o v h => t2.cell (Hq1.out o v h) (by omega)
        have b0 := hc 0 _ rfl
        have b1 := hc 1 _ rfl
        have b2 := hc 2 _ rfl
        have b3 := hc 3 _ rfl
        have hlt2 : wr.heap.size < w2.heap.size := by have := t2.size; have := Hs1.out; omega
        have H2 := Lib.hid h2
        have Hc2 := Lib.hid hc
        clear q0 t2 h2 hc Hq1 H1 Hcell Hfr
        go_wp2_with fail
        refine (num4_tape (s + 4) (s + 1) s tv ks x _ _ _ _ _ ⟨k1, k2⟩ H2.out.tape H2.out.one (by omega) H2.out.size (fun e => by have := (H2.out.tape.row.lt _ e).1; omega)).mono ?_
        rintro e w3 ⟨rfl, tv', g1, g2, g3, g4⟩
        have h3 := H2.out.setOne g1 g2 g3 g4
        have hc : ∀ o v, #[Value.int .i64 acts[j].k, .int .i64 0, .int .i64 acts[j].a, .int .i64 acts[j].b][o]? = some v → w3.cell? ⟨wr.heap.size, o, none⟩ = some v := fun o v h => g3.cell (Hc2.out o v h) (fun e => by
          rcases e with e | e | e
          · omega
          · omega
          · have h8 := (Hinv.out.tape.row.lt _ e).2; omega)
        have c0 := hc 0 _ rfl
        have c1 := hc 1 _ rfl
        have c2 := hc 2 _ rfl
        have c3 := hc 3 _ rfl
        have hlt3 : wr.heap.size < w3.heap.size := by have := g3.size; omega
        have H3 := Lib.hid h3
        have Hc3 := Lib.hid hc
        clear g1 g2 g3 g4 h3 hc Hc2 H2 b0 b1 b2 b3 hlt2
        go_wp2_with fail
        refine (num4_nil (s + 2) x _ _ _ _ _ ⟨k1, k2⟩ H3.out.two).mono ?_
        rintro e w4 ⟨rfl, g2, g3⟩
        have h4 := H3.out.setTwo g3 g2
        have d0 := g3.cell (Hc3.out 0 _ rfl) (by omega)
        have hs4 := h4.size
        have H4 := Lib.hid h4
        clear g2 g3 h4 Hc3 H3 c0 c1 c2 c3 hlt3
        go_wp2_with (at_builtin; refine wpList_append_one rfl _ _ 22 rfl (s + 4) 3 i0 (.int .i64 0) 1 8 Try.underlying22 hi0 hz0 hz1 hz2 rfl (by decide) (by decide) u6 ks.length _ [.int .i64 acts[j].k] rfl H4.out.kinds rfl rfl (by simp [Value.oneCell']) (by omega) hs4 ?_)
        intro v' w5 g1 g2 g3
        have h5 := H4.out.setKinds (ks' := ks ++ [acts[j].k]) (by unfold RowI; rw [List.length_append, List.map_append]; exact g1) g2 g3
        have H5 := Lib.hid h5
        clear g1 g2 g3 h5 H4 d0 hs4
        go_wp2_with fail
        refine (kinds_any (s + 4) s tv' (ks ++ [acts[j].k]) _ H5.out.tape (by simp; omega)).mono ?_
        rintro e w6 ⟨v6, rfl, g1, g2⟩
        obtain ⟨x6, y6, rfl, i6⟩ := g1.intsIn
        have h6 := H5.out.quietBelow g2
        obtain ⟨x5, y5, rfl, i5⟩ := RowI.intsIn h6.kinds
        have H6 := Lib.hid h6
        have I6 := Lib.hid i6
        have I5 := Lib.hid i5
        clear g1 g2 h6 i6 i5 H5
        go_wp2_with fail
        refine (ints_same' _ _ _ _ _ _ (ks ++ [acts[j].k]) _ (by simp) (by simp) I6.out I5.out (by simp; omega)).mono ?_
        rintro e w7 ⟨rfl, t7⟩
        have h7 := H6.out.quiet t7
        have H7 := Lib.hid h7
        clear t7 h7 I5 I6 H6
        go_wp2
        go_roundw
        case rel => exact ⟨j + 1, _, ks ++ [acts[j].k], tv', by omega, by go_num, by simp; omega, by have h8 := H7.out; rw [List.length_append] at h8; exact h8⟩
        case measure => simp [intOf]; omega
    · have hs0 := hinv.size
      obtain ⟨kva, kvc, rfl⟩ := row_shape hinv.kinds
      have H0 := Lib.hid hinv
      clear hinv Hr
      go_wp2_with fail
      refine (tape_pass (s + 4) s tv ks 7 _ H0.out.tape (by omega) H0.out.size).mono ?_
      rintro e w1 ⟨rfl, tv1, g1, g2, g3⟩
      have H1 := Lib.hid (H0.out.setTape g1 g2 g3)
      clear g1 g2 g3 H0 hs0
      go_wp2_with fail
      refine (tape_pass (s + 4) s tv1 (ks ++ [7]) 0 _ H1.out.tape (by simp; omega) H1.out.size).mono ?_
      rintro e w2 ⟨rfl, tv2, g1, g2, g3⟩
      have H2 := Lib.hid (H1.out.setTape g1 g2 g3)
      clear g1 g2 g3 H1
      go_wp2_with fail
      refine (kinds_any (s + 4) s tv2 (ks ++ [7] ++ [0]) _ H2.out.tape (by simp; omega)).mono ?_
      rintro e w3 ⟨v3, rfl, g1, g2⟩
      obtain ⟨x3, y3, rfl, i3⟩ := g1.intsIn
      have h3 := H2.out.quietBelow g2
      have Hg1 := Lib.hid g1
      have Hkl2 := Lib.hid H2.out.kinds.lt
      have H3 := Lib.hid h3
      have I3 := Lib.hid i3
      have hs3 := h3.size
      have hk3 := Lib.hid (h3.kinds.alloc (.cells #[.int .i64 7, .int .i64 0] 3))
      clear g1 g2 h3 i3 H2
      go_wp2_with (at_builtin; refine wpList_append_own _ rfl _ _ 22 rfl (s + 4) 3 i0 (.int .i64 0) 1 8 Try.underlying22 hi0 hz0 hz1 hz2 rfl (by decide) _ ks.length _ rfl hk3.out ⟨w3.heap.size, 0, none⟩ 2 2 [.int .i64 7, .int .i64 0] rfl (by simp) (cells_in_new w3 [.int .i64 7, .int .i64 0] 3) (by simp [Value.oneCell']) (by unfold maxLen; omega) (by omega) (by simp; omega) ?_)
      intro v4 w4 q1 q2 q3
      have q4 : RowI w4 (s + 4) v4 (ks ++ [7] ++ [0]) := by
        unfold RowI
        simpa using q1
      obtain ⟨x4, y4, rfl, i4⟩ := q4.intsIn
      have hkl3 := H3.out.kinds.lt
      have t4 := (Turns.alloc (fun k => (Value.slice kva ks.length kvc).ownBlock = some k) w3 (.cells #[.int .i64 7, .int .i64 0] 3)).trans (Turns.grown q2 (fun _ h => h))
      have o4 := t4.heap H3.out.one (fun e => by have := (hkl3 _ e).1; omega)
      have p4 := t4.heap H3.out.two (fun e => by have := (hkl3 _ e).1; omega)
      have n4 := t4.heap H3.out.now (fun e => by have := (hkl3 _ e).1; omega)
      have b4 := H3.out.below.trans (t4.below (fun k hk _ => by have h8 := (hkl3 _ hk).1; have := H3.out.low; omega) H3.out.below.size)
      have i5 : IntsIn w4 x3 (ks ++ [7] ++ [0]) := RowI.ints (t4.row Hg1.out (fun k hk e => by have := (Hg1.out.lt k hk).1; have := (Hkl2.out k e).2; omega))
      have O4 := Lib.hid o4
      have P4 := Lib.hid p4
      have N4 := Lib.hid n4
      have B4 := Lib.hid b4
      have J4 := Lib.hid i4
      have J5 := Lib.hid i5
      clear q1 q2 q3 q4 i4 i5 t4 o4 p4 n4 b4 hkl3 Hg1 Hkl2 H3 I3 hk3 hs3
      go_wp2_with fail
      refine (ints_same' _ _ _ _ _ _ (ks ++ [7] ++ [0]) _ (by simp) (by simp) J5.out J4.out (by simp; omega)).mono ?_
      rintro e w5 ⟨rfl, t5⟩
      have o5 := t5.heap O4.out (fun h => h)
      have p5 := t5.heap P4.out (fun h => h)
      have n5 := t5.heap N4.out (fun h => h)
      have B5 := Lib.hid (B4.out.trans (t5.below (fun _ h => h.elim) B4.out.size))
      have O5 := Lib.hid o5
      have P5 := Lib.hid p5
      have N5 := Lib.hid n5
      clear t5 J4 J5 O4 P4 N4 B4 o5 p5 n5
      go_wp2_with fail
      have k1 := cell_of_heap O5.out (j := 0) rfl
      have k2 := cell_of_heap P5.out (j := 0) rfl
      have k3 := cell_of_heap N5.out (j := 0) rfl
      simp only [List.getElem_toArray, List.getElem_cons_zero] at k1 k2 k3
      have n1 := World.new_ne w5 ⟨s + 1, 0, none⟩ k1
      have n2 := World.new_ne w5 ⟨s + 2, 0, none⟩ k2
      have n3 := World.new_ne w5 ⟨s + 3, 0, none⟩ k3
      go_region_held3 (fun w' => w'.cell? ⟨s + 1, 0, none⟩ = some (.int .i64 x) ∧ w'.cell? ⟨s + 2, 0, none⟩ = some (.int .i64 x) ∧ w'.cell? ⟨s + 3, 0, none⟩ = some (.int .i64 x))
        (first | go_keep)
        (first | (go_at_call 22; refine (load_nil _ x _ ?_).mono ?_; (simp [*]); rintro e w6 ⟨rfl, rfl⟩) | (go_at_call 16; refine (newtape_any _).mono ?_; rintro e w6 ⟨rfl, rfl⟩) | (go_at_call 20; refine (kinds_new _ _ ?_).mono ?_; (simp [*]); rintro e w6 ⟨rfl, rfl⟩))
      go_wp2
      go_ret
      exact ⟨rfl, (B5.out.alloc B5.out.size _).drew⟩

theorem gates_law (a1 : Option Addr) (c1 : Nat) (l1 : List A4) {w : World} (r1 : ActsIn w a1 l1) (_w1 : ∀ x ∈ l1, (Lit.int .i64 x.k).wf = true ∧ (Lit.int .i64 x.at_).wf = true ∧ (Lit.int .i64 x.a).wf = true ∧ (Lit.int .i64 x.b).wf = true) (z1 : l1.length * 32 ≤ 140737488351232) (w' : World) (e : w' = w) :
    Calls Try.prog 4 #[.slice a1 l1.length c1] w' fun e w'' => e = .returned (.bool true) ∧ Below w'.heap.size w' w'' := by
  subst e
  exact gates_any a1 c1 l1 r1 z1

end Go.Proofs.Ytjifoggfndicoaa
