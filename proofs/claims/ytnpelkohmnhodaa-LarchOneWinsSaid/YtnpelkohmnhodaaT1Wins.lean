/-
  DERIVED. THE WALK over larchtop's LarchOneWins.
-/
import Derived.Test.YtnpelkohmnhodaaT1Plain
namespace Go.Proofs.Ytnpelkohmnhodaa
open Go.RowKit
set_option maxRecDepth 100000

set_option maxHeartbeats 4000000 in
theorem wins_low_ok (kd s : Int) (cap : Nat) (ab ao : Nat) (l : List A3) (hm : l.length ≤ 200) (w : World) (hs : 0 ≤ s ∧ s < 18446744073709551616) (hl : ∀ x ∈ l, x.ok) (hr : ActsW w (some ⟨ab, ao, none⟩) l) (he : wErr kd l = 0) :
    Calls Try.prog 4 #[.int .i64 kd, .int .u64 s, .slice (some ⟨ab, ao, none⟩) l.length cap] w fun e w' => e = .returned (.bool true) ∧ Below w.heap.size w w' := by
  obtain ⟨i0, hi0, hz0, hz1, hz2⟩ := info_parts info_act3
  have Hr := Lib.hid hr
  have Hl := Lib.hid hl
  have He := Lib.hid he
  obtain ⟨m, Hlm0⟩ : ∃ m, l.length = m := ⟨_, rfl⟩
  rw [Hlm0] at hm ⊢
  have Hlm := Lib.hid Hlm0
  have hm1 : decide ((200 : Int) < (m : Int)) = false := by simp; omega
  clear Hlm0
  obtain ⟨hk, _, _⟩ := err_ok kd l he
  have he' : (wErr kd l != 0) = false := by simpa using he
  have hA := doOuts_len kd s l he
  have hS := steps_len kd s l he
  rw [Hlm.out] at hA hS
  have HA := Lib.hid hA
  have HS := Lib.hid hS
  have Hk := Lib.hid hk
  clear hA hS hk
  clear hr hl he
  go_enter Try.func4, Try.ntmps4
  go_wp2_with fail
  refine (do_two_known _ _ _ (heap_alloc_new _ _)).mono ?_
  rintro e w1 ⟨q, c, rfl, c0, c1, c2, c3, b1⟩
  have Hb1 := Lib.hid (((Below.refl _ w).alloc (Nat.le_refl _) _).trans (b1.mono (by simp)))
  have R1 := Lib.hid (Hr.out.below Hb1.out)
  clear b1
  have hnews0 := acts_news (.cells #[] 59) R1.out
  have hmade0 : (w1.alloc (.cells #[] 59)).ownsRow w1.heap.size 59 3 (.slice (some ⟨w1.heap.size, 0, none⟩) 0 0) 0 [] := World.ownsRow_made w1 #[] 0 (Nat.le_refl _) (Nat.zero_le _) rfl
  have Hn0 := Lib.hid hnews0
  have Hm0 := Lib.hid hmade0
  clear hnews0 hmade0
  go_wp2_with (at_builtin; refine wpList_append_own _ rfl _ _ 54 rfl w1.heap.size 59 i0 (.agg #[.int .i64 0, .int .u64 0, .int .u64 0]) 3 24 Try.underlying54 hi0 hz0 hz1 hz2 rfl (by decide) _ 0 [] rfl Hm0.out ⟨ab, ao, none⟩ m cap (actWCells l) rfl (by rw [actWCells_len, Hlm.out]) Hn0.out (actW_oneCell _) (by unfold maxLen; omega) (by omega) (by simp) ?_)
  intro q0 z0 hown0 hgr0 _
  try rw [Nat.zero_add, List.nil_append] at hown0
  obtain ⟨x0, e0, rfl⟩ := row_shape hown0
  have hbz0 : Below w1.heap.size w1 z0 := ((Below.refl _ _).alloc (Nat.le_refl _) _).grown hgr0 (by simp) (fun k hk => by simp [Value.ownBlock] at hk; omega)
  have A0 := Lib.hid (actsW_row (w := z0) (B := w1.heap.size) (a := x0) (c := e0) (l := l) (by unfold RowA; rw [Hlm.out]; exact hown0))
  have Hy0 := Lib.hid (Hb1.out.trans (hbz0.mono Hb1.out.size))
  have Or0 := Lib.hid (R1.out.below hbz0)
  clear hown0 hgr0 hbz0 R1 Hb1 Hn0 Hm0
  go_wp2_with fail
  refine (do_reads kd s _ _ _ l _ Hlm.out A0.out hs Hl.out).mono ?_
  rintro e v0 ⟨y0, d0, rfl, o0, b0⟩
  have Hz0 := Lib.hid (Hy0.out.trans (b0.mono Hy0.out.size))
  have Os0 := Lib.hid (Or0.out.below b0)
  have O0 := Lib.hid o0
  clear o0 b0 A0 Hy0 Or0
  rw [HA.out, He.out]
  have hnews1 := acts_news (.cells #[] 59) Os0.out
  have hmade1 : (v0.alloc (.cells #[] 59)).ownsRow v0.heap.size 59 3 (.slice (some ⟨v0.heap.size, 0, none⟩) 0 0) 0 [] := World.ownsRow_made v0 #[] 0 (Nat.le_refl _) (Nat.zero_le _) rfl
  have Hn1 := Lib.hid hnews1
  have Hm1 := Lib.hid hmade1
  clear hnews1 hmade1
  go_wp2_with (at_builtin; refine wpList_append_own _ rfl _ _ 54 rfl v0.heap.size 59 i0 (.agg #[.int .i64 0, .int .u64 0, .int .u64 0]) 3 24 Try.underlying54 hi0 hz0 hz1 hz2 rfl (by decide) _ 0 [] rfl Hm1.out ⟨ab, ao, none⟩ m cap (actWCells l) rfl (by rw [actWCells_len, Hlm.out]) Hn1.out (actW_oneCell _) (by unfold maxLen; omega) (by omega) (by simp) ?_)
  intro q1 z1 hown1 hgr1 _
  try rw [Nat.zero_add, List.nil_append] at hown1
  obtain ⟨x1, e1, rfl⟩ := row_shape hown1
  have hbz1 : Below v0.heap.size v0 z1 := ((Below.refl _ _).alloc (Nat.le_refl _) _).grown hgr1 (by simp) (fun k hk => by simp [Value.ownBlock] at hk; omega)
  have A1 := Lib.hid (actsW_row (w := z1) (B := v0.heap.size) (a := x1) (c := e1) (l := l) (by unfold RowA; rw [Hlm.out]; exact hown1))
  have Hy1 := Lib.hid (Hz0.out.trans (hbz1.mono Hz0.out.size))
  have Or1 := Lib.hid (Os0.out.below hbz1)
  have O0 := Lib.hid (O0.out.below hbz1)
  clear hown1 hgr1 hbz1 Os0 Hz0 Hn1 Hm1
  go_wp2_with fail
  refine (steps_reads kd s _ _ _ l _ Hlm.out A1.out hs Hl.out).mono ?_
  rintro e v1 ⟨y1, d1, rfl, o1, b1⟩
  have Hz1 := Lib.hid (Hy1.out.trans (b1.mono Hy1.out.size))
  have Os1 := Lib.hid (Or1.out.below b1)
  have O1 := Lib.hid o1
  have O0 := Lib.hid (O0.out.below b1)
  clear o1 b1 A1 Hy1 Or1
  rw [HS.out, He.out]
  go_wp2_with (go_at_call 18; refine (wrap_any kd s _ hs).mono ?_; rintro e w9 ⟨rfl, rfl⟩)
  go_loopw [12, 109] (fun x i wr => ∃ j : Nat, j ≤ m ∧ i = .int .i64 j ∧ x = .int .u64 (wTo kd (cutW kd s) (l.take j)) ∧ Below v1.heap.size v1 wr) (fun _ i _ => m - (intOf i).toNat)
  case atStart => exact ⟨0, Nat.zero_le _, rfl, rfl, Below.refl _ _⟩
  case round =>
    obtain ⟨j, hj, rfl, rfl, hb⟩ := hrel
    by_cases hlt : j < m
    · have hlt' : j < l.length := by rw [Hlm.out]; exact hlt
      obtain ⟨b, off, eab, h1, h2, h3⟩ := (Os1.out.below hb) j hlt'
      injection eab with eab
      injection eab with eb eo
      subst eb eo
      have Hcan := Lib.hid (canon_to kd (cutW kd s) (l.take j) Hk.out (canon_cut kd s Hk.out hs) (fun y hy => Hl.out y (List.mem_of_mem_take hy)))
      have Hcan2 := Lib.hid (canon_to kd (cutW kd s) (l.take (j + 1)) Hk.out (canon_cut kd s Hk.out hs) (fun y hy => Hl.out y (List.mem_of_mem_take hy)))
      have Hxo := Lib.hid (Hl.out l[j] (List.getElem_mem hlt'))
      have Hxc := Lib.hid ((err_ok kd l He.out).2.2 l[j] (List.getElem_mem hlt'))
      have Hg4 := Lib.hid (doOuts_get kd s l He.out j hlt' (by rw [HA.out]; exact hlt))
      have Hg6 := Lib.hid (steps_get kd s l He.out j hlt' (by rw [HS.out]; exact hlt))
      have Hsn := Lib.hid (wTo_snoc kd (cutW kd s) l j hlt')
      generalize hx : l[j] = x at h1 h2 h3 Hxo Hxc Hg4 Hsn
      obtain ⟨V, hV⟩ : ∃ V, wTo kd (cutW kd s) (l.take j) = V := ⟨_, rfl⟩
      rw [hV] at Hcan Hg4 Hsn
      rw [hV]
      obtain ⟨N, hN⟩ : ∃ N, wStep kd V x = N := ⟨_, rfl⟩
      obtain ⟨ab2, hab⟩ : ∃ ab, wAns kd V x = ab := ⟨_, rfl⟩
      rw [hN] at Hsn
      rw [Hsn.out] at Hg6 Hcan2
      rw [hab] at Hg4
      have HN := Lib.hid hN
      have Hab := Lib.hid hab
      have Hb := Lib.hid hb
      have hne := neq_same ab2
      clear hb hx hV hN hab
      go_wp2_with fail
      refine (do_one_of kd V x (wr.heap.size + 1) 59 _ Hk.out Hcan.out Hxo.out Hxc.out (by simpa using heap_alloc_new (wr.alloc _) _)).mono ?_
      rintro e w2 ⟨q2, c2, rfl, t1, t2, b2⟩
      rw [HN.out]
      rw [Hab.out] at t1 t2
      have hb2 : Below v1.heap.size v1 w2 := ((Hb.out.alloc Hb.out.size _).alloc (by have := Hb.out.size; simp; omega) _).trans (b2.mono (by have := Hb.out.size; simp; omega))
      obtain ⟨b5, o5, rfl, h4, h5⟩ := (O0.out.below hb2) j (by rw [HA.out]; exact hlt)
      obtain ⟨b6, o6, rfl, h6⟩ := (O1.out.below hb2) j (by rw [HS.out]; exact hlt)
      rw [Hg4.out] at h4 h5
      rw [Hg6.out] at h6
      have Hb2 := Lib.hid hb2
      clear hb2 b2
      have hNr := canon_lt kd N Hcan2.out
      have HcN := Lib.hid (cut_of kd N Hcan2.out)
      have j0 : (0 : Int) ≤ (j : Int) := by omega
      have j1 : (j : Int) < (m : Int) := by omega
      go_wp2_with fail
      go_region_held3 (fun w' => w'.cell? ⟨q2, 0, none⟩ = some (.int .u64 ab2.1) ∧ w'.cell? ⟨q2, 1, none⟩ = some (.bool ab2.2) ∧ w'.cell? ⟨b5, o5 + j * 2, none⟩ = some (.int .u64 ab2.1) ∧ w'.cell? ⟨b5, o5 + j * 2 + 1, none⟩ = some (.bool ab2.2) ∧ w'.cell? ⟨b6, o6 + j, none⟩ = some (.int .u64 N))
        (first | go_keep)
        (first | (go_at_call 18; refine (wrap_any kd N _ hNr).mono ?_; rintro e w5 ⟨rfl, rfl⟩; rw [HcN.out]))
      go_wp2
      go_roundw
      case rel =>
        refine ⟨j + 1, by omega, by go_num, ?_, Hb2.out.drew⟩
        rw [Hsn.out]
      case measure => simp [intOf]; omega
    · rw [show l.take j = l from List.take_of_length_le (by rw [Hlm.out]; omega)]
      have Hb := Lib.hid hb
      have HE := Lib.hid (show doEnd kd s l = wTo kd (cutW kd s) l by rw [doEnd, if_pos He.out])
      rw [HE.out]
      clear hb
      go_wp2
      go_ret
      exact ⟨rfl, Hz1.out.trans (Hb.out.mono Hz1.out.size)⟩

set_option maxHeartbeats 4000000 in
theorem wins_low_bad (kd s : Int) (cap : Nat) (ab ao : Nat) (l : List A3) (hm : l.length ≤ 200) (w : World) (hs : 0 ≤ s ∧ s < 18446744073709551616) (hl : ∀ x ∈ l, x.ok) (hr : ActsW w (some ⟨ab, ao, none⟩) l) (he : wErr kd l ≠ 0) :
    Calls Try.prog 4 #[.int .i64 kd, .int .u64 s, .slice (some ⟨ab, ao, none⟩) l.length cap] w fun e w' => e = .returned (.bool true) ∧ Below w.heap.size w w' := by
  obtain ⟨i0, hi0, hz0, hz1, hz2⟩ := info_parts info_act3
  have Hr := Lib.hid hr
  have Hl := Lib.hid hl
  have He := Lib.hid he
  obtain ⟨m, Hlm0⟩ : ∃ m, l.length = m := ⟨_, rfl⟩
  rw [Hlm0] at hm ⊢
  have Hlm := Lib.hid Hlm0
  have hm1 : decide ((200 : Int) < (m : Int)) = false := by simp; omega
  clear Hlm0
  have he' : (wErr kd l != 0) = true := by simpa using he
  have h5 : (wErr kd l == 5) = true := by simpa using bad_five kd l (by rw [Hlm.out]; omega) he
  obtain ⟨hA, hE, hS⟩ := bad_none kd s l he
  have HA := Lib.hid hA
  have HE := Lib.hid hE
  have HS := Lib.hid hS
  clear hA hE hS
  clear hr hl he
  go_enter Try.func4, Try.ntmps4
  go_wp2_with fail
  refine (do_two_known _ _ _ (heap_alloc_new _ _)).mono ?_
  rintro e w1 ⟨q, c, rfl, c0, c1, c2, c3, b1⟩
  have Hb1 := Lib.hid (((Below.refl _ w).alloc (Nat.le_refl _) _).trans (b1.mono (by simp)))
  have R1 := Lib.hid (Hr.out.below Hb1.out)
  clear b1
  have hnews0 := acts_news (.cells #[] 59) R1.out
  have hmade0 : (w1.alloc (.cells #[] 59)).ownsRow w1.heap.size 59 3 (.slice (some ⟨w1.heap.size, 0, none⟩) 0 0) 0 [] := World.ownsRow_made w1 #[] 0 (Nat.le_refl _) (Nat.zero_le _) rfl
  have Hn0 := Lib.hid hnews0
  have Hm0 := Lib.hid hmade0
  clear hnews0 hmade0
  go_wp2_with (at_builtin; refine wpList_append_own _ rfl _ _ 54 rfl w1.heap.size 59 i0 (.agg #[.int .i64 0, .int .u64 0, .int .u64 0]) 3 24 Try.underlying54 hi0 hz0 hz1 hz2 rfl (by decide) _ 0 [] rfl Hm0.out ⟨ab, ao, none⟩ m cap (actWCells l) rfl (by rw [actWCells_len, Hlm.out]) Hn0.out (actW_oneCell _) (by unfold maxLen; omega) (by omega) (by simp) ?_)
  intro q0 z0 hown0 hgr0 _
  try rw [Nat.zero_add, List.nil_append] at hown0
  obtain ⟨x0, e0, rfl⟩ := row_shape hown0
  have hbz0 : Below w1.heap.size w1 z0 := ((Below.refl _ _).alloc (Nat.le_refl _) _).grown hgr0 (by simp) (fun k hk => by simp [Value.ownBlock] at hk; omega)
  have A0 := Lib.hid (actsW_row (w := z0) (B := w1.heap.size) (a := x0) (c := e0) (l := l) (by unfold RowA; rw [Hlm.out]; exact hown0))
  have Hy0 := Lib.hid (Hb1.out.trans (hbz0.mono Hb1.out.size))
  have Or0 := Lib.hid (R1.out.below hbz0)
  clear hown0 hgr0 hbz0 R1 Hb1 Hn0 Hm0
  go_wp2_with fail
  refine (do_reads kd s _ _ _ l _ Hlm.out A0.out hs Hl.out).mono ?_
  rintro e v0 ⟨y0, d0, rfl, o0, b0⟩
  have Hz0 := Lib.hid (Hy0.out.trans (b0.mono Hy0.out.size))
  have Os0 := Lib.hid (Or0.out.below b0)
  have O0 := Lib.hid o0
  clear o0 b0 A0 Hy0 Or0
  rw [HA.out, HE.out]
  have hnews1 := acts_news (.cells #[] 59) Os0.out
  have hmade1 : (v0.alloc (.cells #[] 59)).ownsRow v0.heap.size 59 3 (.slice (some ⟨v0.heap.size, 0, none⟩) 0 0) 0 [] := World.ownsRow_made v0 #[] 0 (Nat.le_refl _) (Nat.zero_le _) rfl
  have Hn1 := Lib.hid hnews1
  have Hm1 := Lib.hid hmade1
  clear hnews1 hmade1
  go_wp2_with (at_builtin; refine wpList_append_own _ rfl _ _ 54 rfl v0.heap.size 59 i0 (.agg #[.int .i64 0, .int .u64 0, .int .u64 0]) 3 24 Try.underlying54 hi0 hz0 hz1 hz2 rfl (by decide) _ 0 [] rfl Hm1.out ⟨ab, ao, none⟩ m cap (actWCells l) rfl (by rw [actWCells_len, Hlm.out]) Hn1.out (actW_oneCell _) (by unfold maxLen; omega) (by omega) (by simp) ?_)
  intro q1 z1 hown1 hgr1 _
  try rw [Nat.zero_add, List.nil_append] at hown1
  obtain ⟨x1, e1, rfl⟩ := row_shape hown1
  have hbz1 : Below v0.heap.size v0 z1 := ((Below.refl _ _).alloc (Nat.le_refl _) _).grown hgr1 (by simp) (fun k hk => by simp [Value.ownBlock] at hk; omega)
  have A1 := Lib.hid (actsW_row (w := z1) (B := v0.heap.size) (a := x1) (c := e1) (l := l) (by unfold RowA; rw [Hlm.out]; exact hown1))
  have Hy1 := Lib.hid (Hz0.out.trans (hbz1.mono Hz0.out.size))
  have Or1 := Lib.hid (Os0.out.below hbz1)
  have O0 := Lib.hid (O0.out.below hbz1)
  clear hown1 hgr1 hbz1 Os0 Hz0 Hn1 Hm1
  go_wp2_with fail
  refine (steps_reads kd s _ _ _ l _ Hlm.out A1.out hs Hl.out).mono ?_
  rintro e v1 ⟨y1, d1, rfl, o1, b1⟩
  have Hz1 := Lib.hid (Hy1.out.trans (b1.mono Hy1.out.size))
  have Os1 := Lib.hid (Or1.out.below b1)
  have O1 := Lib.hid o1
  have O0 := Lib.hid (O0.out.below b1)
  clear o1 b1 A1 Hy1 Or1
  rw [HS.out]
  go_wp2_with fail
  go_ret
  exact ⟨rfl, Hz1.out⟩

set_option maxHeartbeats 4000000 in
theorem wins_big_ok (kd s : Int) (cap : Nat) (ab ao n0 : Nat) (l : List A3) (hm : l.length = 200) (hn0 : 200 < n0) (hcap : n0 ≤ cap) (w : World) (hs : 0 ≤ s ∧ s < 18446744073709551616) (hl : ∀ x ∈ l, x.ok) (hr : ActsW w (some ⟨ab, ao, none⟩) l) (he : wErr kd l = 0) :
    Calls Try.prog 4 #[.int .i64 kd, .int .u64 s, .slice (some ⟨ab, ao, none⟩) n0 cap] w fun e w' => e = .returned (.bool true) ∧ Below w.heap.size w w' := by
  obtain ⟨i0, hi0, hz0, hz1, hz2⟩ := info_parts info_act3
  have Hr := Lib.hid hr
  have Hl := Lib.hid hl
  have He := Lib.hid he
  have Hlm := Lib.hid hm
  have hm1 : (200 : Int) < (n0 : Int) := by omega
  have hc1 : 200 ≤ cap := by omega
  have hc2 : (200 : Int) ≤ (cap : Int) := by omega
  clear hm
  obtain ⟨hk, _, _⟩ := err_ok kd l he
  have he' : (wErr kd l != 0) = false := by simpa using he
  have hA := doOuts_len kd s l he
  have hS := steps_len kd s l he
  rw [Hlm.out] at hA hS
  have HA := Lib.hid hA
  have HS := Lib.hid hS
  have Hk := Lib.hid hk
  clear hA hS hk
  clear hr hl he
  go_enter Try.func4, Try.ntmps4
  go_wp2_with fail
  refine (do_two_known _ _ _ (heap_alloc_new _ _)).mono ?_
  rintro e w1 ⟨q, c, rfl, c0, c1, c2, c3, b1⟩
  have Hb1 := Lib.hid (((Below.refl _ w).alloc (Nat.le_refl _) _).trans (b1.mono (by simp)))
  have R1 := Lib.hid (Hr.out.below Hb1.out)
  clear b1
  have hnews0 := acts_news (.cells #[] 59) R1.out
  have hmade0 : (w1.alloc (.cells #[] 59)).ownsRow w1.heap.size 59 3 (.slice (some ⟨w1.heap.size, 0, none⟩) 0 0) 0 [] := World.ownsRow_made w1 #[] 0 (Nat.le_refl _) (Nat.zero_le _) rfl
  have Hn0 := Lib.hid hnews0
  have Hm0 := Lib.hid hmade0
  clear hnews0 hmade0
  go_wp2_with (at_builtin; refine wpList_append_own _ rfl _ _ 54 rfl w1.heap.size 59 i0 (.agg #[.int .i64 0, .int .u64 0, .int .u64 0]) 3 24 Try.underlying54 hi0 hz0 hz1 hz2 rfl (by decide) _ 0 [] rfl Hm0.out ⟨ab, ao, none⟩ 200 cap (actWCells l) rfl (by rw [actWCells_len, Hlm.out]) Hn0.out (actW_oneCell _) (by unfold maxLen; omega) (by omega) (by simp) ?_)
  intro q0 z0 hown0 hgr0 _
  try rw [Nat.zero_add, List.nil_append] at hown0
  obtain ⟨x0, e0, rfl⟩ := row_shape hown0
  have hbz0 : Below w1.heap.size w1 z0 := ((Below.refl _ _).alloc (Nat.le_refl _) _).grown hgr0 (by simp) (fun k hk => by simp [Value.ownBlock] at hk; omega)
  have A0 := Lib.hid (actsW_row (w := z0) (B := w1.heap.size) (a := x0) (c := e0) (l := l) (by unfold RowA; rw [Hlm.out]; exact hown0))
  have Hy0 := Lib.hid (Hb1.out.trans (hbz0.mono Hb1.out.size))
  have Or0 := Lib.hid (R1.out.below hbz0)
  clear hown0 hgr0 hbz0 R1 Hb1 Hn0 Hm0
  go_wp2_with fail
  refine (do_reads kd s _ _ _ l _ Hlm.out A0.out hs Hl.out).mono ?_
  rintro e v0 ⟨y0, d0, rfl, o0, b0⟩
  have Hz0 := Lib.hid (Hy0.out.trans (b0.mono Hy0.out.size))
  have Os0 := Lib.hid (Or0.out.below b0)
  have O0 := Lib.hid o0
  clear o0 b0 A0 Hy0 Or0
  rw [HA.out, He.out]
  have hnews1 := acts_news (.cells #[] 59) Os0.out
  have hmade1 : (v0.alloc (.cells #[] 59)).ownsRow v0.heap.size 59 3 (.slice (some ⟨v0.heap.size, 0, none⟩) 0 0) 0 [] := World.ownsRow_made v0 #[] 0 (Nat.le_refl _) (Nat.zero_le _) rfl
  have Hn1 := Lib.hid hnews1
  have Hm1 := Lib.hid hmade1
  clear hnews1 hmade1
  go_wp2_with (at_builtin; refine wpList_append_own _ rfl _ _ 54 rfl v0.heap.size 59 i0 (.agg #[.int .i64 0, .int .u64 0, .int .u64 0]) 3 24 Try.underlying54 hi0 hz0 hz1 hz2 rfl (by decide) _ 0 [] rfl Hm1.out ⟨ab, ao, none⟩ 200 cap (actWCells l) rfl (by rw [actWCells_len, Hlm.out]) Hn1.out (actW_oneCell _) (by unfold maxLen; omega) (by omega) (by simp) ?_)
  intro q1 z1 hown1 hgr1 _
  try rw [Nat.zero_add, List.nil_append] at hown1
  obtain ⟨x1, e1, rfl⟩ := row_shape hown1
  have hbz1 : Below v0.heap.size v0 z1 := ((Below.refl _ _).alloc (Nat.le_refl _) _).grown hgr1 (by simp) (fun k hk => by simp [Value.ownBlock] at hk; omega)
  have A1 := Lib.hid (actsW_row (w := z1) (B := v0.heap.size) (a := x1) (c := e1) (l := l) (by unfold RowA; rw [Hlm.out]; exact hown1))
  have Hy1 := Lib.hid (Hz0.out.trans (hbz1.mono Hz0.out.size))
  have Or1 := Lib.hid (Os0.out.below hbz1)
  have O0 := Lib.hid (O0.out.below hbz1)
  clear hown1 hgr1 hbz1 Os0 Hz0 Hn1 Hm1
  go_wp2_with fail
  refine (steps_reads kd s _ _ _ l _ Hlm.out A1.out hs Hl.out).mono ?_
  rintro e v1 ⟨y1, d1, rfl, o1, b1⟩
  have Hz1 := Lib.hid (Hy1.out.trans (b1.mono Hy1.out.size))
  have Os1 := Lib.hid (Or1.out.below b1)
  have O1 := Lib.hid o1
  have O0 := Lib.hid (O0.out.below b1)
  clear o1 b1 A1 Hy1 Or1
  rw [HS.out, He.out]
  go_wp2_with (go_at_call 18; refine (wrap_any kd s _ hs).mono ?_; rintro e w9 ⟨rfl, rfl⟩)
  go_loopw [12, 109] (fun x i wr => ∃ j : Nat, j ≤ 200 ∧ i = .int .i64 j ∧ x = .int .u64 (wTo kd (cutW kd s) (l.take j)) ∧ Below v1.heap.size v1 wr) (fun _ i _ => 200 - (intOf i).toNat)
  case atStart => exact ⟨0, Nat.zero_le _, rfl, rfl, Below.refl _ _⟩
  case round =>
    obtain ⟨j, hj, rfl, rfl, hb⟩ := hrel
    by_cases hlt : j < 200
    · have hlt' : j < l.length := by rw [Hlm.out]; exact hlt
      obtain ⟨b, off, eab, h1, h2, h3⟩ := (Os1.out.below hb) j hlt'
      injection eab with eab
      injection eab with eb eo
      subst eb eo
      have Hcan := Lib.hid (canon_to kd (cutW kd s) (l.take j) Hk.out (canon_cut kd s Hk.out hs) (fun y hy => Hl.out y (List.mem_of_mem_take hy)))
      have Hcan2 := Lib.hid (canon_to kd (cutW kd s) (l.take (j + 1)) Hk.out (canon_cut kd s Hk.out hs) (fun y hy => Hl.out y (List.mem_of_mem_take hy)))
      have Hxo := Lib.hid (Hl.out l[j] (List.getElem_mem hlt'))
      have Hxc := Lib.hid ((err_ok kd l He.out).2.2 l[j] (List.getElem_mem hlt'))
      have Hg4 := Lib.hid (doOuts_get kd s l He.out j hlt' (by rw [HA.out]; exact hlt))
      have Hg6 := Lib.hid (steps_get kd s l He.out j hlt' (by rw [HS.out]; exact hlt))
      have Hsn := Lib.hid (wTo_snoc kd (cutW kd s) l j hlt')
      generalize hx : l[j] = x at h1 h2 h3 Hxo Hxc Hg4 Hsn
      obtain ⟨V, hV⟩ : ∃ V, wTo kd (cutW kd s) (l.take j) = V := ⟨_, rfl⟩
      rw [hV] at Hcan Hg4 Hsn
      rw [hV]
      obtain ⟨N, hN⟩ : ∃ N, wStep kd V x = N := ⟨_, rfl⟩
      obtain ⟨ab2, hab⟩ : ∃ ab, wAns kd V x = ab := ⟨_, rfl⟩
      rw [hN] at Hsn
      rw [Hsn.out] at Hg6 Hcan2
      rw [hab] at Hg4
      have HN := Lib.hid hN
      have Hab := Lib.hid hab
      have Hb := Lib.hid hb
      have hne := neq_same ab2
      clear hb hx hV hN hab
      go_wp2_with fail
      refine (do_one_of kd V x (wr.heap.size + 1) 59 _ Hk.out Hcan.out Hxo.out Hxc.out (by simpa using heap_alloc_new (wr.alloc _) _)).mono ?_
      rintro e w2 ⟨q2, c2, rfl, t1, t2, b2⟩
      rw [HN.out]
      rw [Hab.out] at t1 t2
      have hb2 : Below v1.heap.size v1 w2 := ((Hb.out.alloc Hb.out.size _).alloc (by have := Hb.out.size; simp; omega) _).trans (b2.mono (by have := Hb.out.size; simp; omega))
      obtain ⟨b5, o5, rfl, h4, h5⟩ := (O0.out.below hb2) j (by rw [HA.out]; exact hlt)
      obtain ⟨b6, o6, rfl, h6⟩ := (O1.out.below hb2) j (by rw [HS.out]; exact hlt)
      rw [Hg4.out] at h4 h5
      rw [Hg6.out] at h6
      have Hb2 := Lib.hid hb2
      clear hb2 b2
      have hNr := canon_lt kd N Hcan2.out
      have HcN := Lib.hid (cut_of kd N Hcan2.out)
      have j0 : (0 : Int) ≤ (j : Int) := by omega
      have j1 : (j : Int) < (200 : Int) := by omega
      go_wp2_with fail
      go_region_held3 (fun w' => w'.cell? ⟨q2, 0, none⟩ = some (.int .u64 ab2.1) ∧ w'.cell? ⟨q2, 1, none⟩ = some (.bool ab2.2) ∧ w'.cell? ⟨b5, o5 + j * 2, none⟩ = some (.int .u64 ab2.1) ∧ w'.cell? ⟨b5, o5 + j * 2 + 1, none⟩ = some (.bool ab2.2) ∧ w'.cell? ⟨b6, o6 + j, none⟩ = some (.int .u64 N))
        (first | go_keep)
        (first | (go_at_call 18; refine (wrap_any kd N _ hNr).mono ?_; rintro e w5 ⟨rfl, rfl⟩; rw [HcN.out]))
      go_wp2
      go_roundw
      case rel =>
        refine ⟨j + 1, by omega, by go_num, ?_, Hb2.out.drew⟩
        rw [Hsn.out]
      case measure => simp [intOf]; omega
    · rw [show l.take j = l from List.take_of_length_le (by rw [Hlm.out]; omega)]
      have Hb := Lib.hid hb
      have HE := Lib.hid (show doEnd kd s l = wTo kd (cutW kd s) l by rw [doEnd, if_pos He.out])
      rw [HE.out]
      clear hb
      go_wp2
      go_ret
      exact ⟨rfl, Hz1.out.trans (Hb.out.mono Hz1.out.size)⟩

set_option maxHeartbeats 4000000 in
theorem wins_big_bad (kd s : Int) (cap : Nat) (ab ao n0 : Nat) (l : List A3) (hm : l.length = 200) (hn0 : 200 < n0) (hcap : n0 ≤ cap) (w : World) (hs : 0 ≤ s ∧ s < 18446744073709551616) (hl : ∀ x ∈ l, x.ok) (hr : ActsW w (some ⟨ab, ao, none⟩) l) (he : wErr kd l ≠ 0) :
    Calls Try.prog 4 #[.int .i64 kd, .int .u64 s, .slice (some ⟨ab, ao, none⟩) n0 cap] w fun e w' => e = .returned (.bool true) ∧ Below w.heap.size w w' := by
  obtain ⟨i0, hi0, hz0, hz1, hz2⟩ := info_parts info_act3
  have Hr := Lib.hid hr
  have Hl := Lib.hid hl
  have He := Lib.hid he
  have Hlm := Lib.hid hm
  have hm1 : (200 : Int) < (n0 : Int) := by omega
  have hc1 : 200 ≤ cap := by omega
  have hc2 : (200 : Int) ≤ (cap : Int) := by omega
  clear hm
  have he' : (wErr kd l != 0) = true := by simpa using he
  have h5 : (wErr kd l == 5) = true := by simpa using bad_five kd l (by rw [Hlm.out]; omega) he
  obtain ⟨hA, hE, hS⟩ := bad_none kd s l he
  have HA := Lib.hid hA
  have HE := Lib.hid hE
  have HS := Lib.hid hS
  clear hA hE hS
  clear hr hl he
  go_enter Try.func4, Try.ntmps4
  go_wp2_with fail
  refine (do_two_known _ _ _ (heap_alloc_new _ _)).mono ?_
  rintro e w1 ⟨q, c, rfl, c0, c1, c2, c3, b1⟩
  have Hb1 := Lib.hid (((Below.refl _ w).alloc (Nat.le_refl _) _).trans (b1.mono (by simp)))
  have R1 := Lib.hid (Hr.out.below Hb1.out)
  clear b1
  have hnews0 := acts_news (.cells #[] 59) R1.out
  have hmade0 : (w1.alloc (.cells #[] 59)).ownsRow w1.heap.size 59 3 (.slice (some ⟨w1.heap.size, 0, none⟩) 0 0) 0 [] := World.ownsRow_made w1 #[] 0 (Nat.le_refl _) (Nat.zero_le _) rfl
  have Hn0 := Lib.hid hnews0
  have Hm0 := Lib.hid hmade0
  clear hnews0 hmade0
  go_wp2_with (at_builtin; refine wpList_append_own _ rfl _ _ 54 rfl w1.heap.size 59 i0 (.agg #[.int .i64 0, .int .u64 0, .int .u64 0]) 3 24 Try.underlying54 hi0 hz0 hz1 hz2 rfl (by decide) _ 0 [] rfl Hm0.out ⟨ab, ao, none⟩ 200 cap (actWCells l) rfl (by rw [actWCells_len, Hlm.out]) Hn0.out (actW_oneCell _) (by unfold maxLen; omega) (by omega) (by simp) ?_)
  intro q0 z0 hown0 hgr0 _
  try rw [Nat.zero_add, List.nil_append] at hown0
  obtain ⟨x0, e0, rfl⟩ := row_shape hown0
  have hbz0 : Below w1.heap.size w1 z0 := ((Below.refl _ _).alloc (Nat.le_refl _) _).grown hgr0 (by simp) (fun k hk => by simp [Value.ownBlock] at hk; omega)
  have A0 := Lib.hid (actsW_row (w := z0) (B := w1.heap.size) (a := x0) (c := e0) (l := l) (by unfold RowA; rw [Hlm.out]; exact hown0))
  have Hy0 := Lib.hid (Hb1.out.trans (hbz0.mono Hb1.out.size))
  have Or0 := Lib.hid (R1.out.below hbz0)
  clear hown0 hgr0 hbz0 R1 Hb1 Hn0 Hm0
  go_wp2_with fail
  refine (do_reads kd s _ _ _ l _ Hlm.out A0.out hs Hl.out).mono ?_
  rintro e v0 ⟨y0, d0, rfl, o0, b0⟩
  have Hz0 := Lib.hid (Hy0.out.trans (b0.mono Hy0.out.size))
  have Os0 := Lib.hid (Or0.out.below b0)
  have O0 := Lib.hid o0
  clear o0 b0 A0 Hy0 Or0
  rw [HA.out, HE.out]
  have hnews1 := acts_news (.cells #[] 59) Os0.out
  have hmade1 : (v0.alloc (.cells #[] 59)).ownsRow v0.heap.size 59 3 (.slice (some ⟨v0.heap.size, 0, none⟩) 0 0) 0 [] := World.ownsRow_made v0 #[] 0 (Nat.le_refl _) (Nat.zero_le _) rfl
  have Hn1 := Lib.hid hnews1
  have Hm1 := Lib.hid hmade1
  clear hnews1 hmade1
  go_wp2_with (at_builtin; refine wpList_append_own _ rfl _ _ 54 rfl v0.heap.size 59 i0 (.agg #[.int .i64 0, .int .u64 0, .int .u64 0]) 3 24 Try.underlying54 hi0 hz0 hz1 hz2 rfl (by decide) _ 0 [] rfl Hm1.out ⟨ab, ao, none⟩ 200 cap (actWCells l) rfl (by rw [actWCells_len, Hlm.out]) Hn1.out (actW_oneCell _) (by unfold maxLen; omega) (by omega) (by simp) ?_)
  intro q1 z1 hown1 hgr1 _
  try rw [Nat.zero_add, List.nil_append] at hown1
  obtain ⟨x1, e1, rfl⟩ := row_shape hown1
  have hbz1 : Below v0.heap.size v0 z1 := ((Below.refl _ _).alloc (Nat.le_refl _) _).grown hgr1 (by simp) (fun k hk => by simp [Value.ownBlock] at hk; omega)
  have A1 := Lib.hid (actsW_row (w := z1) (B := v0.heap.size) (a := x1) (c := e1) (l := l) (by unfold RowA; rw [Hlm.out]; exact hown1))
  have Hy1 := Lib.hid (Hz0.out.trans (hbz1.mono Hz0.out.size))
  have Or1 := Lib.hid (Os0.out.below hbz1)
  have O0 := Lib.hid (O0.out.below hbz1)
  clear hown1 hgr1 hbz1 Os0 Hz0 Hn1 Hm1
  go_wp2_with fail
  refine (steps_reads kd s _ _ _ l _ Hlm.out A1.out hs Hl.out).mono ?_
  rintro e v1 ⟨y1, d1, rfl, o1, b1⟩
  have Hz1 := Lib.hid (Hy1.out.trans (b1.mono Hy1.out.size))
  have Os1 := Lib.hid (Or1.out.below b1)
  have O1 := Lib.hid o1
  have O0 := Lib.hid (O0.out.below b1)
  clear o1 b1 A1 Hy1 Or1
  rw [HS.out]
  go_wp2_with fail
  go_ret
  exact ⟨rfl, Hz1.out⟩


end Go.Proofs.Ytnpelkohmnhodaa
