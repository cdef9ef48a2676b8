/-
  DERIVED. THE WALK over larchlaw01's WordUndoes.
-/
import Derived.Test.YtfkhflknigemgaaWLaw
namespace Go.Proofs.Ytfkhflknigemgaa
open Go.RowKit
set_option maxRecDepth 100000

set_option maxHeartbeats 1000000 in
theorem known_any (w : World) : Calls Try.prog 5 #[] w fun e w' => e = .returned (.bool true) ∧ Below w.heap.size w w' := by
  have H := Lib.hid (fun g w hg => do_one 1 2147483647 3 1 0 2147483648 2147483648 true g 35 w (by omega) (by omega) (by omega) rfl rfl rfl rfl hg)
  go_enter Try.func5, Try.ntmps5
  go_wp2_with fail
  refine (H.out _ _ (heap_alloc_new _ _)).mono ?_
  rintro e w1 ⟨q, c, rfl, c1, c2, hbe⟩
  have Hb := Lib.hid hbe
  clear hbe
  go_wp2_with fail
  go_ret
  exact ⟨rfl, ((Below.refl _ _).alloc (Nat.le_refl _) _).trans (Hb.out.mono (by simp))⟩

theorem cut_of (kd v : Int) (h : Canon kd v) : cutW kd v = v := by
  unfold Canon at h
  unfold cutW
  obtain ⟨h0, h1⟩ := h
  split
  · rename_i hk; rw [if_pos hk] at h1; omega
  · rename_i hk
    rw [if_neg hk] at h1
    split
    · rename_i h5; rw [if_pos h5] at h1
      split <;> omega
    · rfl
theorem err_one (kd k a b : Int) (hk : isW kd = true) (hc : canW kd k = true) : wErr kd [⟨k, a, b⟩] = 0 := by
  rw [wErr, if_neg (by simp [hk])]
  simp [checkW, hc]
theorem can_any (kd k : Int) (h : k = 1 ∨ k = 2 ∨ k = 4 ∨ k = 5) : canW kd k = true := by
  rcases h with rfl | rfl | rfl | rfl <;> simp [canW]
theorem can_ne (kd k : Int) (h5 : kd ≠ 5) (h : 1 ≤ k ∧ k ≤ 7) : canW kd k = true := by
  simp [canW, h5, h]
theorem add_back (kd v n : Int) (h5 : kd ≠ 5) (hv : Canon kd v) : cutW kd ((cutW kd ((v + n) % 18446744073709551616) + (-n) % 18446744073709551616) % 18446744073709551616) = v := by
  unfold Canon at hv
  unfold cutW
  by_cases h13 : kd = 1 ∨ kd = 3
  · simp only [if_pos h13] at hv ⊢
    omega
  · simp only [if_neg h13, if_neg h5] at hv ⊢
    omega
theorem bits_self (kd v : Int) (op : BinOp) (hop : op = .and ∨ op = .or) (hv : Canon kd v) : Go.bits op .u64 v v = v := by
  obtain ⟨h0, h1⟩ := canon_lt kd v hv
  have h := bits_u64 op hop v.toNat v.toNat (by omega) (by omega)
  rw [show ((v.toNat : Nat) : Int) = v by omega] at h
  rw [h]
  rcases hop with rfl | rfl <;> simp <;> omega

/-- the law's variables o and p, two cells each. -/
structure OP (w wx : World) (q0 q1 : Nat) (a b c d : Value) : Prop where
  below : Below w.heap.size w wx
  o : wx.heap[q0]? = some (.cells #[a, b] 31 (0, 0))
  p : wx.heap[q1]? = some (.cells #[c, d] 31 (0, 0))
  low : w.heap.size ≤ q0
  ne : q0 < q1
theorem OP.call {w wx wy : World} {q0 q1 : Nat} {a b c d : Value} (h : OP w wx q0 q1 a b c d) (hb : Below wx.heap.size wx wy) : OP w wy q0 q1 a b c d :=
  ⟨h.below.trans (hb.mono h.below.size), by rw [hb.block _ (heap_lt h.o)]; exact h.o, by rw [hb.block _ (heap_lt h.p)]; exact h.p, h.low, h.ne⟩
theorem OP.setO {w wx : World} {q0 q1 : Nat} {a b c d : Value} (h : OP w wx q0 q1 a b c d) (u v : Value) : OP w ((wx.setCell ⟨q0, 0, none⟩ u).setCell ⟨q0, 1, none⟩ v) q0 q1 u v c d := by
  have hne := h.ne
  exact ⟨(h.below.setCell h.low _).setCell h.low _, by rw [heap_setCell (heap_setCell h.o u) v]; rfl, by rw [heap_setCell_ne (by omega), heap_setCell_ne (by omega)]; exact h.p, h.low, h.ne⟩
theorem OP.setP {w wx : World} {q0 q1 : Nat} {a b c d : Value} (h : OP w wx q0 q1 a b c d) (u v : Value) : OP w ((wx.setCell ⟨q1, 0, none⟩ u).setCell ⟨q1, 1, none⟩ v) q0 q1 a b u v := by
  have hne := h.ne
  have hq : w.heap.size ≤ q1 := by have := h.low; omega
  exact ⟨(h.below.setCell hq _).setCell hq _, by rw [heap_setCell_ne (by omega), heap_setCell_ne (by omega)]; exact h.o, by rw [heap_setCell (heap_setCell h.p u) v]; rfl, h.low, h.ne⟩
theorem OP.first {w w2 w3 : World} {a b c d : Value} (h : Below w.heap.size w w2) (hb : Below (w2.alloc (.cells #[a, b] 31)).heap.size (w2.alloc (.cells #[a, b] 31)) w3) : OP w (w3.alloc (.cells #[c, d] 31)) w2.heap.size w3.heap.size a b c d := by
  have hs := h.size
  have hs2 := hb.size
  simp at hs2
  have h3 : Below w.heap.size w w3 := (h.alloc hs _).trans (hb.mono (by simp; omega))
  refine ⟨h3.alloc h3.size _, ?_, heap_alloc_new _ _, hs, by omega⟩
  refine (Turns.alloc (fun _ => False) w3 _).heap ?_ (fun h => h)
  rw [hb.block _ (by simp)]
  exact heap_alloc_new _ _
theorem Below.drewl {B : Nat} {w w' : World} (h : Below B w.drew w') : Below B w w' := (Below.refl B w).drew.trans h
theorem OP.cells {w wx : World} {q0 q1 : Nat} {a b c d : Value} (h : OP w wx q0 q1 a b c d) : (wx.cell? ⟨q0, 0, none⟩ = some a ∧ wx.cell? ⟨q0, 1, none⟩ = some b) ∧ (wx.cell? ⟨q1, 0, none⟩ = some c ∧ wx.cell? ⟨q1, 1, none⟩ = some d) ∧
    (wx.frozen? ⟨q0, 0, none⟩ = false ∧ wx.frozen? ⟨q0, 1, none⟩ = false) ∧ (wx.frozen? ⟨q1, 0, none⟩ = false ∧ wx.frozen? ⟨q1, 1, none⟩ = false) ∧ q0 ≠ q1 ∧ q1 ≠ q0 :=
  ⟨⟨cell_of_heap h.o rfl, cell_of_heap h.o rfl⟩, ⟨cell_of_heap h.p rfl, cell_of_heap h.p rfl⟩, ⟨frozen_of_heap h.o, frozen_of_heap h.o⟩, ⟨frozen_of_heap h.p, frozen_of_heap h.p⟩, by have := h.ne; omega, by have := h.ne; omega⟩

set_option maxHeartbeats 1000000 in
theorem undoes_any (kd s n : Int) (w : World) (hs : 0 ≤ s ∧ s < 18446744073709551616) (hn : 0 ≤ n ∧ n < 18446744073709551616) :
    Calls Try.prog 3 #[.int .i64 kd, .int .u64 s, .int .u64 n] w fun e w' => e = .returned (.bool true) ∧ Below w.heap.size w w' := by
  by_cases hk : isW kd = true
  · have hkk : 1 ≤ kd ∧ kd ≤ 6 := by simpa [isW] using hk
    have hv : Canon kd (cutW kd s) := canon_cut kd s hkk hs
    have hc : Canon kd (cutW kd n) := canon_cut kd n hkk hn
    obtain ⟨v, ev⟩ : ∃ v, v = cutW kd s := ⟨_, rfl⟩
    obtain ⟨c, ec⟩ : ∃ c, c = cutW kd n := ⟨_, rfl⟩
    rw [← ev] at hv
    rw [← ec] at hc
    have hvl := canon_lt kd v hv
    have hcl := canon_lt kd c hc
    have hvv := cut_of kd v hv
    have hcc := cut_of kd c hc
    have e4 := can_any kd 4 (by omega)
    have e5 := can_any kd 5 (by omega)
    have O1 := Lib.hid (fun w => one_to kd s 4 n 0 v c true w hs hn (by omega) (err_one kd _ _ _ hk e4) (by rw [← ev]; simp [wVal]) (by simp [wOk]) (by rw [ec]; simp [wNew]))
    have O2 := Lib.hid (fun w => one_to kd c 4 v 0 c v true w hcl hvl (by omega) (err_one kd _ _ _ hk e4) (by rw [hcc]; simp [wVal]) (by simp [wOk]) (by simp [wNew, hvv]))
    have O3 := Lib.hid (fun w => one_to kd s 5 n v 0 v (c == v) w hs hn hvl (err_one kd _ _ _ hk e5) (by simp [wVal]) (by rw [← ev]; simp [wOk, ← ec, Bool.beq_comm]) (by rw [← ev]; simp [wNew, hvv, casNew]))
    have O4 := Lib.hid (fun w => one_to kd s 5 v n 0 c true w hs hvl hn (err_one kd _ _ _ hk e5) (by simp [wVal]) (by rw [← ev]; simp [wOk, hvv]) (by rw [← ev]; simp [wNew, hvv, casNew, ← ec]))
    by_cases h5 : kd = 5
    · have h5' : (kd == 5) = true := by simpa using h5
      have hE : wErr kd [⟨3, n, 0⟩] = 5 := by subst h5; rfl
      have HE := Lib.hid hE
      have Hx := Lib.hid (show ∀ x ∈ [(⟨3, n, 0⟩ : A3)], x.ok by intro x hx; simp at hx; subst hx; exact ⟨hn, by simp⟩)
      have ev' := ev.symm
      have ec' := ec.symm
      clear ev ec hv hc hvl hcl hvv hcc e4 e5 h5 hkk hE
      go_enter Try.func3, Try.ntmps3
      go_wp2_with fail
      refine (known_any _).mono ?_
      rintro e w1 ⟨rfl, b1⟩
      have Hb := Lib.hid b1
      clear b1
      go_wp2_with (first | (go_at_call 6; refine (is_any _ _).mono ?_; rintro e w' ⟨rfl, rfl⟩) | (go_at_call 8; refine (cut_any kd _ _ (by assumption)).mono ?_; rintro e w' ⟨rfl, rfl⟩))
      refine (O1.out _).mono ?_
      rintro e w2 ⟨rfl, b2⟩
      have Hb2 := Lib.hid (Hb.out.trans (b2.mono Hb.out.size))
      clear b2 Hb
      go_wp2_with (first | (go_at_call 6; refine (is_any _ _).mono ?_; rintro e w' ⟨rfl, rfl⟩) | (go_at_call 8; refine (cut_any kd _ _ (by assumption)).mono ?_; rintro e w' ⟨rfl, rfl⟩))
      refine (O2.out _).mono ?_
      rintro e w3 ⟨rfl, b3⟩
      have hp := OP.first (c := .int .u64 c) (d := .bool true) Hb2.out b3
      have ho : w3.heap[w2.heap.size]? = some (.cells #[.int .u64 v, .bool true] 31 (0, 0)) := by rw [b3.block _ (by simp)]; exact heap_alloc_new _ _
      have r0 : w3.cell? ⟨w2.heap.size, 0, none⟩ = some (.int .u64 v) := cell_of_heap ho rfl
      have r1 : w3.cell? ⟨w2.heap.size, 1, none⟩ = some (.bool true) := cell_of_heap ho rfl
      have hlt := heap_lt ho
      have HP := Lib.hid hp
      clear b3 ho Hb2 hp
      go_wp2_with (first | (go_at_call 6; refine (is_any _ _).mono ?_; rintro e w' ⟨rfl, rfl⟩) | (go_at_call 8; refine (cut_any kd _ _ (by assumption)).mono ?_; rintro e w' ⟨rfl, rfl⟩))
      clear r0 r1 hlt
      refine (O3.out _).mono ?_
      rintro e w4 ⟨rfl, b4⟩
      have hp := HP.out.call b4
      obtain ⟨⟨r0, r1⟩, ⟨r2, r3⟩, ⟨f0, f1⟩, ⟨f2, f3⟩, _, _⟩ := hp.cells
      have HP := Lib.hid hp
      clear b4 hp
      go_wp2_with (first | (go_at_call 6; refine (is_any _ _).mono ?_; rintro e w' ⟨rfl, rfl⟩) | (go_at_call 8; refine (cut_any kd _ _ (by assumption)).mono ?_; rintro e w' ⟨rfl, rfl⟩))
      clear r0 r1 r2 r3 f0 f1 f2 f3
      refine (O4.out _).mono ?_
      rintro e w5 ⟨rfl, b5⟩
      have hp := (HP.out.setO _ _).call b5
      obtain ⟨⟨r0, r1⟩, ⟨r2, r3⟩, ⟨f0, f1⟩, ⟨f2, f3⟩, _, _⟩ := hp.cells
      have HP := Lib.hid hp
      clear b5 hp
      go_wp2_with (first | (go_at_call 6; refine (is_any _ _).mono ?_; rintro e w' ⟨rfl, rfl⟩) | (go_at_call 8; refine (cut_any kd _ _ (by assumption)).mono ?_; rintro e w' ⟨rfl, rfl⟩))
      clear r0 r1 r2 r3 f0 f1 f2 f3
      have hp := HP.out.setP (.int .u64 0) (.bool true)
      generalize (w5.setCell ⟨w3.heap.size, 0, none⟩ (.int .u64 0)).setCell ⟨w3.heap.size, 1, none⟩ (.bool true) = x5 at hp ⊢
      obtain ⟨⟨r0, r1⟩, ⟨r2, r3⟩, ⟨f0, f1⟩, ⟨f2, f3⟩, _, _⟩ := hp.cells
      clear HP
      have HP := Lib.hid hp
      clear hp
      go_region_held3 (fun w' => w'.cell? ⟨w2.heap.size, 1, none⟩ = some (.bool (c == v)) ∧ w'.cell? ⟨w3.heap.size, 1, none⟩ = some (.bool true)) (first | go_keep)
        (first | (go_at_call 8; refine (cut_any kd _ _ (by assumption)).mono ?_; rintro e w' ⟨rfl, rfl⟩))
      go_wp2_with (first | (go_at_call 6; refine (is_any _ _).mono ?_; rintro e w' ⟨rfl, rfl⟩) | (go_at_call 8; refine (cut_any kd _ _ (by assumption)).mono ?_; rintro e w' ⟨rfl, rfl⟩))
      refine (do_anyN 1 kd s _ 1 [⟨3, n, 0⟩] ((x5.alloc (.cells #[.int .i64 3, .int .u64 n, .int .u64 0] 35)).drew) rfl (lit_act (heap_alloc_new x5 _)) hs Hx.out).mono ?_
      rintro e w6 ⟨v6, rfl, _, b6⟩
      rw [HE.out]
      have hb := HP.out.below.trans ((((Below.refl _ x5).alloc (Nat.le_refl _) _).drew.trans (b6.mono (by simp))).mono HP.out.below.size)
      have Hb := Lib.hid hb
      clear hb b6 r0 r1 r2 r3 f0 f1 f2 f3
      go_wp2
      go_ret
      exact ⟨rfl, Hb.out⟩
    · have h5' : (kd == 5) = false := by simpa using h5
      obtain ⟨t, et⟩ : ∃ t, t = cutW kd ((v + n) % 18446744073709551616) := ⟨_, rfl⟩
      have ht : Canon kd t := by rw [et]; exact canon_cut kd _ hkk (by omega)
      have htl := canon_lt kd t ht
      have htt := cut_of kd t ht
      have hab := add_back kd v n h5 hv
      rw [← et] at hab
      have O5 := Lib.hid (fun w => one_to kd s 3 n 0 t t true w hs hn (by omega) (err_one kd _ _ _ hk (can_ne kd 3 h5 (by omega))) (by rw [← ev]; simp [wVal, ← et]) (by simp [wOk]) (by rw [← ev]; simp [wNew, ← et]))
      have O6 := Lib.hid (fun w => one_to kd t 3 ((-n) % 18446744073709551616) 0 v v true w htl (by omega) (by omega) (err_one kd _ _ _ hk (can_ne kd 3 h5 (by omega))) (by rw [htt]; simpa [wVal] using hab) (by simp [wOk]) (by rw [htt]; simpa [wNew] using hab))
      have O7 := Lib.hid (fun w => one_to kd s 6 v 0 v v true w hs hvl (by omega) (err_one kd _ _ _ hk (can_ne kd 6 h5 (by omega))) (by rw [← ev]; simp [wVal]) (by simp [wOk]) (by rw [← ev]; simp [wNew, hvv, bits_self kd v .and (.inl rfl) hv]))
      have O8 := Lib.hid (fun w => one_to kd s 7 v 0 v v true w hs hvl (by omega) (err_one kd _ _ _ hk (can_ne kd 7 h5 (by omega))) (by rw [← ev]; simp [wVal]) (by simp [wOk]) (by rw [← ev]; simp [wNew, hvv, bits_self kd v .or (.inr rfl) hv]))
      have ev' := ev.symm
      have ec' := ec.symm
      clear ev ec et hv hc ht htl htt hab hvl hcl hvv hcc e4 e5 h5 hkk
      go_enter Try.func3, Try.ntmps3
      go_wp2_with fail
      refine (known_any _).mono ?_
      rintro e w1 ⟨rfl, b1⟩
      have Hb := Lib.hid b1
      clear b1
      go_wp2_with (first | (go_at_call 6; refine (is_any _ _).mono ?_; rintro e w' ⟨rfl, rfl⟩) | (go_at_call 8; refine (cut_any kd _ _ (by assumption)).mono ?_; rintro e w' ⟨rfl, rfl⟩))
      refine (O1.out _).mono ?_
      rintro e w2 ⟨rfl, b2⟩
      have Hb2 := Lib.hid (Hb.out.trans (b2.mono Hb.out.size))
      clear b2 Hb
      go_wp2_with (first | (go_at_call 6; refine (is_any _ _).mono ?_; rintro e w' ⟨rfl, rfl⟩) | (go_at_call 8; refine (cut_any kd _ _ (by assumption)).mono ?_; rintro e w' ⟨rfl, rfl⟩))
      refine (O2.out _).mono ?_
      rintro e w3 ⟨rfl, b3⟩
      have hp := OP.first (c := .int .u64 c) (d := .bool true) Hb2.out b3
      have ho : w3.heap[w2.heap.size]? = some (.cells #[.int .u64 v, .bool true] 31 (0, 0)) := by rw [b3.block _ (by simp)]; exact heap_alloc_new _ _
      have r0 : w3.cell? ⟨w2.heap.size, 0, none⟩ = some (.int .u64 v) := cell_of_heap ho rfl
      have r1 : w3.cell? ⟨w2.heap.size, 1, none⟩ = some (.bool true) := cell_of_heap ho rfl
      have hlt := heap_lt ho
      have HP := Lib.hid hp
      clear b3 ho Hb2 hp
      go_wp2_with (first | (go_at_call 6; refine (is_any _ _).mono ?_; rintro e w' ⟨rfl, rfl⟩) | (go_at_call 8; refine (cut_any kd _ _ (by assumption)).mono ?_; rintro e w' ⟨rfl, rfl⟩))
      clear r0 r1 hlt
      refine (O3.out _).mono ?_
      rintro e w4 ⟨rfl, b4⟩
      have hp := HP.out.call b4
      obtain ⟨⟨r0, r1⟩, ⟨r2, r3⟩, ⟨f0, f1⟩, ⟨f2, f3⟩, _, _⟩ := hp.cells
      have HP := Lib.hid hp
      clear b4 hp
      go_wp2_with (first | (go_at_call 6; refine (is_any _ _).mono ?_; rintro e w' ⟨rfl, rfl⟩) | (go_at_call 8; refine (cut_any kd _ _ (by assumption)).mono ?_; rintro e w' ⟨rfl, rfl⟩))
      clear r0 r1 r2 r3 f0 f1 f2 f3
      refine (O4.out _).mono ?_
      rintro e w5 ⟨rfl, b5⟩
      have hp := (HP.out.setO _ _).call b5
      obtain ⟨⟨r0, r1⟩, ⟨r2, r3⟩, ⟨f0, f1⟩, ⟨f2, f3⟩, _, _⟩ := hp.cells
      have HP := Lib.hid hp
      clear b5 hp
      go_wp2_with (first | (go_at_call 6; refine (is_any _ _).mono ?_; rintro e w' ⟨rfl, rfl⟩) | (go_at_call 8; refine (cut_any kd _ _ (by assumption)).mono ?_; rintro e w' ⟨rfl, rfl⟩))
      clear r0 r1 r2 r3 f0 f1 f2 f3
      have hp := HP.out.setP (.int .u64 0) (.bool true)
      generalize (w5.setCell ⟨w3.heap.size, 0, none⟩ (.int .u64 0)).setCell ⟨w3.heap.size, 1, none⟩ (.bool true) = x5 at hp ⊢
      obtain ⟨⟨r0, r1⟩, ⟨r2, r3⟩, ⟨f0, f1⟩, ⟨f2, f3⟩, _, _⟩ := hp.cells
      clear HP
      have HP := Lib.hid hp
      clear hp
      go_region_held3 (fun w' => w'.cell? ⟨w2.heap.size, 1, none⟩ = some (.bool (c == v)) ∧ w'.cell? ⟨w3.heap.size, 1, none⟩ = some (.bool true)) (first | go_keep)
        (first | (go_at_call 8; refine (cut_any kd _ _ (by assumption)).mono ?_; rintro e w' ⟨rfl, rfl⟩))
      go_wp2_with (first | (go_at_call 6; refine (is_any _ _).mono ?_; rintro e w' ⟨rfl, rfl⟩) | (go_at_call 8; refine (cut_any kd _ _ (by assumption)).mono ?_; rintro e w' ⟨rfl, rfl⟩))
      clear r0 r1 r2 r3 f0 f1 f2 f3
      refine (O5.out _).mono ?_
      rintro e w6 ⟨rfl, b6⟩
      have hp := HP.out.call (Below.drewl b6)
      obtain ⟨⟨r0, r1⟩, ⟨r2, r3⟩, ⟨f0, f1⟩, ⟨f2, f3⟩, _, _⟩ := hp.cells
      have HP := Lib.hid hp
      clear b6 hp
      go_wp2_with (first | (go_at_call 6; refine (is_any _ _).mono ?_; rintro e w' ⟨rfl, rfl⟩) | (go_at_call 8; refine (cut_any kd _ _ (by assumption)).mono ?_; rintro e w' ⟨rfl, rfl⟩))
      clear r0 r1 r2 r3 f0 f1 f2 f3
      refine (O6.out _).mono ?_
      rintro e w7 ⟨rfl, b7⟩
      have hp := (HP.out.setO _ _).call b7
      obtain ⟨⟨r0, r1⟩, ⟨r2, r3⟩, ⟨f0, f1⟩, ⟨f2, f3⟩, _, _⟩ := hp.cells
      have HP := Lib.hid hp
      clear b7 hp
      go_wp2_with (first | (go_at_call 6; refine (is_any _ _).mono ?_; rintro e w' ⟨rfl, rfl⟩) | (go_at_call 8; refine (cut_any kd _ _ (by assumption)).mono ?_; rintro e w' ⟨rfl, rfl⟩))
      clear r0 r1 r2 r3 f0 f1 f2 f3
      refine (O7.out _).mono ?_
      rintro e w8 ⟨rfl, b8⟩
      have hp := (HP.out.setP _ _).call b8
      obtain ⟨⟨r0, r1⟩, ⟨r2, r3⟩, ⟨f0, f1⟩, ⟨f2, f3⟩, _, _⟩ := hp.cells
      have HP := Lib.hid hp
      clear b8 hp
      go_wp2_with (first | (go_at_call 6; refine (is_any _ _).mono ?_; rintro e w' ⟨rfl, rfl⟩) | (go_at_call 8; refine (cut_any kd _ _ (by assumption)).mono ?_; rintro e w' ⟨rfl, rfl⟩))
      clear r0 r1 r2 r3 f0 f1 f2 f3
      refine (O8.out _).mono ?_
      rintro e w9 ⟨rfl, b9⟩
      have hp := (HP.out.setO _ _).call b9
      obtain ⟨⟨r0, r1⟩, ⟨r2, r3⟩, ⟨f0, f1⟩, ⟨f2, f3⟩, _, _⟩ := hp.cells
      have HP := Lib.hid hp
      clear b9 hp
      go_wp2_with (first | (go_at_call 6; refine (is_any _ _).mono ?_; rintro e w' ⟨rfl, rfl⟩) | (go_at_call 8; refine (cut_any kd _ _ (by assumption)).mono ?_; rintro e w' ⟨rfl, rfl⟩))
      go_ret
      exact ⟨rfl, (HP.out.setP _ _).below⟩
  · have hk' : isW kd = false := by simpa using hk
    have Hk := Lib.hid (show wErr kd [] = 5 by rw [wErr, if_pos hk'])
    clear hk
    go_enter Try.func3, Try.ntmps3
    go_wp2_with (first | (go_at_call 5; refine (known_any _).mono ?_; rintro e w1 ⟨rfl, b1⟩) | (go_at_call 6; refine (is_any _ _).mono ?_; rintro e w2 ⟨rfl, rfl⟩) | (go_at_call 7; refine (do_anyN 0 kd s _ _ [] _ rfl (fun j hj => absurd hj (by simp)) hs (by simp)).mono ?_; rintro e w3 ⟨v, rfl, _, b2⟩; rw [Hk.out]))
    go_ret
    exact ⟨rfl, b1.trans (b2.mono b1.size)⟩

end Go.Proofs.Ytfkhflknigemgaa
