/-
  DERIVED. THE WALK over larchlaw01's WordRows, where Do is granted.
-/
import Derived.Test.YtfkhflknigemgaaWRows
namespace Go.Proofs.Ytfkhflknigemgaa
open Go.RowKit
set_option maxRecDepth 100000

theorem ActsW.take {w : World} {a : Option Addr} {l : List A3} (h : ActsW w a l) (n : Nat) : ActsW w a (l.take n) := by
  intro j hj
  have hj' : j < l.length := by simp at hj; omega
  obtain ⟨b, off, e, h1, h2, h3⟩ := h j hj'
  exact ⟨b, off, e, by simpa using h1, by simpa using h2, by simpa using h3⟩
theorem ActsW.drop {w : World} {b off : Nat} {l : List A3} (h : ActsW w (some ⟨b, off, none⟩) l) (n : Nat) : ActsW w (some ⟨b, off + n * 3, none⟩) (l.drop n) := by
  intro j hj
  have hj' : n + j < l.length := by simp at hj; omega
  obtain ⟨b', off', e, h1, h2, h3⟩ := h (n + j) hj'
  injection e with e
  injection e with e1 e2
  subst e1 e2
  have e3 : off + n * 3 + j * 3 = off + (n + j) * 3 := by omega
  exact ⟨b, off + n * 3, rfl, by rw [e3]; simpa using h1, by rw [e3]; simpa using h2, by rw [e3]; simpa using h3⟩
theorem checkW_sub (kd : Int) (l m : List A3) (h : ∀ x ∈ m, x ∈ l) (hc : checkW kd l = 0) : checkW kd m = 0 := by
  have hok := checkW_ok kd l hc
  clear hc
  induction m with
  | nil => rfl
  | cons y r ih =>
    unfold checkW
    rw [if_neg (by simp [hok y (h y (by simp))])]
    exact ih (fun x hx => h x (by simp [hx]))
theorem wErr_sub (kd : Int) (l m : List A3) (h : ∀ x ∈ m, x ∈ l) (hn : m.length ≤ l.length) (hc : wErr kd l = 0) : wErr kd m = 0 := by
  unfold wErr at hc ⊢
  split at hc
  · simp at hc
  · rename_i hk
    rw [if_neg hk]
    split at hc
    · simp at hc
    · rw [if_neg (by omega)]
      exact checkW_sub kd l m h hc

theorem doOuts_len (kd s : Int) (l : List A3) (h : wErr kd l = 0) : (doOuts kd s l).length = l.length := by rw [doOuts, if_pos h, wOuts_len]
theorem steps_len (kd s : Int) (l : List A3) (h : wErr kd l = 0) : (stepsAll kd s l).length = l.length := by rw [stepsAll, if_pos h, wSteps_len]
theorem wSteps_last (kd : Int) (l : List A3) : ∀ v, ∀ k (_ : k + 1 = l.length), (wSteps kd v l)[k]? = some (wTo kd v l) := by
  induction l with
  | nil => intro v k h; simp at h
  | cons x r ih =>
    intro v k h
    cases r with
    | nil =>
      have : k = 0 := by simpa using h
      subst this
      rfl
    | cons y r' =>
      obtain ⟨k', rfl⟩ : ∃ k', k = k' + 1 := ⟨k - 1, by simp at h; omega⟩
      have := ih (wStep kd v x) k' (by simpa using h)
      simpa [wSteps, wTo] using this
theorem end_sub (kd s : Int) (n : Nat) (l : List A3) (hk : 1 ≤ kd ∧ kd ≤ 6) (hs : 0 ≤ s ∧ s < 18446744073709551616) (hl : ∀ x ∈ l, x.ok) (he : wErr kd l = 0) (he1 : wErr kd (l.take n) = 0) (he2 : wErr kd (l.drop n) = 0) :
    Canon kd (doEnd kd s (l.take n)) ∧ doEnd kd (doEnd kd s (l.take n)) (l.drop n) = doEnd kd s l ∧ doOuts kd s l = doOuts kd s (l.take n) ++ doOuts kd (doEnd kd s (l.take n)) (l.drop n) := by
  have hc0 : Canon kd (cutW kd s) := canon_cut kd s hk hs
  have hc : Canon kd (wTo kd (cutW kd s) (l.take n)) := canon_to kd _ _ hk hc0 (fun x hx => hl x (List.mem_of_mem_take hx))
  unfold doEnd doOuts
  rw [if_pos he, if_pos he1, if_pos he2, if_pos he, if_pos he1, if_pos he2, cut_of kd _ hc]
  refine ⟨hc, ?_, ?_⟩
  · rw [← wTo_append, List.take_append_drop]
  · rw [← wOuts_append, List.take_append_drop]

theorem app_left {α : Type} {A A1 A2 : List α} (h : A = A1 ++ A2) (j : Nat) (hj : j < A.length) (h1 : j < A1.length) : A1[j] = A[j] := by
  subst h
  rw [List.getElem_append_left]
theorem app_right {α : Type} {A A1 A2 : List α} (h : A = A1 ++ A2) (n j : Nat) (hn : A1.length = n) (hj : j < A.length) (h1 : n ≤ j) (h2 : j - n < A2.length) : A2[j - n] = A[j] := by
  subst h hn
  rw [List.getElem_append_right h1]

theorem neq_same (x : Int × Bool) (w : World) : (binOp .neq 31 (.agg #[.int .u64 x.1, .bool x.2]) (.agg #[.int .u64 x.1, .bool x.2])).run Try.prog w = .ok (.bool false) w := by simp [go_sem]

set_option maxHeartbeats 1000000 in
theorem rows_ok (kd s : Int) (a : Option Addr) (cap : Nat) (l : List A3) (w : World) (hcap : l.length ≤ cap) (hs : 0 ≤ s ∧ s < 18446744073709551616) (hl : ∀ x ∈ l, x.ok) (hz : l.length * 24 ≤ 140737488351232) (hr : ActsW w a l) (he : wErr kd l = 0) (h0 : 0 < l.length) :
    Calls Try.prog 4 #[.int .i64 kd, .int .u64 s, .slice a l.length cap] w fun e w' => e = .returned (.bool true) ∧ Below w.heap.size w w' := by
  obtain ⟨b, off, rfl, _⟩ := hr 0 h0
  obtain ⟨n, hn⟩ : ∃ n, n = l.length / 2 := ⟨_, rfl⟩
  have hcn : n < cap := by omega
  have hcn' : n ≠ cap := by omega
  have hcn2 : cap ≠ n := by omega
  have hcn3 : cap - n ≠ 0 := by omega
  have hn1 : l.length / 2 = n := hn.symm
  have hni : (l.length : Int) / 2 = (n : Int) := by omega
  have hnl : n ≤ l.length := by omega
  have hnl' : (n : Int) ≤ (l.length : Int) := by omega
  have hlt : (l.take n).length = n := by rw [List.length_take]; omega
  have hld : (l.drop n).length = l.length - n := by rw [List.length_drop]
  have he1 := wErr_sub kd l (l.take n) (fun x hx => List.mem_of_mem_take hx) (by omega) he
  have he2 := wErr_sub kd l (l.drop n) (fun x hx => List.mem_of_mem_drop hx) (by omega) he
  obtain ⟨hk, _, _⟩ := err_ok kd l he
  obtain ⟨hm, hE, hA⟩ := end_sub kd s n l hk hs hl he he1 he2
  have hA1 := doOuts_len kd s l he
  have hA2 := doOuts_len kd s _ he1
  rw [hlt] at hA2
  obtain ⟨m, em⟩ : ∃ m, m = doEnd kd s (l.take n) := ⟨_, rfl⟩
  rw [← em] at hm hE hA
  have hA3 := doOuts_len kd m _ he2
  rw [hld] at hA3
  have hS := steps_len kd s l he
  have hml := canon_lt kd m hm
  obtain ⟨k, hk1⟩ : ∃ k, l.length = k + 1 := ⟨l.length - 1, by omega⟩
  have hlast : (stepsAll kd s l)[k]? = some (doEnd kd s l) := by
    rw [stepsAll, doEnd, if_pos he, if_pos he]
    exact wSteps_last kd l _ k hk1.symm
  have Em := Lib.hid em
  have Hm := Lib.hid hml
  have HE := Lib.hid hE
  have HA := Lib.hid hA
  have HA1 := Lib.hid hA1
  have HA2 := Lib.hid hA2
  have HA3 := Lib.hid hA3
  have HS := Lib.hid hS
  have Hlast := Lib.hid hlast
  have Hk1 := Lib.hid hk1
  clear em hm hE hA hA1 hA2 hA3 hS hml hlast hk hk1
  have He1 := Lib.hid he1
  have He2 := Lib.hid he2
  have Hlt := Lib.hid hlt
  have Hld := Lib.hid hld
  have Hr := Lib.hid hr
  have Hl := Lib.hid hl
  have Hl1 := Lib.hid (fun x hx => hl x (List.mem_of_mem_take (i := n) hx))
  have Hl2 := Lib.hid (fun x hx => hl x (List.mem_of_mem_drop (i := n) hx))
  have He := Lib.hid he
  clear hr hl he he1 he2 hlt hld hn
  go_enter Try.func4, Try.ntmps4
  go_wp2_with fail
  refine (known_any _).mono ?_
  rintro e w1 ⟨rfl, b1⟩
  have R1 := Lib.hid (Hr.out.below b1)
  have Hb := Lib.hid b1
  clear b1
  go_wp2_with fail
  refine (our_reads _ _ cap l _ rfl hz R1.out).mono ?_
  rintro e w2 ⟨x, c, rfl, r2, b2⟩
  have R2 := Lib.hid r2
  have R12 := Lib.hid (R1.out.below b2)
  have Hb2 := Lib.hid (Hb.out.trans (b2.mono Hb.out.size))
  clear r2 b2 Hb R1
  go_wp2_with fail
  refine (do_reads kd s _ x c l _ rfl R2.out hs Hl.out).mono ?_
  rintro e w3 ⟨y, c3, rfl, o3, b3⟩
  have Hb3 := Lib.hid (Hb2.out.trans (b3.mono Hb2.out.size))
  have R3 := Lib.hid (R12.out.below b3)
  have O3 := Lib.hid o3
  clear b3 Hb2 R2 R12 o3
  rw [He.out, HA1.out]
  go_wp2_with fail
  refine (our_reads n _ cap (l.take n) _ Hlt.out (by rw [Hlt.out]; omega) (R3.out.take n)).mono ?_
  rintro e w4 ⟨x4, c4, rfl, r4, b4⟩
  have R4 := Lib.hid r4
  have R34 := Lib.hid (R3.out.below b4)
  have O4 := Lib.hid (O3.out.below b4)
  have Hb4 := Lib.hid (Hb3.out.trans (b4.mono Hb3.out.size))
  clear r4 b4 Hb3 R3 O3
  go_wp2_with fail
  refine (do_reads kd s n x4 c4 (l.take n) _ Hlt.out R4.out hs Hl1.out).mono ?_
  rintro e w5 ⟨x5, c5, rfl, o5, b5⟩
  have O5 := Lib.hid o5
  have R5 := Lib.hid (R34.out.below b5)
  have O45 := Lib.hid (O4.out.below b5)
  have Hb5 := Lib.hid (Hb4.out.trans (b5.mono Hb4.out.size))
  clear o5 b5 Hb4 R34 R4 O4
  rw [He1.out, ← Em.out, HA2.out]
  go_wp2_with fail
  refine (our_reads (l.length - n) _ (cap - n) (l.drop n) _ Hld.out (by rw [Hld.out]; omega) (R5.out.drop n)).mono ?_
  rintro e w6 ⟨x6, c6, rfl, r6, b6⟩
  have R6 := Lib.hid r6
  have R56 := Lib.hid (R5.out.below b6)
  have O6 := Lib.hid (O45.out.below b6)
  have P6 := Lib.hid (O5.out.below b6)
  have Hb6 := Lib.hid (Hb5.out.trans (b6.mono Hb5.out.size))
  clear r6 b6 Hb5 R5 O45 O5
  go_wp2_with fail
  refine (do_reads kd m (l.length - n) x6 c6 (l.drop n) _ Hld.out R6.out Hm.out Hl2.out).mono ?_
  rintro e w7 ⟨x7, c7, rfl, o7, b7⟩
  have Q7 := Lib.hid o7
  have R7 := Lib.hid (R56.out.below b7)
  have O7 := Lib.hid (O6.out.below b7)
  have P7 := Lib.hid (P6.out.below b7)
  have Hb7 := Lib.hid (Hb6.out.trans (b7.mono Hb6.out.size))
  clear o7 b7 Hb6 R56 R6 O6 P6
  rw [He2.out, HE.out, HA3.out]
  go_wp2_with fail
  refine (our_reads _ _ cap l _ rfl hz R7.out).mono ?_
  rintro e w8 ⟨x8, c8, rfl, r8, b8⟩
  have R8 := Lib.hid r8
  have O8 := Lib.hid (O7.out.below b8)
  have P8 := Lib.hid (P7.out.below b8)
  have Q8 := Lib.hid (Q7.out.below b8)
  have Hb8 := Lib.hid (Hb7.out.trans (b8.mono Hb7.out.size))
  clear r8 b8 Hb7 R7 O7 P7 Q7
  go_wp2_with fail
  refine (steps_reads kd s _ x8 c8 l _ rfl R8.out hs Hl.out).mono ?_
  rintro e w9 ⟨x9, c9, rfl, s9, b9⟩
  have S9 := Lib.hid s9
  have O9 := Lib.hid (O8.out.below b9)
  have P9 := Lib.hid (P8.out.below b9)
  have Q9 := Lib.hid (Q8.out.below b9)
  have Hb9 := Lib.hid (Hb8.out.trans (b9.mono Hb8.out.size))
  clear s9 b9 Hb8 R8 O8 P8 Q8
  rw [He.out, HS.out]
  obtain ⟨g9, o9, rfl, hc9⟩ := S9.out k (by rw [HS.out, Hk1.out]; omega)
  have hk9 : (stepsAll kd s l)[k]'(by rw [HS.out, Hk1.out]; omega) = doEnd kd s l := by
    have := Hlast.out
    rw [List.getElem?_eq_getElem (by rw [HS.out, Hk1.out]; omega)] at this
    simpa using this
  rw [hk9] at hc9
  have hki : ((l.length : Int) - 1) = (k : Int) := by rw [Hk1.out]; omega
  have hkl : k < l.length := by rw [Hk1.out]; omega
  clear hk9
  go_wp2_with fail
  clear hki hkl hc9
  go_loopw [19] (fun i wr => ∃ j : Nat, j ≤ l.length ∧ i = .int .i64 j ∧ Below w9.heap.size w9 wr) (fun i _ => l.length - (intOf i).toNat)
  case atStart => exact ⟨0, Nat.zero_le _, rfl, Below.refl _ _⟩
  case round =>
    obtain ⟨j, hj, rfl, hbr⟩ := hrel
    have Hbr := Lib.hid hbr
    clear hbr
    by_cases hlt : j < l.length
    · obtain ⟨g1, p1, rfl, q1, q2⟩ := (O9.out.below Hbr.out) j (by rw [HA1.out]; exact hlt)
      by_cases hjn : j < n
      · have e1 := app_left HA.out j (by rw [HA1.out]; exact hlt) (by rw [HA2.out]; exact hjn)
        obtain ⟨g2, p2, rfl, q3, q4⟩ := (P9.out.below Hbr.out) j (by rw [HA2.out]; exact hjn)
        rw [e1] at q3 q4
        generalize (doOuts kd s l)[j]'(by rw [HA1.out]; exact hlt) = ab at q1 q2 q3 q4
        have hj4 : decide ((n : Int) ≤ (j : Int)) = false := by simp; omega
        have hj5 : (j : Int) < (n : Int) := by omega
        have hj6 : decide (n ≤ j) = false := by simp; omega
        have hj7 : j < n := by omega
        have hne := neq_same ab
        clear e1
        clear hjn
        go_wp2_with fail
        go_quiet (fail)
        go_wp2_with fail
        go_roundw
        case rel => exact ⟨j + 1, by omega, by go_num, Hbr.out.trans ((TurnsDrewN (fun _ => False) _ nq).below (fun _ h _ => h.elim) Hbr.out.size)⟩
        case measure => simp [intOf]; omega
      · have e1 := app_right HA.out n j HA2.out (by rw [HA1.out]; exact hlt) (by omega) (by rw [HA3.out]; omega)
        obtain ⟨g2, p2, rfl, q3, q4⟩ := (Q9.out.below Hbr.out) (j - n) (by rw [HA3.out]; omega)
        rw [e1] at q3 q4
        generalize (doOuts kd s l)[j]'(by rw [HA1.out]; exact hlt) = ab at q1 q2 q3 q4
        have hj4 : (n : Int) ≤ (j : Int) := by omega
        have hj5 : decide ((j : Int) < (n : Int)) = false := by simp; omega
        have hj6 : decide (j < n) = false := by simp; omega
        have hj7 : n ≤ j := by omega
        have hji : ((j : Int) - (n : Int)) = ((j - n : Nat) : Int) := by omega
        have hjl : j - n < l.length - n := by omega
        have hne := neq_same ab
        clear e1
        clear hjn
        go_wp2_with fail
        go_quiet (fail)
        go_wp2_with fail
        go_roundw
        case rel => exact ⟨j + 1, by omega, by go_num, Hbr.out.trans ((TurnsDrewN (fun _ => False) _ nq).below (fun _ h _ => h.elim) Hbr.out.size)⟩
        case measure => simp [intOf]; omega
    · go_wp2
      go_ret
      exact ⟨rfl, Hb9.out.trans (Hbr.out.mono Hb9.out.size)⟩

end Go.Proofs.Ytfkhflknigemgaa
