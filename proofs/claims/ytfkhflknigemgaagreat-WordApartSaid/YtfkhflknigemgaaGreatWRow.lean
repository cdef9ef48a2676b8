/-
  DERIVED. THE WALKS over word's Do and Steps.
-/
import Derived.Test.YtfkhflknigemgaaGreatWCheck
import Derived.Deep.AppendLies
namespace Go.Proofs.YtfkhflknigemgaaGreat
open Go.RowKit
set_option maxRecDepth 100000

theorem info_out : (Tryz.prog.info? 44).map (fun i => (i.zero, i.size, i.bytes)) = some (some (.agg #[.int .u64 0, .bool false]), 2, 16) := by kernel_rfl

/-- what Do leaves. -/
def DoRow (w : World) (kd s : Int) (l : List A3) (e : Ending) (w' : World) : Prop :=
  ∃ v, e = .returned (.tuple #[v, .int .u64 (doEnd kd s l), .int .i64 (wErr kd l)]) ∧ RowO w' w.heap.size v (doOuts kd s l) ∧ Below w.heap.size w w'

set_option maxHeartbeats 1000000 in
theorem do_bad (kd s : Int) (a : Option Addr) (cap : Nat) (l : List A3) (w : World) (hr : ActsW w a l) (he : wErr kd l ≠ 0) :
    Calls Tryz.prog 8 #[.int .i64 kd, .int .u64 s, .slice a l.length cap] w (DoRow w kd s l) := by
  have Hr := Lib.hid hr
  have he' : (wErr kd l != 0) = true := by simpa using he
  have He := Lib.hid he
  clear hr he
  go_enter Tryz.func8, Tryz.ntmps8
  go_wp2_with (go_at_call 27; refine (check_any kd _ cap l _ Hr.out).mono ?_; rintro e w1 ⟨rfl, hb⟩)
  refine bodyPost_ret (v := .tuple #[.slice none 0 0, .int .u64 0, .int .i64 (wErr kd l)]) (by simp [results, Tryz.results8, go_sem]) rfl ⟨.slice none 0 0, ?_, ?_, hb⟩
  · rw [doEnd, if_neg He.out]
  · rw [doOuts, if_neg He.out]; exact World.ownsRow_nil _ _ _ _

section
variable {P : Program} {w : World}
theorem wpList_append_oneH {ops : Array Oper} {rest : List Oper} {o : Oper} {a : Act} {Q : Exit → Act → World → Prop} (hgd : o.guard = none) (s x : Operand) (t : TypeId)
    (ho : o.op = .call { callee := .builtin .append, args := #[s, x], argTypes := #[t, t] })
    (base : Nat) (e : TypeId) (i : TypeInfo) (z : Value) (size bytes : Nat) (ht : P.underlying t = some (.slice e)) (hi : P.info? e = some i) (hz : i.zero = some z)
    (hsize : i.size = size) (hby : i.bytes = bytes) (hzs : z.cells.size = size) (hsz : 0 < size) (hbp : 0 < bytes)
    (v : Value) (n : Nat) (xs us : List Value) (hs : a.eval s = v) (hown : w.ownsRow base e size v n xs) (H : Nat) (hH : w.heap.size = H) (hx : a.eval x = .slice (some ⟨H, 0, none⟩) 1 1)
    (hl : us.length = size) (h1 : ∀ u ∈ us, u.oneCell' = true) (hbytes : (n + 1) * bytes ≤ 140737488355328) (hbase : base ≤ w.heap.size)
    (h : ∀ v' w', w'.ownsRow base e size v' (n + 1) (xs ++ us) → Turns (fun k => v.ownBlock = some k) w w' → (∀ g, v'.ownBlock = some g → v.ownBlock = some g ∨ w.heap.size ≤ g) → wpList P ops Q rest (a.put o.dst v') w') :
    wpList P ops Q (o :: rest) a (w.alloc (.cells us.toArray e)) := by
  subst hH
  exact wpList_append_one hgd s x t ho base e i z size bytes ht hi hz hsize hby hzs hsz hbp v n xs us hs hown hx hl h1 hbytes hbase h
end

theorem outs_step (kd v : Int) (l : List A3) (j : Nat) (h : j < l.length) : outCellsOf (wOuts kd v (l.take (j + 1))) = outCellsOf (wOuts kd v (l.take j)) ++ [.int .u64 (wVal kd (wTo kd v (l.take j)) l[j].k l[j].a), .bool (wOk kd (wTo kd v (l.take j)) l[j].k l[j].a)] := by
  rw [wOuts_snoc kd v l j h, outCellsOf_snoc]
  rfl

/-- the round's invariant. -/
structure InvW (w : World) (kd v : Int) (l : List A3) (bl B : Nat) (j : Nat) (wr : World) : Prop where
  below : Below w.heap.size w wr
  holds : Holds wr kd bl (wTo kd v (l.take j))
  size : B ≤ wr.heap.size
  low : w.heap.size ≤ bl ∧ bl < B

/-- a round: behind the access, two new blocks (at most) and an append. -/
theorem InvW.step {w : World} {kd v : Int} {l : List A3} {bl B j : Nat} {wr w3 w4 : World} {o : Obj} {u : Value} (h : InvW w kd v l bl B j wr) (hj : j < l.length) (hu : ∀ g, u.ownBlock = some g → B ≤ g)
    (t3 : Turns (fun i => i = bl) (wr.alloc o) w3) (h3 : Holds w3 kd bl (wNew kd (wTo kd v (l.take j)) l[j].k l[j].a l[j].b)) (t4 : Turns (fun k => u.ownBlock = some k) w3 w4) : InvW w kd v l bl B (j + 1) w4 := by
  have hl := h.low
  have ta : Turns (fun i => i = bl ∨ u.ownBlock = some i) wr w4 := ((Turns.alloc _ wr _).trans (t3.mono (fun _ _ h => Or.inl h))).trans (t4.mono (fun _ _ h => Or.inr h))
  refine ⟨h.below.trans (ta.below (fun k hk _ => ?_) h.below.size), ?_, Nat.le_trans h.size ta.size, hl⟩
  · rcases hk with rfl | hk
    · exact hl.1
    · have := hu k hk; omega
  · rw [wTo_snoc kd v l j hj]
    exact h3.turns t4 (fun e => by have := hu _ e; omega)

set_option maxHeartbeats 1000000 in
theorem do_ok (kd s : Int) (a : Option Addr) (cap : Nat) (l : List A3) (w : World) (hr : ActsW w a l) (hs : 0 ≤ s ∧ s < 18446744073709551616) (hl : ∀ x ∈ l, x.ok) (he : wErr kd l = 0) (hk : 1 ≤ kd ∧ kd ≤ 6) (hn : l.length ≤ 10000) (hc : ∀ x ∈ l, canW kd x.k = true) :
    Calls Tryz.prog 8 #[.int .i64 kd, .int .u64 s, .slice a l.length cap] w (DoRow w kd s l) := by
  obtain ⟨i0, hi0, hz0, hz1, hz2⟩ := info_parts info_out
  have Hr := Lib.hid hr
  have Hl := Lib.hid hl
  have Hc := Lib.hid hc
  have he' : (wErr kd l != 0) = false := by simpa using he
  have He := Lib.hid he
  clear hr hl he hc
  go_enter Tryz.func8, Tryz.ntmps8
  go_wp2_with (first | (go_at_call 27; refine (check_any kd _ cap l _ Hr.out).mono ?_; rintro e w1 ⟨rfl, hb⟩) | (go_at_call 28; refine (holding_any kd s hk hs _).mono ?_; rintro e w2 ⟨bl, rfl, hbl, hh, ht⟩))
  have hm := box_method kd bl hk
  have hent := box_enter kd hk
  have hlt0 := heap_lt hh.blk
  have hbw : Below w.heap.size w w2 := hb.trans (ht.below (fun _ h _ => h.elim) hb.size)
  have hinv : InvW w kd (cutW kd s) l bl w2.heap.size 0 w2 := ⟨hbw, hh, Nat.le_refl _, Nat.le_trans hb.size hbl, hlt0⟩
  obtain ⟨B, hB⟩ : ∃ B, B = w2.heap.size := ⟨_, rfl⟩
  rw [← hB] at hinv
  have Hi := Lib.hid hinv
  clear hb ht hbl hbw hh hB hlt0 hinv
  go_loopw [11, 26] (fun v i wr => ∃ j : Nat, j ≤ l.length ∧ i = .int .i64 j ∧ InvW w kd (cutW kd s) l bl B j wr ∧ wr.ownsRow B 44 2 v j (outCellsOf (wOuts kd (cutW kd s) (l.take j)))) (fun _ i _ => l.length - (intOf i).toNat)
  case atStart => exact ⟨0, Nat.zero_le _, rfl, Hi.out, World.ownsRow_nil _ _ _ _⟩
  case round =>
    obtain ⟨j, hj, rfl, hinv, hown⟩ := hrel
    clear Hi
    by_cases hlt : j < l.length
    · obtain ⟨b, off, rfl, h1, h2, h3⟩ := (Hr.out.below hinv.below) j hlt
      have Hi := Lib.hid hinv
      have Ho := Lib.hid hown
      have Hcj := Lib.hid (Hc.out l[j] (List.getElem_mem hlt))
      have Hok := Lib.hid (Hl.out l[j] (List.getElem_mem hlt))
      clear hinv hown
      go_wp2_with fail
      refine (box_do kd bl (wTo kd (cutW kd s) (l.take j)) l[j].k l[j].a l[j].b _ (Hi.out.holds.turns (Turns.alloc (fun _ => False) wr _) (fun h => h)) Hcj.out Hok.out.1 Hok.out.2).mono ?_
      rintro e w3 ⟨rfl, t3, hh3⟩
      have hblt := heap_lt Hi.out.holds.blk
      have q3 := t3.heap (heap_alloc_new wr _) (show ¬ wr.heap.size = bl by omega)
      have q30 : w3.cell? ⟨wr.heap.size, 0, none⟩ = some (.int .i64 l[j].k) := cell_of_heap q3 rfl
      have q31 := heap_lt q3
      have hus : ∀ g, u11.ownBlock = some g → B ≤ g := fun g hg => (Ho.out.lt g hg).1
      have hune : ∀ k, u11.ownBlock = some k → ¬ k = bl := fun k hg e => by have := hus k hg; have := Hi.out.low.2; omega
      have hown3 := t3.row (Ho.out.alloc _) hune
      have hs3 : B ≤ w3.heap.size := by have := Hi.out.size; have := t3.size; simp at this; omega
      have Hown3 := Lib.hid hown3
      have Hus := Lib.hid hus
      have T3 := Lib.hid t3
      have Hh3 := Lib.hid hh3
      clear t3 hh3 q3 hown3 hus hune Ho
      by_cases h2k : l[j].k = 2
      · have h2' : (l[j].k == 2) = true := by simpa using h2k
        go_wp2_with (at_builtin; refine wpList_append_oneH rfl _ _ 29 rfl B 44 i0 (.agg #[.int .u64 0, .bool false]) 2 16 Tryz.underlying29 hi0 hz0 hz1 hz2 rfl (by decide) (by decide) u11 j _ [_, _] rfl (Hown3.out.alloc _) (w3.heap.size + 1) (by simp) rfl rfl (by simp [Value.oneCell']) (by omega) (by simp; omega) ?_)
        intro v' w4 g1 g2 g3
        go_wp2
        go_roundw
        case rel =>
          refine ⟨j + 1, by omega, by go_num, Hi.out.step hlt Hus.out T3.out Hh3.out ((Turns.alloc _ w3 _).trans g2), ?_⟩
          rw [outs_step kd _ l j hlt, h2k, show ∀ x y, wVal kd x 2 y = 0 from fun x y => by simp [wVal]]
          exact g1
        case measure => simp [intOf]; omega
      · have h2' : (l[j].k == 2) = false := by simpa using h2k
        go_wp2_with (at_builtin; refine wpList_append_oneH rfl _ _ 29 rfl B 44 i0 (.agg #[.int .u64 0, .bool false]) 2 16 Tryz.underlying29 hi0 hz0 hz1 hz2 rfl (by decide) (by decide) u11 j _ [_, _] rfl (Hown3.out.alloc _) (w3.heap.size + 1) (by simp) rfl rfl (by simp [Value.oneCell']) (by omega) (by simp; omega) ?_)
        intro v' w4 g1 g2 g3
        go_wp2
        go_roundw
        case rel =>
          refine ⟨j + 1, by omega, by go_num, Hi.out.step hlt Hus.out T3.out Hh3.out ((Turns.alloc _ w3 _).trans g2), ?_⟩
          rw [outs_step kd _ l j hlt]
          exact g1
        case measure => simp [intOf]; omega
    · obtain rfl : j = l.length := by omega
      rw [List.take_length] at hown
      have hh := hinv.holds
      rw [List.take_length] at hh
      obtain ⟨va, vc, rfl⟩ := row_shape hown
      have Hi := Lib.hid hinv
      have Ho := Lib.hid hown
      have Hh := Lib.hid hh
      clear hinv hown hh
      go_wp2_with (go_at_call 29; refine (load_any kd bl _ _ Hh.out).mono ?_; rintro e w3 ⟨rfl, t3, h3⟩)
      refine bodyPost_ret (v := .tuple #[.slice va l.length vc, .int .u64 (wTo kd (cutW kd s) l), .int .i64 0]) (by simp [results, Tryz.results8, go_sem]) rfl ⟨.slice va l.length vc, ?_, ?_, ?_⟩
      · rw [doEnd, if_pos He.out, He.out]
      · have hlow := Hi.out.low
        have h5 := row_base (t3.row Ho.out (fun k hg e => by have := (Ho.out.lt k hg).1; omega)) (base' := w.heap.size) (by omega)
        rw [doOuts, if_pos He.out]
        unfold RowO
        rw [wOuts_len]
        exact h5
      · exact Hi.out.below.trans (t3.below (fun k e _ => by have := Hi.out.low; omega) Hi.out.below.size)

theorem err_ok (kd : Int) (l : List A3) (h : wErr kd l = 0) : (1 ≤ kd ∧ kd ≤ 6) ∧ l.length ≤ 10000 ∧ ∀ x ∈ l, canW kd x.k = true := by
  unfold wErr at h
  split at h
  · simp at h
  · rename_i hk
    split at h
    · simp at h
    · exact ⟨by simpa [isW] using hk, by omega, checkW_ok kd l h⟩

theorem do_any (kd s : Int) (a : Option Addr) (cap : Nat) (l : List A3) (w : World) (hr : ActsW w a l) (hs : 0 ≤ s ∧ s < 18446744073709551616) (hl : ∀ x ∈ l, x.ok) :
    Calls Tryz.prog 8 #[.int .i64 kd, .int .u64 s, .slice a l.length cap] w (DoRow w kd s l) := by
  by_cases he : wErr kd l = 0
  · obtain ⟨h1, h2, h3⟩ := err_ok kd l he
    exact do_ok kd s a cap l w hr hs hl he h1 h2 h3
  · exact do_bad kd s a cap l w hr he

end Go.Proofs.YtfkhflknigemgaaGreat
