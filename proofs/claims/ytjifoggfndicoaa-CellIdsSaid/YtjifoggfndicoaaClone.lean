/-
  DERIVED. THE WALKS over slices.Clone at []int and the tape's Kinds.
-/
import Derived.Test.YtjifoggfndicoaaPlain
import Derived.Test.YtjifoggfndicoaaTape
namespace Go.Proofs.Ytjifoggfndicoaa
open Go.RowKit
set_option maxRecDepth 100000

set_option maxHeartbeats 400000 in
theorem clone_any (base : Nat) (v : Value) (xs : List Int) (w : World) (hr : RowI w base v xs) (hlen : xs.length * 8 ≤ 140737488355328) :
    Calls Try.prog 54 #[v] w fun e w' => ∃ v', e = .returned v' ∧ RowI w' w.heap.size v' xs ∧ Below w.heap.size w w' := by
  obtain ⟨i0, hi, hz0, hz1, hz2⟩ := info_parts info_int
  rcases hr.2 with ⟨rfl, hn⟩ | ⟨g, cap, cur, rfl, hb, hg, h1, h2, h3, h4⟩
  · have hx : xs = [] := List.eq_nil_of_length_eq_zero hn
    subst hx
    have he := fun w => Lib.run_eql_slice_nil (P := Try.prog) w 22 3 none 0 0 0 0 Try.underlying22
    go_enter Try.func54, Try.ntmps54
    go_wp2
    go_ret
    exact ⟨_, rfl, World.ownsRow_nil _ _ _ _, Below.refl _ _⟩
  · have he := fun w => Lib.run_eql_slice_nil (P := Try.prog) w 22 3 (some ⟨g, 0, none⟩) xs.length cap 0 0 Try.underlying22
    have hlt := heap_lt hg
    have hnews : ∀ j u, (xs.map (Value.int .i64))[j]? = some u → (w.alloc (.cells #[] 3)).cell? ((⟨g, 0, none⟩ : Addr).add j) = some u := fun j u hu => by
      have h5 := hr.cells (g := g) rfl j u hu
      have hadd : (⟨g, 0, none⟩ : Addr).add j = ⟨g, j, none⟩ := by unfold Addr.add; split <;> simp_all
      rw [hadd] at h5 ⊢
      rw [World.cell?_alloc_past _ _ _ hlt]
      exact h5
    have hm0 : (w.alloc (.cells #[] 3)).ownsRow w.heap.size 3 1 (.slice (some ⟨w.heap.size, 0, none⟩) 0 0) 0 [] := World.ownsRow_made w #[] 0 (Nat.le_refl _) (Nat.zero_le _) rfl
    have H1 := Lib.hid hnews
    have H2 := Lib.hid hm0
    clear hnews hm0 hg h1 h2 h3 h4
    go_enter Try.func54, Try.ntmps54
    go_wp2_with (at_builtin; refine wpList_append_own _ rfl _ _ 22 rfl w.heap.size 3 i0 (.int .i64 0) 1 8 Try.underlying22 hi hz0 hz1 hz2 rfl (by decide) _ 0 [] rfl H2.out ⟨g, 0, none⟩ xs.length cap (xs.map (Value.int .i64)) rfl (by simp) H1.out (ints_oneCell _ _) (by unfold maxLen; omega) (by omega) (by simp) ?_)
    intro v' w1 hown1 hgr _
    try rw [Nat.zero_add, List.nil_append] at hown1
    have Ho := Lib.hid hown1
    have Hg := Lib.hid hgr
    clear hown1 hgr
    go_wp2
    go_ret
    refine ⟨_, rfl, Ho.out, ((Below.refl _ _).alloc (Nat.le_refl _) _).grown Hg.out (by simp) (fun k hk => ?_)⟩
    simp [Value.ownBlock] at hk
    omega

/-- what the tape noted, as new memory. -/
theorem kinds_any (base tb : Nat) (v : Value) (ks : List Int) (w : World) (h : TapeAt w base tb v ks) (hlen : ks.length * 8 ≤ 140737488355328) :
    Calls Try.prog 20 #[.pointer (some ⟨tb, 0, none⟩)] w fun e w' => ∃ v', e = .returned v' ∧ RowI w' w.heap.size v' ks ∧ Below w.heap.size w w' := by
  have hc : w.cell? ⟨tb, 0, none⟩ = some v := cell_of_heap h.blk (by simp)
  have Hrow := Lib.hid h.row
  clear h
  go_enter Try.func20, Try.ntmps20
  go_wp2_with (go_at_call 54; refine (clone_any base _ ks _ Hrow.out (by omega)).mono ?_; rintro e w1 ⟨v', rfl, h1, h2⟩)
  go_ret
  exact ⟨_, rfl, h1, h2⟩

end Go.Proofs.Ytjifoggfndicoaa
