/-
  DERIVED. THE WALKS over the reference's Bad, Copy, kinds, Nums, and larchlaw02's to, plain.
-/
import Derived.Test.YtjifoggfndicoaaOne
import Derived.Test.YtjifoggfndicoaaClone
import Derived.Test.YtjifoggfndicoaaAwake
import Derived.Deep.RegionHeld3
import Derived.Deep.AppendLies
namespace Go.Proofs.Ytjifoggfndicoaa
open Go.RowKit
set_option maxRecDepth 100000

theorem plain_any (a b : Int) (w : World) : Calls Try.prog 14 #[.int .i64 a, .int .i64 b] w fun e w' => e = .returned (.bool (a == b)) ∧ w = w' := by
  go_enter Try.func14, Try.ntmps14
  go_wp2
  go_ret
  exact ⟨rfl, rfl⟩

/-- 'append([]int{}, l...)': as new memory. -/
theorem copy_any (a : Option Addr) (cap : Nat) (xs : List Int) (w : World) (hr : IntsIn w a xs) (hlen : xs.length * 8 ≤ 140737488355328) :
    Calls Try.prog 46 #[.slice a xs.length cap] w fun e w' => ∃ g c, e = .returned (.slice (some ⟨g, 0, none⟩) xs.length c) ∧ RowI w' w.heap.size (.slice (some ⟨g, 0, none⟩) xs.length c) xs ∧ Below w.heap.size w w' := by
  obtain ⟨i0, hi, hz0, hz1, hz2⟩ := info_parts info_int
  have hm0 : (w.alloc (.cells #[] 3)).ownsRow w.heap.size 3 1 (.slice (some ⟨w.heap.size, 0, none⟩) 0 0) 0 [] := World.ownsRow_made w #[] 0 (Nat.le_refl _) (Nat.zero_le _) rfl
  rcases a with _ | ad
  · have hx : xs = [] := by
      cases xs with
      | nil => rfl
      | cons x r => obtain ⟨_, _, h, _⟩ := hr 0 (by simp); cases h
    subst hx
    have H2 := Lib.hid hm0
    clear hm0 hr
    go_enter Try.func46, Try.ntmps46
    go_wp2
    go_ret
    exact ⟨_, _, rfl, H2.out, (Below.refl _ _).alloc (Nat.le_refl _) _⟩
  · have hnews : ∀ j u, (xs.map (Value.int .i64))[j]? = some u → (w.alloc (.cells #[] 3)).cell? (ad.add j) = some u := fun j u hu => by
      have hj : j < xs.length := by
        rcases Nat.lt_or_ge j xs.length with h | h
        · exact h
        · rw [List.getElem?_eq_none (by simpa using h)] at hu; cases hu
      obtain ⟨b, off, h1, h2⟩ := hr j hj
      injection h1 with h1
      subst h1
      have hadd : (⟨b, off, none⟩ : Addr).add j = ⟨b, off + j, none⟩ := by unfold Addr.add; split <;> simp_all
      rw [hadd]
      have h3 : u = .int .i64 xs[j] := by simpa [hj] using hu.symm
      rw [h3]
      exact boxed_cell h2 _
    have H1 := Lib.hid hnews
    have H2 := Lib.hid hm0
    clear hnews hm0 hr
    go_enter Try.func46, Try.ntmps46
    go_wp2_with (at_builtin; refine wpList_append_own _ rfl _ _ 22 rfl w.heap.size 3 i0 (.int .i64 0) 1 8 Try.underlying22 hi hz0 hz1 hz2 rfl (by decide) _ 0 [] rfl H2.out ad xs.length cap (xs.map (Value.int .i64)) rfl (by simp) H1.out (ints_oneCell _ _) (by unfold maxLen; omega) (by omega) (by simp) ?_)
    intro v' w1 hown1 hgr hnn
    try rw [Nat.zero_add, List.nil_append] at hown1
    have hsh : ∃ g c, v' = .slice (some ⟨g, 0, none⟩) xs.length c := by
      rcases hown1.2 with ⟨h1, h2⟩ | ⟨g, c, cur, h1, _⟩
      · exact absurd h1 (by simpa using hnn)
      · exact ⟨g, c, h1⟩
    obtain ⟨g, c, rfl⟩ := hsh
    have Ho := Lib.hid hown1
    have Hg := Lib.hid hgr
    clear hown1 hgr hnn
    go_wp2
    go_ret
    refine ⟨_, _, rfl, Ho.out, ((Below.refl _ _).alloc (Nat.le_refl _) _).grown Hg.out (by simp) (fun k hk => ?_)⟩
    simp [Value.ownBlock] at hk
    omega

theorem known7_no {k : Int} (h : k < 1 ∨ 7 < k) : known7 k = false := by simp [known7]; omega
theorem known7_yes {k : Int} (h : ¬ (k < 1 ∨ 7 < k)) : known7 k = true := by simp [known7]; omega
theorem ret_i {k : IntKind} {a b : Int} (h : a = b) : Ending.returned (.int k a) = .returned (.int k b) := by rw [h]

set_option maxHeartbeats 1000000 in
theorem bad_any (cells : Int) (a : Option Addr) (cap : Nat) (l : List A4) (w : World) (hn : l.length ≤ 9223372036854775807) (hr : ActsIn w a l) :
    Calls Try.prog 45 #[.int .i64 cells, .slice a l.length cap] w fun e w' => e = .returned (.int .i64 (checkNums cells l)) ∧ w = w' := by
  have Hr := Lib.hid hr
  clear hr
  go_enter Try.func45, Try.ntmps45
  go_wp2_with fail
  go_loop [5] (fun i => ∃ j : Nat, j ≤ l.length ∧ i = .int .i64 j ∧ Hid (checkNums cells (l.drop j) = checkNums cells l)) (fun i => l.length - (intOf i).toNat)
  case atStart => exact ⟨0, Nat.zero_le _, rfl, rfl⟩
  case round =>
    obtain ⟨j, hj, rfl, hspec⟩ := hrel
    by_cases hlt : j < l.length
    · obtain ⟨b, off, rfl, h1, h2, h3, h4⟩ := Hr.out j hlt
      have Hs := Lib.hid ((checkNums_cons cells l j hlt).symm.trans hspec.out)
      clear hspec h3 h4
      by_cases hk : l[j].k < 1 ∨ 7 < l[j].k
      · have H5 := Lib.hid (show 5 = checkNums cells l by have := Hs.out; rw [if_pos (known7_no hk)] at this; exact this)
        go_wp2_with fail
        all_goals (go_ret; exact ⟨ret_i H5.out, rfl⟩)
      · by_cases ha : l[j].at_ < 0 ∨ cells ≤ l[j].at_
        · have H5 := Lib.hid (show 1 = checkNums cells l by have := Hs.out; rw [known7_yes hk, if_neg (by simp), if_pos ha] at this; exact this)
          go_wp2_with fail
          all_goals (go_ret; exact ⟨ret_i H5.out, rfl⟩)
        · have H5 := Lib.hid (show checkNums cells (l.drop (j + 1)) = checkNums cells l by have := Hs.out; rw [known7_yes hk, if_neg (by simp), if_neg ha] at this; exact this)
          go_wp2_with fail
          all_goals
            go_round
            case rel => exact ⟨j + 1, by omega, by go_num, H5.out⟩
            case measure => simp [intOf]; omega
    · have H5 := Lib.hid (show 0 = checkNums cells l by rw [← hspec.out, List.drop_eq_nil_of_le (by omega)]; rfl)
      clear hspec
      go_wp2
      go_ret
      exact ⟨ret_i H5.out, rfl⟩

set_option maxHeartbeats 1000000 in
theorem kinds_ref (a : Option Addr) (cap : Nat) (l : List A4) (w : World) (hn : l.length * 8 ≤ 140737488351232) (hr : ActsIn w a l) :
    Calls Try.prog 47 #[.slice a l.length cap] w fun e w' => ∃ v, e = .returned v ∧ RowI w' w.heap.size v (l.map (·.k)) ∧ Below w.heap.size w w' := by
  obtain ⟨i0, hi0, hz0, hz1, hz2⟩ := info_parts info_int
  have Hr := Lib.hid hr
  clear hr
  go_enter Try.func47, Try.ntmps47
  go_wp2_with fail
  go_loopw [3, 4] (fun v i wr => ∃ j : Nat, j ≤ l.length ∧ i = .int .i64 j ∧ Below w.heap.size w wr ∧ wr.ownsRow w.heap.size 3 1 v j ((l.take j).map fun x => Value.int .i64 x.k)) (fun _ i _ => l.length - (intOf i).toNat)
  case atStart => exact ⟨0, Nat.zero_le _, rfl, Below.refl _ _, World.ownsRow_nil _ _ _ _⟩
  case round =>
    obtain ⟨j, hj, rfl, hb, hown⟩ := hrel
    by_cases hlt : j < l.length
    · obtain ⟨b, off, rfl, h1, _, _, _⟩ := (Hr.out.below hb) j hlt
      have hbs := hb.size
      have Hb := Lib.hid hb
      have Ho := Lib.hid hown
      clear hb hown
      go_wp2_with (at_builtin; refine wpList_append_one rfl _ _ 22 rfl w.heap.size 3 i0 (.int .i64 0) 1 8 Try.underlying22 hi0 hz0 hz1 hz2 rfl (by decide) (by decide) u3 j _ [.int .i64 l[j].k] rfl Ho.out rfl rfl (by simp [Value.oneCell']) (by omega) hbs ?_)
      intro v' w1 g1 g2 g3
      have Hb1 := Lib.hid (Hb.out.trans (g2.below (fun k hk _ => (Ho.out.lt k hk).1) Hb.out.size))
      have Hg := Lib.hid g1
      clear g1 g2 g3
      go_wp2
      go_roundw
      case rel =>
        refine ⟨j + 1, by omega, by go_num, Hb1.out, ?_⟩
        have := Hg.out
        rw [List.take_succ_eq_append_getElem hlt, List.map_append, List.map_take]
        exact this
      case measure => simp [intOf]; omega
    · obtain rfl : j = l.length := by omega
      have Hb := Lib.hid hb
      have Ho := Lib.hid hown
      clear hb hown
      go_wp2
      go_ret
      refine ⟨_, rfl, ?_, Hb.out⟩
      have := Ho.out
      rw [List.take_length] at this
      show World.ownsRow _ _ _ _ _ _ _
      rw [List.length_map, List.map_map]
      exact this

/-- THE REFERENCE's LOOP: what holds when l of the acts have been done on its copy. -/
structure R2 (w : World) (cells : List Int) (l : List A4) (g c : Nat) (ov : Value) (wx : World) : Prop where
  below : Below w.heap.size w wx
  now : wx.ownsRow w.heap.size 3 1 (.slice (some ⟨g, 0, none⟩) cells.length c) cells.length ((numTo cells l).2.map (Value.int .i64))
  out : wx.ownsRow w.heap.size 3 1 ov l.length ((numTo cells l).1.map (Value.int .i64))
  ne : ov.ownBlock ≠ some g

/-- a row's own block. -/
theorem row_block {w : World} {base : Nat} {e : TypeId} {n g c : Nat} {xs : List Value} (h : w.ownsRow base e 1 (.slice (some ⟨g, 0, none⟩) n c) n xs) :
    ∃ cur : Array Value, w.heap[g]? = some (.cells cur e (0, 0)) ∧ n ≤ c ∧ c ≤ maxLen ∧ cur.size = c ∧ cur.toList.take n = xs ∧ base ≤ g := by
  rcases h.2 with ⟨h1, _⟩ | ⟨g', cap, cur, h1, h2, h3, h4, h5, h6, h7⟩
  · cases h1
  · injection h1 with e1 e2 e3
    injection e1 with e1
    injection e1 with e1
    subst e1 e3
    exact ⟨cur, h3, h4, h5, by simpa using h6, by simpa using h7, h2⟩

theorem row_set {w : World} {base : Nat} {e : TypeId} {n g c m : Nat} {xs : List Value} (h : w.ownsRow base e 1 (.slice (some ⟨g, 0, none⟩) n c) n xs) (u : Value) :
    (w.setCell ⟨g, m, none⟩ u).ownsRow base e 1 (.slice (some ⟨g, 0, none⟩) n c) n (xs.set m u) := by
  obtain ⟨cur, h1, h2, h3, h4, h5, h6⟩ := row_block h
  refine ⟨by rw [List.length_set]; exact h.1, .inr ⟨g, c, _, rfl, h6, heap_setCell h1 u, h2, h3, by simpa using h4, ?_⟩⟩
  rw [Nat.mul_one, Array.toList_setIfInBounds, ← h5, List.take_set]

theorem row_cell {w : World} {base : Nat} {e : TypeId} {n g c m : Nat} {xs : List Value} (h : w.ownsRow base e 1 (.slice (some ⟨g, 0, none⟩) n c) n xs) {u : Value} (hu : xs[m]? = some u) : w.cell? ⟨g, m, none⟩ = some u := by
  have := h.cells (g := g) rfl m u hu
  have hadd : (⟨g, 0, none⟩ : Addr).add m = ⟨g, m, none⟩ := by unfold Addr.add; split <;> simp_all
  rwa [hadd] at this

theorem R2.step {w wx w3 : World} {cells : List Int} {l : List A4} {g c m : Nat} {ov ov' : Value} {x : A4} {o : Obj} (h : R2 w cells l g c ov wx) (hm : x.at_ = (m : Int))
    (g1 : w3.ownsRow w.heap.size 3 1 ov' (l.length + 1) ((numTo cells l).1.map (Value.int .i64) ++ [.int .i64 (numAns x.k ((numTo cells l).2.getD m 0) x.a)]))
    (g2 : Turns (fun k => ov.ownBlock = some k) ((wx.alloc o).setCell ⟨g, m, none⟩ (.int .i64 (numNew x.k ((numTo cells l).2.getD m 0) x.a x.b))) w3)
    (g3 : ∀ b, ov'.ownBlock = some b → ov.ownBlock = some b ∨ wx.heap.size ≤ b) : R2 w cells (l ++ [x]) g c ov' w3 := by
  have hst := numTo_step cells l x
  have hmt : x.at_.toNat = m := by rw [hm]; rfl
  have hg := (h.now.lt g rfl)
  have hT := ((Turns.alloc (fun k => k = g ∨ ov.ownBlock = some k) wx o).trans (Turns.setCell _ (a := ⟨g, m, none⟩) (.inl rfl) (.int .i64 (numNew x.k ((numTo cells l).2.getD m 0) x.a x.b)))).trans (g2.mono (fun _ _ h => .inr h))
  refine ⟨h.below.trans (hT.below (fun k hk _ => ?_) h.below.size), ?_, ?_, ?_⟩
  · rcases hk with hk | hk
    · omega
    · exact (h.out.lt k hk).1
  · rw [hst]
    simp only [numStep, hmt, List.map_set]
    exact g2.row (row_set ((Turns.alloc (fun _ => False) wx o).row h.now (fun _ _ h => h)) _) (fun k hk e => h.ne (by simp only [Value.ownBlock, Option.some.injEq] at hk; rw [hk]; exact e))
  · rw [hst]
    simp only [numStep, hmt, List.map_append, List.length_append, List.length_cons, List.length_nil]
    exact g1
  · intro e
    rcases g3 g e with h5 | h5
    · exact h.ne h5
    · omega

/-- what the reference's Nums leaves. -/
def RefPost (w : World) (cells : List Int) (acts : List A4) (e : Ending) (w' : World) : Prop :=
  ∃ v1 v2 v3, e = .returned (.tuple #[v1, v2, v3, .int .i64 (numsErr cells acts)]) ∧ RowI w' w.heap.size v1 (numsAns cells acts) ∧ RowI w' w.heap.size v2 (numsEnd cells acts) ∧ RowI w' w.heap.size v3 (numsKinds cells acts) ∧ Below w.heap.size w w'

theorem refnums_none (w : World) (cells : List Int) (acts : List A4) (h : numsErr cells acts ≠ 0) : RefPost w cells acts (.returned (.tuple #[.slice none 0 0, .slice none 0 0, .slice none 0 0, .int .i64 (numsErr cells acts)])) w := by
  refine ⟨_, _, _, rfl, ?_, ?_, ?_, Below.refl _ _⟩
  · rw [numsAns, if_neg h]; exact World.ownsRow_nil _ _ _ _
  · rw [numsEnd, if_neg h]; exact World.ownsRow_nil _ _ _ _
  · rw [numsKinds, if_neg h]; exact World.ownsRow_nil _ _ _ _

set_option maxHeartbeats 400000 in
theorem refnums_bad (ca aa : Option Addr) (cc ac : Nat) (cells : List Int) (acts : List A4) (w : World) (hne : numsErr cells acts ≠ 0) (hr : ActsIn w aa acts) :
    Calls Try.prog 11 #[.slice ca cells.length cc, .slice aa acts.length ac] w (RefPost w cells acts) := by
  have hp := refnums_none w cells acts hne
  have Hp := Lib.hid hp
  have Hr := Lib.hid hr
  clear hp hr
  by_cases h1 : 64 < cells.length
  · have he : numsErr cells acts = 2 := by rw [numsErr, if_pos (.inl h1)]
    rw [he] at Hp
    clear hne he
    have h1' : (64 : Int) < (cells.length : Int) := by omega
    go_enter Try.func11, Try.ntmps11
    go_wp2_with fail
    all_goals exact bodyPost_ret (v := .tuple #[.slice none 0 0, .slice none 0 0, .slice none 0 0, .int .i64 2]) (by simp [results, Try.results11, go_sem]) rfl Hp.out
  · have h1' : ¬ (64 : Int) < (cells.length : Int) := by omega
    by_cases h2 : 1000 < acts.length
    · have he : numsErr cells acts = 2 := by rw [numsErr, if_pos (.inr h2)]
      rw [he] at Hp
      clear hne he
      have h2' : (1000 : Int) < (acts.length : Int) := by omega
      go_enter Try.func11, Try.ntmps11
      go_wp2_with fail
      all_goals exact bodyPost_ret (v := .tuple #[.slice none 0 0, .slice none 0 0, .slice none 0 0, .int .i64 2]) (by simp [results, Try.results11, go_sem]) rfl Hp.out
    · have h2' : ¬ (1000 : Int) < (acts.length : Int) := by omega
      have he : numsErr cells acts = checkNums cells.length acts := by rw [numsErr, if_neg (by omega)]
      rw [he] at Hp hne
      clear he
      have hne' : (checkNums cells.length acts != 0) = true := by rw [bne_iff_ne]; exact hne
      clear hne
      go_enter Try.func11, Try.ntmps11
      go_wp2_with (go_at_call 45; refine (bad_any _ _ _ acts _ (by omega) Hr.out).mono ?_; rintro e w1 ⟨rfl, rfl⟩)
      all_goals exact bodyPost_ret (v := .tuple #[.slice none 0 0, .slice none 0 0, .slice none 0 0, .int .i64 (checkNums cells.length acts)]) (by simp [results, Try.results11, go_sem]) rfl Hp.out

end Go.Proofs.Ytjifoggfndicoaa
