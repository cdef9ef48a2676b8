/-
  DERIVED. PLAIN: acts on things: a thing is its number. And the reference's walks thing, badId.
-/
import Derived.Test.YtjifoggfndicoaaMRef
import Derived.Test.YtjifoggfndicoaaRefn
import Derived.Test.YtjifoggfndicoaaPtr
namespace Go.Proofs.Ytjifoggfndicoaa
open Go.RowKit
set_option maxRecDepth 100000

/-- is it a thing's number, or nil's? -/
def right (things n : Int) : Bool := decide (-1 ≤ n ∧ n < things)
def fitsId (things : Int) (x : A4) : Bool := x.k == 1 || (right things x.a && (x.k != 5 || right things x.b))
def checkIds (cells things : Int) : List A4 → Int
  | [] => 0
  | x :: r => if known4 x.k = false then 5 else if x.at_ < 0 ∨ cells ≤ x.at_ then 1 else if fitsId things x = false then 1 else checkIds cells things r
theorem checkIds_cons (cells things : Int) (l : List A4) (j : Nat) (h : j < l.length) : checkIds cells things (l.drop j) = if known4 l[j].k = false then 5 else if l[j].at_ < 0 ∨ cells ≤ l[j].at_ then 1 else if fitsId things l[j] = false then 1 else checkIds cells things (l.drop (j + 1)) := by
  rw [List.drop_eq_getElem_cons h]
  rfl
theorem checkIds_ok (cells things : Int) (l : List A4) (h : checkIds cells things l = 0) : ∀ x ∈ l, known4 x.k = true ∧ 0 ≤ x.at_ ∧ x.at_ < cells ∧ fitsId things x = true := by
  induction l with
  | nil => intro x hx; cases hx
  | cons y r ih =>
    unfold checkIds at h
    split at h
    · simp at h
    · rename_i hk
      split at h
      · simp at h
      · rename_i ha
        split at h
        · simp at h
        · rename_i hf
          intro x hx
          cases hx with
          | head => exact ⟨by simpa using hk, by omega, by omega, by simpa using hf⟩
          | tail _ hm => exact ih h x hm
def allRight (things : Int) (l : List Int) : Bool := l.all (right things)
def idsErr (cells : List Int) (things : Int) (l : List A4) : Int := if 64 < cells.length ∨ 64 < things ∨ 1000 < l.length then 2 else if things < 0 ∨ allRight things cells = false then 1 else checkIds cells.length things l
def idsAns (cells : List Int) (things : Int) (l : List A4) : List Int := if idsErr cells things l = 0 then (numTo cells l).1 else []
def idsEnd (cells : List Int) (things : Int) (l : List A4) : List Int := if idsErr cells things l = 0 then (numTo cells l).2 else []
def idsKinds (cells : List Int) (things : Int) (l : List A4) : List Int := if idsErr cells things l = 0 then l.map (·.k) else []

/-- what Ids leaves. -/
def IdsPost (w : World) (cells : List Int) (things : Int) (acts : List A4) (e : Ending) (w' : World) : Prop :=
  ∃ v1 v2 v3, e = .returned (.tuple #[v1, v2, v3, .int .i64 (idsErr cells things acts)]) ∧ RowI w' w.heap.size v1 (idsAns cells things acts) ∧ RowI w' w.heap.size v2 (idsEnd cells things acts) ∧ RowI w' w.heap.size v3 (idsKinds cells things acts) ∧ Below w.heap.size w w'
theorem ids_none (w : World) (cells : List Int) (things : Int) (acts : List A4) (w' : World) (n : Int) (hn : idsErr cells things acts = n) (h : n ≠ 0) (hb : Below w.heap.size w w') : IdsPost w cells things acts (.returned (.tuple #[.slice none 0 0, .slice none 0 0, .slice none 0 0, .int .i64 n])) w' := by
  subst hn
  refine ⟨_, _, _, rfl, ?_, ?_, ?_, hb⟩
  · rw [idsAns, if_neg h]; exact World.ownsRow_nil _ _ _ _
  · rw [idsEnd, if_neg h]; exact World.ownsRow_nil _ _ _ _
  · rw [idsKinds, if_neg h]; exact World.ownsRow_nil _ _ _ _

theorem rthing_any (n things : Int) (w : World) : Calls Try.prog 76 #[.int .i64 n, .int .i64 things] w fun e w' => e = .returned (.bool (right things n)) ∧ w = w' := by
  go_enter Try.func76, Try.ntmps76
  go_wp2_with fail
  all_goals
    go_ret
    refine ⟨?_, rfl⟩
    first | (simp [right]; omega) | (simp [right, *]; done) | simp_all [right]

theorem rthing_lit (n things : Int) (b : Bool) (h : right things n = b) (w : World) : Calls Try.prog 76 #[.int .i64 n, .int .i64 things] w fun e w' => e = .returned (.bool b) ∧ w = w' := by
  subst h
  exact rthing_any n things w

set_option maxHeartbeats 2000000 in
theorem badid_any (cells things : Int) (a : Option Addr) (cap : Nat) (l : List A4) (w : World) (hn : l.length ≤ 9223372036854775807) (hr : ActsIn w a l) :
    Calls Try.prog 77 #[.int .i64 cells, .int .i64 things, .slice a l.length cap] w fun e w' => e = .returned (.int .i64 (checkIds cells things l)) ∧ Below w.heap.size w w' := by
  have Hr := Lib.hid hr
  clear hr
  go_enter Try.func77, Try.ntmps77
  go_wp2_with fail
  go_loopw [7] (fun i wr => ∃ j : Nat, j ≤ l.length ∧ i = .int .i64 j ∧ Below w.heap.size w wr ∧ Hid (checkIds cells things (l.drop j) = checkIds cells things l)) (fun i _ => l.length - (intOf i).toNat)
  case atStart => exact ⟨0, Nat.zero_le _, rfl, Below.refl _ _, rfl⟩

  case round =>
    obtain ⟨j, hj, rfl, hb, hspec⟩ := hrel
    by_cases hlt : j < l.length
    · obtain ⟨b, off, rfl, h1, h2, h3, h4⟩ := (Hr.out.below hb) j hlt
      have Hs := Lib.hid ((checkIds_cons cells things l j hlt).symm.trans hspec.out)
      have Hb := Lib.hid hb
      clear hspec hb
      by_cases hk : known4 l[j].k = true
      · by_cases ha : l[j].at_ < 0 ∨ cells ≤ l[j].at_
        · have H5 := Lib.hid (show 1 = checkIds cells things l by have := Hs.out; rw [hk, if_neg (by simp), if_pos ha] at this; exact this)
          go_wp2_with (go_at_call 72; refine (swapping_any _ _).mono ?_; rintro e w1 ⟨rfl, rfl⟩)
          all_goals (go_ret; exact ⟨ret_i H5.out, Hb.out.alloc Hb.out.size _⟩)
        · have ha1 : decide (l[j].at_ < 0) = false := by simp; omega
          have ha2 : decide (cells ≤ l[j].at_) = false := by simp; omega
          have Ha := Lib.hid ha
          clear ha
          rcases known4_or hk with ek | ek | ek | ek
          · have H5 := Lib.hid (show checkIds cells things (l.drop (j + 1)) = checkIds cells things l by have := Hs.out; rw [hk, if_neg (by simp), if_neg Ha.out, show fitsId things l[j] = true by simp [fitsId, ek], if_neg (by simp)] at this; exact this)
            rw [ek] at h1
            clear hk
            go_wp2_with (first | (go_at_call 72; refine (swapping_any _ _).mono ?_; rintro e w1 ⟨rfl, rfl⟩) | (go_at_call 76; refine (rthing_lit _ _ _ (by assumption) _).mono ?_; rintro e w1 ⟨rfl, rfl⟩))
            all_goals exact ⟨⟨j + 1, by omega, by go_num, Hb.out.alloc Hb.out.size _, H5.out⟩, by simp [intOf]; omega⟩
          · cases ra : right things l[j].a
            · have H5 := Lib.hid (show 1 = checkIds cells things l by have := Hs.out; rw [hk, if_neg (by simp), if_neg Ha.out, show fitsId things l[j] = false by simp [fitsId, ek, ra], if_pos rfl] at this; exact this)
              rw [ek] at h1
              clear hk
              go_wp2_with (first | (go_at_call 72; refine (swapping_any _ _).mono ?_; rintro e w1 ⟨rfl, rfl⟩) | (go_at_call 76; refine (rthing_lit _ _ _ (by assumption) _).mono ?_; rintro e w1 ⟨rfl, rfl⟩))
              all_goals (go_ret; exact ⟨ret_i H5.out, Hb.out.alloc Hb.out.size _⟩)
            · have H5 := Lib.hid (show checkIds cells things (l.drop (j + 1)) = checkIds cells things l by have := Hs.out; rw [hk, if_neg (by simp), if_neg Ha.out, show fitsId things l[j] = true by simp [fitsId, ek, ra], if_neg (by simp)] at this; exact this)
              rw [ek] at h1
              clear hk
              go_wp2_with (first | (go_at_call 72; refine (swapping_any _ _).mono ?_; rintro e w1 ⟨rfl, rfl⟩) | (go_at_call 76; refine (rthing_lit _ _ _ (by assumption) _).mono ?_; rintro e w1 ⟨rfl, rfl⟩))
              all_goals exact ⟨⟨j + 1, by omega, by go_num, Hb.out.alloc Hb.out.size _, H5.out⟩, by simp [intOf]; omega⟩
          · cases ra : right things l[j].a
            · have H5 := Lib.hid (show 1 = checkIds cells things l by have := Hs.out; rw [hk, if_neg (by simp), if_neg Ha.out, show fitsId things l[j] = false by simp [fitsId, ek, ra], if_pos rfl] at this; exact this)
              rw [ek] at h1
              clear hk
              go_wp2_with (first | (go_at_call 72; refine (swapping_any _ _).mono ?_; rintro e w1 ⟨rfl, rfl⟩) | (go_at_call 76; refine (rthing_lit _ _ _ (by assumption) _).mono ?_; rintro e w1 ⟨rfl, rfl⟩))
              all_goals (go_ret; exact ⟨ret_i H5.out, Hb.out.alloc Hb.out.size _⟩)
            · have H5 := Lib.hid (show checkIds cells things (l.drop (j + 1)) = checkIds cells things l by have := Hs.out; rw [hk, if_neg (by simp), if_neg Ha.out, show fitsId things l[j] = true by simp [fitsId, ek, ra], if_neg (by simp)] at this; exact this)
              rw [ek] at h1
              clear hk
              go_wp2_with (first | (go_at_call 72; refine (swapping_any _ _).mono ?_; rintro e w1 ⟨rfl, rfl⟩) | (go_at_call 76; refine (rthing_lit _ _ _ (by assumption) _).mono ?_; rintro e w1 ⟨rfl, rfl⟩))
              all_goals exact ⟨⟨j + 1, by omega, by go_num, Hb.out.alloc Hb.out.size _, H5.out⟩, by simp [intOf]; omega⟩
          · cases ra : right things l[j].a
            · have H5 := Lib.hid (show 1 = checkIds cells things l by have := Hs.out; rw [hk, if_neg (by simp), if_neg Ha.out, show fitsId things l[j] = false by simp [fitsId, ek, ra], if_pos rfl] at this; exact this)
              rw [ek] at h1
              clear hk
              go_wp2_with (first | (go_at_call 72; refine (swapping_any _ _).mono ?_; rintro e w1 ⟨rfl, rfl⟩) | (go_at_call 76; refine (rthing_lit _ _ _ (by assumption) _).mono ?_; rintro e w1 ⟨rfl, rfl⟩))
              all_goals (go_ret; exact ⟨ret_i H5.out, Hb.out.alloc Hb.out.size _⟩)
            · cases rb : right things l[j].b
              · have H5 := Lib.hid (show 1 = checkIds cells things l by have := Hs.out; rw [hk, if_neg (by simp), if_neg Ha.out, show fitsId things l[j] = false by simp [fitsId, ek, ra, rb], if_pos rfl] at this; exact this)
                rw [ek] at h1
                clear hk
                go_wp2_with (first | (go_at_call 72; refine (swapping_any _ _).mono ?_; rintro e w1 ⟨rfl, rfl⟩) | (go_at_call 76; refine (rthing_lit _ _ _ (by assumption) _).mono ?_; rintro e w1 ⟨rfl, rfl⟩))
                all_goals (go_ret; exact ⟨ret_i H5.out, Hb.out.alloc Hb.out.size _⟩)
              · have H5 := Lib.hid (show checkIds cells things (l.drop (j + 1)) = checkIds cells things l by have := Hs.out; rw [hk, if_neg (by simp), if_neg Ha.out, show fitsId things l[j] = true by simp [fitsId, ek, ra, rb], if_neg (by simp)] at this; exact this)
                rw [ek] at h1
                clear hk
                go_wp2_with (first | (go_at_call 72; refine (swapping_any _ _).mono ?_; rintro e w1 ⟨rfl, rfl⟩) | (go_at_call 76; refine (rthing_lit _ _ _ (by assumption) _).mono ?_; rintro e w1 ⟨rfl, rfl⟩))
                all_goals exact ⟨⟨j + 1, by omega, by go_num, Hb.out.alloc Hb.out.size _, H5.out⟩, by simp [intOf]; omega⟩
      · have hk2 : known4 l[j].k = false := by simpa using hk
        have H5 := Lib.hid (show 5 = checkIds cells things l by have := Hs.out; rw [if_pos hk2] at this; exact this)
        clear hk
        go_wp2_with (go_at_call 72; refine (swapping_any _ _).mono ?_; rintro e w1 ⟨rfl, rfl⟩)
        all_goals (go_ret; exact ⟨ret_i H5.out, Hb.out.alloc Hb.out.size _⟩)
    · have H5 := Lib.hid (show 0 = checkIds cells things l by rw [← hspec.out, List.drop_eq_nil_of_le (by omega)]; rfl)
      clear hspec
      go_wp2
      go_ret
      exact ⟨ret_i H5.out, hb⟩

end Go.Proofs.Ytjifoggfndicoaa
