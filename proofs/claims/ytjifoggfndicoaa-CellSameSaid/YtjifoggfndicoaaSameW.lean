/-
  DERIVED. THE WALK over larchlaw02's CellSame.
-/
import Derived.Test.YtjifoggfndicoaaSame
namespace Go.Proofs.Ytjifoggfndicoaa
open Go.RowKit
set_option maxRecDepth 100000

theorem same_start (w wA : World) (n : Int) (st : ByteArray) (hb : Below w.heap.size w wA) :
    SameAt w wA.heap.size n st (some ⟨wA.heap.size, 0, none⟩) (.slice none 0 0) [] (((((wA.alloc (.cells #[.int .i64 n, .string st] 62)).alloc (.cells #[.int .i64 n, .string st] 62)).alloc (.cells #[.int .i64 n, .string st] 62)).alloc (.cells #[.pointer (some ⟨wA.heap.size, 0, none⟩)] 120)).alloc (.cells #[.slice none 0 0] 108)) := by
  have hs := hb.size
  have t (w : World) (o : Obj) := Turns.alloc (fun _ => False) w o
  refine ⟨((((hb.alloc hs _).alloc (by simp; omega) _).alloc (by simp; omega) _).alloc (by simp; omega) _).alloc (by simp; omega) _, hs, by simp, ?_, ?_, ?_⟩
  · intro i hi
    obtain rfl | rfl | rfl : i = 0 ∨ i = 1 ∨ i = 2 := by omega
    · refine (((t _ _).trans (t _ _)).trans ((t _ _).trans (t _ _))).heap (heap_alloc_new wA _) (fun h => h)
    · refine ((t _ _).trans ((t _ _).trans (t _ _))).heap ?_ (fun h => h)
      simpa using heap_alloc_new (wA.alloc (.cells #[.int .i64 n, .string st] 62)) (.cells #[.int .i64 n, .string st] 62)
    · refine ((t _ _).trans (t _ _)).heap ?_ (fun h => h)
      simpa using heap_alloc_new ((wA.alloc (.cells #[.int .i64 n, .string st] 62)).alloc (.cells #[.int .i64 n, .string st] 62)) (.cells #[.int .i64 n, .string st] 62)
  · refine (t _ _).heap ?_ (fun h => h)
    simpa using heap_alloc_new (((wA.alloc (.cells #[.int .i64 n, .string st] 62)).alloc (.cells #[.int .i64 n, .string st] 62)).alloc (.cells #[.int .i64 n, .string st] 62)) (.cells #[.pointer (some ⟨wA.heap.size, 0, none⟩)] 120)
  · have := TapeAt.new ((((wA.alloc (.cells #[.int .i64 n, .string st] 62)).alloc (.cells #[.int .i64 n, .string st] 62)).alloc (.cells #[.int .i64 n, .string st] 62)).alloc (.cells #[.pointer (some ⟨wA.heap.size, 0, none⟩)] 120)) (wA.heap.size + 5)
    simpa using this

theorem new_first (w : World) (o1 o2 o3 : Obj) (n : Int) (st : ByteArray) (h : o1 = .cells #[.int .i64 n, .string st] 62) : PtrTo 62 2 (((w.alloc o1).alloc o2).alloc o3) (some ⟨w.heap.size, 0, none⟩) := by
  subst h
  exact PtrTo.of (((Turns.alloc (fun _ => False) _ o2).trans (Turns.alloc _ _ o3)).heap (heap_alloc_new w _) (fun h => h)) rfl

theorem pair_same (a : Addr) (w : World) : (binOp .neq 60 (.pointer (some a)) (.pointer (some a))).run Try.prog w = .ok (.bool false) w := by
  obtain ⟨j, hj⟩ : ∃ j, Try.prog.info? 62 = some j := by
    have h : (Try.prog.info? 62).map (·.size) = some 2 := by kernel_rfl
    cases e : Try.prog.info? 62 with
    | none => rw [e] at h; cases h
    | some j => exact ⟨j, rfl⟩
  exact Lib.run_neq_ptr_same w a Try.underlying60 hj

theorem pair_agg (n : Int) (st : ByteArray) (w : World) : (binOp .neq 62 (.agg #[.int .i64 n, .string st]) (.agg #[.int .i64 n, .string st])).run Try.prog w = .ok (.bool false) w := by simp [go_sem]

/-- a cell of strings at r, which holds p; two strings behind it. -/
structure StrAt (w0 : World) (r : Nat) (st : ByteArray) (p : Option Addr) (wx : World) : Prop where
  below : Below w0.heap.size w0 wx
  low : w0.heap.size ≤ r
  size : r + 3 ≤ wx.heap.size
  cell : wx.heap[r]? = some (.cells #[.pointer p] 75 (0, 0))
  one : wx.heap[r + 1]? = some (.cells #[.string st] 9 (0, 0))
  two : wx.heap[r + 2]? = some (.cells #[.string st] 9 (0, 0))
theorem StrAt.start {w0 w : World} (hb : Below w0.heap.size w0 w) (st : ByteArray) : StrAt w0 w.heap.size st none (((w.alloc (.cells #[.pointer none] 75)).alloc (.cells #[.string st] 9)).alloc (.cells #[.string st] 9)) := by
  have hs := hb.size
  have t (w : World) (o : Obj) := Turns.alloc (fun _ => False) w o
  refine ⟨((hb.alloc hs _).alloc (by simp; omega) _).alloc (by simp; omega) _, hs, by simp, ?_, ?_, ?_⟩
  · exact ((t _ _).trans (t _ _)).heap (heap_alloc_new w _) (fun h => h)
  · refine (t _ _).heap ?_ (fun h => h)
    simpa using heap_alloc_new (w.alloc (.cells #[.pointer none] 75)) (.cells #[.string st] 9)
  · simpa using heap_alloc_new ((w.alloc (.cells #[.pointer none] 75)).alloc (.cells #[.string st] 9)) (.cells #[.string st] 9)
theorem StrAt.set {w0 w : World} {r : Nat} {st : ByteArray} {p : Option Addr} (h : StrAt w0 r st p w) (q : Option Addr) : StrAt w0 r st q (w.setCell ⟨r, 0, none⟩ (.pointer q)) := by
  have t := Turns.setCell (S := fun i => i = r) w (a := ⟨r, 0, none⟩) rfl (.pointer q)
  refine ⟨h.below.setCell h.low _, h.low, by simpa [World.setCell] using h.size, ?_, t.heap h.one (by omega), t.heap h.two (by omega)⟩
  rw [heap_setCell h.cell]; simp
theorem StrAt.p1 {w0 w : World} {r : Nat} {st : ByteArray} {p : Option Addr} (h : StrAt w0 r st p w) : PtrTo 9 1 w (some ⟨r + 1, 0, none⟩) := PtrTo.of h.one rfl
theorem StrAt.p2 {w0 w : World} {r : Nat} {st : ByteArray} {p : Option Addr} (h : StrAt w0 r st p w) : PtrTo 9 1 w (some ⟨r + 2, 0, none⟩) := PtrTo.of h.two rfl
theorem str_same (a : Addr) (w : World) : (binOp .neq 69 (.pointer (some a)) (.pointer (some a))).run Try.prog w = .ok (.bool false) w := by
  obtain ⟨j, hj⟩ : ∃ j, Try.prog.info? 9 = some j := by
    have h : (Try.prog.info? 9).map (·.size) = some 1 := by kernel_rfl
    cases e : Try.prog.info? 9 with
    | none => rw [e] at h; cases h
    | some j => exact ⟨j, rfl⟩
  exact Lib.run_neq_ptr_same w a Try.underlying69 hj

theorem bit_back (b : Bool) : (bitOf b != 0) = b := by cases b <;> rfl
/-- a mark at q, another one behind it. -/
structure TwoMarks (w0 : World) (q : Nat) (x y : Int) (w : World) : Prop where
  below : Below w0.heap.size w0 w
  low : w0.heap.size ≤ q
  one : w.heap[q]? = some (.cells #[.int .u32 x] 84 (0, 0))
  two : w.heap[q + 1]? = some (.cells #[.int .u32 y] 84 (0, 0))
theorem TwoMarks.start {w0 w : World} (hb : Below w0.heap.size w0 w) (x : Int) : TwoMarks w0 w.heap.size x 0 (((w.alloc (.cells #[.int .u32 x] 84)).alloc (.cells #[.int .u32 0] 84)).drew) := by
  refine ⟨((hb.alloc hb.size _).alloc (by have := hb.size; simp; omega) _).drew, hb.size, ?_, ?_⟩
  · exact ((Turns.alloc (fun _ => False) _ _).trans (Turns.drew _ _)).heap (heap_alloc_new w _) (fun h => h)
  · refine (Turns.drew (fun _ => False) _).heap ?_ (fun h => h)
    simpa using heap_alloc_new (w.alloc (.cells #[.int .u32 x] 84)) (.cells #[.int .u32 0] 84)
theorem TwoMarks.set {w0 w : World} {q : Nat} {x y : Int} (h : TwoMarks w0 q x y w) (z : Int) : TwoMarks w0 q x z (w.setCell ⟨q + 1, 0, none⟩ (.int .u32 z)).drew := by
  have t := (Turns.setCell (S := fun i => i = q + 1) w (a := ⟨q + 1, 0, none⟩) rfl (.int .u32 z)).trans (Turns.drew _ _)
  refine ⟨(h.below.setCell (by have := h.low; show w0.heap.size ≤ q + 1; omega) _).drew, h.low, t.heap h.one (by omega), ?_⟩
  show (w.setCell ⟨q + 1, 0, none⟩ (.int .u32 z)).heap[q + 1]? = _
  rw [heap_setCell h.two]; simp

theorem tm_load {w0 w : World} {q : Nat} {x y : Int} (h : TwoMarks w0 q x y w) (b : Bool) (hb : (y != 0) = b) :
    Calls Try.prog 37 #[.pointer (some ⟨q + 1, 0, none⟩), .nilIface] w fun e w' => e = .returned (.bool b) ∧ w = w' := by
  subst hb
  exact mk_load (q + 1) y w h.two
theorem tm_cas {w0 w : World} {q : Nat} {x y : Int} (h : TwoMarks w0 q x y w) (o d b : Bool) (z : Int) (hb : (y == bitOf o) = b) (hz : casNew y (bitOf o) (bitOf d) = z) :
    Calls Try.prog 38 #[.pointer (some ⟨q + 1, 0, none⟩), .nilIface, .bool o, .bool d] w fun e w' => e = .returned (.bool b) ∧ TwoMarks w0 q x z w' := by
  subst hb hz
  refine (mk_cas (q + 1) y o d w h.two).mono ?_
  rintro e w' ⟨rfl, rfl⟩
  exact ⟨rfl, h.set _⟩
theorem tm_swap {w0 w : World} {q : Nat} {x y : Int} (h : TwoMarks w0 q x y w) (d b : Bool) (hb : (y != 0) = b) :
    Calls Try.prog 39 #[.pointer (some ⟨q + 1, 0, none⟩), .nilIface, .bool d] w fun e w' => e = .returned (.bool b) ∧ TwoMarks w0 q x (bitOf d) w' := by
  subst hb
  refine (mk_swap (q + 1) y d w h.two).mono ?_
  rintro e w' ⟨rfl, rfl⟩
  exact ⟨rfl, h.set _⟩

set_option maxHeartbeats 4000000 in
theorem same_any (n : Int) (st : ByteArray) (w : World) :
    Calls Try.prog 7 #[.int .i64 n, .string st] w fun e w' => e = .returned (.bool true) ∧ Below w.heap.size w w' := by
  go_enter Try.func7, Try.ntmps7
  go_wp2_with fail
  refine (awake_any _).mono ?_
  rintro e wA ⟨rfl, hbA⟩
  have H0 := Lib.hid (same_start w wA n st hbA)
  clear hbA
  go_wp2_with fail
  refine (newpair_any _ _ (new_first _ _ _ _ _ _ rfl)).mono ?_
  rintro e w1 ⟨rfl, rfl⟩
  go_wp2_with fail
  refine (newtape_any _).mono ?_
  rintro e w1 ⟨rfl, rfl⟩
  simp only [World.size_alloc, Nat.add_assoc, Nat.reduceAdd]
  generalize (((((wA.alloc (.cells #[.int .i64 n, .string st] 62)).alloc (.cells #[.int .i64 n, .string st] 62)).alloc (.cells #[.int .i64 n, .string st] 62)).alloc (.cells #[.pointer (some ⟨wA.heap.size, 0, none⟩)] 120)).alloc (.cells #[.slice none 0 0] 108)) = ws at *
  generalize wA.heap.size = s at *
  have ha0 : Among s (some ⟨s, 0, none⟩) := among_of s 0 (by omega)
  have ha1 : Among s (some ⟨s + 1, 0, none⟩) := among_of s 1 (by omega)
  have ha2 : Among s (some ⟨s + 2, 0, none⟩) := among_of s 2 (by omega)
  have hx := pair_same
  go_wp2_with fail
  refine (same_cas H0.out (some ⟨s + 1, 0, none⟩) (some ⟨s + 2, 0, none⟩) false (some ⟨s, 0, none⟩) ha0 ha1 ha2 (by simp) (by simp) (by simp [casNew])).mono ?_
  rintro e w1 ⟨rfl, tv1, h1⟩
  have H1 := Lib.hid h1
  clear h1 H0
  go_wp2_with fail
  refine (same_load H1.out ha0 (by simp)).mono ?_
  rintro e w2 ⟨rfl, tv2, h2⟩
  have H2 := Lib.hid h2
  clear h2 H1
  go_wp2_with fail
  refine (same_cas H2.out (some ⟨s, 0, none⟩) (some ⟨s + 1, 0, none⟩) true (some ⟨s + 1, 0, none⟩) ha0 ha0 ha1 (by simp) (by simp) (by simp [casNew])).mono ?_
  rintro e w3 ⟨rfl, tv3, h3⟩
  have H3 := Lib.hid h3
  clear h3 H2
  go_wp2_with fail
  refine (same_cas H3.out (some ⟨s, 0, none⟩) (some ⟨s + 2, 0, none⟩) false (some ⟨s + 1, 0, none⟩) ha1 ha0 ha2 (by simp) (by simp) (by simp [casNew])).mono ?_
  rintro e w4 ⟨rfl, tv4, h4⟩
  have H4 := Lib.hid h4
  clear h4 H3
  go_wp2_with fail
  refine (same_swap H4.out (some ⟨s + 2, 0, none⟩) ha1 ha2 (by simp)).mono ?_
  rintro e w5 ⟨rfl, tv5, h5⟩
  have H5 := Lib.hid h5
  clear h5 H4
  go_wp2_with fail
  refine (same_loadn H5.out ha2).mono ?_
  rintro e w6 ⟨rfl, rfl⟩
  have H6 := H5
  clear H5
  go_wp2_with fail
  refine (same_store H6.out none (among_none s) (by simp)).mono ?_
  rintro e w7 ⟨rfl, tv7, h7⟩
  have H7 := Lib.hid h7
  clear h7 H6
  go_wp2_with fail
  refine (same_loadn H7.out (among_none s)).mono ?_
  rintro e w8 ⟨rfl, rfl⟩
  have H8 := H7
  clear H7
  go_wp2_with fail
  refine (same_cas H8.out (some ⟨s + 2, 0, none⟩) (some ⟨s, 0, none⟩) false none (among_none s) ha2 ha0 (by simp) (by simp) (by simp [casNew])).mono ?_
  rintro e w9 ⟨rfl, tv9, h9⟩
  have H9 := Lib.hid h9
  clear h9 H8
  go_wp2_with fail
  refine (same_cas H9.out none (some ⟨s, 0, none⟩) true (some ⟨s, 0, none⟩) (among_none s) (among_none s) ha0 (by simp) (by simp) (by simp [casNew])).mono ?_
  rintro e w10 ⟨rfl, tv10, h10⟩
  have H10 := Lib.hid h10
  clear h10 H9
  go_wp2_with fail
  refine (same_loadn H10.out ha0).mono ?_
  rintro e w11 ⟨rfl, rfl⟩
  have H11 := H10
  clear H10
  have hT := H11.out.things 0 (by omega)
  rw [Nat.add_zero] at hT
  have hc0 := cell_of_heap hT (j := 0) rfl
  have hc1 := cell_of_heap hT (j := 1) rfl
  have hag := pair_agg n st
  clear hT
  go_wp2_with fail
  refine (kinds_any (s + 5) (s + 4) _ [5, 1, 5, 5, 4, 2, 5, 5] _ H11.out.tape (by simp)).mono ?_
  rintro e w11 ⟨v', rfl, g1, g2⟩
  obtain ⟨x, c, rfl, i1⟩ := g1.intsIn
  have hb := H11.out.below.trans (g2.mono H11.out.below.size)
  have i2 := i1.below ((Below.refl w11.heap.size w11).alloc (Nat.le_refl _) (.cells #[.int .i64 5, .int .i64 1, .int .i64 5, .int .i64 5, .int .i64 4, .int .i64 2, .int .i64 5, .int .i64 5] 3))
  have Hb2 := Lib.hid (hb.alloc hb.size (.cells #[.int .i64 5, .int .i64 1, .int .i64 5, .int .i64 5, .int .i64 4, .int .i64 2, .int .i64 5, .int .i64 5] 3))
  have I2 := Lib.hid i2
  clear g1 g2 i1 i2 hb H11 hc0 hc1 hag
  go_wp2_with fail
  refine (ints_same' _ _ _ _ _ _ [5, 1, 5, 5, 4, 2, 5, 5] _ (by simp) (by simp) I2.out (intsIn_block (e := 3) (f := (0, 0)) (heap_alloc_new w11 _)) (by simp)).mono ?_
  rintro e w12 ⟨rfl, t12⟩
  have Hb3 := Lib.hid (Hb2.out.trans (t12.below (fun _ h => h.elim) Hb2.out.size))
  clear t12 Hb2 I2
  have hst := StrAt.start Hb3.out st
  have Hst := Lib.hid hst
  clear hst Hb3
  go_wp2_with fail
  simp only [Nat.add_assoc, Nat.reduceAdd]
  generalize (((w12.alloc (.cells #[.pointer none] 75)).alloc (.cells #[.string st] 9)).alloc (.cells #[.string st] 9)) = wy at *
  generalize w12.heap.size = r at *
  have hx2 := str_same
  refine (str_load r none _ Hst.out.cell (PtrTo.nil _ _ _)).mono ?_
  rintro e w13 ⟨rfl, rfl⟩
  go_wp2_with fail
  refine (str_cas r none (some ⟨r + 1, 0, none⟩) (some ⟨r + 2, 0, none⟩) false none _ Hst.out.cell (PtrTo.nil _ _ _) Hst.out.p1 Hst.out.p2 (by simp) (by simp [casNew])).mono ?_
  rintro e w14 ⟨rfl, rfl⟩
  have G1 := Lib.hid (Hst.out.set none)
  clear Hst
  generalize wy.setCell ⟨r, 0, none⟩ (.pointer none) = wz at *
  go_wp2_with fail
  refine (str_cas r none none (some ⟨r + 1, 0, none⟩) true (some ⟨r + 1, 0, none⟩) _ G1.out.cell (PtrTo.nil _ _ _) (PtrTo.nil _ _ _) G1.out.p1 (by simp) (by simp [casNew])).mono ?_
  rintro e w15 ⟨rfl, rfl⟩
  have G2 := Lib.hid (G1.out.set (some ⟨r + 1, 0, none⟩))
  clear G1
  generalize wz.setCell ⟨r, 0, none⟩ (.pointer (some ⟨r + 1, 0, none⟩)) = wu at *
  go_wp2_with fail
  refine (str_cas r (some ⟨r + 1, 0, none⟩) (some ⟨r + 2, 0, none⟩) (some ⟨r + 1, 0, none⟩) false (some ⟨r + 1, 0, none⟩) _ G2.out.cell G2.out.p1 G2.out.p2 G2.out.p1 (by simp) (by simp [casNew])).mono ?_
  rintro e w16 ⟨rfl, rfl⟩
  have G3 := Lib.hid (G2.out.set (some ⟨r + 1, 0, none⟩))
  clear G2
  generalize wu.setCell ⟨r, 0, none⟩ (.pointer (some ⟨r + 1, 0, none⟩)) = wv at *
  go_wp2_with fail
  refine (str_load r _ _ G3.out.cell G3.out.p1).mono ?_
  rintro e w17 ⟨rfl, rfl⟩
  have Hb4 := Lib.hid G3.out.below
  clear G3
  have hbk := bit_back (decide (0 < n))
  go_wp2_with fail
  refine (newmark_any _ _).mono ?_
  rintro e w18 ⟨rfl, rfl⟩
  have M1 := Lib.hid (TwoMarks.start Hb4.out (bitOf (decide (0 < n))))
  clear Hb4
  go_wp2_with fail
  generalize ((wv.alloc (.cells #[.int .u32 (bitOf (decide (0 < n)))] 84)).alloc (.cells #[.int .u32 0] 84)).drew = wm at *
  generalize wv.heap.size = q at *
  refine (mk_load q _ _ M1.out.one).mono ?_
  rintro e w19 ⟨rfl, rfl⟩
  rw [hbk]
  clear hbk
  go_wp2_with fail
  refine (tm_load M1.out false rfl).mono ?_
  rintro e w20 ⟨rfl, rfl⟩
  go_wp2_with fail
  refine (tm_cas M1.out true true false 0 rfl rfl).mono ?_
  rintro e w21 ⟨rfl, m2⟩
  have M2 := Lib.hid m2
  clear m2 M1
  go_wp2_with fail
  refine (tm_cas M2.out false true true 1 rfl rfl).mono ?_
  rintro e w22 ⟨rfl, m3⟩
  have M3 := Lib.hid m3
  clear m3 M2
  go_wp2_with fail
  refine (tm_swap M3.out false true rfl).mono ?_
  rintro e w23 ⟨rfl, m4⟩
  have M4 := Lib.hid m4
  clear m4 M3
  go_wp2_with fail
  refine (tm_load M4.out false rfl).mono ?_
  rintro e w24 ⟨rfl, rfl⟩
  go_wp2
  go_ret
  exact ⟨rfl, M4.out.below⟩

theorem same_law (x0 : Int) (_w0 : (Lit.int .i64 x0).wf = true) (x1 : ByteArray) (_w1 : x1.size ≤ maxLen) (w : World) :
    Calls Try.prog 7 #[.int .i64 x0, .string x1] w fun e w'' => e = .returned (.bool true) ∧ Below w.heap.size w w'' := same_any x0 x1 w

end Go.Proofs.Ytjifoggfndicoaa
