/-
  DERIVED. THE WALKS over sync/atomic's pointers and package cell's cells, at each type that chapter 02's laws use.
-/
import Derived.Test.YtjifoggfndicoaaCheck
import Derived.Deep.RegionHeld3
import Derived.LaidEqlPtr
import Derived.Lib.Builder
namespace Go.Proofs.Ytjifoggfndicoaa
open Go.RowKit
set_option maxRecDepth 100000

section
variable {P : Program}
/-- the pointer's block is an ordinary one. -/
def PlainP (w : World) (x : Option Addr) : Prop := ∀ a, x = some a → ∃ c t, w.heap[a.block]? = some (.cells c t (0, 0))

theorem run_samePointer {w : World} {x y : Option Addr} (hx : PlainP w x) (hy : PlainP w y) : (samePointer x y).run P w = .ok (decide (x = y)) w := by
  cases x with
  | none => cases y with
    | none => simp [samePointer]
    | some b => simp [samePointer]
  | some a => cases y with
    | none => simp [samePointer]
    | some b =>
      by_cases h : a = b
      · subst h
        simp [samePointer, run_sameAddr_same]
      · obtain ⟨c1, t1, h1⟩ := hx a rfl
        obtain ⟨c2, t2, h2⟩ := hy b rfl
        simp [samePointer, run_sameAddr_other w h h1 h2, h]

theorem run_call_casp {f : FuncId} {fn : Func} (hf : P.funcs[f]? = some fn) (hname : (fn.name == "runtime.NumGoroutine") = false) (hb : fn.body.isNone = true) (hn : Extern.findNext fn = none)
    (he : Extern.find fn = some (Extern.Atomic.casT .ptr)) {a : Addr} {x o y : Option Addr} {w : World} (hc : w.cell? a = some (.pointer x)) (hz : w.frozen? a = false) (hx : PlainP w x) (ho : PlainP w o) :
    (callFunc f #[.pointer (some a), .pointer o, .pointer y]).run P w = .ok (.value (.bool (decide (x = o)))) (w.setCell a (.pointer (casNew x o y))) := by
  rw [run_callFunc_extern hf hname hb hn he]
  have hs := run_samePointer (P := P) hx ho
  by_cases h : x = o
  · have hs' : (samePointer x o).run P w = .ok true w := by rw [hs]; simp [h]
    rw [casNew, if_pos h, decide_eq_true h]
    change (Sem.run P (do
      let a' ← asAddr (.pointer (some a))
      if ← Extern.Atomic.touchesFrozen a' then unsupported (.unsafePointer "a write to bytes that a string shares")
      let eq ← match Extern.Atomic.T.ptr, ← Extern.Atomic.read .ptr a', Value.pointer o with
        | _, .int _ x, .int _ y => pure (x == y)
        | .ptr, .pointer x, .pointer y => samePointer x y
        | .int _, .pointer (some _), .int _ 0 | .int _, .int _ 0, .pointer (some _) => pure false
        | .int _, .pointer (some _), _ | .int _, _, .pointer (some _) => unsupported .addressObserved
        | _, _, _ => stuck "atomic.CompareAndSwap: old is no T"
      if eq then store a' (.pointer y) .atomic
      pure (Value.bool eq)) w).andThen _ = _
    simp [Extern.Atomic.touchesFrozen, Extern.Atomic.read, asAddr, viewAt, World.shape?_isSome_of_cell? hc, hc, hz, hs', run_store P w a (.pointer y) .atomic rfl, Result.andThen]
  · have hs' : (samePointer x o).run P w = .ok false w := by rw [hs]; simp [h]
    rw [casNew, if_neg h, decide_eq_false h, setCell_self hc]
    change (Sem.run P (do
      let a' ← asAddr (.pointer (some a))
      if ← Extern.Atomic.touchesFrozen a' then unsupported (.unsafePointer "a write to bytes that a string shares")
      let eq ← match Extern.Atomic.T.ptr, ← Extern.Atomic.read .ptr a', Value.pointer o with
        | _, .int _ x, .int _ y => pure (x == y)
        | .ptr, .pointer x, .pointer y => samePointer x y
        | .int _, .pointer (some _), .int _ 0 | .int _, .int _ 0, .pointer (some _) => pure false
        | .int _, .pointer (some _), _ | .int _, _, .pointer (some _) => unsupported .addressObserved
        | _, _, _ => stuck "atomic.CompareAndSwap: old is no T"
      if eq then store a' (.pointer y) .atomic
      pure (Value.bool eq)) w).andThen _ = _
    simp [Extern.Atomic.touchesFrozen, Extern.Atomic.read, asAddr, viewAt, World.shape?_isSome_of_cell? hc, hc, hz, hs', Result.andThen]

/-- the pointer, if it is not nil, goes to a block of its own that holds one T of k cells. -/
def PtrTo (T : TypeId) (k : Nat) (w : World) (x : Option Addr) : Prop := ∀ a, x = some a → a.off = 0 ∧ a.spot = none ∧ ∃ cs : Array Value, cs.size = k ∧ w.heap[a.block]? = some (.cells cs T (0, 0))
theorem PtrTo.plain {T : TypeId} {k : Nat} {w : World} {x : Option Addr} (h : PtrTo T k w x) : PlainP w x := by
  intro a e
  obtain ⟨_, _, cs, _, h1⟩ := h a e
  exact ⟨cs, T, h1⟩
theorem PtrTo.nil (T : TypeId) (k : Nat) (w : World) : PtrTo T k w none := fun a e => by cases e
theorem PtrTo.of {T : TypeId} {k : Nat} {w : World} {b : Nat} {cs : Array Value} (h : w.heap[b]? = some (.cells cs T (0, 0))) (hk : cs.size = k) : PtrTo T k w (some ⟨b, 0, none⟩) := by
  intro a e
  injection e with e
  subst e
  exact ⟨rfl, rfl, cs, hk, h⟩
theorem PtrTo.set {T C : TypeId} {k b : Nat} {w : World} {x : Option Addr} {cs : Array Value} (h : PtrTo T k w x) (hb : w.heap[b]? = some (.cells cs C (0, 0))) (hne : C ≠ T) (v : Value) : PtrTo T k (w.setCell ⟨b, 0, none⟩ v) x := by
  intro a e
  obtain ⟨h1, h2, cs', h3, h4⟩ := h a e
  refine ⟨h1, h2, cs', h3, ?_⟩
  rw [heap_setCell_ne (fun hh => by subst hh; rw [hb] at h4; injection h4 with h4; injection h4 with h5 h6; exact hne h6)]
  exact h4
theorem conv_in {tp up T : TypeId} {j : TypeInfo} {k : Nat} (hs : P.underlying tp = some (.pointer T)) (hd : P.underlying up = some .unsafePointer) (ht : P.info? T = some j) (hj : j.size ≠ 0) (hk : 0 < k) {w : World} {x : Option Addr} (hx : PtrTo T k w x) :
    (convert tp up (.pointer x)).run P w = .ok (.pointer x) w := by
  cases x with
  | none => simp [convert, run_underlying hs, run_underlying hd, Conv.unsafePointer]
  | some a =>
    obtain ⟨h1, h2, cs, h3, h4⟩ := hx a rfl
    exact Lib.run_to_unsafe w a hs hd ht hj (e := T) (cells := cs.size) (by simp [World.shape?, h4]) (by omega)
theorem conv_out {tp up T : TypeId} {j : TypeInfo} {k : Nat} (hs : P.underlying up = some .unsafePointer) (hd : P.underlying tp = some (.pointer T)) (ht : P.info? T = some j) (hl : liesAt P P.depth T (k / P.cellsOf T) 0 T 1 = true) {w : World} {x : Option Addr} (hx : PtrTo T k w x) :
    (convert up tp (.pointer x)).run P w = .ok (.pointer x) w := by
  cases x with
  | none => simp [convert, run_underlying hs, run_underlying hd, Conv.unsafePointer]
  | some a =>
    obtain ⟨h1, h2, cs, h3, h4⟩ := hx a rfl
    exact Lib.run_from_unsafe w a hs hd ht (e := T) (cells := cs.size) (by simp [World.shape?, h4]) (by rw [h1, h3]; exact hl)
end

theorem ppair_in {w : World} {x : Option Addr} (hx : PtrTo 62 2 w x) : (convert 60 71 (.pointer x)).run Try.prog w = .ok (.pointer x) w := by
  obtain ⟨j, hj, h0⟩ : ∃ j, Try.prog.info? 62 = some j ∧ j.size = 2 := by
    have h : (Try.prog.info? 62).map (·.size) = some 2 := by kernel_rfl
    cases e : Try.prog.info? 62 with
    | none => rw [e] at h; cases h
    | some j => rw [e] at h; exact ⟨j, rfl, by simpa using h⟩
  exact conv_in Try.underlying60 Try.underlying71 hj (by omega) (by decide) hx
theorem ppair_out {w : World} {x : Option Addr} (hx : PtrTo 62 2 w x) : (convert 71 60 (.pointer x)).run Try.prog w = .ok (.pointer x) w := by
  obtain ⟨j, hj⟩ : ∃ j, Try.prog.info? 62 = some j := by
    have h : (Try.prog.info? 62).map (·.size) = some 2 := by kernel_rfl
    cases e : Try.prog.info? 62 with
    | none => rw [e] at h; cases h
    | some j => exact ⟨j, rfl⟩
  exact conv_out Try.underlying71 Try.underlying60 hj (by kernel_rfl) hx

theorem ppair_load (b off : Nat) (x : Option Addr) (w : World) (hc : w.cell? ⟨b, off, none⟩ = some (.pointer x)) (hx : PtrTo 62 2 w x) :
    Calls Try.prog 64 #[.pointer (some ⟨b, off, none⟩)] w fun e w' => e = .returned (.pointer x) ∧ w = w' := by
  have h := run_call_loadp (P := Try.prog) Try.func100 (by kernel_rfl) (by kernel_rfl) (by kernel_rfl) (by kernel_rfl) hc
  have hcv := ppair_out hx
  clear hx
  go_enter Try.func64, Try.ntmps64
  go_wp2
  go_ret
  exact ⟨rfl, rfl⟩

theorem ppair_store (b off : Nat) (x y : Option Addr) (w : World) (hc : w.cell? ⟨b, off, none⟩ = some (.pointer x)) (hz : w.frozen? ⟨b, off, none⟩ = false) (hy : PtrTo 62 2 w y) :
    Calls Try.prog 62 #[.pointer (some ⟨b, off, none⟩), .pointer y] w fun e w' => e = .returned (.tuple #[]) ∧ w.setCell ⟨b, off, none⟩ (.pointer y) = w' := by
  have h := run_call_storep (P := Try.prog) Try.func98 (by kernel_rfl) (by kernel_rfl) (by kernel_rfl) (by kernel_rfl) (y := y) hc hz
  have hcv := ppair_in hy
  clear hy
  go_enter Try.func62, Try.ntmps62
  go_wp2
  go_end0
  exact ⟨rfl, rfl⟩

theorem ppair_swap (b off : Nat) (x y : Option Addr) (w : World) (hc : w.cell? ⟨b, off, none⟩ = some (.pointer x)) (hz : w.frozen? ⟨b, off, none⟩ = false) (hy : PtrTo 62 2 w y) (hx : PtrTo 62 2 (w.setCell ⟨b, off, none⟩ (.pointer y)) x) :
    Calls Try.prog 65 #[.pointer (some ⟨b, off, none⟩), .pointer y] w fun e w' => e = .returned (.pointer x) ∧ w.setCell ⟨b, off, none⟩ (.pointer y) = w' := by
  have h := run_call_swapp (P := Try.prog) Try.func101 (by kernel_rfl) (by kernel_rfl) (by kernel_rfl) (by kernel_rfl) (y := y) hc hz
  have hcv := ppair_in hy
  have hcw := ppair_out hx
  clear hy hx
  go_enter Try.func65, Try.ntmps65
  go_wp2
  go_ret
  exact ⟨rfl, rfl⟩

theorem ppair_cas (b off : Nat) (x o y : Option Addr) (w : World) (hc : w.cell? ⟨b, off, none⟩ = some (.pointer x)) (hz : w.frozen? ⟨b, off, none⟩ = false) (hx : PtrTo 62 2 w x) (ho : PtrTo 62 2 w o) (hy : PtrTo 62 2 w y) :
    Calls Try.prog 63 #[.pointer (some ⟨b, off, none⟩), .pointer o, .pointer y] w fun e w' => e = .returned (.bool (decide (x = o))) ∧ w.setCell ⟨b, off, none⟩ (.pointer (casNew x o y)) = w' := by
  have h := run_call_casp (P := Try.prog) Try.func99 (by kernel_rfl) (by kernel_rfl) (by kernel_rfl) (by kernel_rfl) (y := y) hc hz hx.plain ho.plain
  have hcv := ppair_in ho
  have hcw := ppair_in hy
  clear hx ho hy
  go_enter Try.func63, Try.ntmps63
  go_wp2
  go_ret
  exact ⟨rfl, rfl⟩

theorem cellpair_load (g : Value) (nb : Nat) (x : Option Addr) (w : World) (R : World → Prop) (hp : Passes g 1 w R) (hR : ∀ w1, R w1 → w1.heap[nb]? = some (.cells #[.pointer x] 120 (0, 0))) (hX : ∀ w1, R w1 → PtrTo 62 2 w1 x) :
    Calls Try.prog 31 #[.pointer (some ⟨nb, 0, none⟩), g] w fun e w' => e = .returned (.pointer x) ∧ R w' := by
  have HR := Lib.hid hR
  have HX := Lib.hid hX
  clear hR hX
  go_enter Try.func31, Try.ntmps31
  go_wp2_with fail
  refine hp.mono ?_
  rintro e w1 ⟨rfl, h1⟩
  have hb := HR.out w1 h1
  have hc := cell_of_heap hb (j := 0) rfl
  have hf := frozen_of_heap hb (j := 0)
  have HB := Lib.hid hb
  have HP := Lib.hid (HX.out w1 h1)
  have H1 := Lib.hid h1
  clear h1
  clear hf
  go_wp2_with (go_at_call 64; refine (ppair_load _ _ _ _ hc HP.out).mono ?_; rintro e w2 ⟨rfl, rfl⟩)
  go_ret
  exact ⟨rfl, H1.out⟩

theorem cellpair_store (g : Value) (nb : Nat) (x d : Option Addr) (w : World) (R : World → Prop) (hp : Passes g 2 w R) (hR : ∀ w1, R w1 → w1.heap[nb]? = some (.cells #[.pointer x] 120 (0, 0))) (hX : ∀ w1, R w1 → PtrTo 62 2 w1 d) :
    Calls Try.prog 33 #[.pointer (some ⟨nb, 0, none⟩), g, .pointer d] w fun e w' => e = .returned (.tuple #[]) ∧ ∃ w1, R w1 ∧ w1.setCell ⟨nb, 0, none⟩ (.pointer d) = w' := by
  have HR := Lib.hid hR
  have HX := Lib.hid hX
  clear hR hX
  go_enter Try.func33, Try.ntmps33
  go_wp2_with fail
  refine hp.mono ?_
  rintro e w1 ⟨rfl, h1⟩
  have hb := HR.out w1 h1
  have hc := cell_of_heap hb (j := 0) rfl
  have hf := frozen_of_heap hb (j := 0)
  have HB := Lib.hid hb
  have HP := Lib.hid (HX.out w1 h1)
  have H1 := Lib.hid h1
  clear h1
  go_wp2_with (go_at_call 62; refine (ppair_store _ _ _ _ _ hc hf HP.out).mono ?_; rintro e w2 ⟨rfl, rfl⟩)
  go_end0
  exact ⟨rfl, w1, H1.out, rfl⟩

theorem cellpair_swap (g : Value) (nb : Nat) (x d : Option Addr) (w : World) (R : World → Prop) (hp : Passes g 4 w R) (hR : ∀ w1, R w1 → w1.heap[nb]? = some (.cells #[.pointer x] 120 (0, 0))) (hX : ∀ w1, R w1 → PtrTo 62 2 w1 x ∧ PtrTo 62 2 w1 d) :
    Calls Try.prog 32 #[.pointer (some ⟨nb, 0, none⟩), g, .pointer d] w fun e w' => e = .returned (.pointer x) ∧ ∃ w1, R w1 ∧ w1.setCell ⟨nb, 0, none⟩ (.pointer d) = w' := by
  have HR := Lib.hid hR
  have HX := Lib.hid hX
  clear hR hX
  go_enter Try.func32, Try.ntmps32
  go_wp2_with fail
  refine hp.mono ?_
  rintro e w1 ⟨rfl, h1⟩
  have hb := HR.out w1 h1
  have hc := cell_of_heap hb (j := 0) rfl
  have hf := frozen_of_heap hb (j := 0)
  have HB := Lib.hid hb
  have HP := Lib.hid (HX.out w1 h1)
  have H1 := Lib.hid h1
  clear h1
  go_wp2_with (go_at_call 65; refine (ppair_swap _ _ _ _ _ hc hf HP.out.2 (HP.out.1.set HB.out (by decide) _)).mono ?_; rintro e w2 ⟨rfl, rfl⟩)
  go_ret
  exact ⟨rfl, w1, H1.out, rfl⟩

theorem cellpair_cas (g : Value) (nb : Nat) (x o d : Option Addr) (w : World) (R : World → Prop) (hp : Passes g 5 w R) (hR : ∀ w1, R w1 → w1.heap[nb]? = some (.cells #[.pointer x] 120 (0, 0))) (hX : ∀ w1, R w1 → PtrTo 62 2 w1 x ∧ PtrTo 62 2 w1 o ∧ PtrTo 62 2 w1 d) :
    Calls Try.prog 30 #[.pointer (some ⟨nb, 0, none⟩), g, .pointer o, .pointer d] w fun e w' => e = .returned (.bool (decide (x = o))) ∧ ∃ w1, R w1 ∧ w1.setCell ⟨nb, 0, none⟩ (.pointer (casNew x o d)) = w' := by
  have HR := Lib.hid hR
  have HX := Lib.hid hX
  clear hR hX
  go_enter Try.func30, Try.ntmps30
  go_wp2_with fail
  refine hp.mono ?_
  rintro e w1 ⟨rfl, h1⟩
  have hb := HR.out w1 h1
  have hc := cell_of_heap hb (j := 0) rfl
  have hf := frozen_of_heap hb (j := 0)
  have HB := Lib.hid hb
  have HP := Lib.hid (HX.out w1 h1)
  have H1 := Lib.hid h1
  clear h1
  go_wp2_with (go_at_call 63; refine (ppair_cas _ _ _ _ _ _ hc hf HP.out.1 HP.out.2.1 HP.out.2.2).mono ?_; rintro e w2 ⟨rfl, rfl⟩)
  go_ret
  exact ⟨rfl, w1, H1.out, rfl⟩

theorem newpair_any (x : Option Addr) (w : World) (hx : PtrTo 62 2 w x) :
    Calls Try.prog 29 #[.pointer x] w fun e w' => e = .returned (.pointer (some ⟨w.heap.size, 0, none⟩)) ∧ w.alloc (.cells #[.pointer x] 120) = w' := by
  have hc : (w.alloc (.cells #[.pointer none] 120)).cell? ⟨w.heap.size, 0, none⟩ = some (.pointer none) := cell_of_heap (heap_alloc_new w _) (by simp)
  have hf : (w.alloc (.cells #[.pointer none] 120)).frozen? ⟨w.heap.size, 0, none⟩ = false := frozen_of_heap (heap_alloc_new w _)
  have hy : PtrTo 62 2 (w.alloc (.cells #[.pointer none] 120)) x := fun a e => by
    obtain ⟨h1, h2, cs, h3, h4⟩ := hx a e
    exact ⟨h1, h2, cs, h3, (Turns.alloc (fun _ => False) w _).heap h4 (fun h => h)⟩
  clear hx
  have HY := Lib.hid hy
  clear hy
  go_enter Try.func29, Try.ntmps29
  go_wp2_with (go_at_call 62; refine (ppair_store _ _ _ _ _ hc hf HY.out).mono ?_; rintro e w1 ⟨rfl, rfl⟩)
  go_ret
  exact ⟨rfl, rfl⟩

theorem pstring_in {w : World} {x : Option Addr} (hx : PtrTo 9 1 w x) : (convert 69 71 (.pointer x)).run Try.prog w = .ok (.pointer x) w := by
  obtain ⟨j, hj, h0⟩ : ∃ j, Try.prog.info? 9 = some j ∧ j.size = 1 := by
    have h : (Try.prog.info? 9).map (·.size) = some 1 := by kernel_rfl
    cases e : Try.prog.info? 9 with
    | none => rw [e] at h; cases h
    | some j => rw [e] at h; exact ⟨j, rfl, by simpa using h⟩
  exact conv_in Try.underlying69 Try.underlying71 hj (by omega) (by decide) hx
theorem pstring_out {w : World} {x : Option Addr} (hx : PtrTo 9 1 w x) : (convert 71 69 (.pointer x)).run Try.prog w = .ok (.pointer x) w := by
  obtain ⟨j, hj⟩ : ∃ j, Try.prog.info? 9 = some j := by
    have h : (Try.prog.info? 9).map (·.size) = some 1 := by kernel_rfl
    cases e : Try.prog.info? 9 with
    | none => rw [e] at h; cases h
    | some j => exact ⟨j, rfl⟩
  exact conv_out Try.underlying71 Try.underlying69 hj (by kernel_rfl) hx

theorem pstring_load (b off : Nat) (x : Option Addr) (w : World) (hc : w.cell? ⟨b, off, none⟩ = some (.pointer x)) (hx : PtrTo 9 1 w x) :
    Calls Try.prog 66 #[.pointer (some ⟨b, off, none⟩)] w fun e w' => e = .returned (.pointer x) ∧ w = w' := by
  have h := run_call_loadp (P := Try.prog) Try.func100 (by kernel_rfl) (by kernel_rfl) (by kernel_rfl) (by kernel_rfl) hc
  have hcv := pstring_out hx
  clear hx
  go_enter Try.func66, Try.ntmps66
  go_wp2
  go_ret
  exact ⟨rfl, rfl⟩

theorem pstring_cas (b off : Nat) (x o y : Option Addr) (w : World) (hc : w.cell? ⟨b, off, none⟩ = some (.pointer x)) (hz : w.frozen? ⟨b, off, none⟩ = false) (hx : PtrTo 9 1 w x) (ho : PtrTo 9 1 w o) (hy : PtrTo 9 1 w y) :
    Calls Try.prog 67 #[.pointer (some ⟨b, off, none⟩), .pointer o, .pointer y] w fun e w' => e = .returned (.bool (decide (x = o))) ∧ w.setCell ⟨b, off, none⟩ (.pointer (casNew x o y)) = w' := by
  have h := run_call_casp (P := Try.prog) Try.func99 (by kernel_rfl) (by kernel_rfl) (by kernel_rfl) (by kernel_rfl) (y := y) hc hz hx.plain ho.plain
  have hcv := pstring_in ho
  have hcw := pstring_in hy
  clear hx ho hy
  go_enter Try.func67, Try.ntmps67
  go_wp2
  go_ret
  exact ⟨rfl, rfl⟩

theorem cellstring_load (g : Value) (nb : Nat) (x : Option Addr) (w : World) (R : World → Prop) (hp : Passes g 1 w R) (hR : ∀ w1, R w1 → w1.heap[nb]? = some (.cells #[.pointer x] 75 (0, 0))) (hX : ∀ w1, R w1 → PtrTo 9 1 w1 x) :
    Calls Try.prog 34 #[.pointer (some ⟨nb, 0, none⟩), g] w fun e w' => e = .returned (.pointer x) ∧ R w' := by
  have HR := Lib.hid hR
  have HX := Lib.hid hX
  clear hR hX
  go_enter Try.func34, Try.ntmps34
  go_wp2_with fail
  refine hp.mono ?_
  rintro e w1 ⟨rfl, h1⟩
  have hb := HR.out w1 h1
  have hc := cell_of_heap hb (j := 0) rfl
  have hf := frozen_of_heap hb (j := 0)
  have HB := Lib.hid hb
  have HP := Lib.hid (HX.out w1 h1)
  have H1 := Lib.hid h1
  clear h1
  clear hf
  go_wp2_with (go_at_call 66; refine (pstring_load _ _ _ _ hc HP.out).mono ?_; rintro e w2 ⟨rfl, rfl⟩)
  go_ret
  exact ⟨rfl, H1.out⟩

theorem cellstring_cas (g : Value) (nb : Nat) (x o d : Option Addr) (w : World) (R : World → Prop) (hp : Passes g 5 w R) (hR : ∀ w1, R w1 → w1.heap[nb]? = some (.cells #[.pointer x] 75 (0, 0))) (hX : ∀ w1, R w1 → PtrTo 9 1 w1 x ∧ PtrTo 9 1 w1 o ∧ PtrTo 9 1 w1 d) :
    Calls Try.prog 35 #[.pointer (some ⟨nb, 0, none⟩), g, .pointer o, .pointer d] w fun e w' => e = .returned (.bool (decide (x = o))) ∧ ∃ w1, R w1 ∧ w1.setCell ⟨nb, 0, none⟩ (.pointer (casNew x o d)) = w' := by
  have HR := Lib.hid hR
  have HX := Lib.hid hX
  clear hR hX
  go_enter Try.func35, Try.ntmps35
  go_wp2_with fail
  refine hp.mono ?_
  rintro e w1 ⟨rfl, h1⟩
  have hb := HR.out w1 h1
  have hc := cell_of_heap hb (j := 0) rfl
  have hf := frozen_of_heap hb (j := 0)
  have HB := Lib.hid hb
  have HP := Lib.hid (HX.out w1 h1)
  have H1 := Lib.hid h1
  clear h1
  go_wp2_with (go_at_call 67; refine (pstring_cas _ _ _ _ _ _ hc hf HP.out.1 HP.out.2.1 HP.out.2.2).mono ?_; rintro e w2 ⟨rfl, rfl⟩)
  go_ret
  exact ⟨rfl, w1, H1.out, rfl⟩

theorem pthing_in {w : World} {x : Option Addr} (hx : PtrTo 138 1 w x) : (convert 136 71 (.pointer x)).run Try.prog w = .ok (.pointer x) w := by
  obtain ⟨j, hj, h0⟩ : ∃ j, Try.prog.info? 138 = some j ∧ j.size = 1 := by
    have h : (Try.prog.info? 138).map (·.size) = some 1 := by kernel_rfl
    cases e : Try.prog.info? 138 with
    | none => rw [e] at h; cases h
    | some j => rw [e] at h; exact ⟨j, rfl, by simpa using h⟩
  exact conv_in Try.underlying136 Try.underlying71 hj (by omega) (by decide) hx
theorem pthing_out {w : World} {x : Option Addr} (hx : PtrTo 138 1 w x) : (convert 71 136 (.pointer x)).run Try.prog w = .ok (.pointer x) w := by
  obtain ⟨j, hj⟩ : ∃ j, Try.prog.info? 138 = some j := by
    have h : (Try.prog.info? 138).map (·.size) = some 1 := by kernel_rfl
    cases e : Try.prog.info? 138 with
    | none => rw [e] at h; cases h
    | some j => exact ⟨j, rfl⟩
  exact conv_out Try.underlying71 Try.underlying136 hj (by kernel_rfl) hx

theorem pthing_load (b off : Nat) (x : Option Addr) (w : World) (hc : w.cell? ⟨b, off, none⟩ = some (.pointer x)) (hx : PtrTo 138 1 w x) :
    Calls Try.prog 109 #[.pointer (some ⟨b, off, none⟩)] w fun e w' => e = .returned (.pointer x) ∧ w = w' := by
  have h := run_call_loadp (P := Try.prog) Try.func100 (by kernel_rfl) (by kernel_rfl) (by kernel_rfl) (by kernel_rfl) hc
  have hcv := pthing_out hx
  clear hx
  go_enter Try.func109, Try.ntmps109
  go_wp2
  go_ret
  exact ⟨rfl, rfl⟩

theorem pthing_store (b off : Nat) (x y : Option Addr) (w : World) (hc : w.cell? ⟨b, off, none⟩ = some (.pointer x)) (hz : w.frozen? ⟨b, off, none⟩ = false) (hy : PtrTo 138 1 w y) :
    Calls Try.prog 108 #[.pointer (some ⟨b, off, none⟩), .pointer y] w fun e w' => e = .returned (.tuple #[]) ∧ w.setCell ⟨b, off, none⟩ (.pointer y) = w' := by
  have h := run_call_storep (P := Try.prog) Try.func98 (by kernel_rfl) (by kernel_rfl) (by kernel_rfl) (by kernel_rfl) (y := y) hc hz
  have hcv := pthing_in hy
  clear hy
  go_enter Try.func108, Try.ntmps108
  go_wp2
  go_end0
  exact ⟨rfl, rfl⟩

theorem pthing_swap (b off : Nat) (x y : Option Addr) (w : World) (hc : w.cell? ⟨b, off, none⟩ = some (.pointer x)) (hz : w.frozen? ⟨b, off, none⟩ = false) (hy : PtrTo 138 1 w y) (hx : PtrTo 138 1 (w.setCell ⟨b, off, none⟩ (.pointer y)) x) :
    Calls Try.prog 110 #[.pointer (some ⟨b, off, none⟩), .pointer y] w fun e w' => e = .returned (.pointer x) ∧ w.setCell ⟨b, off, none⟩ (.pointer y) = w' := by
  have h := run_call_swapp (P := Try.prog) Try.func101 (by kernel_rfl) (by kernel_rfl) (by kernel_rfl) (by kernel_rfl) (y := y) hc hz
  have hcv := pthing_in hy
  have hcw := pthing_out hx
  clear hy hx
  go_enter Try.func110, Try.ntmps110
  go_wp2
  go_ret
  exact ⟨rfl, rfl⟩

theorem pthing_cas (b off : Nat) (x o y : Option Addr) (w : World) (hc : w.cell? ⟨b, off, none⟩ = some (.pointer x)) (hz : w.frozen? ⟨b, off, none⟩ = false) (hx : PtrTo 138 1 w x) (ho : PtrTo 138 1 w o) (hy : PtrTo 138 1 w y) :
    Calls Try.prog 111 #[.pointer (some ⟨b, off, none⟩), .pointer o, .pointer y] w fun e w' => e = .returned (.bool (decide (x = o))) ∧ w.setCell ⟨b, off, none⟩ (.pointer (casNew x o y)) = w' := by
  have h := run_call_casp (P := Try.prog) Try.func99 (by kernel_rfl) (by kernel_rfl) (by kernel_rfl) (by kernel_rfl) (y := y) hc hz hx.plain ho.plain
  have hcv := pthing_in ho
  have hcw := pthing_in hy
  clear hx ho hy
  go_enter Try.func111, Try.ntmps111
  go_wp2
  go_ret
  exact ⟨rfl, rfl⟩

theorem cellthing_load (g : Value) (nb : Nat) (x : Option Addr) (w : World) (R : World → Prop) (hp : Passes g 1 w R) (hR : ∀ w1, R w1 → w1.heap[nb]? = some (.cells #[.pointer x] 174 (0, 0))) (hX : ∀ w1, R w1 → PtrTo 138 1 w1 x) :
    Calls Try.prog 86 #[.pointer (some ⟨nb, 0, none⟩), g] w fun e w' => e = .returned (.pointer x) ∧ R w' := by
  have HR := Lib.hid hR
  have HX := Lib.hid hX
  clear hR hX
  go_enter Try.func86, Try.ntmps86
  go_wp2_with fail
  refine hp.mono ?_
  rintro e w1 ⟨rfl, h1⟩
  have hb := HR.out w1 h1
  have hc := cell_of_heap hb (j := 0) rfl
  have hf := frozen_of_heap hb (j := 0)
  have HB := Lib.hid hb
  have HP := Lib.hid (HX.out w1 h1)
  have H1 := Lib.hid h1
  clear h1
  clear hf
  go_wp2_with (go_at_call 109; refine (pthing_load _ _ _ _ hc HP.out).mono ?_; rintro e w2 ⟨rfl, rfl⟩)
  go_ret
  exact ⟨rfl, H1.out⟩

theorem cellthing_store (g : Value) (nb : Nat) (x d : Option Addr) (w : World) (R : World → Prop) (hp : Passes g 2 w R) (hR : ∀ w1, R w1 → w1.heap[nb]? = some (.cells #[.pointer x] 174 (0, 0))) (hX : ∀ w1, R w1 → PtrTo 138 1 w1 d) :
    Calls Try.prog 87 #[.pointer (some ⟨nb, 0, none⟩), g, .pointer d] w fun e w' => e = .returned (.tuple #[]) ∧ ∃ w1, R w1 ∧ w1.setCell ⟨nb, 0, none⟩ (.pointer d) = w' := by
  have HR := Lib.hid hR
  have HX := Lib.hid hX
  clear hR hX
  go_enter Try.func87, Try.ntmps87
  go_wp2_with fail
  refine hp.mono ?_
  rintro e w1 ⟨rfl, h1⟩
  have hb := HR.out w1 h1
  have hc := cell_of_heap hb (j := 0) rfl
  have hf := frozen_of_heap hb (j := 0)
  have HB := Lib.hid hb
  have HP := Lib.hid (HX.out w1 h1)
  have H1 := Lib.hid h1
  clear h1
  go_wp2_with (go_at_call 108; refine (pthing_store _ _ _ _ _ hc hf HP.out).mono ?_; rintro e w2 ⟨rfl, rfl⟩)
  go_end0
  exact ⟨rfl, w1, H1.out, rfl⟩

theorem cellthing_swap (g : Value) (nb : Nat) (x d : Option Addr) (w : World) (R : World → Prop) (hp : Passes g 4 w R) (hR : ∀ w1, R w1 → w1.heap[nb]? = some (.cells #[.pointer x] 174 (0, 0))) (hX : ∀ w1, R w1 → PtrTo 138 1 w1 x ∧ PtrTo 138 1 w1 d) :
    Calls Try.prog 88 #[.pointer (some ⟨nb, 0, none⟩), g, .pointer d] w fun e w' => e = .returned (.pointer x) ∧ ∃ w1, R w1 ∧ w1.setCell ⟨nb, 0, none⟩ (.pointer d) = w' := by
  have HR := Lib.hid hR
  have HX := Lib.hid hX
  clear hR hX
  go_enter Try.func88, Try.ntmps88
  go_wp2_with fail
  refine hp.mono ?_
  rintro e w1 ⟨rfl, h1⟩
  have hb := HR.out w1 h1
  have hc := cell_of_heap hb (j := 0) rfl
  have hf := frozen_of_heap hb (j := 0)
  have HB := Lib.hid hb
  have HP := Lib.hid (HX.out w1 h1)
  have H1 := Lib.hid h1
  clear h1
  go_wp2_with (go_at_call 110; refine (pthing_swap _ _ _ _ _ hc hf HP.out.2 (HP.out.1.set HB.out (by decide) _)).mono ?_; rintro e w2 ⟨rfl, rfl⟩)
  go_ret
  exact ⟨rfl, w1, H1.out, rfl⟩

theorem cellthing_cas (g : Value) (nb : Nat) (x o d : Option Addr) (w : World) (R : World → Prop) (hp : Passes g 5 w R) (hR : ∀ w1, R w1 → w1.heap[nb]? = some (.cells #[.pointer x] 174 (0, 0))) (hX : ∀ w1, R w1 → PtrTo 138 1 w1 x ∧ PtrTo 138 1 w1 o ∧ PtrTo 138 1 w1 d) :
    Calls Try.prog 90 #[.pointer (some ⟨nb, 0, none⟩), g, .pointer o, .pointer d] w fun e w' => e = .returned (.bool (decide (x = o))) ∧ ∃ w1, R w1 ∧ w1.setCell ⟨nb, 0, none⟩ (.pointer (casNew x o d)) = w' := by
  have HR := Lib.hid hR
  have HX := Lib.hid hX
  clear hR hX
  go_enter Try.func90, Try.ntmps90
  go_wp2_with fail
  refine hp.mono ?_
  rintro e w1 ⟨rfl, h1⟩
  have hb := HR.out w1 h1
  have hc := cell_of_heap hb (j := 0) rfl
  have hf := frozen_of_heap hb (j := 0)
  have HB := Lib.hid hb
  have HP := Lib.hid (HX.out w1 h1)
  have H1 := Lib.hid h1
  clear h1
  go_wp2_with (go_at_call 111; refine (pthing_cas _ _ _ _ _ _ hc hf HP.out.1 HP.out.2.1 HP.out.2.2).mono ?_; rintro e w2 ⟨rfl, rfl⟩)
  go_ret
  exact ⟨rfl, w1, H1.out, rfl⟩

theorem newthing_any (x : Option Addr) (w : World) (hx : PtrTo 138 1 w x) :
    Calls Try.prog 85 #[.pointer x] w fun e w' => e = .returned (.pointer (some ⟨w.heap.size, 0, none⟩)) ∧ w.alloc (.cells #[.pointer x] 174) = w' := by
  have hc : (w.alloc (.cells #[.pointer none] 174)).cell? ⟨w.heap.size, 0, none⟩ = some (.pointer none) := cell_of_heap (heap_alloc_new w _) (by simp)
  have hf : (w.alloc (.cells #[.pointer none] 174)).frozen? ⟨w.heap.size, 0, none⟩ = false := frozen_of_heap (heap_alloc_new w _)
  have hy : PtrTo 138 1 (w.alloc (.cells #[.pointer none] 174)) x := fun a e => by
    obtain ⟨h1, h2, cs, h3, h4⟩ := hx a e
    exact ⟨h1, h2, cs, h3, (Turns.alloc (fun _ => False) w _).heap h4 (fun h => h)⟩
  clear hx
  have HY := Lib.hid hy
  clear hy
  go_enter Try.func85, Try.ntmps85
  go_wp2_with (go_at_call 108; refine (pthing_store _ _ _ _ _ hc hf HY.out).mono ?_; rintro e w1 ⟨rfl, rfl⟩)
  go_ret
  exact ⟨rfl, rfl⟩

end Go.Proofs.Ytjifoggfndicoaa
