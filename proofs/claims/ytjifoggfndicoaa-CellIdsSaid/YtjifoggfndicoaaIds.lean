/-
  DERIVED. THE WALK over package cell's Ids.
-/
import Derived.Test.YtjifoggfndicoaaITape
import Derived.Test.YtjifoggfndicoaaMLoad
namespace Go.Proofs.Ytjifoggfndicoaa
open Go.RowKit
set_option maxRecDepth 100000

theorem info_ptrT : (Try.prog.info? 136).map (fun i => (i.zero, i.size, i.bytes)) = some (some (.pointer none), 1, 8) := by kernel_rfl

theorem allRight_at {things : Int} {l : List Int} (h : allRight things l = true) {k : Nat} (hk : k < l.length) : right things l[k] = true := List.all_eq_true.1 h _ (List.getElem_mem hk)

theorem new_right {things X : Int} {y : A4} (hk : known4 y.k = true) (hf : fitsId things y = true) (hX : right things X = true) : right things (numNew y.k X y.a y.b) = true := by
  rcases known4_or hk with e | e | e | e
  · rw [e]; simpa [numNew] using hX
  · have h : right things y.a = true := by simp [fitsId, e] at hf; exact hf
    rw [e]; simpa [numNew] using h
  · have h : right things y.a = true := by simp [fitsId, e] at hf; exact hf
    rw [e]; simpa [numNew] using h
  · have h : right things y.a = true ∧ right things y.b = true := by simp [fitsId, e] at hf; exact hf
    rw [e]
    simp only [numNew, casNew, show ¬ (5 : Int) = 2 by omega, show ¬ (5 : Int) = 3 by omega, show ¬ (5 : Int) = 4 by omega, if_false, if_true]
    split
    · exact h.2
    · exact hX
theorem ids_right {things : Int} {cells : List Int} {l : List A4} (hc : allRight things cells = true) (hl : ∀ x ∈ l, known4 x.k = true ∧ fitsId things x = true ∧ x.at_.toNat < cells.length) : ∀ x ∈ (numTo cells l).2, right things x = true := by
  suffices h : ∀ (l : List A4) (p : List Int × List Int), p.2.length = cells.length → (∀ x ∈ l, known4 x.k = true ∧ fitsId things x = true ∧ x.at_.toNat < cells.length) → (∀ x ∈ p.2, right things x = true) → ∀ x ∈ (l.foldl numStep p).2, right things x = true from
    h l ([], cells) rfl hl (fun x hx => List.all_eq_true.1 hc x hx)
  intro l
  induction l with
  | nil => intro p _ _ hp; exact hp
  | cons y r ih =>
    intro p hpl hl hp
    obtain ⟨hk, hf, ha⟩ := hl y (by simp)
    refine ih _ (by rw [(numStep_len p y).2]; exact hpl) (fun x hx => hl x (by simp [hx])) ?_
    intro x hx
    simp only [numStep] at hx
    rcases List.mem_or_eq_of_mem_set hx with hx | rfl
    · exact hp x hx
    · refine new_right hk hf ?_
      rw [List.getD_eq_getElem?_getD, List.getElem?_eq_getElem (by omega)]
      exact hp _ (List.getElem_mem _)

theorem store_right (w : World) (things : Int) :
    (store ⟨w.heap.size + 1, 0, none⟩ (fRight w.heap.size)).run Try.prog ((w.alloc (.cells #[.int .i64 things] 3)).alloc (.cells #[.nilFunc] 102)) = .ok () (((w.alloc (.cells #[.int .i64 things] 3)).alloc (.cells #[.nilFunc] 102)).setCell ⟨w.heap.size + 1, 0, none⟩ (fRight w.heap.size)) := by
  have h0 := heap_alloc_new (w.alloc (.cells #[.int .i64 things] 3)) (.cells #[.nilFunc] 102)
  have h1 : ((w.alloc (.cells #[.int .i64 things] 3)).alloc (.cells #[.nilFunc] 102)).heap[w.heap.size + 1]? = some (.cells #[.nilFunc] 102 (0, 0)) := by simpa using h0
  have q1 := cell_of_heap h1 (j := 0) rfl
  have q2 := frozen_of_heap h1 (j := 0)
  rw [run_store _ _ _ _ _ rfl]
  simp [q1, q2]
theorem right_new (w : World) (things : Int) : RightAt ((w.alloc (.cells #[.int .i64 things] 3)).alloc (.cells #[fRight w.heap.size] 102)) w.heap.size things := by
  refine ⟨(Turns.alloc (fun _ => False) _ _).heap (heap_alloc_new w _) (fun h => h), ?_⟩
  simpa using heap_alloc_new (w.alloc (.cells #[.int .i64 things] 3)) (.cells #[fRight w.heap.size] 102)

set_option maxHeartbeats 8000000 in
theorem ids_small (ca aa : Option Addr) (cc ac : Nat) (cells : List Int) (things : Int) (acts : List A4) (w : World) (h1 : cells.length ≤ 64) (h2 : acts.length ≤ 1000) (h5 : ¬ 64 < things) (h6 : 0 ≤ things) (hr : ActsIn w aa acts) (hi : IntsIn w ca cells) :
    Calls Try.prog 44 #[.slice ca cells.length cc, .int .i64 things, .slice aa acts.length ac] w (IdsPost w cells things acts) := by
  obtain ⟨i0, hi0, hz0, hz1, hz2⟩ := info_parts info_int
  have h3 : decide ((64 : Int) < (cells.length : Int)) = false := by simp; omega
  have h4 : decide ((1000 : Int) < (acts.length : Int)) = false := by simp; omega
  have h7 : decide (things < 0) = false := by simp; omega
  have h8 : decide (64 < things) = false := by simp; omega
  have hst := store_right w things
  have Hr := Lib.hid hr
  have Hi := Lib.hid hi
  clear hr hi
  go_enter Try.func44, Try.ntmps44
  go_wp2_with fail
  have hra := right_new w things
  have bR : Below w.heap.size w ((w.alloc (.cells #[.int .i64 things] 3)).alloc (.cells #[fRight w.heap.size] 102)) := ((Below.refl _ w).alloc (Nat.le_refl _) _).alloc (by simp) _
  have szR : ((w.alloc (.cells #[.int .i64 things] 3)).alloc (.cells #[fRight w.heap.size] 102)).heap.size = w.heap.size + 2 := by simp
  generalize ((w.alloc (.cells #[.int .i64 things] 3)).alloc (.cells #[fRight w.heap.size] 102)) = wR at *
  have Hi1 := Lib.hid (Hi.out.below bR)
  have Hr1 := Lib.hid (Hr.out.below bR)
  have HR := Lib.hid hra
  have BR := Lib.hid bR
  clear hra bR hst
  refine (contains_any w.heap.size things _ _ cells _ h1 Hi1.out HR.out).mono ?_
  rintro e w1 ⟨rfl, rfl⟩
  by_cases har : allRight things cells = true
  · have herr : idsErr cells things acts = checkIds cells.length things acts := by rw [idsErr, if_neg (by omega), if_neg (by rw [har]; simp; omega)]
    have Herr := Lib.hid herr
    have Har := Lib.hid har
    rw [har]
    clear har herr
    by_cases hz : checkIds cells.length things acts = 0
    · have Hz := Lib.hid hz
      have He := Lib.hid (Herr.out.trans hz)
      have hz' : (checkIds cells.length things acts != 0) = false := by rw [bne_eq_false_iff_eq]; exact hz
      clear hz
      go_wp2_with fail
      refine (icheck_any w.heap.size things _ _ _ acts _ h2 Hr1.out HR.out).mono ?_
      rintro e w1 ⟨rfl, hb1⟩
      have B1 := Lib.hid (BR.out.trans (hb1.mono BR.out.size))
      have sz1 := hb1.size
      have c0 := cell_of_heap (by rw [hb1.block _ (by omega)]; exact HR.out.t : w1.heap[w.heap.size]? = _) (j := 0) rfl
      clear hb1 BR HR Hi1 Hr1
      obtain ⟨nt, hnt⟩ := Int.eq_ofNat_of_zero_le h6
      subst hnt
      have hmk := run_makeN (P := Try.prog) 135 136 (.pointer none) 8 Try.underlying135 info_ptrT rfl nt (by omega) (by omega)
      go_wp2_with fail
      clear hmk
      obtain ⟨A, hA⟩ : ∃ A, A = w1.heap.size := ⟨_, rfl⟩
      have hwA : w.heap.size + 2 ≤ A := by omega
      have hth0 : ThRow ((w1.alloc (.cells (mkRow (.pointer none) nt) 136)).alloc (.cells #[.slice (some ⟨w1.heap.size, 0, none⟩) nt nt] 135)) A nt 0 := by
        refine ⟨⟨mkRow (.pointer none) nt, ?_, mkRow_size _ _, fun i hi => by omega⟩, ?_, fun i hi => by omega⟩
        · rw [hA]; exact (Turns.alloc (fun _ => False) _ _).heap (heap_alloc_new w1 _) (fun h => h)
        · rw [hA]; simpa using heap_alloc_new (w1.alloc (.cells (mkRow (.pointer none) nt) 136)) (.cells #[.slice (some ⟨w1.heap.size, 0, none⟩) nt nt] 135)
      have b0 : Below A w1 ((w1.alloc (.cells (mkRow (.pointer none) nt) 136)).alloc (.cells #[.slice (some ⟨w1.heap.size, 0, none⟩) nt nt] 135)) := ((Below.refl _ _).alloc (by omega) _).alloc (by simp; omega) _
      have s0 : ((w1.alloc (.cells (mkRow (.pointer none) nt) 136)).alloc (.cells #[.slice (some ⟨w1.heap.size, 0, none⟩) nt nt] 135)).heap.size = A + 2 + 0 := by simp; omega
      rw [← hA] at *
      generalize ((w1.alloc (.cells (mkRow (.pointer none) nt) 136)).alloc (.cells #[.slice (some ⟨A, 0, none⟩) nt nt] 135)) = wa at *
      have Hth0 := Lib.hid hth0
      have Hb0 := Lib.hid b0
      have Hs0 := Lib.hid s0
      have HA := Lib.hid hA
      clear hth0 b0 s0 hA c0
      go_loopw [61] (fun i wr => ∃ j : Nat, j ≤ nt ∧ i = .int .i64 j ∧ ThRow wr A nt j ∧ wr.heap.size = A + 2 + j ∧ Below A w1 wr) (fun i _ => nt - (intOf i).toNat)
      case atStart => exact ⟨0, Nat.zero_le _, rfl, Hth0.out, Hs0.out, Hb0.out⟩
      case round =>
        obtain ⟨j, hj, rfl, hth, hsz, hb⟩ := hrel
        by_cases hlt : j < nt
        · have cv := cell_of_heap hth.var (j := 0) rfl
          have hT := Turns.alloc (fun _ => False) wr (.cells #[.int .i64 0] 138)
          obtain ⟨c, hc1, hc2, hc3⟩ := hth.row
          have hc1' := hT.heap hc1 (fun h => h)
          obtain ⟨u, hu⟩ : ∃ u, c[j]? = some u := ⟨_, Array.getElem?_eq_getElem (by omega)⟩
          have hcj := cell_of_heap hc1' hu
          have hfj := frozen_of_heap hc1' (j := j)
          have j0 : (0 : Int) ≤ (j : Int) := by omega
          have j1 : (j : Int) < (nt : Int) := by omega
          have H1 := Lib.hid hth
          have H2 := Lib.hid hsz
          have H3 := Lib.hid hb
          clear hth hsz hb hT hc1 hc1' hc2 hc3 hu
          go_wp2_with fail
          have h9 := H1.out.push H2.out hlt
          exact ⟨⟨j + 1, by omega, by go_num, h9.1, h9.2, (H3.out.alloc (by rw [H2.out]; omega) _).setCell (Nat.le_refl _) _⟩, by simp [intOf]; omega⟩
        · have hjn : nt = j := by omega
          subst hjn
          obtain ⟨wb, rfl⟩ : ∃ x, x = wr := ⟨wr, rfl⟩
          have B2 := Lib.hid (B1.out.trans (hb.mono (by have := B1.out.size; have := HA.out; omega)))
          have Hth := Lib.hid hth
          have hmk := run_makeN (P := Try.prog) 142 143 (.pointer none) 8 Try.underlying142 info_ptrC rfl cells.length (by omega) (by omega)
          go_wp2_with fail
          clear hmk hlt hj
          obtain ⟨rb, hrb2⟩ : ∃ rb, rb = A + 2 + nt := ⟨_, rfl⟩
          have hrb : rb = wb.heap.size := by omega
          have hc0 : CRow A (wb.alloc (.cells (mkRow (.pointer none) cells.length) 143)) rb cells.length 0 cells :=
            ⟨⟨mkRow (.pointer none) cells.length, by rw [hrb]; exact heap_alloc_new wb _, mkRow_size _ _, fun i hi => by omega⟩, fun i _ hi => by omega⟩
          have hs0 : (wb.alloc (.cells (mkRow (.pointer none) cells.length) 143)).heap.size = rb + 1 + 0 := by rw [hrb]; simp
          have hb0 : Below rb wb (wb.alloc (.cells (mkRow (.pointer none) cells.length) 143)) := (Below.refl _ _).alloc (by omega) _
          rw [← hrb2]
          generalize wb.alloc (.cells (mkRow (.pointer none) cells.length) 143) = wc at *
          have Hc0 := Lib.hid hc0
          have Hs0 := Lib.hid hs0
          have Hb0 := Lib.hid hb0
          have Hrb := Lib.hid hrb
          have HrbA := Lib.hid hrb2
          clear hc0 hs0 hb0 hrb hth hsz hb hrb2
          go_loopw [77] (fun i wr => ∃ k : Nat, k ≤ cells.length ∧ i = .int .i64 k ∧ CRow A wr rb cells.length k cells ∧ wr.heap.size = rb + 1 + k ∧ Below rb wb wr) (fun i _ => cells.length - (intOf i).toNat)
          case atStart => exact ⟨0, Nat.zero_le _, rfl, Hc0.out, Hs0.out, Hb0.out⟩
          case round =>
            obtain ⟨k, hk, rfl, hrow, hsz, hb⟩ := hrel
            have hrb2 := HrbA.out
            by_cases hlt : k < cells.length
            · have hw : Below w.heap.size w wr := B2.out.trans (hb.mono (by have := B2.out.size; have := Hrb.out; omega))
              obtain ⟨bb, off, rfl, hcell⟩ := (Hi.out.below hw) k hlt
              have hra := allRight_at Har.out hlt
              have hth1 : ThRow wr A nt nt := Hth.out.turns (Turns.of_below (S := fun b => rb ≤ b) hb (fun k hk _ => hk)) (fun i hi _ e => by omega)
              have Hth1 := Lib.hid hth1
              have Hp1 := Lib.hid (hth1.ptr hra)
              obtain ⟨c, hc1, hc2, hc3⟩ := hrow.row
              have hgrow := Turns.alloc (fun _ => False) wr (.cells #[.pointer (thP A cells[k])] 174)
              have hc1' := hgrow.heap hc1 (fun h => h)
              obtain ⟨u, hu⟩ : ∃ u, c[k]? = some u := ⟨_, Array.getElem?_eq_getElem (by omega)⟩
              have hcj := cell_of_heap hc1' hu
              have hfj := frozen_of_heap hc1' (j := k)
              have k0 : (0 : Int) ≤ (k : Int) := by omega
              have k1 : (k : Int) < (cells.length : Int) := by omega
              have H1 := Lib.hid hrow
              have H2 := Lib.hid hsz
              have H3 := Lib.hid hb
              clear hrow hsz hb hw hth1 hc1 hc1' hgrow hc2 hc3 hu hrb2
              go_wp2_with (first | (go_at_call 82; refine (of_any A nt _ _ Hth1.out hra).mono ?_; rintro e w2 ⟨rfl, rfl⟩) | (go_at_call 85; refine (newthing_any _ _ Hp1.out).mono ?_; rintro e w2 ⟨rfl, rfl⟩))
              have h9 := H1.out.push H2.out hlt hlt
              exact ⟨⟨k + 1, by omega, by go_num, h9.1, h9.2, (H3.out.alloc (by rw [H2.out]; omega) _).setCell (Nat.le_refl _) _⟩, by simp [intOf]; omega⟩
            · obtain rfl : k = cells.length := by omega
              have hw : Below w.heap.size w wr := B2.out.trans (hb.mono (by have := B2.out.size; have := Hrb.out; omega))
              have hrle : w.heap.size ≤ rb := by omega
              have hth1 : ThRow wr A nt nt := Hth.out.turns (Turns.of_below (S := fun b => rb ≤ b) hb (fun k hk _ => hk)) (fun i hi _ e => by omega)
              have tT := Turns.alloc (fun _ => False) wr (.cells #[.slice none 0 0] 108)
              have hnr : CRow A (wr.alloc (.cells #[.slice none 0 0] 108)) rb cells.length cells.length cells := hrow.turns tT (fun _ _ h => h)
              have htp : TapeAt (wr.alloc (.cells #[.slice none 0 0] 108)) (rb + 2 + cells.length) (rb + 1 + cells.length) (.slice none 0 0) [] := by
                have := TapeAt.new wr (rb + 2 + cells.length)
                rwa [hsz] at this
              have hs2 : (wr.alloc (.cells #[.slice none 0 0] 108)).heap.size = rb + 2 + cells.length := by simp; omega
              have hi2 : I2 A w rb cells.length cells [] (.slice none 0 0) (.slice none 0 0) (wr.alloc (.cells #[.slice none 0 0] 108)) := ⟨hw.alloc hw.size _, hnr, htp, World.ownsRow_nil _ _ _ _, by simp [Value.ownBlock], by rw [hs2]; exact Nat.le_refl _, hrle⟩
              have Hi2 := Lib.hid hi2
              have HthT := Lib.hid (hth1.turns tT (fun _ _ _ h => h))
              have Hsz := Lib.hid hsz
              clear hw hrow hsz hb hth1 tT hnr htp hs2 hi2 hlt hk hrb2
              go_wp2_with (go_at_call 16; refine (newtape_any _).mono ?_; rintro e w2 ⟨rfl, rfl⟩)
              rw [Hsz.out]
              generalize (wr.alloc (.cells #[.slice none 0 0] 108)) = wt at *
              go_loopw [21, 93] (fun av i wx => ∃ (j : Nat) (tv : Value), j ≤ acts.length ∧ i = .int .i64 j ∧ I2 A w rb cells.length cells (acts.take j) tv av wx ∧ ThRow wx A nt nt) (fun _ i _ => acts.length - (intOf i).toNat)
              case atStart => exact ⟨0, .slice none 0 0, Nat.zero_le _, rfl, Hi2.out, HthT.out⟩
              case round =>
                obtain ⟨j, tv, hj, rfl, hinv, hth⟩ := hrel
                clear Hi2 HthT
                by_cases hlt : j < acts.length
                · obtain ⟨b, off, rfl, hc1, hc2, hc3, hc4⟩ := (Hr.out.below hinv.below) j hlt
                  obtain ⟨k1, k3, k4, kf⟩ := checkIds_ok _ _ acts Hz.out acts[j] (List.getElem_mem hlt)
                  have hall : ∀ x ∈ acts.take j, known4 x.k = true ∧ fitsId nt x = true ∧ x.at_.toNat < cells.length := fun x hx => by
                    obtain ⟨q1, q2, q3, q4⟩ := checkIds_ok _ _ acts Hz.out x (List.mem_of_mem_take hx)
                    exact ⟨q1, q4, by omega⟩
                  have hrights := ids_right Har.out hall
                  obtain ⟨m, hm⟩ := Int.eq_ofNat_of_zero_le k3
                  rw [hm] at hc2 k4
                  have hmn : m < cells.length := by omega
                  have hrow := hinv.row.cell hmn
                  have htl : (acts.take j).length = j := by rw [List.length_take]; omega
                  have hbs := hinv.size
                  have hlt1 : rb < wr.heap.size := by omega
                  have hm0 : (0 : Int) ≤ (m : Int) := by omega
                  have hm1 : (m : Int) < (cells.length : Int) := by omega
                  have hs1 : (wr.alloc (.cells #[.int .i64 acts[j].k, .int .i64 (m : Int), .int .i64 acts[j].a, .int .i64 acts[j].b] 57)).heap.size = wr.heap.size + 1 := by simp
                  have tA := Turns.alloc (fun _ => False) wr (.cells #[.int .i64 acts[j].k, .int .i64 (m : Int), .int .i64 acts[j].a, .int .i64 acts[j].b] 57)
                  have hq : ∀ o v, #[Value.int .i64 acts[j].k, .int .i64 (m : Int), .int .i64 acts[j].a, .int .i64 acts[j].b][o]? = some v → (wr.alloc (.cells #[.int .i64 acts[j].k, .int .i64 (m : Int), .int .i64 acts[j].a, .int .i64 acts[j].b] 57)).cell? ⟨wr.heap.size, o, none⟩ = some v := fun o v h => cell_of_heap (heap_alloc_new wr _) h
                  obtain ⟨L, hL⟩ : ∃ L, acts.take j = L := ⟨_, rfl⟩
                  rw [hL] at hinv htl hrights
                  have hlen := numTo_len cells L
                  have hnum := (hinv.turns tA).num rfl hmn
                  obtain ⟨X, hX⟩ : ∃ X, (numTo cells L).2.getD m 0 = X := ⟨_, rfl⟩
                  have hXr : right nt X = true := by
                    rw [← hX, List.getD_eq_getElem?_getD, List.getElem?_eq_getElem (by omega)]
                    exact hrights _ (List.getElem_mem _)
                  rw [hX] at hnum
                  have Hi0 := Lib.hid hinv
                  have Hi1 := Lib.hid (hinv.turns tA)
                  have Hth0 := Lib.hid hth
                  have Hth1 := Lib.hid (hth.turns tA (fun _ _ _ h => h))
                  have Hm := Lib.hid hm
                  have Htl := Lib.hid htl
                  have HL := Lib.hid hL
                  have Hnum := Lib.hid hnum
                  have HX := Lib.hid hX
                  have Hs1 := Lib.hid hs1
                  have HXr := Lib.hid hXr
                  have Hq := Lib.hid hq
                  have Hf := Lib.hid kf
                  clear hinv hth hm htl hL hnum hX hs1 hXr hq kf hrights hall tA hlen k3 k4
                  rcases known4_or k1 with ek | ek | ek | ek
                  · rw [ek] at hc1 Hi1 Hs1 Hnum Hth1
                    clear k1 Hq
                    go_wp2_with fail
                    refine (ctape_load Hi1.out.tape Hnum.out (by rw [List.length_map, Htl.out]; omega) (by rw [Hs1.out]; omega) (Hi1.out.tape_free hmn) Hth1.out (by have := HrbA.out; omega) (by have := HrbA.out; omega) HXr.out).mono ?_
                    rintro e w2 ⟨rfl, tv', g1, g2, g3, g4⟩
                    have hth2 : ThRow w2 A nt nt := Hth1.out.turns g3 (fun i hi _ e => by
                      have h0 := HrbA.out
                      rcases e with e | e | e
                      · omega
                      · omega
                      · have := (Hi1.out.tape.row.lt _ e).1; omega)
                    have hw2 : rb + 2 + cells.length ≤ w2.heap.size := by have := g3.size; have := Hs1.out; omega
                    have Hth2 := Lib.hid hth2
                    have Hrow := Lib.hid (g3.row Hi1.out.ans (Hi1.out.ans_free hmn))
                    have G1 := Lib.hid g1
                    have G2 := Lib.hid g2
                    have G3 := Lib.hid g3
                    have G4 := Lib.hid g4
                    clear g1 g2 g3 g4 hth2
                    go_wp2_with (first | (go_at_call 83; refine (number_any A nt X _ Hth2.out HXr.out (by omega)).mono ?_; rintro e w3 ⟨rfl, rfl⟩) | (at_builtin; refine wpList_append_one rfl _ _ 22 rfl (rb + 2 + cells.length) 3 i0 (.int .i64 0) 1 8 Try.underlying22 hi0 hz0 hz1 hz2 rfl (by decide) (by decide) u21 _ _ [_] rfl Hrow.out rfl rfl (by simp [Value.oneCell']) (by rw [Htl.out]; omega) hw2 ?_))
                    intro v' w3 q1 q2 q3
                    have hstep := Hi1.out.step (x := acts[j]) (tv' := tv') (av' := v') rfl Hm.out hmn (by rw [ek]; exact G1.out) (by rw [HX.out, ek, show numNew 1 X acts[j].a acts[j].b = X by simp [numNew]]; exact G2.out) G3.out G4.out (by rw [HX.out, ek, show numAns 1 X acts[j].a = X by simp [numAns]]; exact q1) q2 q3
                    have hth3 : ThRow w3 A nt nt := Hth2.out.turns q2 (fun i hi _ e => by have h0 := HrbA.out; have := (Hrow.out.lt _ e).1; omega)
                    have Hstep := Lib.hid hstep
                    have Hth3 := Lib.hid hth3
                    clear hstep hth3 q1 q2 q3 G1 G2 G3 G4 Hrow hw2 Hth2
                    go_wp2
                    go_roundw
                    case rel =>
                      refine ⟨j + 1, tv', by omega, by go_num, ?_, Hth3.out⟩
                      rw [List.take_succ_eq_append_getElem hlt, HL.out]
                      exact Hstep.out
                    case measure => simp [intOf]; omega
                  · rw [ek] at hc1 Hi1 Hs1 Hnum Hth1
                    clear k1 Hq
                    have hra : right nt acts[j].a = true := by have := Hf.out; simp [fitsId, ek] at this; exact this
                    go_wp2_with fail
                    refine (of_any A nt _ _ Hth1.out hra).mono ?_
                    rintro e w9 ⟨rfl, rfl⟩
                    go_wp2_with fail
                    refine (ctape_store acts[j].a Hi1.out.tape Hnum.out (by rw [List.length_map, Htl.out]; omega) (by rw [Hs1.out]; omega) (Hi1.out.tape_free hmn) Hth1.out (by have := HrbA.out; omega) (by have := HrbA.out; omega) hra).mono ?_
                    rintro e w2 ⟨rfl, tv', g1, g2, g3, g4⟩
                    have hth2 : ThRow w2 A nt nt := Hth1.out.turns g3 (fun i hi _ e => by
                      have h0 := HrbA.out
                      rcases e with e | e | e
                      · omega
                      · omega
                      · have := (Hi1.out.tape.row.lt _ e).1; omega)
                    have hw2 : rb + 2 + cells.length ≤ w2.heap.size := by have := g3.size; have := Hs1.out; omega
                    have Hth2 := Lib.hid hth2
                    have Hrow := Lib.hid (g3.row Hi1.out.ans (Hi1.out.ans_free hmn))
                    have G1 := Lib.hid g1
                    have G2 := Lib.hid g2
                    have G3 := Lib.hid g3
                    have G4 := Lib.hid g4
                    clear g1 g2 g3 g4 hth2
                    go_wp2_with (at_builtin; refine wpList_append_one rfl _ _ 22 rfl (rb + 2 + cells.length) 3 i0 (.int .i64 0) 1 8 Try.underlying22 hi0 hz0 hz1 hz2 rfl (by decide) (by decide) u21 _ _ [_] rfl Hrow.out rfl rfl (by simp [Value.oneCell']) (by rw [Htl.out]; omega) hw2 ?_)
                    intro v' w3 q1 q2 q3
                    have hstep := Hi1.out.step (x := acts[j]) (tv' := tv') (av' := v') rfl Hm.out hmn (by rw [ek]; exact G1.out) (by rw [HX.out, ek, show numNew 2 X acts[j].a acts[j].b = acts[j].a by simp [numNew]]; exact G2.out) G3.out G4.out (by rw [HX.out, ek, show numAns 2 X acts[j].a = 0 by simp [numAns]]; exact q1) q2 q3
                    have hth3 : ThRow w3 A nt nt := Hth2.out.turns q2 (fun i hi _ e => by have h0 := HrbA.out; have := (Hrow.out.lt _ e).1; omega)
                    have Hstep := Lib.hid hstep
                    have Hth3 := Lib.hid hth3
                    clear hstep hth3 q1 q2 q3 G1 G2 G3 G4 Hrow hw2 Hth2
                    go_wp2
                    go_roundw
                    case rel =>
                      refine ⟨j + 1, tv', by omega, by go_num, ?_, Hth3.out⟩
                      rw [List.take_succ_eq_append_getElem hlt, HL.out]
                      exact Hstep.out
                    case measure => simp [intOf]; omega
                  · rw [ek] at hc1 Hi1 Hs1 Hnum Hth1
                    clear k1 Hq
                    have hra : right nt acts[j].a = true := by have := Hf.out; simp [fitsId, ek] at this; exact this
                    go_wp2_with fail
                    refine (of_any A nt _ _ Hth1.out hra).mono ?_
                    rintro e w9 ⟨rfl, rfl⟩
                    go_wp2_with fail
                    refine (ctape_swap acts[j].a Hi1.out.tape Hnum.out (by rw [List.length_map, Htl.out]; omega) (by rw [Hs1.out]; omega) (Hi1.out.tape_free hmn) Hth1.out (by have := HrbA.out; omega) (by have := HrbA.out; omega) HXr.out hra).mono ?_
                    rintro e w2 ⟨rfl, tv', g1, g2, g3, g4⟩
                    have hth2 : ThRow w2 A nt nt := Hth1.out.turns g3 (fun i hi _ e => by
                      have h0 := HrbA.out
                      rcases e with e | e | e
                      · omega
                      · omega
                      · have := (Hi1.out.tape.row.lt _ e).1; omega)
                    have hw2 : rb + 2 + cells.length ≤ w2.heap.size := by have := g3.size; have := Hs1.out; omega
                    have Hth2 := Lib.hid hth2
                    have Hrow := Lib.hid (g3.row Hi1.out.ans (Hi1.out.ans_free hmn))
                    have G1 := Lib.hid g1
                    have G2 := Lib.hid g2
                    have G3 := Lib.hid g3
                    have G4 := Lib.hid g4
                    clear g1 g2 g3 g4 hth2
                    go_wp2_with (first | (go_at_call 83; refine (number_any A nt X _ Hth2.out HXr.out (by omega)).mono ?_; rintro e w3 ⟨rfl, rfl⟩) | (at_builtin; refine wpList_append_one rfl _ _ 22 rfl (rb + 2 + cells.length) 3 i0 (.int .i64 0) 1 8 Try.underlying22 hi0 hz0 hz1 hz2 rfl (by decide) (by decide) u21 _ _ [_] rfl Hrow.out rfl rfl (by simp [Value.oneCell']) (by rw [Htl.out]; omega) hw2 ?_))
                    intro v' w3 q1 q2 q3
                    have hstep := Hi1.out.step (x := acts[j]) (tv' := tv') (av' := v') rfl Hm.out hmn (by rw [ek]; exact G1.out) (by rw [HX.out, ek, show numNew 4 X acts[j].a acts[j].b = acts[j].a by simp [numNew]]; exact G2.out) G3.out G4.out (by rw [HX.out, ek, show numAns 4 X acts[j].a = X by simp [numAns]]; exact q1) q2 q3
                    have hth3 : ThRow w3 A nt nt := Hth2.out.turns q2 (fun i hi _ e => by have h0 := HrbA.out; have := (Hrow.out.lt _ e).1; omega)
                    have Hstep := Lib.hid hstep
                    have Hth3 := Lib.hid hth3
                    clear hstep hth3 q1 q2 q3 G1 G2 G3 G4 Hrow hw2 Hth2
                    go_wp2
                    go_roundw
                    case rel =>
                      refine ⟨j + 1, tv', by omega, by go_num, ?_, Hth3.out⟩
                      rw [List.take_succ_eq_append_getElem hlt, HL.out]
                      exact Hstep.out
                    case measure => simp [intOf]; omega
                  · rw [ek] at hc1 Hi1 Hs1 Hnum Hth1 Hq
                    clear k1
                    have hra : right nt acts[j].a = true ∧ right nt acts[j].b = true := by have := Hf.out; simp [fitsId, ek] at this; exact this
                    obtain ⟨ha5, hb5⟩ := hra
                    have tA := (Turns.alloc (fun _ => False) wr (.cells #[.int .i64 5, .int .i64 (m : Int), .int .i64 acts[j].a, .int .i64 acts[j].b] 57)).trans (Turns.drew _ _)
                    have Hi1 := Lib.hid (Hi0.out.turns tA)
                    have Hnum := Lib.hid (tA.heap (Hi0.out.num rfl hmn) (fun h => h))
                    rw [HX.out] at Hnum
                    have Hth1 := Lib.hid (Hth0.out.turns tA (fun _ _ _ h => h))
                    clear tA
                    have He1 := Lib.hid (show ((wr.alloc (.cells #[.int .i64 5, .int .i64 (m : Int), .int .i64 acts[j].a, .int .i64 acts[j].b] 57)).drew).heap.size = wr.heap.size + 1 by simp)
                    have hq : ∀ o v, #[Value.int .i64 5, .int .i64 (m : Int), .int .i64 acts[j].a, .int .i64 acts[j].b][o]? = some v → ((wr.alloc (.cells #[.int .i64 5, .int .i64 (m : Int), .int .i64 acts[j].a, .int .i64 acts[j].b] 57)).drew).cell? ⟨wr.heap.size, o, none⟩ = some v := fun o v h => cell_of_heap (heap_alloc_new wr _) h
                    have Hq2 := Lib.hid hq
                    clear hq Hq
                    go_wp2_with fail
                    go_region_held3 (fun w' => w'.cell? ⟨wr.heap.size, 2, none⟩ = some (.int .i64 acts[j].a) ∧ w'.cell? ⟨wr.heap.size, 3, none⟩ = some (.int .i64 acts[j].b))
                      (first | go_keep | exact ⟨g3.cell (Hq2.out 2 _ rfl) (Hi0.out.new_free hmn), g3.cell (Hq2.out 3 _ rfl) (Hi0.out.new_free hmn)⟩ | (have gt := ((g3.mono (fun _ _ h => Or.inl h)).trans (Turns.alloc _ w2 _)).trans (Turns.grown hgrow (fun _ h => Or.inr h)); exact ⟨gt.cell (Hq2.out 2 _ rfl) (Hi0.out.new_free2 hmn), gt.cell (Hq2.out 3 _ rfl) (Hi0.out.new_free2 hmn)⟩))
                      (first | (go_at_call 82; first | (refine (of_any A nt _ _ Hth1.out ha5).mono ?_; rintro e w9 ⟨rfl, rfl⟩) | (refine (of_any A nt _ _ Hth1.out hb5).mono ?_; rintro e w9 ⟨rfl, rfl⟩)) | (go_at_call 90; refine (ctape_cas acts[j].a acts[j].b Hi1.out.tape Hnum.out (by rw [List.length_map, Htl.out]; omega) (by rw [He1.out]; omega) (Hi1.out.tape_free hmn) Hth1.out (by have := HrbA.out; omega) (by have := HrbA.out; omega) HXr.out ha5 hb5).mono ?_; rintro e w2 ⟨rfl, tv', g1, g2, g3, g4⟩) | (go_at_call 89; refine (bit_any _ _).mono ?_; rintro e w9 ⟨rfl, rfl⟩) | (refine step_append_lies _ (by rfl) _ _ _ (by rfl) (rb + 2 + cells.length) 3 i0 _ 1 8 Try.underlying22 hi0 hz0 hz1 hz2 rfl (by omega) u21 _ _ (by rfl) ((g3.row Hi1.out.ans (Hi0.out.ans_free hmn)).alloc _) ⟨w2.heap.size, 0, none⟩ 1 1 [.int .i64 (bitOf (X == acts[j].a))] (by rfl) (by rfl) (World.news_of_block (heap_alloc_new w2 _)) (by simp [Value.oneCell']) (by omega) (by rw [Htl.out]; unfold maxLen; omega) (by rw [Htl.out]; omega) (by have := g3.size; rw [He1.out] at this; simp; omega) (w2.heap.size + 1) (by simp) ?_; intro gg cap w3 hown3 hgrow hat hlt3))
                    have hth2 : ThRow w2 A nt nt := Hth1.out.turns g3 (fun i hi _ e => by
                      have h0 := HrbA.out
                      rcases e with e | e | e
                      · omega
                      · omega
                      · have := (Hi1.out.tape.row.lt _ e).1; omega)
                    have hrow2 := g3.row Hi1.out.ans (Hi1.out.ans_free hmn)
                    have hgt : Turns (fun i => u21.ownBlock = some i) w2 w3 := (Turns.alloc _ w2 _).trans (Turns.grown hgrow (fun _ h => h))
                    have hstep := Hi1.out.step (x := acts[j]) (tv' := tv') (av' := .slice (some ⟨gg, 0, none⟩) (L.length + 1) cap) rfl Hm.out hmn (by rw [ek]; exact g1) (by rw [HX.out, ek, show numNew 5 X acts[j].a acts[j].b = casNew X acts[j].a acts[j].b by simp [numNew]]; exact g2) g3 g4 (by rw [HX.out, ek, show numAns 5 X acts[j].a = bitOf (X == acts[j].a) by simp [numAns]]; exact hown3) hgt (fun g hg => by
                      simp only [Value.ownBlock, Option.some.injEq] at hg
                      rcases hat with h5 | h5
                      · exact .inl (hg ▸ h5)
                      · exact .inr (by omega))
                    have hth3 : ThRow w3 A nt nt := hth2.turns hgt (fun i hi _ e => by have h0 := HrbA.out; have := (hrow2.lt _ e).1; omega)
                    have Hstep := Lib.hid hstep
                    have Hth3 := Lib.hid hth3
                    clear hstep hth3 hth2 hrow2 hgt g1 g2 g3 g4 hown3 hgrow hat hlt3 Hq2 He1
                    go_wp2
                    go_roundw
                    case rel =>
                      refine ⟨j + 1, tv', by omega, by go_num, ?_, Hth3.out⟩
                      rw [List.take_succ_eq_append_getElem hlt, HL.out]
                      exact Hstep.out
                    case measure => simp [intOf]; omega
                · obtain rfl : j = acts.length := by omega
                  rw [List.take_length] at hinv
                  have hrights : ∀ x ∈ (numTo cells acts).2, right nt x = true := ids_right Har.out (fun x hx => by
                    obtain ⟨q1, q2, q3, q4⟩ := checkIds_ok _ _ acts Hz.out x hx
                    exact ⟨q1, q4, by omega⟩)
                  clear Hr hlt hj
                  have hi3 : I3 A w rb cells.length cells acts tv u21 (.slice none 0 0) 0 wr := ⟨hinv, World.ownsRow_nil _ _ _ _, by simp [Value.ownBlock]⟩
                  obtain ⟨ava, avc, rfl⟩ := row_shape hinv.ans
                  have Hi3 := Lib.hid hi3
                  have Hth3 := Lib.hid hth
                  have Hrights := Lib.hid hrights
                  clear hi3 hinv hth hrights
                  go_wp2_with fail
                  go_loopw [22, 164] (fun ev i wx => ∃ j : Nat, j ≤ cells.length ∧ i = .int .i64 j ∧ I3 A w rb cells.length cells acts tv (.slice ava acts.length avc) ev j wx ∧ ThRow wx A nt nt) (fun _ i _ => cells.length - (intOf i).toNat)
                  case atStart => exact ⟨0, Nat.zero_le _, rfl, Hi3.out, Hth3.out⟩
                  case round =>
                    obtain ⟨j, hj, rfl, hinv, hth⟩ := hrel
                    clear Hi3 Hth3
                    by_cases hlt : j < cells.length
                    · have hnum := hinv.i2.num rfl hlt
                      have hrow := hinv.i2.row.cell hlt
                      have hbs := hinv.i2.size
                      have hlen := numTo_len cells acts
                      have hxr : right nt ((numTo cells acts).2.getD j 0) = true := by
                        rw [List.getD_eq_getElem?_getD, List.getElem?_eq_getElem (by omega)]
                        exact Hrights.out _ (List.getElem_mem _)
                      obtain ⟨X, hX⟩ : ∃ X, (numTo cells acts).2.getD j 0 = X := ⟨_, rfl⟩
                      rw [hX] at hnum hxr
                      have Hi := Lib.hid hinv
                      have Hnum := Lib.hid hnum
                      have Hxr := Lib.hid hxr
                      have HX := Lib.hid hX
                      have Hth := Lib.hid hth
                      clear hinv hnum hxr hX hth hlen
                      go_wp2_with (first | (go_at_call 86; refine (cellthing_load .nilIface (rb + 1 + j) (thP A X) _ (fun w' => _ = w') (pass_nil 1 _) (by rintro w1 rfl; exact Hnum.out) (by rintro w1 rfl; exact Hth.out.ptr Hxr.out)).mono ?_; rintro e w1 ⟨rfl, rfl⟩) | (go_at_call 83; refine (number_any A nt X _ Hth.out Hxr.out (by omega)).mono ?_; rintro e w1 ⟨rfl, rfl⟩) | (at_builtin; refine wpList_append_one rfl _ _ 22 rfl (rb + 2 + cells.length) 3 i0 (.int .i64 0) 1 8 Try.underlying22 hi0 hz0 hz1 hz2 rfl (by decide) (by decide) u22 j _ [_] rfl Hi.out.out rfl rfl (by simp [Value.oneCell']) (by omega) hbs ?_))
                      intro v' w3 g1 g2 g3
                      have hth2 : ThRow w3 A nt nt := Hth.out.turns g2 (fun i hi _ e => by have h0 := HrbA.out; have := (Hi.out.out.lt _ e).1; omega)
                      have Hstep := Lib.hid (Hi.out.step (ev' := v') rfl hlt (by rw [HX.out, List.map_take]; exact g1) g2 g3)
                      have Hth2 := Lib.hid hth2
                      clear g1 g2 g3 hth2
                      go_wp2
                      go_roundw
                      case rel => exact ⟨j + 1, by omega, by go_num, Hstep.out, Hth2.out⟩
                      case measure => simp [intOf]; omega
                    · obtain rfl : j = cells.length := by omega
                      have hlen := numTo_len cells acts
                      obtain ⟨eva, evc, rfl⟩ := row_shape hinv.out
                      have Hi := Lib.hid hinv
                      have Hlen := Lib.hid hlen
                      clear hinv hlen hlt hj hth
                      go_wp2_with (go_at_call 20; refine (kinds_any _ _ tv _ _ Hi.out.i2.tape (by rw [List.length_map]; omega)).mono ?_; rintro e w1 ⟨v3, rfl, g1, g2⟩)
                      refine bodyPost_ret (v := .tuple #[.slice ava acts.length avc, .slice eva cells.length evc, v3, .int .i64 0]) (by simp [results, Try.results44, go_sem]) rfl ⟨.slice ava acts.length avc, .slice eva cells.length evc, v3, by rw [He.out], ?_, ?_, ?_, ?_⟩
                      · have hlow := Hi.out.i2.low
                        have h5 := row_base (row_below Hi.out.i2.ans g2) (base' := w.heap.size) (by omega)
                        rw [idsAns, if_pos He.out]
                        unfold RowI
                        rw [Hlen.out.1]
                        exact h5
                      · have hlow := Hi.out.i2.low
                        have h5 := row_base (row_below Hi.out.out g2) (base' := w.heap.size) (by omega)
                        rw [List.take_of_length_le (by rw [Hlen.out.2]; exact Nat.le_refl _)] at h5
                        rw [idsEnd, if_pos He.out]
                        unfold RowI
                        rw [Hlen.out.2]
                        exact h5
                      · have := Hi.out.i2.below.size
                        rw [idsKinds, if_pos He.out]
                        exact row_base g1 (by omega)
                      · exact Hi.out.i2.below.trans (g2.mono Hi.out.i2.below.size)
    · have hz' : (checkIds cells.length things acts != 0) = true := by rw [bne_iff_ne]; exact hz
      have Hn := Lib.hid (fun w' => ids_none w cells things acts w' (checkIds cells.length things acts) Herr.out hz)
      clear hz
      go_wp2_with (go_at_call 49; refine (icheck_any w.heap.size things _ _ _ acts _ h2 Hr1.out HR.out).mono ?_; rintro e w1 ⟨rfl, hb1⟩)
      exact bodyPost_ret (v := .tuple #[.slice none 0 0, .slice none 0 0, .slice none 0 0, .int .i64 (checkIds cells.length things acts)]) (by simp [results, Try.results44, go_sem]) rfl (Hn.out _ (BR.out.trans (hb1.mono BR.out.size)))
  · have har' : allRight things cells = false := by simpa using har
    have Hp := Lib.hid (ids_none w cells things acts wR 1 (by rw [idsErr, if_neg (by omega), if_pos (.inr har')]) (by decide) BR.out)
    rw [har']
    clear har
    go_wp2_with fail
    exact bodyPost_ret (v := .tuple #[.slice none 0 0, .slice none 0 0, .slice none 0 0, .int .i64 1]) (by simp [results, Try.results44, go_sem]) rfl Hp.out

end Go.Proofs.Ytjifoggfndicoaa
