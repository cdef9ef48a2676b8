/-
  larchlaw04.BatonThins returns true for every input. No condition. (Part 46 of 49; joined by program.)
-/
import Derived.Test.YtndppafplgilbaaL31
import Derived.Test.YtndppafplgilbaaL23
import Derived.Test.YtndppafplgilbaaL42
set_option linter.unusedVariables false
set_option linter.unusedSimpArgs false
set_option linter.unusedSectionVars false
set_option maxRecDepth 100000
namespace Go.Proofs.Ytndppafplgilbaa
open Go Go.Conc Go.RowKit
section
variable {Gh:Type} {sit:Gh→Sit} {h:Nat} {L:Gh→Goroutine→World→Prop} (O:OwnL Try.prog sit h L) {H:Nat→Prop} {s:Gh} {w:World} {Sk:List Frame→Prop}
include O
theorem ints_calls (hh:Hides (sit s) h H) (ok:HidOk H w) {a b:Option Addr} {n m ca cb:Nat} {l:List Int} (hn:n=l.length) (hm:m=l.length) (ha:IntsIn w a l) (hb:IntsIn w b l) (haH:∀ g off,a=some ⟨g,off,none⟩→l≠[]→¬ H g) (hbH:∀ g off,b=some ⟨g,off,none⟩→l≠[]→¬ H g) (hl:l.length≤9223372036854775807) :
    CallsL Try.prog L Sk 18 #[.slice a n ca,.slice b m cb] s w (fun r s' w'=>r=.inl (.bool true)∧s'=s∧Grow (sit s).st H (fun _=>False) w w') :=
  callsL_alone O closedB hh (by kernel_rfl) Try.func18 rfl (slots_nil rfl _) ok (R:=fun v0 x v'=>x=.bool true∧∀ k,k < v0.heap.size→v'.heap[k]?=v0.heap[k]?) (fun v0 M=>by
    refine (ints_same' a b n m ca cb l v0 hn hm (M.ints ha haH) (M.ints hb hbH) hl).mono ?_
    rintro e w' ⟨rfl,ht⟩
    exact ⟨rfl,fun k hk=>ht.block k hk id⟩) fun v0 x v' w' M hR A=>by
    obtain ⟨rfl,hk⟩:=hR
    exact ⟨rfl,rfl,A.grow M fun k h _=>hk k h⟩
omit O in
theorem ownsRow_ints {v:Value} {n:Nat} {l:List Int} (h:w.ownsRow 0 3 1 v n (l.map (Value.int .i64))):∃ a cap,v=.slice a n cap∧n=l.length∧IntsIn w a l∧(∀ g off,a=some ⟨g,off,none⟩→l≠[]→v.ownBlock=some g):=by
  obtain ⟨h0,h⟩:=h
  have hn:n=l.length:=by simpa using h0.symm
  rcases h with ⟨rfl,rfl⟩ | ⟨g,cap,cur,rfl,_,h2,h3,h4,h5,h6⟩
  · have:l=[]:=List.eq_nil_of_length_eq_zero hn.symm
    subst this
    exact ⟨none,0,rfl,rfl,fun j hj=>by simp at hj,fun g off e=>by cases e⟩
  · refine ⟨some ⟨g,0,none⟩,cap,rfl,hn,fun j hj=>⟨g,0,rfl,?_⟩,fun g' off e _=>by cases e;rfl⟩
    refine cell_of_heap h2 ?_
    have e:(cur.toList.take (n * 1))[j]?=(l.map (Value.int .i64))[j]?:=by rw [h6]
    rw [List.getElem?_take,if_pos (by omega)] at e
    rw [Nat.zero_add,← Array.getElem?_toList,e]
    simp [hj]
end
end Go.Proofs.Ytndppafplgilbaa
