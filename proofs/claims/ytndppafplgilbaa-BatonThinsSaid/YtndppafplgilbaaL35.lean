/-
  larchlaw04.BatonThins returns true for every input. No condition. (Part 35 of 49; joined by program.)
-/
import Derived.Test.YtndppafplgilbaaL30
import Derived.Test.YtndppafplgilbaaL20
import Derived.Test.YtndppafplgilbaaL01
import Derived.Deep.MidRow
set_option linter.unusedVariables false
set_option linter.unusedSimpArgs false
set_option linter.unusedSectionVars false
set_option maxRecDepth 100000
namespace Go.Proofs.Ytndppafplgilbaa
open Go Go.Conc
section
variable {P:Program} {Gh:Type} {sit:Gh→Sit} {h:Nat} {L:Gh→Goroutine→World→Prop} (O:OwnL P sit h L)
variable {f:FuncId} {kd:CallKind} {s:Gh} {a:Act} {w:World} {k:List Item} {cs:List Frame}
include O
theorem l_store3 {H:Nat→Prop} (hh:Hides (sit s) h H) (hkd:kd≠.early) (ok:HidOk H w) {ops:Array Oper} {i:Nat} {rest:List Nat} {o:Oper} {ty t:TypeId} {x y:Operand} {g:Nat} {old:Array Value} {x0 x1 x2:Value} (ho:ops[i]?=some o) (hw:Region.wanted o (yielded ops a.tmps)=true) (hop:o.op=.store ty x y)
    (hx:a.eval x=.pointer (some ⟨g,0,none⟩)) (hy:a.eval y=.agg #[x0,x1,x2]) (hg:w.heap[g]?=some (.cells old t (0,0))) (hgH:¬ H g) (hi:(P.info? ty).map (·.size)=some 3) (hold:3≤old.size) (h1:(#[x0,x1,x2]:Array Value).all (·.oneCell')=true)
    (hq:∀ w',w'.heap[g]?=some (.cells (((old.setIfInBounds 0 x0).setIfInBounds 1 x1).setIfInBounds 2 x2) t (0,0))→Grow (sit s).st H (fun k=>k=g) w w'→w'.heap.size=w.heap.size→L s (G ((bk f kd).at (a.put o.dst undef) (.inRegion ops rest :: k)) cs) w'):L s (G ((bk f kd).at a (.inRegion ops (i :: rest) :: k)) cs) w:=by
  refine l_maskU O (F:=fun _=>false) (fun f h=>by cases h) hh hkd ok ho hw (by simp [okOp,hop]) (R:=fun v v'=>v'.heap[g]?=some (.cells (((old.setIfInBounds 0 x0).setIfInBounds 1 x1).setIfInBounds 2 x2) t (0,0))∧(∀ k,k≠g→v'.heap[k]?=v.heap[k]?)∧v'.heap.size=v.heap.size) (fun v M=>?_) (fun v v' w' M hR A=>?_)
  · have hv:=M.seen hgH hg
    have hth:v.there g 0 3:=fun j hj=>by
      have hc:v.cell? ⟨g,0 + j,none⟩=some (old[0 + j]'(by omega)):=cell_of_heap hv (by rw [Array.getElem?_eq_getElem])
      exact ⟨by rw [hc];rfl,frozen_of_heap hv⟩
    refine ⟨v.setCells g 0 [x0,x1,x2],?_,?_,fun k hk=>?_,?_⟩
    · have key:=run_storeAt_mid (P:=P) v g 0 ty #[x0,x1,x2] hth hi h1
      unfold execOp
      simp only [hop,hx,hy,Sem.run_bind,Sem.run_pure,Result.andThen_ok,key]
    · exact setCell_self (a:=⟨g,2,none⟩) x2 (setCell_self (a:=⟨g,1,none⟩) x1 (setCell_self (a:=⟨g,0,none⟩) x0 hv rfl) rfl) rfl
    · exact (setCell_ne _ ⟨g,2,none⟩ x2 hk).trans ((setCell_ne _ ⟨g,1,none⟩ x1 hk).trans (setCell_ne _ ⟨g,0,none⟩ x0 hk))
    · simp only [World.setCells,setCell_size]
  · refine hq w' (A.masked.cells hR.1) (A.grow M fun k _ hk=>hR.2.1 k hk) ?_
    rw [← A.masked.size,hR.2.2,M.size]
theorem l_loadMid {H:Nat→Prop} (hh:Hides (sit s) h H) (hkd:kd≠.early) (ok:HidOk H w) {ops:Array Oper} {i:Nat} {rest:List Nat} {o:Oper} {ty t:TypeId} {x:Operand} {g off:Nat} {cells:Array Value} {vs:List Value} {d:TypeDesc} (ho:ops[i]?=some o) (hw:Region.wanted o (yielded ops a.tmps)=true) (hop:o.op=.load ty x)
    (hx:a.eval x=.pointer (some ⟨g,off,none⟩)) (hg:w.heap[g]?=some (.cells cells t (0,0))) (hgH:¬ H g) (hv:∀ j v,vs[j]?=some v→cells[off + j]?=some v) (hu:P.underlying ty=some d) (hd:d.isRow=true) (hi:(P.info? ty).map (·.size)=some vs.length)
    (hq:∀ w',Grow (sit s).st H (fun k=>False) w w'→w'.heap.size=w.heap.size→L s (G ((bk f kd).at (a.put o.dst (.agg vs.toArray)) (.inRegion ops rest :: k)) cs) w'):L s (G ((bk f kd).at a (.inRegion ops (i :: rest) :: k)) cs) w:=by
  refine l_mask O (F:=fun _=>false) (fun f h=>by cases h) hh hkd ok ho hw (by simp [okOp,hop]) (R:=fun v y v'=>y=.agg vs.toArray∧v'=v) (fun v M=>?_) (fun v y v' w' M hR A=>?_)
  · refine ⟨_,_,?_,rfl,rfl⟩
    unfold execOp
    have hc:v.rangeAt g off vs:=fun j u hj=>cell_of_heap (M.seen hgH hg) (hv j u hj)
    simp only [hop,hx,Sem.run_bind,Sem.run_pure,Result.andThen_ok,run_loadAt_mid v g off ty vs d hc hu hd hi]
  · obtain ⟨rfl,rfl⟩:=hR
    exact hq w' (A.grow M fun k _ _=>rfl) (by rw [← A.masked.size,M.size])
end
end Go.Proofs.Ytndppafplgilbaa
namespace Go.Proofs.Ytndppafplgilbaa
open Go Go.Conc Go.RowKit
section
variable {P:Program} {Gh:Type} {sit:Gh→Sit} {h:Nat} {L:Gh→Goroutine→World→Prop} (O:OwnL P sit h L)
variable {f:FuncId} {s:Gh} {w:World} {k:List Item} {cs:List Frame}
include O
theorem l_pieceE {Y:Dyn} (C:Closed P Y) {H:Nat→Prop} (hh:Hides (sit s) h H) (hf:∃ fn,P.funcs[f]?=some fn) {c:Code} (hc:okCode P Y f c=true) {tmps:Array Value} (hsl:Slots Y f tmps) (ok:HidOk H w) {R:World→Exit→Act→World→Prop}
    (hp:∀ v,Masked H 0 v w→c.wp P (fun e a u=>(e=.normal∨e=.ret)∧a.defers=[]∧R v e a u) ⟨tmps,[]⟩ v)
    (hn:∀ v tmps' v' w',Masked H 0 v w→R v .normal ⟨tmps',[]⟩ v'→Alone (sit s).st H w v' w'→L s (G ((bk f .normal).at ⟨tmps',[]⟩ k) cs) w')
    (hr:∀ v tmps' v' w',Masked H 0 v w→R v .ret ⟨tmps',[]⟩ v'→Alone (sit s).st H w v' w'→∀ todo,L s (G { (bk f .normal).at ⟨tmps',[]⟩ todo with mode:=.returning } cs) w'):L s (G ((bk f .normal).at ⟨tmps,[]⟩ (.code c :: k)) cs) w:=by
  have key:=wpL_piece O (Sk:=fun _=>True) C hh hf hc hsl ok (s:=s) (R:=R) (Q:=fun e s' a' w'=>(e=.normal∧L s' (G ((bk f .normal).at a' k) cs) w')∨(e=.ret∧∀ todo,L s' (G { (bk f .normal).at a' todo with mode:=.returning } cs) w'))
    hp (fun v e ts v' w' M hR he A=>by
      rcases he with rfl | rfl
      · exact .inl ⟨rfl,hn v ts v' w' M hR A⟩
      · exact .inr ⟨rfl,hr v ts v' w' M hR A⟩)
  exact key k cs trivial fun e s' a' w' hQ=>by
    rcases hQ with ⟨rfl,hL⟩ | ⟨rfl,hL⟩
    · exact hL
    · exact hL
end
end Go.Proofs.Ytndppafplgilbaa
