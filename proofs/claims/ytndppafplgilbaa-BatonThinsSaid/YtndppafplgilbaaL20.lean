/-
  larchlaw04.BatonThins returns true for every input. No condition. (Part 20 of 49; joined by program.)
-/
import Derived.Test.YtndppafplgilbaaL18
import Derived.Laws.Tables
import Derived.Laws.Rows
set_option linter.unusedVariables false
set_option linter.unusedSimpArgs false
set_option linter.unusedSectionVars false
set_option maxRecDepth 100000
namespace Go.Proofs.Ytndppafplgilbaa
open Go Go.Conc
section
variable {P:Program} {Gh:Type} {sit:Gh→Sit} {h:Nat} {L:Gh→Goroutine→World→Prop} (O:OwnL P sit h L)
variable {f:FuncId} {kd:CallKind} {s:Gh} {a:Act} {w:World} {k:List Item} {cs:List Frame}
include O
theorem l_new {H:Nat→Prop} (hh:Hides (sit s) h H) (hkd:kd≠.early) (ok:HidOk H w) {ops:Array Oper} {i:Nat} {rest:List Nat} {o:Oper} (ho:ops[i]?=some o) (hw:Region.wanted o (yielded ops a.tmps)=true) (hok:okOp P (fun _=>false) o=true) (x:Nat→Value) {c:Array Value} {t:TypeId}
    (hp:∀ v,(execOp a.eval o).run P v=.ok (.value (x v.heap.size)) (v.alloc (.cells c t)))
    (hq:∀ w',w'.heap[w.heap.size]?=some (.cells c t (0,0))→Grow (sit s).st H (fun _=>False) w w'→w.heap.size < w'.heap.size→L s (G ((bk f kd).at (a.put o.dst (x w.heap.size)) (.inRegion ops rest :: k)) cs) w'):L s (G ((bk f kd).at a (.inRegion ops (i :: rest) :: k)) cs) w:=by
  refine l_mask O (F:=fun _=>false) (fun f h=>by cases h) hh hkd ok ho hw hok (R:=fun v y v'=>y=x v.heap.size∧v'=v.alloc (.cells c t)) (fun v M=>⟨_,_,hp v,rfl,rfl⟩) (fun v y v' w' M hR A=>?_)
  obtain ⟨rfl,rfl⟩:=hR
  have hn:w'.heap[v.heap.size]?=some (.cells c t (0,0)):=A.masked.cells (show (v.heap.push _)[v.heap.size]?=_ by simp)
  rw [M.size] at hn ⊢
  exact hq w' hn (A.grow M fun k hk _=>by
    show (v.heap.push _)[k]?=_
    rw [Array.getElem?_push_lt hk,Array.getElem?_eq_getElem hk]) (Array.getElem?_eq_some_iff.1 hn).1
theorem l_storeRow {H:Nat→Prop} (hh:Hides (sit s) h H) (hkd:kd≠.early) (ok:HidOk H w) {ops:Array Oper} {i:Nat} {rest:List Nat} {o:Oper} {ty t:TypeId} {x y:Operand} {g:Nat} {old cells:Array Value} (ho:ops[i]?=some o) (hw:Region.wanted o (yielded ops a.tmps)=true) (hop:o.op=.store ty x y)
    (hx:a.eval x=.pointer (some ⟨g,0,none⟩)) (hy:a.eval y=.agg cells) (hg:w.heap[g]?=some (.cells old t (0,0))) (hgH:¬ H g) (hi:(P.info? ty).map (·.size)=some cells.size) (hold:old.size=cells.size) (h1:cells.all (·.oneCell')=true)
    (hq:∀ w',w'.heap[g]?=some (.cells cells t (0,0))→Grow (sit s).st H (fun k=>k=g) w w'→w'.heap.size=w.heap.size→L s (G ((bk f kd).at (a.put o.dst undef) (.inRegion ops rest :: k)) cs) w'):L s (G ((bk f kd).at a (.inRegion ops (i :: rest) :: k)) cs) w:=by
  refine l_maskU O (F:=fun _=>false) (fun f h=>by cases h) hh hkd ok ho hw (by simp [okOp,hop]) (R:=fun v v'=>v'.heap[g]?=some (.cells cells t (0,0))∧(∀ k,k≠g→v'.heap[k]?=v.heap[k]?)∧v'.heap.size=v.heap.size) (fun v M=>?_) (fun v v' w' M hR A=>?_)
  · have hv:=M.seen hgH hg
    refine ⟨v.setRow g cells,?_,?_,fun k hk=>?_,?_⟩
    · unfold execOp
      have key:=run_storeVar_row (P:=P) v g t ty old cells hv hi hold h1
      simp only [hop,hx,hy,Instr.storeAt,Instr.sureAddr,Sem.run_bind,Sem.run_pure,Result.andThen_ok,key]
    · simp [World.setRow,Array.getElem?_modify,hv]
    · simp only [World.setRow,Array.getElem?_modify]
      rw [if_neg fun e=>hk e.symm]
    · simp [World.setRow]
  · refine hq w' (A.masked.cells hR.1) (A.grow M fun k _ hk=>hR.2.1 k hk) ?_
    rw [← A.masked.size,hR.2.2,M.size]
theorem l_loadRow {H:Nat→Prop} (hh:Hides (sit s) h H) (hkd:kd≠.early) (ok:HidOk H w) {ops:Array Oper} {i:Nat} {rest:List Nat} {o:Oper} {ty t:TypeId} {x:Operand} {g:Nat} {cells:Array Value} {d:TypeDesc} (ho:ops[i]?=some o) (hw:Region.wanted o (yielded ops a.tmps)=true) (hop:o.op=.load ty x)
    (hx:a.eval x=.pointer (some ⟨g,0,none⟩)) (hg:w.heap[g]?=some (.cells cells t (0,0))) (hgH:¬ H g) (hu:P.underlying ty=some d) (hd:(match d with | .struct _ | .array _ _=>true | _=>false)=true) (hi:(P.info? ty).map (·.size)=some cells.size)
    (hq:∀ w',Grow (sit s).st H (fun k=>False) w w'→w'.heap.size=w.heap.size→L s (G ((bk f kd).at (a.put o.dst (.agg cells)) (.inRegion ops rest :: k)) cs) w'):L s (G ((bk f kd).at a (.inRegion ops (i :: rest) :: k)) cs) w:=by
  refine l_mask O (F:=fun _=>false) (fun f h=>by cases h) hh hkd ok ho hw (by simp [okOp,hop]) (R:=fun v y v'=>y=.agg cells∧v'=v) (fun v M=>?_) (fun v y v' w' M hR A=>?_)
  · refine ⟨_,_,?_,rfl,rfl⟩
    unfold execOp
    simp only [hop,hx,Instr.loadAt,Instr.sureAddr,Sem.run_bind,Sem.run_pure,Result.andThen_ok,run_loadVar_row v g t ty cells (0,0) d (M.seen hgH hg) hu hd hi]
  · obtain ⟨rfl,rfl⟩:=hR
    exact hq w' (A.grow M fun k _ _=>rfl) (by rw [← A.masked.size,M.size])
theorem l_leaveM {H:Nat→Prop} (hh:Hides (sit s) h H) (ok:HidOk H w) {fn:Func} {tmps:Array Value} {todo:List Item} {c:Frame} {val:Value} (hf:P.funcs[f]?=some fn) (hr:∀ v,Masked H 0 v w→(results fn tmps).run P v=.ok val v)
    (hq:∀ w',Grow (sit s).st H (fun k=>False) w w'→w'.heap.size=w.heap.size→L s (G (c.finish val) cs) w'):L s (G { (bk f .normal).at ⟨tmps,[]⟩ todo with mode:=.returning } (c :: cs)) w:=by
  refine O.ok _ _ _ fun hok=>O.step _ _ _ hok rfl fun w₁ r=>?_
  have rh:=RW.RH hh.st r
  have ok₁:=rh.hid ok
  have Ma:∀ L,Masked H L (mask H w₁ w₁.tape w₁.drawn) w₁:=fun L=>masked_mask ok₁ fun _ _ _=>rfl
  have Mw:Masked H 0 (mask H w₁ w₁.tape w₁.drawn) w:=masked_of ok (by rw [(Ma 0).heap,rh.mask ok]) ((Ma 0).os.trans rh.os) ((Ma 0).out.trans rh.out) fun i q hi=>by omega
  have hr1:=hr _ Mw
  obtain ⟨w',es,h1,B⟩:=sys_of (sim_results (P:=P) fn tmps) (c:=.inl val) (by rw [hr1];rfl) (Ma 0) (by omega)
  have hl:(results fn tmps).run P w₁=.ok val w':=run_of h1
  have he:=events_of h1
  have T:=treads_seen (P:=P) B.treads f
  have A:Alone (sit s).st H w (mask H w₁ w₁.tape w₁.drawn) w':=⟨B.masked.zero,((Kept.refl _ _ _).rw r).tread B.treads⟩
  refine ⟨_,w',seen P f es,?_,hh.DT T,treads_deaf T,hq w' (A.grow Mw fun k _ _=>rfl) (by rw [← A.masked.size,Mw.size])⟩
  simp [G,stepG,Frame.at,bk,base,unwind,hf,hl,he,doReturn,GStep.after]
end
end Go.Proofs.Ytndppafplgilbaa
