/-
  larchlaw04.BatonThins returns true for every input. No condition. (Part 36 of 49; joined by program.)
-/
import Derived.Test.YtndppafplgilbaaL26
import Derived.Conc.TokenWalk
set_option linter.unusedVariables false
set_option linter.unusedSimpArgs false
set_option linter.unusedSectionVars false
set_option maxRecDepth 100000
namespace Go.Proofs.Ytndppafplgilbaa
open Go Go.Conc Go.RowKit
open Go.ConcN (sumTo upd sumTo_upd upd_ne upd_same)
theorem atClose {P:Program} {main:Bool} {f:FuncId} {kd:CallKind} {a:Act} {k:List Item} {cs:List Frame} (hkd:kd≠.early) {ops:Array Oper} {i:Nat} {rest:List Nat} {o:Oper} {x:Operand} {ats:Array TypeId} {c:Nat} (ho:ops[i]?=some o) (hw:Region.wanted o (yielded ops a.tmps)=true) (hop:o.op=.call { callee:=.builtin .close,args:=#[x],argTypes:=ats }) (hx:a.eval x=.chan (some c)) (hq:(P.funcs[f]?).any (·.norace)=false) :
    AtClose P main c (G ((bk f kd).at a (.inRegion ops (i :: rest) :: k)) cs) (G ((bk f kd).at (a.put o.dst (.tuple #[])) (.inRegion ops rest :: k)) cs) :=
  ⟨rfl,by simp [mayWake,G,Frame.at,bk,base,ho,hop],rfl,fun w k' hk'=>stepG_close (b:=bk f kd) ho hw hkd hop hx hk' hq⟩
section
variable {C:Cli} {Post:Value→World→Prop} {gm:Gm} {Γ:C.G} {keep dead:Nat→Prop} {w:World} {i:Nat} {k:Wk} {home:Goroutine→Prop} {fb:Nat}
set_option maxHeartbeats 2000000 in
theorem end_calls (MW:MainB C Post gm Γ keep dead w) (hi:gm.ws[i]?=some (k,.sits home fb)) :
    CallsL Try.prog (LM Try.prog Post) (fun _=>True) 95 #[.pointer (some (c0 k.blk 0))] (sitG gm) w (fun r s' w'=>r=.inl (.tuple #[])∧s'=sitG (gm.put i .done)∧MainB C Post (gm.put i .done) Γ keep (fun j=>dead j∨j=i) w'∧(∀ x,keep x→w'.heap[x]?=w.heap[x]?)∧(∃ wr,RW (c0 gm.gb 1) w wr∧w'.heap[gm.gb]?=wr.heap[gm.gb]?)∧w.heap.size≤w'.heap.size):=by
  intro c cs _ hkd hcm h1 _
  have O:=ownM Try.prog Post
  have T:=O.toCtl
  have hq:(Try.prog.funcs[95]?).any (·.norace)=false:=by rw [Try.func95];rfl
  have hmem:=Gm.at hi
  have hW:=MW.ws i _ hi
  obtain ⟨⟨kd,hstd,hwk⟩,⟨n,hT⟩,hbx,hhome⟩:=hW.st
  have hself:=MW.wf.self _ hmem
  have hbg:k.blk≠gm.gb:=(MW.wf.blk _ hmem).1
  have hpos:=MW.wf.pos
  have hlen:i < gm.ws.length:=(List.getElem?_eq_some_iff.1 hi).1
  have hvar:k.var < w.heap.size:=by
    have h:=(MW.K _ hmem).2.2
    obtain ⟨_,_,_,h3,_⟩:=cell_some h
    exact (Array.getElem?_eq_some_iff.1 h3).1
  rw [enter_bk Try.func95 rfl]
  walk_nrmf Try.f95
  refine laW ?_
  have hc0:w.cell? ⟨k.blk,0,none⟩=some (.chan (some k.turn)):=hwk.cell 0
  have hns0:¬ ShunOf (gm.gb :: gm.old) (.cell ⟨k.blk,0,none⟩):=MW.wf.noShun hmem 0
  (refine l_load O (by simp) rfl (by rfl) hc0 (.inl hbg) hns0 (fun w₁ hc₁=>⟨by go_simp,by simp [listed,go_sem,hc₁];exact seen_cell hq _ _ _⟩) ?_;walk_nrm)
  refine laW ?_
  intro ok
  let w1:=w.setChan k.turn 0 #[] true n n false
  let home0:Goroutine→Prop:=fun g0=>∀ kd' ov pn w₂ nB,Did C gm.gb k (gstOf gm i Γ keep w1 (fun _=>False) kd) Γ w₂→w₂.heap[k.back]?=some (.chan 0 #[] false nB nB false)→WkAt wkT k kd' true ov pn w₂ →
    Lh Try.prog Post (sitG (gm.put i .done)) 0 (Go.Conc.served g0 (.bool false)) (w₂.setChan k.back 0 #[] false (nB + 1) (nB + 1) false)
  refine Lh.closeE ok rfl (j:=gm.n0 + i) (c:=k.turn) (z:=zT) (okr:=true) (home:=home) (r':=.seat k.back (.bool false) false home0) (S':=S0 k) ?_ ?_ ?_ (atClose (by simp) rfl (by rfl) rfl (by rfl) hq) hT (Becomes.ofSeat ?_ ?_ ?_ ?_) ?_
  · omega
  · show gm.n0 + i < gm.n0 + gm.ws.length;omega
  · exact Gm.R0_at hi
  · rintro l (rfl | rfl)
    · exact ⟨rfl,MW.wf.noShun hmem 1⟩
    · refine ⟨rfl,?_⟩
      rintro ⟨x,hx,h⟩
      rcases h with h | h <;> (injection h with h;injection h with h1 h2;omega)
  · rintro x (e | e)
    · cases e;exact (Array.getElem?_eq_some_iff.1 hwk).1
    · cases e;exact hvar
  · refine ⟨(MW.wf.blk _ hmem).2.2.1,fun y hy hh=>?_,?_⟩
    · obtain ⟨hy1,p,hp,e,_⟩:=Gm.R0_seat hh
      by_cases hij:i=y - gm.n0
      · rw [← hij,hi] at hp
        cases hp
        exact hself.2.2.2.1 e.symm
      · exact MW.wf.other _ _ _ _ hi hp hij k.back (by simp [Wk.nums]) (by rw [e];simp [Wk.nums])
    · obtain ⟨m,hm⟩:=hW.back
      exact ⟨_,_,hm⟩
  · refine WaySeat.sits (w:=w) ?_
    clear T
    have T:=waySeat_ctl (P:=Try.prog) (main:=0 == 0) (K:=(sitG gm).K) (S:=S0 k) (c:=k.back) (z:=.bool false) (ok:=false) (home:=home0)
    walk_nrm
    refine laW ?_
    refine WaySeat.load (by simp) rfl (by rfl) (p:=c0 k.blk 1) (x:=.chan (some k.back)) (fun w hK=>(hK _ hmem).2.1) (.inl rfl) (fun w₁ hc₁=>⟨by go_simp,by simp [listed,go_sem,hc₁];exact seen_cell hq _ _ _⟩) ?_
    walk_nrm
    refine WaySeat.here (by simp) rfl (by rfl) (fun w=>?_) (fun w=>?_) ?_
    · go_simp
      rfl
    · simp [go_sem]
    intro kd' ov pn w₂ nB D hB hk2
    rw [served_bk rfl]
    walk_nrm
    clear T
    have T:=O.toCtl
    refine (?_:LM Try.prog Post (sitG (gm.put i .done)) _ _) (sitG_ok (put_wf MW.wf i .done))
    refine l_end T ?_
    refine l_fin T ?_
    exact l_leave T Try.func95 rfl (resultsC_none rfl _) (h1 _ _ _ ⟨rfl,rfl,Main.ended MW hi hT D hB hk2 rfl⟩)
  · intro g₂ hg₂
    rw [hhome] at hg₂
    have hg:=(Home.out hg₂).2 (gstOf gm i Γ keep w1 home0 kd) w1 (MW.ready hi hT hwk hbx home0 true n) rfl (fun kd' ov pn w₂ nB D h3 h4 g0 hg0=>?_)
    · exact give_off MW.wf hi home0 hg
    · have:=hg0 kd' ov pn w₂ nB ⟨D.M,D.grow,D.kp,D.hid,D.hidOk,D.size⟩ h4 h3
      show Lh Try.prog Post (sitG ((gm.put i .gone).put i _)) 0 _ _
      rw [put_put];exact this
end
end Go.Proofs.Ytndppafplgilbaa
