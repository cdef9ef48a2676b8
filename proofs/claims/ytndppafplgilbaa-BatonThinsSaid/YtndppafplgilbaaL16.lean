/-
  larchlaw04.BatonThins returns true for every input. No condition. (Part 16 of 49; joined by program.)
-/
import Derived.Test.YtndppafplgilbaaL15
import Derived.Conc.AtomicLaws2
import Derived.Conc.MarkLaws
import Derived.Test.YtndppafplgilbaaL11
set_option linter.unusedVariables false
set_option linter.unusedSimpArgs false
set_option linter.unusedSectionVars false
set_option maxRecDepth 100000
namespace Go.Proofs.Ytndppafplgilbaa
open Go Go.Conc
open Go.ConcN (sumTo upd sumTo_upd upd_ne upd_same)
section
variable {P:Program} {st:Addr}
theorem quitsD_more:∀ {n m d:Nat} {g:Goroutine},QuitsD P n d g→n≤m→QuitsD P m d g
  | 0,0,_,_,h,_=>h
  | 0,m + 1,_,_,h,_=>.inl h
  | n + 1,0,_,_,_,hl=>by omega
  | n + 1,m + 1,_,_,h,hl=>h.imp id fun ⟨a,g',es,b,c,e⟩=>⟨a,g',es,b,c,quitsD_more e (by omega)⟩
theorem lasts_more:∀ {n m k d:Nat} {g:Goroutine},Lasts P st n k d g→n≤m→Lasts P st m k d g
  | 0,_,_,_,_,h,_=>h.elim
  | n + 1,0,_,_,_,_,hl=>by omega
  | n + 1,m + 1,_,_,_,⟨h1,h2,h⟩,hl=>⟨h1,h2,by
    rcases h with ⟨g',es,a,b,c,e⟩ | ⟨a,g',b,e⟩ | ⟨a,g',b,e⟩ | ⟨a,b,g',c,e⟩
    · exact .inl ⟨g',es,a,b,c,lasts_more e (by omega)⟩
    · exact .inr (.inl ⟨a,g',b,lasts_more e (by omega)⟩)
    · exact .inr (.inr (.inl ⟨a,g',b,lasts_more e (by omega)⟩))
    · exact .inr (.inr (.inr ⟨a,b,g',c,quitsD_more e (by omega)⟩))⟩
theorem bounded (p:Nat→Nat→Prop) (hp:∀ k n m,p k n→n≤m→p k m):∀ B,(∀ k,k < B→∃ n,p k n)→∃ n,∀ k,k < B→p k n
  | 0,_=>⟨0,fun k hk=>by omega⟩
  | B + 1,h=>by
    obtain ⟨n,hn⟩:=bounded p hp B fun k hk=>h k (by omega)
    obtain ⟨m,hm⟩:=h B (by omega)
    refine ⟨max n m,fun k hk=>?_⟩
    by_cases e:k=B
    · subst e;exact hp _ _ _ hm (Nat.le_max_right ..)
    · exact hp _ _ _ (hn k (by omega)) (Nat.le_max_left ..)
variable {d:Nat} {g g':Goroutine} {w:World} {es:Array Event}
theorem WayDone.mark (hr:g.status=.running) (hm:∀ e∈es,(MemAct.ofEvent e).touch?=none) (h:∀ w x,w.cell? st=some x→stepG P false g w=.go g' w es) (H:WayDone P st (deafBehind d es) g' w):WayDone P st d g w:=by
  obtain ⟨n,H⟩:=H
  exact ⟨n + 1,hr,.inl ⟨g',es,hm,h,H⟩⟩
theorem WayOut.mark (hr:g.status=.running) (hm:∀ e∈es,Event.mute e=true) (h:∀ w,stepG P false g w=.go g' w es) (H:WayOut P (deafBehind d es) g' w):WayOut P d g w:=by
  obtain ⟨n,H⟩:=H
  exact ⟨n + 1,.inr ⟨hr,g',es,hm,h,H⟩⟩
theorem WayDone.conv {f:FuncId} {kd:CallKind} {a:Act} {k:List Item} {cs:List Frame} (hkd:kd≠.early) {ops:Array Oper} {i:Nat} {rest:List Nat} {o:Oper} {v:Value} (ho:ops[i]?=some o) (hw:Region.wanted o (yielded ops a.tmps)=true)
    (hr:∀ w x,w.cell? st=some x→(execOp a.eval o).run P w=.ok (.value v) w) (he:∀ w x,w.cell? st=some x→(execOp a.eval o).events P w #[]=#[]) (H:WayDone P st d (G ((bk f kd).at (a.put o.dst v) (.inRegion ops rest :: k)) cs) w):WayDone P st d (G ((bk f kd).at a (.inRegion ops (i :: rest) :: k)) cs) w :=
  WayDone.mark (es:=#[]) rfl (fun e he=>by simp at he) (fun w x hx=>by
    have:=stepG_value (P:=P) (main:=false) (b:=bk f kd) (a:=a) (k:=k) (cs:=cs) (w:=w) (rest:=rest) ho hw hkd (hr w x hx)
    unfold listed at this
    rw [he w x hx,seen_none] at this
    exact this) H
theorem WayOut.done (hs:g.status=.finished):WayOut P 0 g w:=⟨0,hs,rfl⟩
theorem WayLast.load (hr:g.status=.running) (hd:d≠0) (h:∀ w,w.cell? st=some (.int .u64 1)→stepG P false g w=.go g' w #[⟨.cell st,false,true⟩]) (H:WayLast P st (1,d) g' w):WayLast P st (0,d) g w:=by
  obtain ⟨n,H⟩:=H
  exact ⟨n + 1,hr,hd,.inr (.inl ⟨rfl,g',h,H⟩)⟩
theorem WayLast.store (hr:g.status=.running) (hd:d≠0) (h:∀ w x,w.cell? st=some x→w.frozen? st=false→stepG P false g w=.go g' (w.setCell st (.int .u64 0)) #[⟨.cell st,true,true⟩]) (H:WayLast P st (2,d) g' w):WayLast P st (1,d) g w:=by
  obtain ⟨n,H⟩:=H
  exact ⟨n + 1,hr,hd,.inr (.inr (.inl ⟨rfl,g',h,H⟩))⟩
theorem WayLast.sem (hr:g.status=.running) (hd:d≠0) (hw:mayWake P g=true) (h:∀ w,w.cell? ⟨st.block,st.off + 1,st.spot⟩=some (.int .u32 0)→w.frozen? ⟨st.block,st.off + 1,st.spot⟩=false→stepG P false g w=.go g' (w.setCell ⟨st.block,st.off + 1,st.spot⟩ (.int .u32 1)) (semEvents ⟨st.block,st.off + 1,st.spot⟩)) (H:WayOut P d g' w):WayLast P st (2,d) g w:=by
  obtain ⟨n,H⟩:=H
  exact ⟨n + 1,hr,hd,.inr (.inr (.inr ⟨rfl,hw,g',h,H⟩))⟩
theorem wayOut_unwind {f f':FuncId} {kd:CallKind} {a:Act} {cs:List Frame} {fn:Func} {todo:List Item} {ds:List Deferred} (m:Mark) (hm:Event.mute ⟨.mark m,false,true⟩=true) (hx:∀ g,m≠.extern g) (hd:a.defers=dcall f' #[] :: ds)
    (hf:P.funcs[f']?=some fn) (hname:(fn.name == "runtime.NumGoroutine")=false) (hb:fn.body.isNone=true) (hn:Extern.findNext fn=none)
    (he:Extern.find fn=some (fun _=>do mark m;pure Extern.Race.none_))
    (hq:WayOut P (deafBehind d #[⟨.mark m,false,true⟩]) (G { (bk f kd).at ⟨a.tmps,ds⟩ todo with mode:=.returning } cs) w):WayOut P d (G { (bk f kd).at a todo with mode:=.returning } cs) w:=by
  obtain ⟨n,hq⟩:=hq
  exact ⟨n + 1,QuitsD.unwind_mark m hm hx hd hf hname hb hn he hq⟩
theorem wakes_entry {b:Frame} {a:Act} {ops:Array Oper} {i:Nat} {rest:List Nat} {k:List Item} {cs:List Frame} {o:Oper} {f:FuncId} {fn:Func} {xs:Array Operand} {ats:Array TypeId} (ho:ops[i]?=some o) (hop:o.op=.call { callee:=.value (.func f),args:=xs,argTypes:=ats }) (hf:P.funcs[f]?=some fn) (hb:fn.body.isNone=true) :
    mayWake P (G (b.at a (.inRegion ops (i :: rest) :: k)) cs)=true:=by
  have hb':fn.body=none:=Option.isNone_iff_eq_none.1 hb
  have ev:(b.at a (.inRegion ops (i :: rest) :: k)).eval (.func f)=.func (.func f) #[] #[]:=rfl
  simp only [Frame.at] at ev
  simp [mayWake,G,Frame.at,ho,hop,ev,hf,hb']
theorem WayDone.add (hr:g.status=.running) (hd:d≠0) (g1 g2:Nat→Goroutine) (hes:∀ e∈es,∃ b,e=⟨.cell st,b,true⟩)
    (h1:∀ w k,w.cell? st=some (.int .u64 ((k + 1:Nat) * 4294967296))→w.frozen? st=false→k < 1000→stepG P false g w=.go (g1 k) (w.setCell st (.int .u64 ((k:Nat) * 4294967296))) es) (H1:∀ k,k < 1000→WayOut P d (g1 k) w)
    (h2:∀ w k,w.cell? st=some (.int .u64 ((k + 1:Nat) * 4294967296 + 1))→w.frozen? st=false→k < 1000→stepG P false g w=.go (g2 k) (w.setCell st (.int .u64 ((k:Nat) * 4294967296 + 1))) es) (H2:∀ k,k < 1000→0 < k→WayOut P d (g2 k) w) (HL:WayLast P st (0,d) (g2 0) w):WayDone P st d g w:=by
  obtain ⟨n1,a1⟩:=bounded (fun k n=>QuitsD P n d (g1 k)) (fun _ _ _ h hl=>quitsD_more h hl) 1000 H1
  obtain ⟨n2,a2⟩:=bounded (fun k n=>0 < k→QuitsD P n d (g2 k)) (fun _ _ _ h hl hk=>quitsD_more (h hk) hl) 1000 (fun k hk=>by
    by_cases e:0 < k
    · obtain ⟨n,h⟩:=H2 k hk e;exact ⟨n,fun _=>h⟩
    · exact ⟨0,fun h=>absurd h e⟩)
  obtain ⟨n3,a3⟩:=HL
  refine ⟨max n1 (max n2 n3) + 1,hr,.inr ⟨hd,g1,g2,es,hes,h1,fun k hk=>quitsD_more (a1 k hk) (Nat.le_max_left ..),h2,fun k hk h0=>quitsD_more (a2 k hk h0) (Nat.le_trans (Nat.le_max_left ..) (Nat.le_max_right ..)),lasts_more a3 (Nat.le_trans (Nat.le_max_right ..) (Nat.le_max_right ..))⟩⟩
end
section
variable {P:Program} {main:Bool} {Gh:Type} {L:Gh→Goroutine→World→Prop} (T:Ctl P main L)
variable {f:FuncId} {kd:CallKind} {s:Gh} {a:Act} {w:World} {k:List Item} {cs:List Frame}
include T
theorem l_any {g':Goroutine} {g:Goroutine} (hr:g.status=.running) (h:∀ w,stepG P main g w=.go g' w #[]) (H:L s g' w):L s g w:=T.ctl _ _ _ _ hr h H
end
end Go.Proofs.Ytndppafplgilbaa
namespace Go.Proofs.Ytndppafplgilbaa
open Go Go.Conc
def depsOk (ops:Array Oper) (deps:List (List Nat)):Bool :=
  ((List.range ops.size).all fun i=>((ops[i]?).map fun o=>o.after.all fun e=>decide (e.on < i)).getD true) &&
  ((List.range ops.size).all fun i=>(deps.getD i []).all fun j=>((ops[i]?).map fun o=>o.after.any fun e=>Region.binds .any e && e.on == j).getD false)
theorem ready_deps {ops:Array Oper} {deps:List (List Nat)} (h:depsOk ops deps=true) {listed:Array Bool} {i:Nat} (hi:i∈Region.ready .any ops listed):i < ops.size∧listed.getD i true=false∧∀ j∈deps.getD i [],listed.getD j false=true:=by
  obtain ⟨h1,h2⟩:=List.mem_filter.1 hi
  have hlt:=List.mem_range.1 h1
  simp only [Bool.and_eq_true,Bool.not_eq_true'] at h2
  refine ⟨hlt,h2.1,fun j hj=>?_⟩
  simp only [depsOk,Bool.and_eq_true,List.all_eq_true,List.mem_range] at h
  have h3:=h.2 i hlt j hj
  have ho:ops[i]?=some ops[i]:=Array.getElem?_eq_getElem hlt
  rw [ho] at h3 h2
  simp only [Option.map_some,Option.getD_some,Array.any_eq_true',Array.all_eq_true',Bool.and_eq_true,Bool.or_eq_true,Bool.not_eq_true',beq_iff_eq] at h3 h2
  obtain ⟨e,he,hb,rfl⟩:=h3
  rcases h2.2 e he with h4 | h4
  · rw [hb] at h4;cases h4
  · exact h4
theorem ready_nil {ops:Array Oper} {deps:List (List Nat)} (h:depsOk ops deps=true) {listed:Array Bool} (hs:listed.size=ops.size) (hr:Region.ready .any ops listed=[]):listed=Array.replicate ops.size true:=by
  simp only [depsOk,Bool.and_eq_true,List.all_eq_true,List.mem_range] at h
  have key:∀ i,i < ops.size→listed.getD i false=true:=fun i=>by
    induction i using Nat.strongRecOn with
    | _ i ih =>
      intro hi
      cases hl:listed.getD i false with
      | true=>rfl
      | false =>
        exfalso
        have hmem:i∈Region.ready .any ops listed:=by
          refine List.mem_filter.2 ⟨List.mem_range.2 hi,?_⟩
          have ho:ops[i]?=some ops[i]:=Array.getElem?_eq_getElem hi
          have h1:=h.1 i hi
          rw [ho] at h1 ⊢
          simp only [Option.map_some,Option.getD_some,Array.all_eq_true',decide_eq_true_eq,Bool.and_eq_true,Bool.not_eq_true',Bool.or_eq_true] at h1 ⊢
          refine ⟨?_,fun e he=>.inr (ih _ (h1 e he) (Nat.lt_trans (h1 e he) hi))⟩
          have hi':i < listed.size:=by omega
          simp [Array.getD,hi'] at hl ⊢
          exact hl
        rw [hr] at hmem;cases hmem
  apply Array.ext
  · simp [hs]
  · intro i h1 h2
    have:=key i (by omega)
    simp only [Array.getElem_replicate]
    simpa [Array.getD,h1] using this
section
variable {P:Program} {main:Bool} {Gh:Type} {L:Gh→Goroutine→World→Prop} (T:Ctl P main L)
variable {f:FuncId} {kd:CallKind} {k:List Item} {cs:List Frame}
include T
theorem l_draw_go {ops:Array Oper} (deps:List (List Nat)) (hd:depsOk ops deps=true) (Inv:Array Bool→Gh→Act→World→Prop)
    (fin:∀ s a w,Inv (Array.replicate ops.size true) s a w→L s (G ((bk f kd).at a k) cs) w)
    (step:∀ listed s a w i rest,Inv listed s a w→i < ops.size→listed.getD i true=false→(∀ j∈deps.getD i [],listed.getD j false=true) →
      (∃ fuel t,rest=Region.linearise.go .any ops fuel t (listed.setIfInBounds i true) []∧(listed.setIfInBounds i true).toList.count false=fuel)→(∀ s' a' w',Inv (listed.setIfInBounds i true) s' a' w'→L s' (G ((bk f kd).at a' (.inRegion ops rest :: k)) cs) w')→L s (G ((bk f kd).at a (.inRegion ops (i :: rest) :: k)) cs) w) :
    ∀ (fuel t:Nat) (listed:Array Bool) (s:Gh) (a:Act) (w:World),listed.size=ops.size→listed.toList.count false=fuel→Inv listed s a w→L s (G ((bk f kd).at a (.inRegion ops (Region.linearise.go .any ops fuel t listed []) :: k)) cs) w:=by
  intro fuel
  induction fuel with
  | zero =>
    intro t listed s a w hs hc hI
    have e:listed=Array.replicate ops.size true:=by
      apply Array.ext
      · simp [hs]
      · intro i h1 h2
        rw [List.count_eq_zero] at hc
        cases hl:listed[i] with
        | true=>simp
        | false=>exact absurd (by rw [← hl];exact Array.getElem_mem_toList h1) hc
    subst e
    exact l_end T (fin _ _ _ hI)
  | succ fuel ih =>
    intro t listed s a w hs hc hI
    simp only [Region.linearise.go]
    change L s (G ((bk f kd).at a (.inRegion ops (match (Region.ready .any ops listed)[t % (Region.ready .any ops listed).length]? with
      | some i=>Region.linearise.go .any ops fuel (t / (Region.ready .any ops listed).length) (listed.setIfInBounds i true) [i]
      | none=>[].reverse) :: k)) cs) w
    cases hi:(Region.ready .any ops listed)[t % (Region.ready .any ops listed).length]? with
    | none =>
      have hnil:Region.ready .any ops listed=[]:=by
        cases hr:Region.ready .any ops listed with
        | nil=>rfl
        | cons x xs =>
          rw [hr] at hi
          have hlt:t % (x :: xs).length < (x :: xs).length:=Nat.mod_lt _ (by simp)
          simp at hi
          simp at hlt
          omega
      have e:=ready_nil hd hs hnil
      subst e
      exact l_end T (fin _ _ _ hI)
    | some i =>
      simp only []
      rw [linearise_go_acc,List.reverse_singleton,List.singleton_append]
      obtain ⟨h1,h2,h3⟩:=ready_deps hd (List.mem_of_getElem? hi)
      have h4:i < listed.size:=by omega
      have h5:listed.toList[i]'(by simpa using h4)=false:=by simpa [Array.getD,h4] using h2
      have h6:(listed.setIfInBounds i true).toList.count false=fuel:=by
        rw [Array.toList_setIfInBounds,List.count_set (by simpa using h4),h5,hc]
        simp
      exact step listed s a w i _ hI h1 h2 h3 ⟨_,_,rfl,h6⟩ fun s' a' w' hI'=>ih _ _ s' a' w' (by simpa using hs) h6 hI'
end
section
variable {P:Program} {Gh:Type} {sit:Gh→Sit} {h:Nat} {L:Gh→Goroutine→World→Prop} (O:OwnL P sit h L)
variable {f:FuncId} {kd:CallKind} {s:Gh} {a:Act} {w:World} {k:List Item} {cs:List Frame}
include O
theorem l_draw0 {id:Nat} {ops:Array Oper} (H:∀ t,L s (G ((bk f kd).at a (.inRegion ops (Region.schedule (P.follows .mixedOrders) ops t) :: k)) cs) w):L s (G ((bk f kd).at a (.code (.region id ops true) :: k)) cs) w:=by
  refine O.ok _ _ _ fun hok=>O.step _ _ _ hok rfl fun w₁ r=>?_
  obtain ⟨t,d,hr⟩:∃ t d,(choose (.order f id)).run P w₁=.ok t (w₁.at d):=by
    unfold choose Sem.run
    split
    · exact ⟨_,w₁.drawn,rfl⟩
    · exact ⟨_,w₁.drawn + 1,rfl⟩
  refine ⟨_,w₁.at d,#[],?_,DT.draw hok,fun _=>rfl,O.rely _ _ _ _ (H t) (r.trans (RW.at d))⟩
  simp [G,stepG,stepG.exec,bk,base,Frame.at,hr]
theorem l_draw (hm:P.follows .mixedOrders=true) {id:Nat} {ops:Array Oper} (deps:List (List Nat)) (hd:depsOk ops deps=true) (Inv:Array Bool→Gh→Act→World→Prop) (hI:Inv (Array.replicate ops.size false) s a w)
    (fin:∀ s a w,Inv (Array.replicate ops.size true) s a w→L s (G ((bk f kd).at a k) cs) w)
    (step:∀ listed s a w i rest,Inv listed s a w→i < ops.size→listed.getD i true=false→(∀ j∈deps.getD i [],listed.getD j false=true) →
      (∃ fuel t,rest=Region.linearise.go .any ops fuel t (listed.setIfInBounds i true) []∧(listed.setIfInBounds i true).toList.count false=fuel)→(∀ s' a' w',Inv (listed.setIfInBounds i true) s' a' w'→L s' (G ((bk f kd).at a' (.inRegion ops rest :: k)) cs) w')→L s (G ((bk f kd).at a (.inRegion ops (i :: rest) :: k)) cs) w) :
    L s (G ((bk f kd).at a (.code (.region id ops true) :: k)) cs) w:=by
  refine l_draw0 O fun t=>?_
  simp only [Region.schedule,hm,Bool.true_or,if_true]
  exact l_draw_go O.toCtl deps hd Inv fin step _ _ _ s a w (by simp) (by simp) hI
end
end Go.Proofs.Ytndppafplgilbaa
namespace Go.Proofs.Ytndppafplgilbaa
open Go Go.Conc
open Go.ConcN (sumTo upd sumTo_upd upd_ne upd_same)
theorem at_cas {P:Program} {main:Bool} {f g:FuncId} {fn:Func} {kd:CallKind} {a:Act} {k:List Item} {cs:List Frame} {st:Addr} {v:Nat} (hkd:kd≠.early) {ops:Array Oper} {i:Nat} {rest:List Nat} {o:Oper} {x y z:Operand} {ats:Array TypeId} (ho:ops[i]?=some o) (hw:Region.wanted o (yielded ops a.tmps)=true)
    (hop:o.op=.call { callee:=.value (.func g),args:=#[x,y,z],argTypes:=ats }) (hf:P.funcs[g]?=some fn) (hname:(fn.name == "runtime.NumGoroutine")=false) (hb:fn.body.isNone=true) (hn:Extern.findNext fn=none) (he:Extern.find fn=some (Extern.Atomic.casT (.int .u64)))
    (hx:a.eval x=.pointer (some st)) (hy:a.eval y=.int .u64 ((v:Int) * 4294967296)) (hz:a.eval z=.int .u64 ((v:Int) * 4294967296 + 1)) :
    AtCas P main st v (G ((bk f kd).at a (.inRegion ops (i :: rest) :: k)) cs) (G ((bk f kd).at (a.put o.dst (.bool true)) (.inRegion ops rest :: k)) cs) (G ((bk f kd).at (a.put o.dst (.bool false)) (.inRegion ops rest :: k)) cs):=by
  refine ⟨rfl,#[⟨.cell st,false,true⟩,⟨.cell st,true,true⟩],#[⟨.cell st,false,true⟩],fun e he=>?_,fun e he=>?_,fun w m hc hz' hm=>⟨fun e=>?_,fun e=>?_⟩⟩
  · simp only [List.mem_toArray,List.mem_cons,List.not_mem_nil,or_false] at he
    rcases he with rfl | rfl <;> exact ⟨_,rfl⟩
  · simp only [List.mem_toArray,List.mem_cons,List.not_mem_nil,or_false] at he
    subst he;exact ⟨_,rfl⟩
  · subst e
    exact stepG_cas_hit (b:=bk f kd) ho hw hkd hop hf hname hb hn .u64 he hx hy hz hc hz'
  · exact stepG_cas_miss (b:=bk f kd) ho hw hkd hop hf hname hb hn .u64 he hx hy hz hc hz' (by omega)
def WayAcq (P:Program) (main:Bool) (st:Addr) (Q:Goroutine→Prop) (g:Goroutine) (_:World):Prop:=∃ g' n,ToAcq P main st g' n g∧Q g'
section
variable {P:Program} {main:Bool} {st:Addr} {Q:Goroutine→Prop} {g' g g₁:Goroutine} {w:World} {es:Array Event}
theorem wayAcq_ctl:Ctl P main (WayAcq P main st):=⟨fun s g g₁ w hr hg ⟨g',n,h,q⟩=>⟨g',n + 1,⟨hr,g₁,#[],fun e he=>by simp at he,fun w _ _=>hg w,h⟩,q⟩⟩
theorem WayAcq.mark (hr:g.status=.running) (hm:∀ e∈es,EvQ st e) (h:∀ w x,w.cell? (smA st)=some x→stepG P main g w=.go g₁ w es) (H:WayAcq P main st Q g₁ w):WayAcq P main st Q g w:=by
  obtain ⟨g',n,H,q⟩:=H
  exact ⟨g',n + 1,⟨hr,g₁,es,hm,h,H⟩,q⟩
theorem WayAcq.here (h:AtAcq P main st g' g) (q:Q g'):WayAcq P main st Q g w:=⟨g',0,h,q⟩
theorem at_acq {f h:FuncId} {fn:Func} {kd:CallKind} {a:Act} {k:List Item} {cs:List Frame} (hkd:kd≠.early) {ops:Array Oper} {i:Nat} {rest:List Nat} {o:Oper} {as:Array Operand} {ats:Array TypeId} (ho:ops[i]?=some o) (hw:Region.wanted o (yielded ops a.tmps)=true)
    (hop:o.op=.call { callee:=.value (.func h),args:=as,argTypes:=ats }) (hf:P.funcs[h]?=some fn) (hname:(fn.name == "runtime.NumGoroutine")=false) (hb:fn.body.isNone=true) (hn:Extern.findNext fn=none) (he:Extern.find fn=some Extern.Sync.semacquire) (hx:(as.map a.eval)[0]?=some (.pointer (some (smA st)))) :
    AtAcq P main st (G ((bk f kd).at (a.put o.dst (.tuple #[])) (.inRegion ops rest :: k)) cs) (G ((bk f kd).at a (.inRegion ops (i :: rest) :: k)) cs) :=
  ⟨rfl,rfl,fun w hc=>stepG_semacquire_wait (b:=bk f kd) ho hw hop hf hname hb hn he hx hc,fun w hc hz=>(stepG_semacquire (b:=bk f kd) ho hw hkd hop hf hname hb hn he hx hc (by decide) hz).trans (by rfl)⟩
end
end Go.Proofs.Ytndppafplgilbaa
namespace Go.Proofs.Ytndppafplgilbaa
open Go Go.Conc
def depsOk2 (ops:Array Oper) (deps:List (List Nat)):Bool :=
  ((List.range ops.size).all fun i=>((ops[i]?).map fun o=>o.after.all fun e=>!Region.binds .any e || decide (e.on < i)).getD true) &&
  ((List.range ops.size).all fun i=>(deps.getD i []).all fun j=>((ops[i]?).map fun o=>o.after.any fun e=>Region.binds .any e && e.on == j).getD false)
theorem ready_deps2 {ops:Array Oper} {deps:List (List Nat)} (h:depsOk2 ops deps=true) {listed:Array Bool} {i:Nat} (hi:i∈Region.ready .any ops listed):i < ops.size∧listed.getD i true=false∧∀ j∈deps.getD i [],listed.getD j false=true:=by
  obtain ⟨h1,h2⟩:=List.mem_filter.1 hi
  have hlt:=List.mem_range.1 h1
  simp only [Bool.and_eq_true,Bool.not_eq_true'] at h2
  refine ⟨hlt,h2.1,fun j hj=>?_⟩
  simp only [depsOk2,Bool.and_eq_true,List.all_eq_true,List.mem_range] at h
  have h3:=h.2 i hlt j hj
  have ho:ops[i]?=some ops[i]:=Array.getElem?_eq_getElem hlt
  rw [ho] at h3 h2
  simp only [Option.map_some,Option.getD_some,Array.any_eq_true',Array.all_eq_true',Bool.and_eq_true,Bool.or_eq_true,Bool.not_eq_true',beq_iff_eq] at h3 h2
  obtain ⟨e,he,hb,rfl⟩:=h3
  rcases h2.2 e he with h4 | h4
  · rw [hb] at h4;cases h4
  · exact h4
theorem ready_nil2 {ops:Array Oper} {deps:List (List Nat)} (h:depsOk2 ops deps=true) {listed:Array Bool} (hs:listed.size=ops.size) (hr:Region.ready .any ops listed=[]):listed=Array.replicate ops.size true:=by
  simp only [depsOk2,Bool.and_eq_true,List.all_eq_true,List.mem_range] at h
  have key:∀ i,i < ops.size→listed.getD i false=true:=fun i=>by
    induction i using Nat.strongRecOn with
    | _ i ih =>
      intro hi
      cases hl:listed.getD i false with
      | true=>rfl
      | false =>
        exfalso
        have hmem:i∈Region.ready .any ops listed:=by
          refine List.mem_filter.2 ⟨List.mem_range.2 hi,?_⟩
          have ho:ops[i]?=some ops[i]:=Array.getElem?_eq_getElem hi
          have h1:=h.1 i hi
          rw [ho] at h1 ⊢
          simp only [Option.map_some,Option.getD_some,Array.all_eq_true',decide_eq_true_eq,Bool.and_eq_true,Bool.not_eq_true',Bool.or_eq_true] at h1 ⊢
          refine ⟨?_,fun e he=>(h1 e he).imp id fun hlt=>ih _ hlt (Nat.lt_trans hlt hi)⟩
          have hi':i < listed.size:=by omega
          simp [Array.getD,hi'] at hl ⊢
          exact hl
        rw [hr] at hmem;cases hmem
  apply Array.ext
  · simp [hs]
  · intro i h1 h2
    have:=key i (by omega)
    simp only [Array.getElem_replicate]
    simpa [Array.getD,h1] using this
section
variable {P:Program} {main:Bool} {Gh:Type} {L:Gh→Goroutine→World→Prop} (T:Ctl P main L)
variable {f:FuncId} {kd:CallKind} {k:List Item} {cs:List Frame}
include T
theorem l_draw_go2 {ops:Array Oper} (deps:List (List Nat)) (hd:depsOk2 ops deps=true) (Inv:Array Bool→Gh→Act→World→Prop)
    (fin:∀ s a w,Inv (Array.replicate ops.size true) s a w→L s (G ((bk f kd).at a k) cs) w)
    (step:∀ listed s a w i rest,Inv listed s a w→i < ops.size→listed.getD i true=false→(∀ j∈deps.getD i [],listed.getD j false=true) →
      (∃ fuel t,rest=Region.linearise.go .any ops fuel t (listed.setIfInBounds i true) []∧(listed.setIfInBounds i true).toList.count false=fuel)→(∀ s' a' w',Inv (listed.setIfInBounds i true) s' a' w'→L s' (G ((bk f kd).at a' (.inRegion ops rest :: k)) cs) w')→L s (G ((bk f kd).at a (.inRegion ops (i :: rest) :: k)) cs) w) :
    ∀ (fuel t:Nat) (listed:Array Bool) (s:Gh) (a:Act) (w:World),listed.size=ops.size→listed.toList.count false=fuel→Inv listed s a w→L s (G ((bk f kd).at a (.inRegion ops (Region.linearise.go .any ops fuel t listed []) :: k)) cs) w:=by
  intro fuel
  induction fuel with
  | zero =>
    intro t listed s a w hs hc hI
    have e:listed=Array.replicate ops.size true:=by
      apply Array.ext
      · simp [hs]
      · intro i h1 h2
        rw [List.count_eq_zero] at hc
        cases hl:listed[i] with
        | true=>simp
        | false=>exact absurd (by rw [← hl];exact Array.getElem_mem_toList h1) hc
    subst e
    exact l_end T (fin _ _ _ hI)
  | succ fuel ih =>
    intro t listed s a w hs hc hI
    simp only [Region.linearise.go]
    change L s (G ((bk f kd).at a (.inRegion ops (match (Region.ready .any ops listed)[t % (Region.ready .any ops listed).length]? with
      | some i=>Region.linearise.go .any ops fuel (t / (Region.ready .any ops listed).length) (listed.setIfInBounds i true) [i]
      | none=>[].reverse) :: k)) cs) w
    cases hi:(Region.ready .any ops listed)[t % (Region.ready .any ops listed).length]? with
    | none =>
      have hnil:Region.ready .any ops listed=[]:=by
        cases hr:Region.ready .any ops listed with
        | nil=>rfl
        | cons x xs =>
          rw [hr] at hi
          have hlt:t % (x :: xs).length < (x :: xs).length:=Nat.mod_lt _ (by simp)
          simp at hi
          simp at hlt
          omega
      have e:=ready_nil2 hd hs hnil
      subst e
      exact l_end T (fin _ _ _ hI)
    | some i =>
      simp only []
      rw [linearise_go_acc,List.reverse_singleton,List.singleton_append]
      obtain ⟨h1,h2,h3⟩:=ready_deps2 hd (List.mem_of_getElem? hi)
      have h4:i < listed.size:=by omega
      have h5:listed.toList[i]'(by simpa using h4)=false:=by simpa [Array.getD,h4] using h2
      have h6:(listed.setIfInBounds i true).toList.count false=fuel:=by
        rw [Array.toList_setIfInBounds,List.count_set (by simpa using h4),h5,hc]
        simp
      exact step listed s a w i _ hI h1 h2 h3 ⟨_,_,rfl,h6⟩ fun s' a' w' hI'=>ih _ _ s' a' w' (by simpa using hs) h6 hI'
end
section
variable {P:Program} {Gh:Type} {sit:Gh→Sit} {h:Nat} {L:Gh→Goroutine→World→Prop} (O:OwnL P sit h L)
variable {f:FuncId} {kd:CallKind} {s:Gh} {a:Act} {w:World} {k:List Item} {cs:List Frame}
include O
theorem l_draw2 (hm:P.follows .mixedOrders=true) {id:Nat} {ops:Array Oper} (deps:List (List Nat)) (hd:depsOk2 ops deps=true) (Inv:Array Bool→Gh→Act→World→Prop) (hI:Inv (Array.replicate ops.size false) s a w)
    (fin:∀ s a w,Inv (Array.replicate ops.size true) s a w→L s (G ((bk f kd).at a k) cs) w)
    (step:∀ listed s a w i rest,Inv listed s a w→i < ops.size→listed.getD i true=false→(∀ j∈deps.getD i [],listed.getD j false=true) →
      (∃ fuel t,rest=Region.linearise.go .any ops fuel t (listed.setIfInBounds i true) []∧(listed.setIfInBounds i true).toList.count false=fuel)→(∀ s' a' w',Inv (listed.setIfInBounds i true) s' a' w'→L s' (G ((bk f kd).at a' (.inRegion ops rest :: k)) cs) w')→L s (G ((bk f kd).at a (.inRegion ops (i :: rest) :: k)) cs) w) :
    L s (G ((bk f kd).at a (.code (.region id ops true) :: k)) cs) w:=by
  refine l_draw0 O fun t=>?_
  simp only [Region.schedule,hm,Bool.true_or,if_true]
  exact l_draw_go2 O.toCtl deps hd Inv fin step _ _ _ s a w (by simp) (by simp) hI
end
end Go.Proofs.Ytndppafplgilbaa
