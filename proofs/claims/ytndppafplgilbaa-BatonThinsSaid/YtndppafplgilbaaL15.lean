/-
  larchlaw04.BatonThins returns true for every input. No condition. (Part 15 of 49; joined by program.)
-/
import Derived.Test.YtndppafplgilbaaL14
import Derived.Conc.Pipeline2
import Derived.Conc.DeferLaws
set_option linter.unusedVariables false
set_option linter.unusedSimpArgs false
set_option linter.unusedSectionVars false
set_option maxRecDepth 100000
namespace Go.Proofs.Ytndppafplgilbaa
open Go Go.Conc
open Go.ConcN (sumTo upd sumTo_upd upd_ne upd_same)
section
variable {P:Program} {main:Bool} {Gh:Type} {L:Gh→Goroutine→World→Prop} (T:Ctl P main L)
variable {f:FuncId} {kd:CallKind} {s:Gh} {a:Act} {w:World} {k:List Item} {cs:List Frame}
include T
theorem l_seq {x y:Code} (h:L s (G ((bk f kd).at a (.code x :: .code y :: k)) cs) w):L s (G ((bk f kd).at a (.code (.seq x y) :: k)) cs) w:=T.ctl _ _ _ _ rfl (fun w=>stepG_seq) h
theorem l_skip (h:L s (G ((bk f kd).at a k) cs) w):L s (G ((bk f kd).at a (.code .skip :: k)) cs) w:=T.ctl _ _ _ _ rfl (fun w=>stepG_skip) h
theorem l_cond {c:Operand} {x y:Code} (t:Bool) (hc:a.eval c=.bool t) (h:L s (G ((bk f kd).at a (.code (if t then x else y) :: k)) cs) w):L s (G ((bk f kd).at a (.code (.cond c x y) :: k)) cs) w:=T.ctl _ _ _ _ rfl (fun w=>stepG_cond hc) h
theorem l_block {id:Nat} {c:Code} (h:L s (G ((bk f kd).at a (.code c :: .inBlock id :: k)) cs) w):L s (G ((bk f kd).at a (.code (.block id c) :: k)) cs) w:=T.ctl _ _ _ _ rfl (fun w=>stepG_block) h
theorem l_inBlock {id:Nat} (h:L s (G ((bk f kd).at a k) cs) w):L s (G ((bk f kd).at a (.inBlock id :: k)) cs) w:=T.ctl _ _ _ _ rfl (fun w=>stepG_inBlock) h
theorem l_exit {id:Nat} {k':List Item} (hk:exitTo id k=some k') (h:L s (G ((bk f kd).at a k') cs) w):L s (G ((bk f kd).at a (.code (.exit id) :: k)) cs) w:=T.ctl _ _ _ _ rfl (fun w=>stepG_exit hk) h
theorem l_loop {c:Code} (h:L s (G ((bk f kd).at a (.code c :: .inLoop c :: k)) cs) w):L s (G ((bk f kd).at a (.code (.loop c) :: k)) cs) w:=T.ctl _ _ _ _ rfl (fun w=>stepG_loop) h
theorem l_inLoop {c:Code} (h:L s (G ((bk f kd).at a (.code c :: .inLoop c :: k)) cs) w):L s (G ((bk f kd).at a (.inLoop c :: k)) cs) w:=T.ctl _ _ _ _ rfl (fun w=>stepG_inLoop) h
theorem l_region {id:Nat} {ops:Array Oper} (h:L s (G ((bk f kd).at a (.inRegion ops (List.range ops.size) :: k)) cs) w):L s (G ((bk f kd).at a (.code (.region id ops false) :: k)) cs) w:=T.ctl _ _ _ _ rfl (fun w=>stepG_region) h
theorem l_end {ops:Array Oper} (h:L s (G ((bk f kd).at a k) cs) w):L s (G ((bk f kd).at a (.inRegion ops [] :: k)) cs) w:=T.ctl _ _ _ _ rfl (fun w=>stepG_region_end) h
theorem l_ret (h:L s (G { (bk f kd).at a (.code .ret :: k) with mode:=.returning } cs) w):L s (G ((bk f kd).at a (.code .ret :: k)) cs) w:=T.ctl _ _ _ _ rfl (fun w=>stepG_ret') h
theorem l_fin (h:L s (G { (bk f kd).at a [] with mode:=.returning } cs) w):L s (G ((bk f kd).at a []) cs) w:=T.ctl _ _ _ _ rfl (fun w=>stepG_end) h
theorem l_un {ops:Array Oper} {i:Nat} {rest:List Nat} {o:Oper} (ho:ops[i]?=some o) (hw:Region.wanted o (yielded ops a.tmps)=false) (h:L s (G ((bk f kd).at (a.put o.dst undef) (.inRegion ops rest :: k)) cs) w):L s (G ((bk f kd).at a (.inRegion ops (i :: rest) :: k)) cs) w :=
  T.ctl _ _ _ _ rfl (fun w=>stepG_unwanted ho hw) h
theorem l_val (hkd:kd≠.early) {ops:Array Oper} {i:Nat} {rest:List Nat} {o:Oper} {v:Value} (ho:ops[i]?=some o) (hw:Region.wanted o (yielded ops a.tmps)=true) (hr:∀ w,(execOp a.eval o).run P w=.ok (.value v) w) (he:∀ w,(execOp a.eval o).events P w #[]=#[])
    (h:L s (G ((bk f kd).at (a.put o.dst v) (.inRegion ops rest :: k)) cs) w):L s (G ((bk f kd).at a (.inRegion ops (i :: rest) :: k)) cs) w :=
  T.ctl _ _ _ _ rfl (fun w=>by
    have:=stepG_value (P:=P) (main:=main) (b:=bk f kd) (a:=a) (k:=k) (cs:=cs) (w:=w) (rest:=rest) ho hw hkd (hr w)
    unfold listed at this
    rw [he w,seen_none] at this
    exact this) h
theorem l_enter (hkd:kd≠.early) {ops:Array Oper} {i:Nat} {rest:List Nat} {o:Oper} {g:FuncId} {xs:Array Value} {fn:Func} {c:Code} (ho:ops[i]?=some o) (hw:Region.wanted o (yielded ops a.tmps)=true) (hr:∀ w,(execOp a.eval o).run P w=.ok (.enter g xs) w) (he:∀ w,(execOp a.eval o).events P w #[]=#[])
    (h:L s (G (Frame.enter P g xs .normal) ((bk f kd).at a (.inRegion ops (i :: rest) :: k) :: cs)) w):L s (G ((bk f kd).at a (.inRegion ops (i :: rest) :: k)) cs) w :=
  T.ctl _ _ _ _ rfl (fun w=>by
    have:=stepG_enter (P:=P) (main:=main) (b:=bk f kd) (a:=a) (k:=k) (cs:=cs) (w:=w) (rest:=rest) ho hw hkd (hr w)
    unfold listed at this
    rw [he w,seen_none] at this
    exact this) h
omit T in
theorem enter_bk {g:FuncId} {xs:Array Value} {fn:Func} {c:Code} (hf:P.funcs[g]?=some fn) (hb:fn.body=some c):Frame.enter P g xs .normal=(bk g .normal).at ⟨xs ++ Array.replicate (fn.ntmps - xs.size) undef,[]⟩ [.code c]:=by
  simp [Frame.enter,hf,hb,Frame.at,bk,base]
theorem l_into (hkd:kd≠.early) {ops:Array Oper} {i:Nat} {rest:List Nat} {o:Oper} {g:FuncId} {fn:Func} {c:Code} {args:Array Operand} {ats:Array TypeId}
    (ho:ops[i]?=some o) (hw:Region.wanted o (yielded ops a.tmps)=true) (hop:o.op=.call { callee:=.value (.func g),args,argTypes:=ats }) (hf:P.funcs[g]?=some fn) (hname:(fn.name == "runtime.NumGoroutine")=false) (hb:fn.body=some c)
    (h:L s (G ((bk g .normal).at ⟨args.map a.eval ++ Array.replicate (fn.ntmps - (args.map a.eval).size) undef,[]⟩ [.code c]) ((bk f kd).at a (.inRegion ops (i :: rest) :: k) :: cs)) w):L s (G ((bk f kd).at a (.inRegion ops (i :: rest) :: k)) cs) w:=by
  have hb':fn.body.isNone=false:=by rw [hb];rfl
  exact l_enter T hkd (fn:=fn) (c:=c) ho hw (fun w=>run_call_body hop hf hname hb') (fun w=>events_call_body hop hf hname hb' _) (by rw [enter_bk hf hb];exact h)
theorem l_leave {fn:Func} {todo:List Item} {v:Value} {c:Frame} (hf:P.funcs[f]?=some fn) (hd:a.defers=[]) (hr:ResultsC P fn a.tmps v) (h:L s (G (c.finish v) cs) w):L s (G { (bk f .normal).at a todo with mode:=.returning } (c :: cs)) w :=
  T.ctl _ _ _ _ rfl (fun w₁=>stepG_leave (b:=bk f .normal) rfl hd hf (hr w₁).1 (hr w₁).2) h
omit T in
theorem bk_finish {ops:Array Oper} {i:Nat} {rest:List Nat} {o:Oper} (ho:ops[i]?=some o) (v:Value):((bk f kd).at a (.inRegion ops (i :: rest) :: k)).finish v=(bk f kd).at (a.put o.dst v) (.inRegion ops rest :: k):=by
  rw [Frame.finish_at,ho];rfl
theorem l_raise {fn:Func} {todo:List Item} {ch:List PanicEntry} {c:Frame} (hf:P.funcs[f]?=some fn) (hd:a.defers=[]) (h:L s (G (c.raise ch) cs) w):L s (G { (bk f kd).at a todo with mode:=.panicking ch } (c :: cs)) w:=by
  obtain ⟨ts,ds⟩:=a
  simp only at hd
  subst hd
  exact T.ctl _ _ _ _ rfl (fun w₁=>by simp [G,stepG,unwind,Frame.at,bk,base,Frame.catches,hf]) h
theorem l_down {ch:List PanicEntry} {d:Frame} (hm:d.mode=.run):∀ (bs:List Frame),Bare P bs→∀ {f:FuncId} {kd:CallKind} {a:Act} {todo:List Item},a.defers=[]→(∃ fn,P.funcs[f]?=some fn)→L s (G (d.raise ch) cs) w→L s (G { (bk f kd).at a todo with mode:=.panicking ch } (bs ++ d :: cs)) w
  | [],_,f,kd,a,todo,hd,⟨fn,hf⟩,h=>l_raise T hf hd h
  | b :: bs,hB,f,kd,a,todo,hd,⟨fn,hf⟩,h=>by
    obtain ⟨g,tb,kb,fb,rfl,hfb⟩:=hB b (List.mem_cons_self ..)
    refine l_raise T hf hd ?_
    exact l_down hm bs (fun z hz=>hB z (List.mem_cons_of_mem _ hz)) (f:=g) (kd:=.normal) (a:=⟨tb,[]⟩) (todo:=kb) rfl ⟨fb,hfb⟩ h
end
section
variable {P:Program} {Gh:Type} {sit:Gh→Sit} {h:Nat} {L:Gh→Goroutine→World→Prop} (O:OwnL P sit h L)
variable {f:FuncId} {kd:CallKind} {s:Gh} {a:Act} {w:World} {k:List Item} {cs:List Frame}
include O
theorem l_op (hkd:kd≠.early) {ops:Array Oper} {i:Nat} {rest:List Nat} {o:Oper} (ho:ops[i]?=some o) (hw:Region.wanted o (yielded ops a.tmps)=true)
    (hr:(sit s).Ok→∀ w₁,RW (sit s).st w w₁→∃ v w',(execOp a.eval o).run P w₁=.ok (.value v) w'∧DT (sit s) h w₁ w' (listed P f a o w₁)∧(∀ d,deafBehind d (listed P f a o w₁)=d)∧L s (G ((bk f kd).at (a.put o.dst v) (.inRegion ops rest :: k)) cs) w'):L s (G ((bk f kd).at a (.inRegion ops (i :: rest) :: k)) cs) w:=by
  refine O.ok _ _ _ fun hok=>O.step _ _ _ hok rfl fun w₁ r=>?_
  obtain ⟨v,w',h1,h2,h3,h4⟩:=hr hok w₁ r
  exact ⟨_,w',_,stepG_value (b:=bk f kd) ho hw hkd h1,h2,h3,h4⟩
theorem l_do (hkd:kd≠.early) {ops:Array Oper} {i:Nat} {rest:List Nat} {o:Oper} (ho:ops[i]?=some o) (hw:Region.wanted o (yielded ops a.tmps)=true)
    (hr:(sit s).Ok→∀ w₁,RW (sit s).st w w₁→∃ w',(execOp a.eval o).run P w₁=.ok .skip w'∧DT (sit s) h w₁ w' (listed P f a o w₁)∧(∀ d,deafBehind d (listed P f a o w₁)=d)∧L s (G ((bk f kd).at (a.put o.dst undef) (.inRegion ops rest :: k)) cs) w'):L s (G ((bk f kd).at a (.inRegion ops (i :: rest) :: k)) cs) w:=by
  refine O.ok _ _ _ fun hok=>O.step _ _ _ hok rfl fun w₁ r=>?_
  obtain ⟨w',h1,h2,h3,h4⟩:=hr hok w₁ r
  exact ⟨_,w',_,stepG_none (b:=bk f kd) ho hw hkd h1,h2,h3,h4⟩
theorem l_mask {F:FuncId→Bool} (hF:∀ f,F f=true→FnOk P f) {H:Nat→Prop} (hh:Hides (sit s) h H) (hkd:kd≠.early) (ok:HidOk H w) {ops:Array Oper} {i:Nat} {rest:List Nat} {o:Oper} (ho:ops[i]?=some o) (hw:Region.wanted o (yielded ops a.tmps)=true) (hok:okOp P F o=true)
    {R:World→Value→World→Prop} (hp:∀ v,Masked H 0 v w→∃ x v',(execOp a.eval o).run P v=.ok (.value x) v'∧R v x v')
    (hq:∀ v x v' w',Masked H 0 v w→R v x v'→Alone (sit s).st H w v' w'→L s (G ((bk f kd).at (a.put o.dst x) (.inRegion ops rest :: k)) cs) w'):L s (G ((bk f kd).at a (.inRegion ops (i :: rest) :: k)) cs) w:=by
  refine l_op O hkd ho hw fun hsok w₁ r=>?_
  have rh:=RW.RH hh.st r
  have ok₁:=rh.hid ok
  have Ma:∀ L,Masked H L (mask H w₁ w₁.tape w₁.drawn) w₁:=fun L=>masked_mask ok₁ fun _ _ _=>rfl
  have Mw:Masked H 0 (mask H w₁ w₁.tape w₁.drawn) w:=masked_of ok (by rw [(Ma 0).heap,rh.mask ok]) ((Ma 0).os.trans rh.os) ((Ma 0).out.trans rh.out) fun i q hi=>by omega
  obtain ⟨x,v',hr,hR⟩:=hp _ Mw
  have K:=fits_op hF hok a.eval (fun _=>rfl)
  have hle:=fin_drawn (P:=P) (s:=execOp a.eval o) (w:=mask H w₁ w₁.tape w₁.drawn) (c:=.inl (.value x)) (w':=v') (by rw [hr];rfl)
  obtain ⟨w',es,h1,B⟩:=sys_of K.sim (c:=.inl (.value x)) (by rw [hr];rfl) (Ma (v'.drawn - (mask H w₁ w₁.tape w₁.drawn).drawn)) (by omega)
  have hl:listed P f a o w₁=seen P f es:=by unfold listed;rw [events_of h1]
  rw [hl]
  have T:=treads_seen (P:=P) B.treads f
  refine ⟨x,w',run_of h1,hh.DT T,treads_deaf T,hq _ x v' w' Mw hR ⟨B.masked.zero,((Kept.refl _ _ _).rw r).tread B.treads⟩⟩
theorem l_load (hkd:kd≠.early) {ops:Array Oper} {i:Nat} {rest:List Nat} {o:Oper} {p:Addr} {x:Value} (ho:ops[i]?=some o) (hw:Region.wanted o (yielded ops a.tmps)=true)
    (hc:w.cell? p=some x) (hne:p.block≠(sit s).st.block∨p.off≠(sit s).st.off) (hns:¬ (sit s).Shun (.cell p))
    (hr:∀ w₁,w₁.cell? p=some x→(execOp a.eval o).run P w₁=.ok (.value x) w₁∧listed P f a o w₁=#[⟨.cell p,false,false⟩])
    (h:L s (G ((bk f kd).at (a.put o.dst x) (.inRegion ops rest :: k)) cs) w):L s (G ((bk f kd).at a (.inRegion ops (i :: rest) :: k)) cs) w:=by
  refine l_op O hkd ho hw fun hsok w₁ r=>?_
  have hc₁:w₁.cell? p=some x:=by
    rcases r with ⟨d,rfl⟩ | ⟨n,n₁,d,_,_,rfl⟩
    · exact hc
    · show (w.setCell (sit s).st _).cell? p=_
      rw [cell_set_ne (hne.imp (fun h e=>h e.symm) (fun h e=>h e.symm))];exact hc
  obtain ⟨h1,h2⟩:=hr w₁ hc₁
  have hb:p.block < w₁.heap.size:=by
    obtain ⟨_,_,_,h3,_⟩:=cell_some hc₁
    exact (Array.getElem?_eq_some_iff.1 h3).1
  refine ⟨x,w₁,h1,?_,fun d=>?_,O.rely _ _ _ _ h r⟩
  · rw [h2]
    refine ⟨id,fun _ _ _ _=>rfl,fun _=>⟨rfl,rfl⟩,fun e he b hb'=>?_,Nat.le_refl _,fun e he b y hb' hy=>?_,rfl,rfl⟩
    all_goals
      simp only [List.mem_toArray,List.mem_singleton] at he
      subst he
      simp only [ofEvent_cell0,MemAct.touch?,Option.some.injEq] at hb'
      subst hb'
    · exact ⟨fun _ _ _ _=>rfl,fun hS=>absurd hS hns⟩
    · cases hy;exact hb
  · rw [h2];exact deafBehind_still (fun e he=>by simp only [List.mem_toArray,List.mem_singleton] at he;subst he;simp) d
theorem l_store (hkd:kd≠.early) {ops:Array Oper} {i:Nat} {rest:List Nat} {o:Oper} {p:Addr} {x y:Value} (ho:ops[i]?=some o) (hw:Region.wanted o (yielded ops a.tmps)=true)
    (hc:w.cell? p=some x) (hf:w.frozen? p=false) (hne:p.block≠(sit s).st.block∨p.off≠(sit s).st.off) (hns:¬ (sit s).Shun (.cell p)) (hS:∀ g,g≠h→((sit s).R0 g).sits→¬ (sit s).S g (.cell p))
    (hK:∀ w,(sit s).K w→(sit s).K (w.setCell p y)) (hch:∀ g c,((sit s).R0 g).has c→c≠p.block)
    (hr:∀ w₁,w₁.cell? p=some x→w₁.frozen? p=false→(execOp a.eval o).run P w₁=.ok .skip (w₁.setCell p y)∧listed P f a o w₁=#[⟨.cell p,true,false⟩])
    (hnx:L s (G ((bk f kd).at (a.put o.dst undef) (.inRegion ops rest :: k)) cs) (w.setCell p y)):L s (G ((bk f kd).at a (.inRegion ops (i :: rest) :: k)) cs) w:=by
  refine l_do O hkd ho hw fun hsok w₁ r=>?_
  have hc₁:w₁.cell? p=some x:=by
    rcases r with ⟨d,rfl⟩ | ⟨n,n₁,d,_,_,rfl⟩
    · exact hc
    · show (w.setCell (sit s).st _).cell? p=_
      rw [cell_set_ne (hne.imp (fun h e=>h e.symm) (fun h e=>h e.symm))];exact hc
  have hf₁:w₁.frozen? p=false:=by
    rcases r with ⟨d,rfl⟩ | ⟨n,n₁,d,_,_,rfl⟩
    · exact hf
    · show (w.setCell (sit s).st _).frozen? p=_
      rw [frozen_set];exact hf
  obtain ⟨h1,h2⟩:=hr w₁ hc₁ hf₁
  have hb:p.block < w₁.heap.size:=by
    obtain ⟨_,_,_,h3,_⟩:=cell_some hc₁
    exact (Array.getElem?_eq_some_iff.1 h3).1
  refine ⟨w₁.setCell p y,h1,?_,fun d=>?_,O.rely _ _ _ _ hnx ?_⟩
  · rw [h2]
    refine ⟨hK _,fun g c hc _=>setCell_ne w₁ p y (hch g c hc),fun _=>⟨cell_set_ne hne,frozen_set _ _ _ _⟩,fun e he b hb'=>?_,by rw [setCell_size];exact Nat.le_refl _,fun e he b z hb' hz=>?_,rfl,rfl⟩
    all_goals
      simp only [List.mem_toArray,List.mem_singleton] at he
      subst he
      simp only [ofEvent_cell0,MemAct.touch?,Option.some.injEq] at hb'
      subst hb'
    · exact ⟨fun g hg hs hSg=>absurd hSg (hS g hg hs),fun hSh=>absurd hSh hns⟩
    · cases hz;rw [setCell_size];exact hb
  · rw [h2];exact deafBehind_still (fun e he=>by simp only [List.mem_toArray,List.mem_singleton] at he;subst he;simp) d
  · rcases r with ⟨d,rfl⟩ | ⟨n,n₁,d,h3,h4,rfl⟩
    · exact .inl ⟨d,rfl⟩
    · refine .inr ⟨n,n₁,d,by rw [cell_set_ne hne];exact h3,h4,?_⟩
      rw [← setCell_comm _ _ (hne.imp (fun h e=>h e.symm) (fun h e=>h e.symm))];rfl
end
def WaySeat (P:Program) (main:Bool) (K:World→Prop) (S:Loc→Prop) (c:Nat) (z:Value) (ok:Bool) (home:Goroutine→Prop) (_:Unit) (g:Goroutine) (w:World):Prop :=
  ∃ n,Goes P main (RKI K) (DI S) (fun g _=>∃ g₂,AtS P main K S c z ok home g g₂) n g w
theorem goes_anyK {P:Program} {main:Bool} {K:World→Prop} {S:Loc→Prop} {Stop:Goroutine→World→Prop}:∀ {n:Nat} {g:Goroutine} {w:World} (w':World),Goes P main (RKI K) (DI S) Stop n g w→Goes P main (RKI K) (DI S) Stop n g w'
  | 0,g,w,w',h=>h
  | n + 1,g,w,w',h=>h
section
variable {P:Program} {main:Bool} {K:World→Prop} {S:Loc→Prop} {c:Nat} {z:Value} {ok:Bool} {home:Goroutine→Prop}
theorem waySeat_ctl:Ctl P main (WaySeat P main K S c z ok home) :=
  ⟨fun s g g' w hr hg ⟨n,h⟩=>⟨n + 1,Goes.step hr fun w₁ h₁=>by rw [hg w₁];exact ⟨⟨⟨w₁.drawn,rfl⟩,fun e he=>by simp at he⟩,goes_anyK w₁ h⟩⟩⟩
theorem WaySeat.sits {g:Goroutine} {w:World} (h:WaySeat P main K S c z ok home () g w):∃ n,SitsS P main K S c z ok home n g:=by
  obtain ⟨n,h⟩:=h
  exact ⟨n + 1,.inl ⟨n,w,rfl,h⟩⟩
theorem WaySeat.load {f:FuncId} {kd:CallKind} {a:Act} {w:World} {k:List Item} {cs:List Frame} (hkd:kd≠.early) {ops:Array Oper} {i:Nat} {rest:List Nat} {o:Oper} {p:Addr} {x:Value} (ho:ops[i]?=some o) (hw:Region.wanted o (yielded ops a.tmps)=true)
    (hc:∀ w,K w→w.cell? p=some x) (hS:S (.cell p)) (hr:∀ w₁,w₁.cell? p=some x→(execOp a.eval o).run P w₁=.ok (.value x) w₁∧listed P f a o w₁=#[⟨.cell p,false,false⟩])
    (h:WaySeat P main K S c z ok home () (G ((bk f kd).at (a.put o.dst x) (.inRegion ops rest :: k)) cs) w):WaySeat P main K S c z ok home () (G ((bk f kd).at a (.inRegion ops (i :: rest) :: k)) cs) w:=by
  obtain ⟨n,h⟩:=h
  refine ⟨n + 1,Goes.step rfl fun w₁ h₁=>?_⟩
  obtain ⟨h2,h3⟩:=hr w₁ (hc w₁ h₁)
  have:=stepG_value (P:=P) (main:=main) (b:=bk f kd) (a:=a) (k:=k) (cs:=cs) (w:=w₁) (rest:=rest) ho hw hkd h2
  rw [this,goes_go]
  have h3':listed P (bk f kd).fn a o w₁=#[⟨.cell p,false,false⟩]:=h3
  rw [h3']
  exact ⟨⟨⟨w₁.drawn,rfl⟩,fun e he=>by simp only [List.mem_toArray,List.mem_singleton] at he;subst he;exact ⟨p,rfl,hS⟩⟩,goes_anyK w₁ h⟩
theorem WaySeat.here {f:FuncId} {kd:CallKind} {a:Act} {w:World} {k:List Item} {cs:List Frame} (hkd:kd≠.early) {ops:Array Oper} {i:Nat} {rest:List Nat} {o:Oper} (ho:ops[i]?=some o) (hw:Region.wanted o (yielded ops a.tmps)=true)
    (hr:∀ w,(execOp a.eval o).run P w=.ok (.comm #[rcase c z] true (.recv ok)) w) (he:∀ w,(execOp a.eval o).events P w #[]=#[]) (hh:home (G ((bk f kd).at a (.inRegion ops (i :: rest) :: k)) cs)) :
    WaySeat P main K S c z ok home () (G ((bk f kd).at a (.inRegion ops (i :: rest) :: k)) cs) w :=
  ⟨0,fun w₁ h₁=>⟨_,rfl,rfl,rfl,rfl,hh,#[],fun e he=>by simp at he,fun w₂ h₂=>by
    have:=stepG_comm (P:=P) (main:=main) (b:=bk f kd) (a:=a) (k:=k) (cs:=cs) (w:=w₂) (rest:=rest) ho hw hkd (hr w₂)
    unfold listed at this
    rw [he w₂,seen_none] at this
    exact this⟩⟩
end
def WayDone (P:Program) (st:Addr) (d:Nat) (g:Goroutine) (_:World):Prop:=∃ n,Dones P st n d g
def WayOut (P:Program) (d:Nat) (g:Goroutine) (_:World):Prop:=∃ n,QuitsD P n d g
def WayLast (P:Program) (st:Addr) (x:Nat × Nat) (g:Goroutine) (_:World):Prop:=∃ n,Lasts P st n x.1 x.2 g
section
variable {P:Program} {st:Addr}
theorem wayDone_ctl:Ctl P false (WayDone P st):=⟨fun d g g' w hr hg ⟨n,h⟩=>⟨n + 1,hr,.inl ⟨g',#[],fun e he=>by simp at he,fun w _ _=>hg w,h⟩⟩⟩
theorem wayOut_ctl:Ctl P false (WayOut P):=⟨fun d g g' w hr hg ⟨n,h⟩=>⟨n + 1,.inr ⟨hr,g',#[],fun e he=>by simp at he,hg,h⟩⟩⟩
theorem Lasts.deaf {n k d:Nat} {g:Goroutine} (h:Lasts P st n k d g):d≠0:=by
  cases n with
  | zero=>exact h.elim
  | succ n=>exact h.2.1
theorem wayLast_ctl:Ctl P false (WayLast P st):=⟨fun x g g' w hr hg ⟨n,h⟩=>⟨n + 1,hr,h.deaf,.inl ⟨g',#[],fun e he=>by simp at he,hg,h.deaf,h⟩⟩⟩
end
end Go.Proofs.Ytndppafplgilbaa
namespace Go.Proofs.Ytndppafplgilbaa
open Go Go.Conc
open Go.ConcN (sumTo upd sumTo_upd upd_ne upd_same)
theorem seen_cell {P:Program} {fn:FuncId} (hq:(P.funcs[fn]?).any (·.norace)=false) (a:Addr) (wr sy:Bool):seen P fn #[⟨.cell a,wr,sy⟩]=#[⟨.cell a,wr,sy⟩] :=
  seen_eq hq (fun e he f=>by simp only [List.mem_toArray,List.mem_singleton] at he;subst he;simp)
section
variable {P:Program} {main:Bool} {Gh:Type} {L:Gh→Goroutine→World→Prop} (T:Ctl P main L)
variable {f:FuncId} {kd:CallKind} {s:Gh} {a:Act} {w:World} {k:List Item} {cs:List Frame}
include T
theorem l_defer (hkd:kd≠.early) {ops:Array Oper} {i:Nat} {rest:List Nat} {o:Oper} {d:Deferred} (ho:ops[i]?=some o) (hw:Region.wanted o (yielded ops a.tmps)=true) (hr:∀ w,(execOp a.eval o).run P w=.ok (.defer d) w) (he:∀ w,(execOp a.eval o).events P w #[]=#[])
    (h:L s (G ((bk f kd).at (Act.put ⟨a.tmps,d :: a.defers⟩ o.dst undef) (.inRegion ops rest :: k)) cs) w):L s (G ((bk f kd).at a (.inRegion ops (i :: rest) :: k)) cs) w:=by
  have hk':(kd == CallKind.early)=false:=by simpa using hkd
  have hfin:((bk f kd).at ⟨a.tmps,d :: a.defers⟩ (.inRegion ops (i :: rest) :: k)).finish undef=(bk f kd).at (Act.put ⟨a.tmps,d :: a.defers⟩ o.dst undef) (.inRegion ops rest :: k):=by rw [Frame.finish_at,ho];rfl
  refine T.ctl _ _ _ _ rfl (fun w=>?_) h
  rw [stepG_oper ho hw,← hfin]
  simp [stepG.apply,hr,he,G,Frame.at,bk,hk',GStep.after,seen_none]
theorem l_panic (hkd:kd≠.early) {ops:Array Oper} {i:Nat} {rest:List Nat} {o:Oper} {v:Value} (ho:ops[i]?=some o) (hw:Region.wanted o (yielded ops a.tmps)=true) (hr:∀ w,(execOp a.eval o).run P w=.halt (.panic v) w) (he:∀ w,(execOp a.eval o).events P w #[]=#[])
    (h:L s (G { (bk f kd).at a (.inRegion ops (i :: rest) :: k) with mode:=.panicking [{ v,recovered:=false }] } cs) w):L s (G ((bk f kd).at a (.inRegion ops (i :: rest) :: k)) cs) w:=by
  have hk':(kd == CallKind.early)=false:=by simpa using hkd
  refine T.ctl _ _ _ _ rfl (fun w=>?_) h
  rw [stepG_oper ho hw]
  simp [stepG.apply,hr,he,G,Frame.at,bk,base,hk',GStep.after,seen_none,Frame.raise]
theorem l_unwind {todo:List Item} {m:FrameMode} (hm:m=.returning∨∃ ch,m=.panicking ch) {g:FuncId} {fn:Func} {c:Code} {args cap:Array Value} {ds:List Deferred} (hd:a.defers={ target:=.fn (.func g) cap,args:=args } :: ds) (hf:P.funcs[g]?=some fn) (hname:(fn.name == "runtime.NumGoroutine")=false) (hb:fn.body=some c)
    (h:L s (G ((bk g .deferred).at ⟨args ++ cap ++ Array.replicate (fn.ntmps - (args ++ cap).size) undef,[]⟩ [.code c]) ({ (bk f kd).at ⟨a.tmps,ds⟩ todo with mode:=m } :: cs)) w):L s (G { (bk f kd).at a todo with mode:=m } cs) w:=by
  have h1:¬ fn.name = "runtime.NumGoroutine" := by simpa using hname
  have he:=enter_atD (P:=P) (f:=g) (args ++ cap) hf hb
  have hbk:baseD g=bk g .deferred:=rfl
  rw [hbk] at he
  rw [← he] at h
  refine T.ctl _ _ _ _ rfl (fun w=>?_) h
  rcases hm with rfl | ⟨ch,rfl⟩
  · simp [G,stepG,unwind,callDeferred,Frame.at,bk,base,hd,invoke,callFunc,hf,h1,hb,GStep.after,seen_none]
  · simp [G,stepG,unwind,callDeferred,Frame.at,bk,base,hd,invoke,callFunc,hf,h1,hb,GStep.after,seen_none]
theorem l_recover {ops:Array Oper} {i:Nat} {rest:List Nat} {o:Oper} {ats:Array TypeId} (ho:ops[i]?=some o) (hw:Region.wanted o (yielded ops a.tmps)=true) (hop:o.op=.call { callee:=.builtin .recover,args:=#[],argTypes:=ats })
    {c:Frame} {v:Value} {older:List PanicEntry} (hc:c.mode=.panicking ({ v,recovered:=false } :: older))
    (h:L s (G ((bk f .deferred).at (a.put o.dst v) (.inRegion ops rest :: k)) ({ c with mode:=.panicking ({ v,recovered:=true } :: older) } :: cs)) w):L s (G ((bk f .deferred).at a (.inRegion ops (i :: rest) :: k)) (c :: cs)) w:=by
  have hfin:((bk f .deferred).at a (.inRegion ops (i :: rest) :: k)).finish v=(bk f .deferred).at (a.put o.dst v) (.inRegion ops rest :: k):=by rw [Frame.finish_at,ho];rfl
  have hr:∀ w,(execOp a.eval o).run P w=.ok .recover w:=fun w=>by simp [execOp,hop,go_sem,resolve,invoke,builtin]
  have he:∀ w,(execOp a.eval o).events P w #[]=#[]:=fun w=>by simp [execOp,hop,go_sem,resolve,invoke,builtin]
  rw [← hfin] at h
  refine T.ctl _ _ _ _ rfl (fun w=>?_) h
  rw [stepG_oper ho hw]
  simp [stepG.apply,hr,he,G,Frame.at,bk,base,GStep.after,seen_none,tryRecover,hc]
theorem l_recover_nil {ops:Array Oper} {i:Nat} {rest:List Nat} {o:Oper} {ats:Array TypeId} (ho:ops[i]?=some o) (hw:Region.wanted o (yielded ops a.tmps)=true) (hop:o.op=.call { callee:=.builtin .recover,args:=#[],argTypes:=ats })
    {c:Frame} (hc:c.mode=.returning)
    (h:L s (G ((bk f .deferred).at (a.put o.dst .nilIface) (.inRegion ops rest :: k)) (c :: cs)) w):L s (G ((bk f .deferred).at a (.inRegion ops (i :: rest) :: k)) (c :: cs)) w:=by
  have hfin:((bk f .deferred).at a (.inRegion ops (i :: rest) :: k)).finish .nilIface=(bk f .deferred).at (a.put o.dst .nilIface) (.inRegion ops rest :: k):=by rw [Frame.finish_at,ho];rfl
  have hr:∀ w,(execOp a.eval o).run P w=.ok .recover w:=fun w=>by simp [execOp,hop,go_sem,resolve,invoke,builtin]
  have he:∀ w,(execOp a.eval o).events P w #[]=#[]:=fun w=>by simp [execOp,hop,go_sem,resolve,invoke,builtin]
  rw [← hfin] at h
  refine T.ctl _ _ _ _ rfl (fun w=>?_) h
  rw [stepG_oper ho hw]
  simp [stepG.apply,hr,he,G,Frame.at,bk,base,GStep.after,seen_none,tryRecover,hc]
theorem l_leaveD {fn:Func} {todo:List Item} {v:Value} {c:Frame} (hf:P.funcs[f]?=some fn) (hd:a.defers=[]) (hr:ResultsC P fn a.tmps v) (hc:c.mode=.returning∨∃ v,c.mode=.panicking [{ v,recovered:=true }]) (h:L s (G { c with mode:=.returning } cs) w):L s (G { (bk f .deferred).at a todo with mode:=.returning } (c :: cs)) w:=by
  refine T.ctl _ _ _ _ rfl (fun w₁=>?_) h
  rcases hc with hc | ⟨v,hc⟩
  · have hcm:({ c with mode:=.returning }:Frame)=c:=by cases c;simp only at hc;subst hc;rfl
    rw [hcm]
    exact stepG_leave_deferred (b:=bk f .deferred) rfl hd hf (hr w₁).1 (hr w₁).2 hc
  · simp [G,stepG,unwind,doReturn,Frame.at,bk,base,hd,hf,(hr w₁).1,(hr w₁).2,hc,seen,GStep.after]
end
section
variable {P:Program} {main:Bool} {f:FuncId} {kd:CallKind} {a:Act} {k:List Item} {cs:List Frame}
theorem atSend {S:Nat→Loc→Prop} {Shun:Loc→Prop} {Rl:Nat→Role} {h:Nat} (hkd:kd≠.early) {ops:Array Oper} {i:Nat} {rest:List Nat} {o:Oper} {c:Nat} {v z:Value} (ho:ops[i]?=some o) (hw:Region.wanted o (yielded ops a.tmps)=true)
    (hr:∀ w,(execOp a.eval o).run P w=.ok (.comm #[scase c v z] true .send) w) (he:∀ w,(execOp a.eval o).events P w #[]=#[]) :
    AtSend P main S Shun Rl h c v (G ((bk f kd).at a (.inRegion ops (i :: rest) :: k)) cs) (G ((bk f kd).at a (.inRegion ops (i :: rest) :: k)) cs) :=
  ⟨rfl,z,#[],fun e he=>by simp at he,fun w=>by
    have:=stepG_comm (P:=P) (main:=main) (b:=bk f kd) (a:=a) (k:=k) (cs:=cs) (w:=w) (rest:=rest) ho hw hkd (hr w)
    unfold listed at this
    rw [he w,seen_none] at this
    exact this⟩
theorem served_bk {ops:Array Oper} {i:Nat} {rest:List Nat} {o:Oper} (ho:ops[i]?=some o) (v:Value):Go.Conc.served (G ((bk f kd).at a (.inRegion ops (i :: rest) :: k)) cs) v=G ((bk f kd).at (a.put o.dst v) (.inRegion ops rest :: k)) cs:=by
  unfold Go.Conc.served
  have:=bk_finish (f:=f) (kd:=kd) (a:=a) (k:=k) (rest:=rest) ho v
  simp only [G]
  rw [this]
end
end Go.Proofs.Ytndppafplgilbaa
