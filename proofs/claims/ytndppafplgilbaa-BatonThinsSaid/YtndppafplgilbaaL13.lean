/-
  larchlaw04.BatonThins returns true for every input. No condition. (Part 13 of 49; joined by program.)
-/
import Derived.Test.YtndppafplgilbaaL11
import Derived.Test.YtndppafplgilbaaL12
import Derived.Conc.CompanyCalls
set_option linter.unusedVariables false
set_option linter.unusedSimpArgs false
set_option linter.unusedSectionVars false
set_option maxRecDepth 100000
namespace Go.Proofs.Ytndppafplgilbaa
open Go Go.Conc
open Go.ConcN (sumTo upd sumTo_upd upd_ne upd_same)
structure Ctl (P:Program) (main:Bool) {Gh:Type} (L:Gh→Goroutine→World→Prop):Prop where
  ctl:∀ s g g' w,g.status=.running→(∀ w,stepG P main g w=.go g' w #[])→L s g' w→L s g w
structure OwnL (P:Program) {Gh:Type} (sit:Gh→Sit) (h:Nat) (L:Gh→Goroutine→World→Prop):Prop where
  step:∀ s g w,(sit s).Ok→g.status=.running→(∀ w₁,RW (sit s).st w w₁→∃ g' w' es,stepG P (h == 0) g w₁=.go g' w' es∧DT (sit s) h w₁ w' es∧(∀ d,deafBehind d es=d)∧L s g' w')→L s g w
  rely:∀ s g w w₁,L s g w→RW (sit s).st w w₁→L s g w₁
  ok:∀ s g w,((sit s).Ok→L s g w)→L s g w
theorem DT.idle {s:Sit} {h:Nat} {w:World}:DT s h w w #[]:=⟨id,fun _ _ _ _=>rfl,fun _=>⟨rfl,rfl⟩,fun e he=>by simp at he,Nat.le_refl _,fun e he=>by simp at he,rfl,rfl⟩
theorem OwnL.toCtl {P:Program} {Gh:Type} {sit:Gh→Sit} {h:Nat} {L:Gh→Goroutine→World→Prop} (O:OwnL P sit h L):Ctl P (h == 0) L :=
  ⟨fun s g g' w hr hg hL=>O.ok s g w fun hok=>O.step s g w hok hr fun w₁ r=>⟨g',w₁,#[],hg w₁,DT.idle,fun _=>rfl,O.rely _ _ _ _ hL r⟩⟩
def bk (f:FuncId) (kd:CallKind):Frame:={ base f with kind:=kd }
section
variable {P:Program} {main:Bool} {Gh:Type} {L:Gh→Goroutine→World→Prop} {Sk:List Frame→Prop}
def AfterL (L:Gh→Goroutine→World→Prop) (f:FuncId) (kd:CallKind) (k:List Item) (cs:List Frame):Exit→Gh→Act→World→Prop
  | .normal,s,a,w=>L s (G ((bk f kd).at a k) cs) w
  | .exit id,s,a,w=>∃ k',exitTo id k=some k'∧L s (G ((bk f kd).at a k') cs) w
  | .ret,s,a,w=>∀ todo,L s (G { (bk f kd).at a todo with mode:=.returning } cs) w
  | .panic ch,s,a,w=>∀ todo,L s (G { (bk f kd).at a todo with mode:=.panicking ch } cs) w
  | _,_,_,_=>False
def wpL (P:Program) (L:Gh→Goroutine→World→Prop) (Sk:List Frame→Prop) (f:FuncId) (kd:CallKind) (c:Code) (Q:Exit→Gh→Act→World→Prop) (s:Gh) (a:Act) (w:World):Prop :=
  ∀ k cs,Sk cs→(∀ e s' a' w',Q e s' a' w'→AfterL L f kd k cs e s' a' w')→L s (G ((bk f kd).at a (.code c :: k)) cs) w
theorem AfterL.push {f:FuncId} {kd:CallKind} {x:Item} {k:List Item} {cs:List Frame} {e:Exit} {s:Gh} {a:Act} {w:World} (hx:x.plain=true) (he:e≠.normal) (h:AfterL L f kd k cs e s a w):AfterL L f kd (x :: k) cs e s a w:=by
  cases e with
  | normal=>exact absurd rfl he
  | exit id=>obtain ⟨k',hk,hg⟩:=h;exact ⟨k',by cases x <;> simp_all [exitTo,Item.plain],hg⟩
  | ret=>exact h
  | panic ch=>exact h
  | goto l=>exact h
  | outgrown=>exact h
variable {f:FuncId} {kd:CallKind} {Q Q':Exit→Gh→Act→World→Prop} {s:Gh} {a:Act} {w:World}
variable (C:Ctl P main L)
include C
omit C in
def CallsL (P:Program) (L:Gh→Goroutine→World→Prop) (Sk:List Frame→Prop) (f:FuncId) (args:Array Value) (s:Gh) (w:World) (Post:Value ⊕ List PanicEntry→Gh→World→Prop):Prop :=
  ∀ c cs,Sk (c :: cs)→c.kind≠.early→c.mode=.run→(∀ v s' w',Post (.inl v) s' w'→L s' (G (c.finish v) cs) w')→(∀ ch s' w',Post (.inr ch) s' w'→L s' (G (c.raise ch) cs) w')→L s (G (Frame.enter P f args .normal) (c :: cs)) w
omit C in
theorem CallsL.mono {f:FuncId} {args:Array Value} {Post Post':Value ⊕ List PanicEntry→Gh→World→Prop} (h:CallsL P L Sk f args s w Post) (hp:∀ x s w,Post x s w→Post' x s w):CallsL P L Sk f args s w Post' :=
  fun c cs hs hk hm h1 h2=>h c cs hs hk hm (fun v s' w' q=>h1 v s' w' (hp _ _ _ q)) fun ch s' w' q=>h2 ch s' w' (hp _ _ _ q)
end
section
variable {P:Program} {Gh:Type} {sit:Gh→Sit} {h:Nat} {L:Gh→Goroutine→World→Prop} {Sk:List Frame→Prop} (O:OwnL P sit h L)
variable {f:FuncId} {kd:CallKind} {Q:Exit→Gh→Act→World→Prop} {s:Gh} {a:Act} {w:World}
include O
omit O in
theorem DT.draw {s:Sit} (ok:s.Ok) {w:World} {d:Nat}:DT s h w (w.at d) #[]:=⟨fun hk=>ok.Kat _ _ hk,fun _ _ _ _=>rfl,fun _=>⟨rfl,rfl⟩,fun e he=>by simp at he,Nat.le_refl _,fun e he=>by simp at he,rfl,rfl⟩
structure Hides (s:Sit) (h:Nat) (H:Nat→Prop):Prop where
  st:s.st.spot=none→H s.st.block
  K:∀ w w',(∀ k,H k→w'.heap[k]?=w.heap[k]?)→s.K w→s.K w'
  S:∀ x a,x≠h→(s.R0 x).sits→s.S x (.cell a)→H a.block
  Sobj:∀ x r,x≠h→(s.R0 x).sits→¬ s.S x (.obj r)
  Shun:∀ a,s.Shun (.cell a)→H a.block
  Shobj:∀ r,¬ s.Shun (.obj r)
omit O in
theorem RW.RH {H:Nat→Prop} {st:Addr} (hst:st.spot=none→H st.block) {w w₁:World} (r:RW st w w₁):RH H w w₁:=by
  rcases r with ⟨d,rfl⟩ | ⟨n,n₁,d,h1,h2,rfl⟩
  · exact Go.Proofs.Ytndppafplgilbaa.RH.at H w d
  · have hs:st.spot=none:=by obtain ⟨_,_,_,_,h3,_⟩:=cell_some h1;exact h3
    have hH:H st.block:=hst hs
    refine ⟨rfl,rfl,rfl,setCell_size _ _ _,fun k hk=>setCell_ne w st _ (fun e=>hk (e ▸ hH)),fun hok k hk=>?_⟩
    by_cases e:k=st.block
    · subst e
      obtain ⟨c,e1,h3,h4⟩:=hok _ hk
      exact ⟨_,e1,setCell_self _ h3 hs,by simpa using h4⟩
    · obtain ⟨c,e1,h3,h4⟩:=hok k hk
      exact ⟨c,e1,(setCell_ne w st _ e).trans h3,h4⟩
omit O in
theorem Hides.DT {H:Nat→Prop} {s:Sit} (hh:Hides s h H) {w w':World} {es:Array Event} (T:Treads H w w' es):DT s h w w' es:=by
  have ev:∀ e∈es,∀ b,(MemAct.ofEvent e).touch?=some b→(∃ a,b.loc=.cell a∧a.block < w'.heap.size∧¬ H a.block)∨∃ r,b.loc=.obj r:=fun e he b hb=>by
    rcases T.evs e he with ⟨a,wr,sy,rfl,h1,h2⟩ | ⟨r,sy,rfl,_,_⟩ | ⟨f,rfl⟩ | rfl
    · simp only [ofEvent_cell0,MemAct.touch?,Option.some.injEq] at hb
      subst hb;exact .inl ⟨a,rfl,h1,h2⟩
    · simp only [MemAct.ofEvent,MemAct.touch?,Option.some.injEq] at hb
      subst hb;exact .inr ⟨r,rfl⟩
    · cases hb
    · cases hb
  refine ⟨fun hk=>hh.K _ _ (fun k hk=>T.kept k hk) hk,fun x c _ ⟨cap,k,hc⟩=>by rw [hc];exact T.objs c _ hc (fun _ _ _ h=>by cases h),?_,fun e he b hb=>?_,T.size,fun e he b x hb hx=>?_,T.os,T.out⟩
  · intro hs
    have hH:=hh.st hs
    have:=T.kept _ hH
    unfold World.cell? World.frozen?
    rw [this];exact ⟨rfl,rfl⟩
  · refine ⟨fun g hg hs hS=>?_,fun hS=>?_⟩
    · rcases ev e he b hb with ⟨a,ha,_,hn⟩ | ⟨r,hr⟩
      · rw [ha] at hS;exact absurd (hh.S g a hg hs hS) hn
      · rw [hr] at hS;exact absurd hS (hh.Sobj g r hg hs)
    · rcases ev e he b hb with ⟨a,ha,_,hn⟩ | ⟨r,hr⟩
      · rw [ha] at hS;exact absurd (hh.Shun a hS) hn
      · rw [hr] at hS;exact absurd hS (hh.Shobj r)
  · rcases ev e he b hb with ⟨a,ha,h1,_⟩ | ⟨r,hr⟩
    · rw [ha] at hx;cases hx;exact h1
    · rw [hr] at hx;cases hx
omit O in
theorem treads_deaf {H:Nat→Prop} {w w':World} {es:Array Event} (T:Treads H w w' es) (d:Nat):deafBehind d es=d:=deafBehind_still (fun e he=>by
  rcases T.evs e he with ⟨a,wr,sy,rfl,h1,h2⟩ | ⟨r,sy,rfl,_,_⟩ | ⟨f,rfl⟩ | rfl <;> simp) d
theorem OwnL.goes {H:Nat→Prop} (hh:Hides (sit s) h H) {g:Goroutine} {Stop:Goroutine→World→Prop} (hS:∀ g' w',Stop g' w'→L s g' w') (G:GoesI P (h == 0) (RW (sit s).st) (Treads H) Stop g w):L s g w:=by
  induction G with
  | stop h=>exact hS _ _ (h _ RW.refl)
  | step hr nx hst _ ih =>
    refine O.ok _ _ _ fun hok=>O.step _ _ _ hok hr fun w₁ r=>?_
    obtain ⟨h1,h2⟩:=hst w₁ r
    exact ⟨_,_,_,h1,hh.DT h2,treads_deaf h2,ih w₁ r⟩
structure Kept (st:Addr) (H:Nat→Prop) (w0 w:World):Prop where
  hid:∃ w1,RW st w0 w1∧∀ k,H k→w.heap[k]?=w1.heap[k]?
  objs:∀ (k:Nat) (o:Obj),w0.heap[k]?=some o→(∀ c e f,o≠Obj.cells c e f)→w.heap[k]?=some o
  size:w0.heap.size≤w.heap.size
omit O in
theorem Kept.refl (st:Addr) (H:Nat→Prop) (w:World):Kept st H w w:=⟨⟨w,RW.refl,fun _ _=>rfl⟩,fun _ _ h _=>h,Nat.le_refl _⟩
omit O in
theorem RW.objs {st:Addr} {w w₁:World} (r:RW st w w₁) {k:Nat} {o:Obj} (h:w.heap[k]?=some o) (hn:∀ c e f,o≠Obj.cells c e f):w₁.heap[k]?=some o:=by
  rcases r with ⟨d,rfl⟩ | ⟨n,n₁,d,h1,h2,rfl⟩
  · exact h
  · obtain ⟨c,e,f,h3,h4,h5⟩:=cell_some h1
    show (w.setCell st _).heap[k]?=some o
    rw [setCell_ne _ _ _ (fun e1=>by subst e1;rw [h3] at h;exact hn _ _ _ (Option.some.inj h).symm)];exact h
omit O in
theorem Kept.rw {st:Addr} {H:Nat→Prop} {w0 w w₁:World} (K:Kept st H w0 w) (r:RW st w w₁):Kept st H w0 w₁:=by
  refine ⟨?_,fun k o h hn=>r.objs (K.objs k o h hn) hn,by rw [r.size];exact K.size⟩
  obtain ⟨w1,r1,hk⟩:=K.hid
  rcases r with ⟨d,rfl⟩ | ⟨n,n₁,d,h1,h2,rfl⟩
  · exact ⟨w1,r1,hk⟩
  · obtain ⟨c,e,f,h3,h4,h5⟩:=cell_some h1
    by_cases hH:H st.block
    · have h6:w1.heap[st.block]?=some (.cells c e f):=(hk _ hH).symm.trans h3
      have h7:w1.cell? st=some (.int .u64 (n * 4294967296:Nat)):=by rw [cell_of h6 h4];exact h5
      refine ⟨_,r1.trans (.inr ⟨n,n₁,d,h7,h2,rfl⟩),fun k hkH=>?_⟩
      show (w.setCell st _).heap[k]?=(w1.setCell st _).heap[k]?
      by_cases e:k=st.block
      · subst e;rw [setCell_self _ h3 h4,setCell_self _ h6 h4]
      · rw [setCell_ne _ _ _ e,setCell_ne _ _ _ e];exact hk k hkH
    · refine ⟨w1,r1,fun k hkH=>?_⟩
      show (w.setCell st _).heap[k]?=_
      rw [setCell_ne _ _ _ (fun e=>hH (e ▸ hkH))];exact hk k hkH
omit O in
theorem Kept.tread {st:Addr} {H:Nat→Prop} {w0 w w':World} {es:Array Event} (K:Kept st H w0 w) (T:Treads H w w' es):Kept st H w0 w' :=
  ⟨let ⟨w1,r1,hk⟩:=K.hid;⟨w1,r1,fun k hkH=>(T.kept k hkH).trans (hk k hkH)⟩,fun k o h hn=>T.objs k o (K.objs k o h hn) hn,Nat.le_trans K.size T.size⟩
omit O in
theorem GoesI.kept {main:Bool} {st:Addr} {H:Nat→Prop} {Stop:Goroutine→World→Prop} {g:Goroutine} (G:GoesI P main (RW st) (Treads H) Stop g w):∀ w0,Kept st H w0 w→GoesI P main (RW st) (Treads H) (fun g' w'=>Stop g' w'∧Kept st H w0 w') g w:=by
  induction G with
  | stop h=>exact fun w0 hw=>.stop fun w₁ r=>⟨h w₁ r,hw.rw r⟩
  | step hr nx hst _ ih=>exact fun w0 hw=>.step hr nx hst fun w₁ r=>ih w₁ r w0 ((hw.rw r).tread (hst w₁ r).2)
structure Alone (st:Addr) (H:Nat→Prop) (w v' w':World):Prop where
  masked:Masked H 0 v' w'
  kept:Kept st H w w'
omit O in
theorem Alone.keep {st:Addr} {H:Nat→Prop} {v w v' w':World} (M:Masked H 0 v w) (A:Alone st H w v' w') {k:Nat} (hH:¬ H k) (hk:v'.heap[k]?=v.heap[k]?):w'.heap[k]?=w.heap[k]?:=by
  cases ho:w.heap[k]? with
  | none =>
    have hv:v.heap[k]?=none:=by rw [Array.getElem?_eq_none_iff] at ho ⊢;rw [M.size];exact ho
    rw [hv] at hk
    rw [Array.getElem?_eq_none_iff] at hk ⊢
    rw [← A.masked.size];exact hk
  | some o =>
    by_cases hc:∃ c e f,o=.cells c e f
    · obtain ⟨c,e,f,rfl⟩:=hc
      have hv:v.heap[k]?=some (.cells c e f):=by
        rcases M.free k hH with ⟨h1,_⟩ | ⟨a,u,h1,_⟩ | ⟨a,u,h1,_⟩
        · rw [h1];exact ho
        · rw [ho] at h1;cases h1
        · rw [ho] at h1;cases h1
      rw [hv] at hk
      exact A.masked.cells hk
    · exact A.kept.objs k o ho fun c e f h=>hc ⟨c,e,f,h⟩
theorem wpL_piece {Y:Dyn} (C:Closed P Y) {H:Nat→Prop} (hh:Hides (sit s) h H) (hf:∃ fn,P.funcs[f]?=some fn) {c:Code} (hc:okCode P Y f c=true) {tmps:Array Value} (hsl:Slots Y f tmps) (ok:HidOk H w) {R:World→Exit→Act→World→Prop}
    (hp:∀ v,Masked H 0 v w→c.wp P (fun e a u=>(e=.normal∨e=.ret)∧a.defers=[]∧R v e a u) ⟨tmps,[]⟩ v)
    (hq:∀ v e tmps' v' w',Masked H 0 v w→R v e ⟨tmps',[]⟩ v'→(e=.normal∨e=.ret)→Alone (sit s).st H w v' w'→Q e s ⟨tmps',[]⟩ w'):wpL P L Sk f .normal c Q s ⟨tmps,[]⟩ w:=by
  intro k cs hsk hQ
  have G0:=goes_piece (R:=RW (sit s).st) (D:=Treads H) C hf hc hsl ok (fun _ _ r=>RW.RH hh.st r) (fun _ _ _ t=>t) hp (h == 0) k cs
  refine O.goes hh (fun g' w' hs=>?_) (GoesI.kept G0 w (Kept.refl _ _ _))
  obtain ⟨⟨ts,v,v',M,M',hx⟩,hk⟩:=hs
  rcases hx with ⟨rfl,hr⟩ | ⟨todo,rfl,hr⟩
  · exact hQ _ _ _ _ (hq v .normal ts v' w' M hr (.inl rfl) ⟨M',hk⟩)
  · exact hQ _ _ _ _ (hq v .ret ts v' w' M hr (.inr rfl) ⟨M',hk⟩) todo
theorem callsL_alone {Y:Dyn} (C:Closed P Y) {H:Nat→Prop} (hh:Hides (sit s) h H) {g:FuncId} (hg:Y.F g=true) {fn:Func} {c:Code} (hfn:P.funcs[g]?=some fn) (hb:fn.body=some c) {args:Array Value} (hsl:Slots Y g args) (ok:HidOk H w) {R:World→Value→World→Prop}
    (hp:∀ v,Masked H 0 v w→Gives P g args v (R v)) {Post:Value ⊕ List PanicEntry→Gh→World→Prop} (hq:∀ v x v' w',Masked H 0 v w→R v x v'→Alone (sit s).st H w v' w'→Post (.inl x) s w'):CallsL P L Sk g args s w Post:=by
  intro d cs _ _ _ h1 _
  have G0:=Go.Proofs.Ytndppafplgilbaa.goes_call (R:=RW (sit s).st) (D:=Treads H) C hg hfn hb hsl ok (fun _=>RW.refl) (fun _ _ r=>RW.RH hh.st r) (fun _ _ _ t=>t) hp (h == 0) d cs
  refine O.goes hh (fun g' w' hs=>?_) (GoesI.kept G0 w (Kept.refl _ _ _))
  obtain ⟨⟨x,v,v',rfl,M,hr,M'⟩,hk⟩:=hs
  exact h1 _ _ _ (hq v x v' w' M hr ⟨M',hk⟩)
end
end Go.Proofs.Ytndppafplgilbaa
