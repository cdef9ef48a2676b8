/-
  larchlaw04.BatonThins returns true for every input. No condition. (Part 12 of 49; joined by program.)
-/
import Derived.Test.YtndppafplgilbaaL05
import Derived.Tactics
set_option linter.unusedVariables false
set_option linter.unusedSimpArgs false
set_option linter.unusedSectionVars false
set_option maxRecDepth 100000
namespace Go.Proofs.Ytndppafplgilbaa
open Go Go.Conc
def Gives (P:Program) (f:FuncId) (args:Array Value) (w:World) (Post:Value→World→Prop):Prop:=Calls P f args w fun
  | .returned x,w'=>Post x w'
  | _,_=>False
structure Out (P:Program) (x:Frame) (v:World) (val:Value):Prop where
  sim:∀ H w,Masked H 0 v w→∃ w' es,(∀ main c cs,stepG P main (G x (c :: cs)) w=.go (G (c.finish val) cs) w' es)∧Behind H 0 v w v w' es
section
variable {P:Program} {Y:Dyn}
theorem same_heap {v u w:World} {H:Nat→Prop} (h1:u.heap=v.heap) (h2:u.os=v.os) (h3:u.output=v.output) (M:Masked H 0 u w):Masked H 0 v w :=
  ⟨by rw [← h1];exact M.size,h2.symm.trans M.os,h3.symm.trans M.out,by rw [← h1];exact M.free,by rw [← h1];exact M.hid,fun i q hi=>absurd hi (Nat.not_lt_zero _)⟩
theorem returning_stays {f:FuncId} {tmps:Array Value} {todo:List Item} {fn:Func} (hf:P.funcs[f]?=some fn) {u v':World} {k:List Item} {x':Frame} {a':List Frame} {es:Array Event} (h:stepG P true (stk k (fr f tmps todo .returning) [] [deadF 0]) u=.go (stk k x' a' [deadF 0]) v' es):False:=by
  have e0:stk k (fr f tmps todo .returning) [] [deadF 0]=G (fr f tmps (todo ++ k) .returning) [deadF 0]:=rfl
  rw [e0] at h
  have key:∀ x a,(stk k x a [deadF 0]).callers≠[]:=by
    intro x a
    cases a with
    | nil=>simp [stk,G]
    | cons y l=>simp [stk,G]
  have he:(results fn tmps).runT P u #[]=((results fn tmps).run P u,(results fn tmps).events P u #[]):=runT_of _ _
  cases hr:(results fn tmps).run P u with
  | ok val w1 =>
    simp [G,stepG,fr,unwind,hf,hr,doReturn,GStep.after] at h
    have:=congrArg Goroutine.callers h.1
    exact key x' a' this.symm
  | halt x w1=>cases x <;> simp [G,stepG,fr,unwind,hf,hr,doReturn,GStep.after] at h
def DoneC (P:Program) (Post:Value→World→Prop) (x:Frame) (v:World):Prop:=(∃ f tmps todo fn,x=fr f tmps todo .returning∧P.funcs[f]?=some fn)∧∃ val,Out P x v val∧∃ u,u.heap=v.heap∧u.os=v.os∧u.output=v.output∧Post val u
theorem goalC (Post:Value→World→Prop):Goal P (·=[]) (DoneC P Post):=by
  refine ⟨⟨[],rfl⟩,fun x v u np e1 e2 e3 ⟨h1,val,ho,u0,h2,h3,h4,h5⟩=>⟨h1,val,⟨fun H w M=>?_⟩,u0,h2.trans e1.symm,h3.trans e2.symm,h4.trans e3.symm,h5⟩,?_⟩
  · obtain ⟨w',es,g1,B⟩:=ho.sim H w (same_heap e1 e2 e3 M)
    exact ⟨w',es,g1,⟨⟨by rw [e1];exact B.masked.size,e2.trans B.masked.os,e3.trans B.masked.out,by rw [e1];exact B.masked.free,by rw [e1];exact B.masked.hid,fun i q hi=>absurd hi (by omega)⟩,B.treads,by have:=B.drawn;omega,Nat.le_refl _,B.np⟩⟩
  · rintro x v x' a' v' ⟨⟨f,tmps,todo,fn,rfl,hf⟩,_⟩ ⟨u,es,hgo⟩
    exact returning_stays hf (hgo true [] [deadF 0] rfl)
theorem lone_of_calls (C:Closed P Y) {f:FuncId} (hf:Y.F f=true) {fn:Func} {c:Code} (hfn:P.funcs[f]?=some fn) (hb:fn.body=some c) {args:Array Value} (hs:Slots Y f args) {v:World} (np:NoPend v) {Post Post':Value→World→Prop} (hc:Gives P f args v Post) (hpp:∀ x u,Post x u→Post' x u) :
    Ends P (·=[]) (DoneC P Post') (Frame.enter P f args .normal) [] v:=by
  obtain ⟨e,w',y,hR,hst,hyf,hl⟩:=hc [deadF f]
  cases e with
  | returned x =>
    obtain ⟨n,hn⟩:=hst
    have he:Frame.enter P f args .normal=fr f (args ++ Array.replicate (fn.ntmps - args.size) undef) [.code c] .run:=by simp [Frame.enter,hfn,hb,fr]
    rw [he] at hn ⊢
    obtain ⟨hm,hd,hk,fn',hf',hr'⟩:=hl
    refine ends_of_steps C (Ks:=(·=[])) (m:=[]) rfl (.inl ⟨rfl,fun k hk=>hk⟩) (.inl hm) (fun f0 tmps0 todo0 mode0 ok0 np0 hx0=>?_) n f (args ++ Array.replicate (fn.ntmps - args.size) undef) [.code c] .run [] v ⟨fun z hz=>by rw [List.mem_singleton] at hz;subst hz;exact C.body f fn c hf hfn hb,⟨fn,hfn⟩,slots_undef hs _⟩ (.inl rfl) (fun z hz=>by cases hz) np
      (by show runN P n (lone (sfx [] _) [deadF f] v)=_;rw [sfx_nil];exact hn)
    rw [sfx_nil] at hx0
    subst hx0
    have hmode:mode0=.returning:=hm
    subst hmode
    refine ⟨⟨f0,tmps0,todo0,fn',rfl,hf'⟩,x,?_,w',rfl,rfl,rfl,hpp _ _ hR⟩
    rcases res_back (todo:=todo0) ok0.there np0 (tmps:=tmps0) with ⟨val',v',⟨fn1,h1,h2⟩,h3,h4,h5⟩ | h
    · have e:fn1=fn':=Option.some.inj (h1.symm.trans hf')
      subst e
      have e2:=h2.symm.trans hr'
      cases e2
      exact ⟨fun H w M=>h4 H 0 w M (by omega)⟩
    · exfalso
      have hr2:(results fn' tmps0).run P w'=.ok x w':=hr'
      have hf2:P.funcs[f0]?=some fn':=hf'
      have:=h true (deadF f) []
      simp [G,stepG,unwind,fr,hf2,hr2,doReturn,GStep.after,Ended] at this
  | _=>exact hR.elim
def Back (H:Nat→Prop) (w:World) (Post:World→Value→World→Prop) (c:Frame) (cs:List Frame) (g:Goroutine) (w':World):Prop :=
  ∃ val v v',g=G (c.finish val) cs∧Masked H 0 v w∧Post v val v'∧Masked H 0 v' w'
theorem masked_rely {H:Nat→Prop} {v w w₁:World} (M:Masked H 0 v w) (r:RH H w w₁):Masked H 0 v w₁ :=
  masked_of (r.hid M.hidOk) (by rw [M.heap,r.mask M.hidOk]) (M.os.trans r.os.symm) (M.out.trans r.out.symm) fun i q hi=>absurd hi (Nat.not_lt_zero _)
theorem goes_call (C:Closed P Y) {f:FuncId} (hf:Y.F f=true) {fn:Func} {c:Code} (hfn:P.funcs[f]?=some fn) (hb:fn.body=some c) {args:Array Value} (hs:Slots Y f args) {H:Nat→Prop} {w:World} (ok:HidOk H w)
    {R:World→World→Prop} {D:World→World→Array Event→Prop} (hR0:∀ w,R w w) (hR:∀ w w₁,R w w₁→RH H w w₁) (hD:∀ w w' es,Treads H w w' es→D w w' es) {Post:World→Value→World→Prop}
    (hc:∀ v,Masked H 0 v w→Gives P f args v (Post v)) (main:Bool) (x:Frame) (cs:List Frame):GoesI P main R D (Back H w Post x cs) (G (Frame.enter P f args .normal) (x :: cs)) w:=by
  let PC:Value→World→Prop:=fun val u=>∃ v v',Masked H 0 v w∧Post v val v'∧u.heap=v'.heap∧u.os=v'.os∧u.output=v'.output
  have hl:LoneOK P H (·=[]) (DoneC P PC) (Frame.enter P f args .normal) [] w:=fun v M=>lone_of_calls C hf hfn hb hs M.noPend (hc v M) fun x u h=>⟨v,u,M,h,rfl,rfl,rfl⟩
  have h0:=goes_of_lone (main:=main) (k:=[]) (cs:=x :: cs) (goalC PC) rfl hR hD ok hl
  have e0:stk [] (Frame.enter P f args .normal) [] (x :: cs)=G (Frame.enter P f args .normal) (x :: cs):=by rw [stk_nil];rfl
  rw [e0] at h0
  refine GoesI.bind hR0 (fun g w' hC=>?_) h0
  obtain ⟨y,v',rfl,M,_,val,ho,u,e1,e2,e3,v,u',M0,hp,e4,e5,e6⟩:=hC
  refine GoesI.step' stk_running fun w₁ r=>?_
  have M1:=masked_rely M (hR _ _ r)
  obtain ⟨w2,es,hgo,B⟩:=ho.sim H w₁ M1
  refine ⟨_,w2,es,by rw [stk_nil];exact hgo main x cs,hD _ _ _ B.treads,.stop fun w₂ r₂=>⟨val,v,u',rfl,M0,hp,?_⟩⟩
  have M2:=masked_rely B.masked.zero (hR _ _ r₂)
  exact same_heap (e1.symm.trans e4) (e2.symm.trans e5) (e3.symm.trans e6) M2
def DoneP (f:FuncId) (Q:Exit→Act→World→Prop) (x:Frame) (v:World):Prop:=∃ tmps,((x=fr f tmps [] .run∧∃ u,u.heap=v.heap∧u.os=v.os∧u.output=v.output∧Q .normal ⟨tmps,[]⟩ u)∨(∃ todo,x=fr f tmps todo .returning∧∃ u,u.heap=v.heap∧u.os=v.os∧u.output=v.output∧Q .ret ⟨tmps,[]⟩ u))
theorem goalP {f:FuncId} (hf:∃ fn,P.funcs[f]?=some fn) (Q:Exit→Act→World→Prop):Goal P (fun _=>True) (DoneP f Q):=by
  refine ⟨⟨[],trivial⟩,fun x v u np e1 e2 e3 ⟨tmps,h⟩=>⟨tmps,?_⟩,?_⟩
  · rcases h with ⟨h1,u0,h2,h3,h4,h5⟩ | ⟨todo,h1,u0,h2,h3,h4,h5⟩
    · exact .inl ⟨h1,u0,h2.trans e1.symm,h3.trans e2.symm,h4.trans e3.symm,h5⟩
    · exact .inr ⟨todo,h1,u0,h2.trans e1.symm,h3.trans e2.symm,h4.trans e3.symm,h5⟩
  · rintro x v x' a' v' ⟨tmps,h⟩ ⟨u,es,hgo⟩
    rcases h with ⟨rfl,_⟩ | ⟨todo,rfl,_⟩
    · have h:=hgo true mark0 [deadF 0] trivial
      have e0:stk mark0 (fr f tmps [] .run) [] [deadF 0]=G (fr f tmps mark0 .run) [deadF 0]:=rfl
      rw [e0] at h
      have:=mark_stop (P:=P) f tmps true [deadF 0] u
      rw [h] at this
      exact this
    · obtain ⟨fn,hf⟩:=hf
      exact returning_stays hf (hgo true [] [deadF 0] trivial)
theorem lone_of_wp (C:Closed P Y) {f:FuncId} (hf:∃ fn,P.funcs[f]?=some fn) {c:Code} (hc:okCode P Y f c=true) {tmps:Array Value} (hs:Slots Y f tmps) {v:World} (np:NoPend v) {Q Q':Exit→Act→World→Prop} (h:c.wp P Q ⟨tmps,[]⟩ v)
    (hQ:∀ e a' u,Q e a' u→(e=.normal∨e=.ret)∧a'.defers=[]∧Q' e a' u):Ends P (fun _=>True) (DoneP f Q') (fr f tmps [.code c] .run) [] v:=by
  obtain ⟨e,a',w',hq,harr⟩:=h (base f) mark0 [deadF f]
  obtain ⟨he,hd,hq'⟩:=hQ _ _ _ hq
  obtain ⟨ts,ds⟩:=a'
  simp only at hd
  subst hd
  have h0:(base f).at ⟨tmps,[]⟩ (.code c :: mark0)=fr f tmps (.code c :: mark0) .run:=rfl
  rw [h0] at harr
  have okc:OkF P Y f tmps [.code c]:=⟨fun z hz=>by rw [List.mem_singleton] at hz;subst hz;exact hc,hf,hs⟩
  rcases he with rfl | rfl
  · obtain ⟨n,hn⟩:=harr
    refine ends_of_steps C (Ks:=fun _=>True) (m:=mark0) trivial (.inr rfl) (.inr rfl) (fun f0 tmps0 todo0 mode0 ok0 np0 hx0=>?_) n f tmps [.code c] .run [] v okc (.inl rfl) (fun z hz=>by cases hz) np hn
    have hx:fr f0 tmps0 (todo0 ++ mark0) mode0=fr f ts mark0 .run:=hx0
    simp only [fr,Frame.mk.injEq] at hx
    obtain ⟨rfl,rfl,h3,_,rfl,_⟩:=hx
    have:todo0=[]:=by
      have:=congrArg List.length h3
      simp [mark0] at this
      exact this
    subst this
    exact ⟨_,.inl ⟨rfl,w',rfl,rfl,rfl,hq'⟩⟩
  · obtain ⟨todo,n,hn⟩:=harr
    refine ends_of_steps C (Ks:=fun _=>True) (m:=mark0) trivial (.inr rfl) (.inl rfl) (fun f0 tmps0 todo0 mode0 ok0 np0 hx0=>?_) n f tmps [.code c] .run [] v okc (.inl rfl) (fun z hz=>by cases hz) np hn
    have hx:fr f0 tmps0 (todo0 ++ mark0) mode0=fr f ts todo .returning:=hx0
    simp only [fr,Frame.mk.injEq] at hx
    obtain ⟨rfl,rfl,h3,_,rfl,_⟩:=hx
    exact ⟨_,.inr ⟨todo0,rfl,w',rfl,rfl,rfl,hq'⟩⟩
def Past (H:Nat→Prop) (w:World) (Q:World→Exit→Act→World→Prop) (f:FuncId) (k:List Item) (cs:List Frame) (g:Goroutine) (w':World):Prop :=
  ∃ tmps v v',Masked H 0 v w∧Masked H 0 v' w'∧((g=G (fr f tmps k .run) cs∧Q v .normal ⟨tmps,[]⟩ v')∨∃ todo,g=G (fr f tmps todo .returning) cs∧Q v .ret ⟨tmps,[]⟩ v')
theorem goes_piece (C:Closed P Y) {f:FuncId} (hf:∃ fn,P.funcs[f]?=some fn) {c:Code} (hc:okCode P Y f c=true) {tmps:Array Value} (hs:Slots Y f tmps) {H:Nat→Prop} {w:World} (ok:HidOk H w)
    {R:World→World→Prop} {D:World→World→Array Event→Prop} (hR:∀ w w₁,R w w₁→RH H w w₁) (hD:∀ w w' es,Treads H w w' es→D w w' es) {Q:World→Exit→Act→World→Prop}
    (h:∀ v,Masked H 0 v w→c.wp P (fun e a u=>(e=.normal∨e=.ret)∧a.defers=[]∧Q v e a u) ⟨tmps,[]⟩ v) (main:Bool) (k:List Item) (cs:List Frame):GoesI P main R D (Past H w Q f k cs) (G (fr f tmps (.code c :: k) .run) cs) w:=by
  let QC:Exit→Act→World→Prop:=fun e a u=>∃ v v',Masked H 0 v w∧Q v e a v'∧u.heap=v'.heap∧u.os=v'.os∧u.output=v'.output
  have hl:LoneOK P H (fun _=>True) (DoneP f QC) (fr f tmps [.code c] .run) [] w:=fun v M=>lone_of_wp C hf hc hs M.noPend (h v M) fun e a' u hq=>⟨hq.1,hq.2.1,v,u,M,hq.2.2,rfl,rfl,rfl⟩
  have h0:=goes_of_lone (main:=main) (k:=k) (cs:=cs) (goalP hf QC) trivial hR hD ok hl
  refine GoesI.weaken (fun g w' hC=>?_) h0
  obtain ⟨x,v',rfl,M,tmps',h1⟩:=hC
  rcases h1 with ⟨rfl,u,e1,e2,e3,v,u',M0,hq,e4,e5,e6⟩ | ⟨todo,rfl,u,e1,e2,e3,v,u',M0,hq,e4,e5,e6⟩
  · exact ⟨tmps',v,u',M0,same_heap (e1.symm.trans e4) (e2.symm.trans e5) (e3.symm.trans e6) M,.inl ⟨rfl,hq⟩⟩
  · exact ⟨tmps',v,u',M0,same_heap (e1.symm.trans e4) (e2.symm.trans e5) (e3.symm.trans e6) M,.inr ⟨todo ++ k,rfl,hq⟩⟩
end
end Go.Proofs.Ytndppafplgilbaa
