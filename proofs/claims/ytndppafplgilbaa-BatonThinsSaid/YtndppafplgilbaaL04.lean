/-
  larchlaw04.BatonThins returns true for every input. No condition. (Part 4 of 49; joined by program.)
-/
import Derived.Test.YtndppafplgilbaaL03
set_option linter.unusedVariables false
set_option linter.unusedSimpArgs false
set_option linter.unusedSectionVars false
set_option maxRecDepth 100000
namespace Go.Proofs.Ytndppafplgilbaa
open Go Go.Conc
section
variable {P:Program}
theorem sim_followBlind:∀ (l:List FieldStep) (t:TypeId) (x:Option Value),Sim P (Go.followBlind l t x)
  | [],t,x=>Sim2.pure' _
  | s :: l,t,x=>by
    have ih:=sim_followBlind l
    unfold Go.followBlind
    repeat' (first | with_reducible exact ih _ _ | (first | with_reducible exact Sim2.pure _ | with_reducible exact Sim2.pure' _ | with_reducible (first | exact sim_unsupported _ rfl | exact sim_noView _ | exact sim_numberAt _ | exact SimI.out) | with_reducible refine Sim2.array _ _ (fun _ _=>?_) _ | with_reducible refine Sim2.range _ _ (fun _ _=>?_) _ | ((with_reducible refine Sim2.shape' _ (fun _=>?_) ?_);rotate_left;(exact (fun _=>⟨_,rfl,rfl⟩))) | ((with_reducible refine Sim2.viewAt _ ?_ (fun _=>?_));rotate_left;(exact (fun _=>⟨_,rfl,rfl⟩))) | (with_reducible refine Sim2.getObj _ (fun _=>?_) (fun _ _=>?_) (fun _ _ _=>?_) ?_) <;> (first | (exact (fun _=>⟨_,rfl,rfl⟩)) | exact Sim2.dead (fun _=>⟨_,rfl,rfl⟩) | skip) | with_reducible refine Sim2.bind' ?_ (fun _=>?_) | with_reducible refine Sim2.ite ?_ ?_ | split | dsimp only))
theorem sim_nilAhead:∀ (n:Nat) (t:TypeId) (v:Value) (s:String),Sim P (Go.nilAhead n t v s)
  | 0,t,v,s=>Sim2.pure' _
  | n + 1,t,v,s=>by
    have ih:=sim_nilAhead n
    have h2:=sim_followBlind (P:=P)
    unfold Go.nilAhead
    repeat' (first | with_reducible exact ih _ _ _ | with_reducible exact h2 _ _ _ | (first | with_reducible exact Sim2.pure _ | with_reducible exact Sim2.pure' _ | with_reducible (first | exact sim_unsupported _ rfl | exact sim_noView _ | exact sim_numberAt _ | exact SimI.out) | with_reducible refine Sim2.array _ _ (fun _ _=>?_) _ | with_reducible refine Sim2.range _ _ (fun _ _=>?_) _ | ((with_reducible refine Sim2.shape' _ (fun _=>?_) ?_);rotate_left;(exact (fun _=>⟨_,rfl,rfl⟩))) | ((with_reducible refine Sim2.viewAt _ ?_ (fun _=>?_));rotate_left;(exact (fun _=>⟨_,rfl,rfl⟩))) | (with_reducible refine Sim2.getObj _ (fun _=>?_) (fun _ _=>?_) (fun _ _ _=>?_) ?_) <;> (first | (exact (fun _=>⟨_,rfl,rfl⟩)) | exact Sim2.dead (fun _=>⟨_,rfl,rfl⟩) | skip) | with_reducible refine Sim2.bind' ?_ (fun _=>?_) | with_reducible refine Sim2.ite ?_ ?_ | split | dsimp only))
theorem sim_atomRead (t:Extern.Atomic.T) (a:Addr):Sim P (Extern.Atomic.read t a):=by unfold Extern.Atomic.read;(repeat' (first | with_reducible exact Sim2.pure _ | with_reducible exact Sim2.pure' _ | with_reducible (first | exact sim_unsupported _ rfl | exact sim_noView _ | exact sim_numberAt _ | exact SimI.out) | with_reducible refine Sim2.array _ _ (fun _ _=>?_) _ | with_reducible refine Sim2.range _ _ (fun _ _=>?_) _ | ((with_reducible refine Sim2.shape' _ (fun _=>?_) ?_);rotate_left;(exact (fun _=>⟨_,rfl,rfl⟩))) | ((with_reducible refine Sim2.viewAt _ ?_ (fun _=>?_));rotate_left;(exact (fun _=>⟨_,rfl,rfl⟩))) | (with_reducible refine Sim2.getObj _ (fun _=>?_) (fun _ _=>?_) (fun _ _ _=>?_) ?_) <;> (first | (exact (fun _=>⟨_,rfl,rfl⟩)) | exact Sim2.dead (fun _=>⟨_,rfl,rfl⟩) | skip) | with_reducible refine Sim2.bind' ?_ (fun _=>?_) | with_reducible refine Sim2.ite ?_ ?_ | split | dsimp only))
instance (t:Extern.Atomic.T) (a:Addr):SimI P (Extern.Atomic.read t a):=⟨sim_atomRead t a⟩
theorem sim_atomLoad (t:Extern.Atomic.T) (x:Array Value):Sim P (Extern.Atomic.loadT t x):=by
  unfold Extern.Atomic.loadT
  rcases x with ⟨_ | ⟨a,_ | ⟨b,l⟩⟩⟩ <;> first | exact sim_stuck _ | skip
  refine Sim2.bind' (sim_asAddr _) fun a=>?_
  (repeat' (first | with_reducible exact Sim2.pure _ | with_reducible exact Sim2.pure' _ | with_reducible (first | exact sim_unsupported _ rfl | exact sim_noView _ | exact sim_numberAt _ | exact SimI.out) | with_reducible refine Sim2.array _ _ (fun _ _=>?_) _ | with_reducible refine Sim2.range _ _ (fun _ _=>?_) _ | ((with_reducible refine Sim2.shape' _ (fun _=>?_) ?_);rotate_left;(exact (fun _=>⟨_,rfl,rfl⟩))) | ((with_reducible refine Sim2.viewAt _ ?_ (fun _=>?_));rotate_left;(exact (fun _=>⟨_,rfl,rfl⟩))) | (with_reducible refine Sim2.getObj _ (fun _=>?_) (fun _ _=>?_) (fun _ _ _=>?_) ?_) <;> (first | (exact (fun _=>⟨_,rfl,rfl⟩)) | exact Sim2.dead (fun _=>⟨_,rfl,rfl⟩) | skip) | with_reducible refine Sim2.bind' ?_ (fun _=>?_) | with_reducible refine Sim2.ite ?_ ?_ | split | dsimp only))
theorem sim_atomStore (x:Array Value):Sim P (Extern.Atomic.storeT x):=by
  unfold Extern.Atomic.storeT
  rcases x with ⟨_ | ⟨a,_ | ⟨b,_ | ⟨c,l⟩⟩⟩⟩ <;> first | exact sim_stuck _ | skip
  refine Sim2.bind' (sim_asAddr _) fun a=>?_
  (repeat' (first | with_reducible exact Sim2.pure _ | with_reducible exact Sim2.pure' _ | with_reducible (first | exact sim_unsupported _ rfl | exact sim_noView _ | exact sim_numberAt _ | exact SimI.out) | with_reducible refine Sim2.array _ _ (fun _ _=>?_) _ | with_reducible refine Sim2.range _ _ (fun _ _=>?_) _ | ((with_reducible refine Sim2.shape' _ (fun _=>?_) ?_);rotate_left;(exact (fun _=>⟨_,rfl,rfl⟩))) | ((with_reducible refine Sim2.viewAt _ ?_ (fun _=>?_));rotate_left;(exact (fun _=>⟨_,rfl,rfl⟩))) | (with_reducible refine Sim2.getObj _ (fun _=>?_) (fun _ _=>?_) (fun _ _ _=>?_) ?_) <;> (first | (exact (fun _=>⟨_,rfl,rfl⟩)) | exact Sim2.dead (fun _=>⟨_,rfl,rfl⟩) | skip) | with_reducible refine Sim2.bind' ?_ (fun _=>?_) | with_reducible refine Sim2.ite ?_ ?_ | split | dsimp only))
theorem sim_atomSwap (t:Extern.Atomic.T) (x:Array Value):Sim P (Extern.Atomic.swapT t x):=by
  unfold Extern.Atomic.swapT
  rcases x with ⟨_ | ⟨a,_ | ⟨b,_ | ⟨c,l⟩⟩⟩⟩ <;> first | exact sim_stuck _ | skip
  refine Sim2.bind' (sim_asAddr _) fun a=>?_
  (repeat' (first | with_reducible exact Sim2.pure _ | with_reducible exact Sim2.pure' _ | with_reducible (first | exact sim_unsupported _ rfl | exact sim_noView _ | exact sim_numberAt _ | exact SimI.out) | with_reducible refine Sim2.array _ _ (fun _ _=>?_) _ | with_reducible refine Sim2.range _ _ (fun _ _=>?_) _ | ((with_reducible refine Sim2.shape' _ (fun _=>?_) ?_);rotate_left;(exact (fun _=>⟨_,rfl,rfl⟩))) | ((with_reducible refine Sim2.viewAt _ ?_ (fun _=>?_));rotate_left;(exact (fun _=>⟨_,rfl,rfl⟩))) | (with_reducible refine Sim2.getObj _ (fun _=>?_) (fun _ _=>?_) (fun _ _ _=>?_) ?_) <;> (first | (exact (fun _=>⟨_,rfl,rfl⟩)) | exact Sim2.dead (fun _=>⟨_,rfl,rfl⟩) | skip) | with_reducible refine Sim2.bind' ?_ (fun _=>?_) | with_reducible refine Sim2.ite ?_ ?_ | split | dsimp only))
theorem sim_atomUpdate (op:IntKind→Int→Int→Sem Value) (h:∀ k x y,Sim P (op k x y)) (k:IntKind) (b:Bool) (x:Array Value):Sim P (Extern.Atomic.update op k b x):=by
  unfold Extern.Atomic.update
  rcases x with ⟨_ | ⟨a,_ | ⟨b,_ | ⟨c,l⟩⟩⟩⟩ <;> first | exact sim_stuck _ | skip
  refine Sim2.bind' (sim_asAddr _) fun a=>?_
  repeat' (first | with_reducible exact h _ _ _ | (first | with_reducible exact Sim2.pure _ | with_reducible exact Sim2.pure' _ | with_reducible (first | exact sim_unsupported _ rfl | exact sim_noView _ | exact sim_numberAt _ | exact SimI.out) | with_reducible refine Sim2.array _ _ (fun _ _=>?_) _ | with_reducible refine Sim2.range _ _ (fun _ _=>?_) _ | ((with_reducible refine Sim2.shape' _ (fun _=>?_) ?_);rotate_left;(exact (fun _=>⟨_,rfl,rfl⟩))) | ((with_reducible refine Sim2.viewAt _ ?_ (fun _=>?_));rotate_left;(exact (fun _=>⟨_,rfl,rfl⟩))) | (with_reducible refine Sim2.getObj _ (fun _=>?_) (fun _ _=>?_) (fun _ _ _=>?_) ?_) <;> (first | (exact (fun _=>⟨_,rfl,rfl⟩)) | exact Sim2.dead (fun _=>⟨_,rfl,rfl⟩) | skip) | with_reducible refine Sim2.bind' ?_ (fun _=>?_) | with_reducible refine Sim2.ite ?_ ?_ | split | dsimp only))
def Falls (P:Program) {α:Type} (s:Sem α) (v:World):Prop:=∃ h,s.run P v=.halt h v∧mildH h=true
theorem Falls.bind {α β:Type} {s:Sem α} {f:α→Sem β} {v:World} (h:Falls P s v∨∃ a,s.run P v=.ok a v∧Falls P (f a) v):Falls P (s >>= f) v:=by
  show ∃ h,(s.bind f).run P v=.halt h v∧mildH h=true
  rw [Sem.run_bind']
  rcases h with ⟨h,h1,h2⟩ | ⟨a,h1,h,h2,h3⟩
  · rw [h1];exact ⟨h,rfl,h2⟩
  · rw [h1];exact ⟨h,h2,h3⟩
theorem Sim2.peepN {α:Type} (r:Nat) {k:Obj→Sem α} {z:Sem α} (hz:Sim P z) (hk:∀ o,(∀ a u,o≠.view a u)→k o=z) (hv:∀ v a u,NoPend v→v.heap[r]?=some (.view a u)→Falls P (k (.view a u)) v) :
    Sim P (Sem.shape r (fun s=>if s.isSome then z else .getObj r k)):=⟨fun H L v w es M c v' e hL=>by
  unfold Sem.run at e
  unfold Sem.runT
  by_cases hk':H r
  · obtain ⟨cc,e',h1,h0,h2⟩:=M.hid _ hk'
    rw [shape_cells h1]
    have:v.shape? r=none:=by unfold World.shape?;rw [h2]
    rw [this] at e
    simp only [Option.isSome_none,Bool.false_eq_true,↓reduceIte,Option.isSome_some] at e ⊢
    unfold Sem.run at e
    rw [h2] at e
    simp only [hk (.coro none) (fun _ _ h=>by cases h)] at e
    exact hz.sim H L v w es M c v' e hL
  · rcases M.free _ hk' with ⟨h1,h5,_⟩ | ⟨b,u,h1,h2⟩ | ⟨b,u,h1,h2⟩
    · have hs:v.shape? r=w.shape? r:=by unfold World.shape?;rw [h1]
      rw [hs] at e
      dsimp only at e ⊢
      split at e
      · rename_i h;rw [if_pos h];exact hz.sim H L v w es M c v' e hL
      · rename_i h;rw [if_neg h]
        unfold Sem.run at e
        unfold Sem.runT
        rw [h1] at e
        cases ho:w.heap[r]? with
        | none=>rw [ho] at e;simp [fin] at e
        | some o =>
          have hev:∀ y,EvM H w.heap.size ⟨.obj r,false,y⟩:=fun y=>.inr (.inl ⟨r,y,rfl,(Array.getElem?_eq_some_iff.1 ho).1,hk'⟩)
          have hnv:∀ a u,o≠.view a u:=fun a u e2=>h5 a u (by rw [ho,e2])
          rw [ho] at e
          cases o <;> first | (simp [fin] at e;done) | (simp only [hk _ hnv] at e ⊢;exact pushed (hev _) (hz.sim H L v w _ M c v' e hL))
    · exfalso
      have hs:v.shape? r=none:=by unfold World.shape?;rw [h2]
      rw [hs] at e
      simp only [Option.isSome_none,Bool.false_eq_true,↓reduceIte] at e
      unfold Sem.run at e
      rw [h2] at e
      obtain ⟨h,h3,h4⟩:=hv v _ _ M.noPend h2
      dsimp only at e
      rw [h3,fin_mild h4] at e
      cases e
    · have hs:v.shape? r=none:=by unfold World.shape?;rw [h2]
      have hs':w.shape? r=none:=by unfold World.shape?;rw [h1]
      rw [hs] at e
      rw [hs']
      simp only [Option.isSome_none,Bool.false_eq_true,↓reduceIte] at e ⊢
      unfold Sem.run at e
      unfold Sem.runT
      rw [h2] at e
      rw [h1]
      simp only [hk (.coro none) (fun _ _ h=>by cases h)] at e
      simp only [hk (.pending b u) (fun _ _ h=>by cases h)]
      exact pushed (.inr (.inl ⟨r,_,rfl,(Array.getElem?_eq_some_iff.1 h1).1,hk'⟩)) (hz.sim H L v w _ M c v' e hL),fun v hv'=>by
  unfold Sem.run
  dsimp only
  split
  · exact hz.mild v hv'
  · unfold Sem.run
    split
    · exact ⟨rfl,hv'⟩
    · rename_i o ho1 ho2
      by_cases h:∃ a u,o=Obj.view a u
      · obtain ⟨a,u,rfl⟩:=h
        obtain ⟨h,h3,h4⟩:=hv v _ _ hv' ‹_›
        rw [h3];exact ⟨mild_halt h4,hv'⟩
      · rw [hk o fun a u e=>h ⟨a,u,e⟩];exact hz.mild v hv'
    · exact ⟨rfl,hv'⟩⟩
theorem falls_load {α:Type} {v:World} (np:NoPend v) {a b:Addr} {u:TypeId} (hv:v.heap[a.block]?=some (.view b u)) (m:Mode) (k:Value→Sem α):Falls P (Sem.load m a k) v:=by
  have hc:v.cell? a=none:=by unfold World.cell?;rw [hv]
  obtain rfl:=(np a.block).2 b u hv
  unfold Falls
  unfold Sem.run
  rw [hc]
  have hno:∀ z,v.farLoad P a (m == .atomic)=.ok z→False:=fun z h=>by
    unfold World.farLoad at h
    rw [hv] at h
    dsimp only at h
    cases hr:v.viewLoad P ⟨a.block,0,none⟩ u a (m == .atomic) with
    | error x=>rw [hr] at h;cases h
    | ok r =>
      unfold World.viewLoad at hr
      cases hs:v.seen P ⟨a.block,0,none⟩ u a (m == .atomic) with
      | error x=>rw [hs] at hr;cases hr
      | ok r=>exact seen_view hv hs
  dsimp only
  split
  · rename_i h;exact (hno _ h).elim
  · rename_i x h
    refine ⟨x,rfl,?_⟩
    unfold World.farLoad at h
    rw [hv] at h
    dsimp only at h
    split at h <;> cases h
    rfl
theorem anyM_ok {v:World} (f:Nat→Addr):∀ l:List Nat,∃ b,(l.anyM fun i=>Go.frozen (f i)).run P v=.ok b v
  | []=>⟨false,rfl⟩
  | x :: l=>by
    obtain ⟨b,hb⟩:=anyM_ok f l
    cases hf:v.frozen? (f x) with
    | true =>
      refine ⟨true,?_⟩
      simp only [List.anyM,bind,Sem.bind,Go.frozen,Sem.run,hf,pure]
    | false =>
      refine ⟨b,?_⟩
      simp only [List.anyM,bind,Sem.bind,Go.frozen,Sem.run,hf]
      exact hb
def seenF (at_:Addr) (u:TypeId):Sem Bool:=do
  let n:=(← typeInfo u).bytes
  if n > 4096 then unsupported (.unsafePointer "memory seen as another type")
  (List.range n).anyM fun i=>frozen { at_ with off:=at_.off + i,spot:=none }
theorem sim_touches {α:Type} (a:Addr) {rest:Bool→Sem α} (hr:∀ b,Sim P (rest b)) (h1:∀ v,Falls P (rest true) v) (h2:∀ v b u,NoPend v→v.heap[a.block]?=some (.view b u)→Falls P (rest false) v):Sim P (Extern.Atomic.touchesFrozen a >>= rest):=by
  have e:(Extern.Atomic.touchesFrozen a >>= rest)=.shape a.block (fun s=>if s.isSome then (Go.frozen a >>= rest) else .getObj a.block (fun o=>match o with
    | .view at_ u=>seenF at_ u >>= rest
    | _=>Go.frozen a >>= rest)):=by
    unfold Extern.Atomic.touchesFrozen
    rw [viewAt_eq]
    show Sem.bind (Sem.bind _ _) rest=_
    simp only [Sem.bind]
    congr 1
    funext s
    split
    · rfl
    · simp only [Sem.bind]
      congr 1
      funext o
      cases o <;> rfl
  rw [e]
  refine Sim2.peepN a.block (Sim2.bind' (sim_frozen a) hr) (fun o ho=>?_) (fun v at_ u np hv=>?_)
  · cases o <;> first | rfl | exact absurd rfl (ho _ _)
  · have last:∀ b,Falls P (rest b) v:=fun b=>by
      cases b
      · exact h2 v _ _ np hv
      · exact h1 v
    refine Falls.bind ?_
    have key:Falls P (seenF at_ u) v∨∃ b,(seenF at_ u).run P v=.ok b v:=by
      unfold seenF
      cases hi:P.info? u with
      | none =>
        refine .inl (Falls.bind (.inl ?_))
        unfold Falls typeInfo
        simp only [bind,Sem.bind,Go.program,Sem.run,hi]
        exact ⟨_,rfl,rfl⟩
      | some i =>
        have ht:(typeInfo u).run P v=.ok i v:=by
          unfold typeInfo
          simp only [bind,Sem.bind,Go.program,Sem.run,hi,pure]
        by_cases hn:i.bytes > 4096
        · refine .inl (Falls.bind (.inr ⟨i,ht,?_⟩))
          dsimp only
          rw [if_pos hn]
          exact Falls.bind (.inl ⟨_,rfl,rfl⟩)
        · obtain ⟨b,hb⟩:=anyM_ok (P:=P) (v:=v) (fun i=>{ at_ with off:=at_.off + i,spot:=none }) (List.range i.bytes)
          refine .inr ⟨b,?_⟩
          show (Sem.bind (typeInfo u) _).run P v=_
          rw [Sem.run_bind',ht]
          show Sem.run P (if i.bytes > 4096 then _ else _) v=_
          rw [if_neg hn]
          exact hb
    exact key.imp id fun ⟨b,hb⟩=>⟨b,hb,last b⟩
set_option maxHeartbeats 1000000 in
theorem sim_atomCas (t:Extern.Atomic.T) (x:Array Value):Sim P (Extern.Atomic.casT t x):=by
  unfold Extern.Atomic.casT
  rcases x with ⟨_ | ⟨a,_ | ⟨b,_ | ⟨c,_ | ⟨d,l⟩⟩⟩⟩⟩ <;> first | exact sim_stuck _ | skip
  refine Sim2.bind' (sim_asAddr _) fun a=>?_
  refine sim_touches a (fun b=>?_) (fun v=>?_) (fun v b u np hv=>?_)
  · (repeat' (first | with_reducible exact Sim2.pure _ | with_reducible exact Sim2.pure' _ | with_reducible (first | exact sim_unsupported _ rfl | exact sim_noView _ | exact sim_numberAt _ | exact SimI.out) | with_reducible refine Sim2.array _ _ (fun _ _=>?_) _ | with_reducible refine Sim2.range _ _ (fun _ _=>?_) _ | ((with_reducible refine Sim2.shape' _ (fun _=>?_) ?_);rotate_left;(exact (fun _=>⟨_,rfl,rfl⟩))) | ((with_reducible refine Sim2.viewAt _ ?_ (fun _=>?_));rotate_left;(exact (fun _=>⟨_,rfl,rfl⟩))) | (with_reducible refine Sim2.getObj _ (fun _=>?_) (fun _ _=>?_) (fun _ _ _=>?_) ?_) <;> (first | (exact (fun _=>⟨_,rfl,rfl⟩)) | exact Sim2.dead (fun _=>⟨_,rfl,rfl⟩) | skip) | with_reducible refine Sim2.bind' ?_ (fun _=>?_) | with_reducible refine Sim2.ite ?_ ?_ | split | dsimp only))
  · exact Falls.bind (.inl ⟨_,rfl,rfl⟩)
  · refine Falls.bind (.inl ?_)
    unfold Extern.Atomic.read
    exact Falls.bind (.inl (falls_load np hv _ _))
structure Ext (P:Program) (fn:Func):Prop where
  name:(fn.name == "runtime.NumGoroutine")=false
  bare:fn.body.isNone=true
  next:Extern.findNext fn=none
  find:∃ e,Extern.find fn=some e∧∀ args,Sim P (e args)
def Nice (P:Program) (F:FuncId→Bool):Next→Prop
  | .value _=>True
  | .skip=>True
  | .enter f _=>F f=true∧∃ fn c,P.funcs[f]?=some fn∧fn.body=some c
  | _=>False
structure Fits (P:Program) (F:FuncId→Bool) (s:Sem Next):Prop where
  sim:Sim P s
  nice:∀ v x v',s.run P v=.ok x v'→Nice P F x
variable {F:FuncId→Bool}
theorem fits_v {s:Sem Value} (h:Sim P s):Fits P F (do pure (.value (← s))):=⟨Sim2.bind' h fun _=>Sim2.pure' _,fun v x v' e=>by
  have e:((s.bind fun a=>pure (.value a)).run P v)=.ok x v':=e
  rw [Sem.run_bind'] at e
  cases hr:s.run P v with
  | ok a w=>rw [hr] at e;cases e;trivial
  | halt a w=>rw [hr] at e;cases e⟩
theorem fits_u {s:Sem Unit} (h:Sim P s):Fits P F (do s;pure .skip):=⟨Sim2.bind' h fun _=>Sim2.pure' _,fun v x v' e=>by
  have e:((s.bind fun a=>pure .skip).run P v)=.ok x v':=e
  rw [Sem.run_bind'] at e
  cases hr:s.run P v with
  | ok a w=>rw [hr] at e;cases e;trivial
  | halt a w=>rw [hr] at e;cases e⟩
theorem fits_dead {s:Sem Next} (h:Dead P s):Fits P F s:=⟨Sim2.dead h,fun v x v' e=>by obtain ⟨y,h1,_⟩:=h v;rw [h1] at e;cases e⟩
theorem fits_pure (x:Value):Fits P F (pure (.value x)):=⟨Sim2.pure' _,fun v y v' e=>by cases e;trivial⟩
theorem fits_panic (x:RuntimeError):Fits P F (runtimePanic x):=⟨sim_runtimePanic x,fun v y v' e=>by
  exfalso
  revert e
  unfold runtimePanic
  cases x <;> simp only [bind,Sem.bind,Go.program,Sem.run,Go.goPanic,Go.newVar,Go.newRow,Go.newObj,Go.elemOf,Go.underlying,pure,Go.stuck]
  all_goals first | (intro e;cases e;done) | skip
  all_goals (split <;> simp only [Sem.bind,Sem.run] <;> (try split) <;> (intro e;cases e))⟩
theorem fits_bind {α:Type} {s:Sem α} {k:α→Sem Next} (h:Sim P s) (hk:∀ a,Fits P F (k a)):Fits P F (s >>= k):=⟨Sim2.bind' h fun a=>(hk a).sim,fun v x v' e=>by
  have e:((s.bind k).run P v)=.ok x v':=e
  rw [Sem.run_bind'] at e
  cases hr:s.run P v with
  | ok a w=>rw [hr] at e;exact (hk a).nice w x v' e
  | halt a w=>rw [hr] at e;cases e⟩
theorem Sim2.congr {α:Type} {s t:Sem α} (h1:∀ u,s.run P u=t.run P u) (h2:∀ u es,s.runT P u es=t.runT P u es) (h:Sim P t):Sim P s :=
  ⟨fun H L v w es M c v' e' hL=>by rw [h1] at e';rw [h2];exact h.sim H L v w es M c v' e' hL,fun v hv=>by rw [h1];exact h.mild v hv⟩
def FnOk (P:Program) (f:FuncId):Prop:=∃ fn,P.funcs[f]?=some fn∧(Ext P fn∨((fn.name == "runtime.NumGoroutine")=false∧fn.body.isNone=false))
theorem fits_callFunc {f:FuncId} (hf:F f=true) (h:FnOk P f) (args:Array Value):Fits P F (callFunc f args):=by
  obtain ⟨fn,h1,h⟩:=h
  have e:∀ {γ:Type} (k:Sem Next→γ→Prop) (z:γ),True:=fun _ _=>trivial
  rcases h with ⟨hn,hb,hx,g,hg,hs⟩ | ⟨hn,hb⟩
  · have e:∀ v,(callFunc f args).run P v=((do mark (.extern f);pure (.value (← g args)):Sem Next)).run P v:=fun v=>by
      unfold callFunc
      simp only [bind,Sem.bind,Go.program,Sem.run,h1,hn,hb,hx,hg,Go.mark,Bool.false_eq_true,if_false,if_true,pure]
    have eT:∀ v es,(callFunc f args).runT P v es=((do mark (.extern f);pure (.value (← g args)):Sem Next)).runT P v es:=fun v es=>by
      unfold callFunc
      simp only [bind,Sem.bind,Go.program,Sem.runT,h1,hn,hb,hx,hg,Go.mark,Bool.false_eq_true,if_false,if_true,pure]
    have key:Fits P F (do mark (.extern f);pure (.value (← g args)):Sem Next):=by
      have k2:=fits_v (F:=F) (hs args)
      exact ⟨Sim2.bind' (sim_markX f) fun _=>k2.sim,fun v x v' e=>k2.nice v x v' e⟩
    exact ⟨⟨fun H L v w es M c v' e' hL=>by rw [e] at e';rw [eT];exact key.sim.sim H L v w es M c v' e' hL,fun v hv=>by rw [e];exact key.sim.mild v hv⟩,fun v x v' e'=>key.nice v x v' (by rw [← e];exact e')⟩
  · have e:∀ v,(callFunc f args).run P v=.ok (.enter f args) v:=fun v=>by
      unfold callFunc
      simp only [bind,Sem.bind,Go.program,Sem.run,h1,hn,hb,Bool.false_eq_true,if_false,pure]
    have eT:∀ v es,(callFunc f args).runT P v es=(.ok (.enter f args) v,es):=fun v es=>by
      unfold callFunc
      simp only [bind,Sem.bind,Go.program,Sem.runT,h1,hn,hb,Bool.false_eq_true,if_false,pure]
    exact ⟨Sim2.look (fun _=>.enter f args) e eT fun _ _ _ _ _=>rfl,fun v x v' e'=>by rw [e] at e';cases e';exact ⟨hf,fn,by cases hc:fn.body with | none=>rw [hc] at hb;cases hb | some c=>exact ⟨c,h1,rfl⟩⟩⟩
end
def okOp (P:Program) (F:FuncId→Bool) (o:Oper):Bool :=
  match o.op with
  | .move _ | .assign _ | .pick .. | .alloc _ | .box .. | .build .. | .buildSlice .. | .load .. | .store .. | .nilCheck _ | .binOp .. | .unOp .. | .makeInterface .. | .makeFunc .. | .makeSlice .. | .slice .. | .fieldAddr .. | .field .. | .indexAddr .. | .index .. | .extract ..=>true
  | .convert src dst _=>match P.underlying src,P.underlying dst with
    | some (.int _),some (.int _)=>true
    | _,_=>false
  | .call c=>match c.callee with
    | .builtin b=>b == .append || b == .len || b == .cap || b == .min || b == .max
    | .value (.func f)=>F f
    | _=>false
  | _=>false
theorem fits_op {P:Program} {F:FuncId→Bool} (hF:∀ f,F f=true→FnOk P f) {o:Oper} (h:okOp P F o=true) (ρ:Operand→Value) (hρ:∀ f,ρ (.func f)=.func (.func f) #[] #[]):Fits P F (execOp ρ o):=by
  unfold okOp at h
  unfold execOp
  cases ho:o.op <;> rw [ho] at h <;> (try simp only [Bool.false_eq_true] at h) <;> dsimp only
  case move=>exact fits_pure _
  case assign=>exact fits_pure _
  case pick c a b =>
    generalize ρ c=y
    cases y <;> first | exact fits_pure _ | exact fits_dead (fun _=>⟨_,rfl,rfl⟩)
  case alloc=>exact fits_v (sim_alloc _ _ _)
  case box=>exact fits_v (sim_box _ _)
  case build=>exact fits_v (sim_build _ _)
  case buildSlice=>exact fits_v (sim_buildSlice _ _ _)
  case load=>exact fits_v (sim_loadAt _ _)
  case store=>exact fits_u (sim_storeAt _ _ _)
  case nilCheck x =>
    generalize ρ x=y
    have val:∀ z:Value,Fits P F (pure (.value z)):=fits_pure
    cases y <;> try exact val _
    case pointer a=>cases a with
      | none=>exact fits_panic _
      | some a=>exact val _
    case nilIface=>exact fits_panic _
    case nilFunc=>exact fits_panic _
    case func f first captured =>
      cases f <;> try exact val _
      rename_i name
      dsimp only
      cases first[0]? with
      | none=>exact val _
      | some z =>
        cases z <;> try exact val _
        case nilIface=>exact fits_panic _
        case iface t w =>
          dsimp only
          refine fits_bind sim_program fun p=>?_
          refine fits_bind (sim_nilAhead _ _ _ _) fun b=>?_
          split
          · exact fits_bind (sim_unsupported _ rfl) fun _=>fits_pure _
          · exact fits_pure _
  case binOp=>exact fits_v (Sim2.bind' (sim_eqGuard _ _ _ _ _ _) fun _=>sim_binOp _ _ _ _)
  case unOp=>exact fits_v (sim_unary _ _)
  case convert src dst x =>
    refine fits_v ?_
    split at h
    · rename_i k1 k2 h1 h2
      cases x':ρ x
      case int k n =>
        refine Sim2.congr (t:=pure (.int k2 (k2.wrap n))) (fun u=>?_) (fun u es=>?_) (Sim2.pure' _)
        · simp only [convert,bind,Sem.bind,Go.underlying,Go.program,Sem.run,h1,h2,pure,Conv.intToInt]
        · simp only [convert,bind,Sem.bind,Go.underlying,Go.program,Sem.runT,h1,h2,pure,Conv.intToInt]
      case float k b =>
        refine Sim2.congr (t:=Conv.floatToInt k b k2) (fun u=>?_) (fun u es=>?_) (by unfold Conv.floatToInt;(repeat' (first | with_reducible exact Sim2.pure _ | with_reducible exact Sim2.pure' _ | with_reducible (first | exact sim_unsupported _ rfl | exact sim_noView _ | exact sim_numberAt _ | exact SimI.out) | with_reducible refine Sim2.array _ _ (fun _ _=>?_) _ | with_reducible refine Sim2.range _ _ (fun _ _=>?_) _ | ((with_reducible refine Sim2.shape' _ (fun _=>?_) ?_);rotate_left;(exact (fun _=>⟨_,rfl,rfl⟩))) | ((with_reducible refine Sim2.viewAt _ ?_ (fun _=>?_));rotate_left;(exact (fun _=>⟨_,rfl,rfl⟩))) | (with_reducible refine Sim2.getObj _ (fun _=>?_) (fun _ _=>?_) (fun _ _ _=>?_) ?_) <;> (first | (exact (fun _=>⟨_,rfl,rfl⟩)) | exact Sim2.dead (fun _=>⟨_,rfl,rfl⟩) | skip) | with_reducible refine Sim2.bind' ?_ (fun _=>?_) | with_reducible refine Sim2.ite ?_ ?_ | split | dsimp only)))
        · simp only [convert,bind,Sem.bind,Go.underlying,Go.program,Sem.run,h1,h2,pure]
        · simp only [convert,bind,Sem.bind,Go.underlying,Go.program,Sem.runT,h1,h2,pure]
      case pointer a =>
        cases a with
        | none=>exact Sim2.dead fun u=>⟨.unsupported (.noEntry "convert/other"),by simp only [convert,bind,Sem.bind,Go.underlying,Go.program,Sem.run,h1,h2,pure,Go.unsupported],rfl⟩
        | some a=>exact Sim2.dead fun u=>⟨.unsupported .addressObserved,by simp only [convert,bind,Sem.bind,Go.underlying,Go.program,Sem.run,h1,h2,pure,Go.unsupported],rfl⟩
      all_goals exact Sim2.dead fun u=>⟨.unsupported (.noEntry "convert/other"),by simp only [convert,bind,Sem.bind,Go.underlying,Go.program,Sem.run,h1,h2,pure,Go.unsupported],rfl⟩
    · cases h
  case makeInterface=>exact fits_v (sim_makeInterface _ _)
  case makeFunc=>exact fits_v (sim_makeFunc _ _ _)
  case makeSlice=>exact fits_v (sim_makeSlice _ _ _)
  case slice=>exact fits_v (sim_sliceAt _ _ _ _ _)
  case fieldAddr=>exact fits_v (sim_fieldAt _ _ _)
  case field=>exact fits_v (sim_field _ _ _)
  case indexAddr=>exact fits_v (sim_indexAt _ _ _)
  case index=>exact fits_v (sim_index _ _ _)
  case extract=>exact fits_v (sim_extract _ _)
  case call c =>
    obtain ⟨callee,args,ats⟩:=c
    cases callee with
    | builtin b =>
      cases b <;> first | (simp at h;done) | skip
      · exact fits_v (sim_append _ _ _)
      · exact fits_v (sim_cap _ _ _)
      · exact fits_v (sim_len _ _ _)
      · exact fits_v (sim_max _ _ _)
      · exact fits_v (sim_min _ _ _)
    | invoke _ _=>cases h
    | value f =>
      cases f <;> try cases h
      rename_i f
      have key:Fits P F (callFunc f ((#[] ++ args.map ρ) ++ #[])):=fits_callFunc h (hF f h) _
      have e:(do let d ← resolve ρ { callee:=.value (.func f),args,argTypes:=ats } o.type;invoke d.target d.args)=callFunc f ((#[] ++ args.map ρ) ++ #[]):=by
        unfold resolve
        simp only [hρ]
        rfl
      rw [e]
      exact key
structure Dyn where
  F:FuncId→Bool
  G:FuncId→List Nat
  T:List (TypeId × String × FuncId)
def Dyn.free (D:Dyn) (g:FuncId):Bool:=D.F g && (D.G g).isEmpty
def gv (D:Dyn):Value→Bool
  | .func (.func g) _ _=>D.free g
  | .func _ _ _=>false
  | .iface t _=>D.T.any fun e=>e.1 == t
  | _=>true
def goodO (D:Dyn) (f:FuncId):Operand→Bool
  | .tmp t=>(D.G f).contains t
  | .func g=>D.free g
  | .const v=>gv D v
  | _=>false
def okDst (D:Dyn) (f:FuncId) (o:Oper):Bool:=match o.dst with
  | none=>true
  | some d=>!(D.G f).contains d || (match o.op with
    | .move x | .assign x=>goodO D f x
    | .makeInterface t _=>D.T.any fun e=>e.1 == t
    | .makeFunc (.func g) _ _=>D.free g
    | _=>false)
def okArgs (D:Dyn) (f g:FuncId) (args:Array Operand):Bool:=(D.G g).all fun s=>match args[s]? with
  | some x=>goodO D f x
  | none=>true
def okRun (P:Program) (D:Dyn) (f:FuncId) (o:Oper):Bool:=match o.op with
  | .call c=>match c.callee with
    | .value (.func g)=>D.F g && okArgs D f g c.args
    | .value (.tmp s)=>(D.G f).contains s
    | .invoke (.tmp s) name=>(D.G f).contains s && D.T.all fun e=>e.2.1 == name
    | _=>okOp P D.F o
  | _=>okOp P D.F o
def okOpD (P:Program) (D:Dyn) (f:FuncId) (o:Oper):Bool:=okRun P D f o && okDst D f o
def Slots (D:Dyn) (f:FuncId) (tmps:Array Value):Prop:=∀ s∈D.G f,gv D (tmps.getD s undef)=true
def Meths (P:Program) (D:Dyn):Prop:=∀ e∈D.T,(∀ v w es,(method (P.types.size + Made.depth) e.1 v e.2.1).runT P w es=(.ok (e.2.2,v) w,es))∧D.F e.2.2=true∧D.G e.2.2=[]
def NiceD (P:Program) (D:Dyn):Next→Prop
  | .value _=>True
  | .skip=>True
  | .enter f args=>(D.F f=true∧∃ fn c,P.funcs[f]?=some fn∧fn.body=some c)∧Slots D f args
  | _=>False
structure FitsD (P:Program) (D:Dyn) (s:Sem Next):Prop where
  sim:Sim P s
  nice:∀ v x v',s.run P v=.ok x v'→NiceD P D x
theorem goodO_val {D:Dyn} {f:FuncId} {tmps:Array Value} (hs:Slots D f tmps) {x:Operand} (h:goodO D f x=true):gv D (Act.eval ⟨tmps,[]⟩ x)=true:=by
  cases x with
  | tmp t=>exact hs t (by simpa [goodO] using h)
  | const v=>exact h
  | func g=>exact h
  | global g=>cases h
theorem slots_nil {D:Dyn} {f:FuncId} (h:D.G f=[]) (tmps:Array Value):Slots D f tmps:=fun s hs=>by rw [h] at hs;cases hs
theorem slots_undef {D:Dyn} {f:FuncId} {xs:Array Value} (h:Slots D f xs) (n:Nat):Slots D f (xs ++ Array.replicate n undef):=fun s hs=>by
  have:=h s hs
  simp only [Array.getD_eq_getD_getElem?] at this ⊢
  rw [Array.getElem?_append]
  split
  · exact this
  · rw [Array.getElem?_replicate]
    split <;> rfl
theorem fitsD_callFree {P:Program} {D:Dyn} (hF:∀ f,D.F f=true→FnOk P f) {g:FuncId} (h:D.F g=true) (h0:D.G g=[]) (args:Array Value):FitsD P D (callFunc g args):=by
  have K:Fits P D.F (callFunc g args):=fits_callFunc h (hF g h) args
  refine ⟨K.sim,fun v x v' e=>?_⟩
  have hn:=K.nice v x v' e
  cases x with
  | value x=>trivial
  | skip=>trivial
  | enter f ys =>
    refine ⟨hn,?_⟩
    have:f=g:=by
      revert e
      unfold callFunc
      simp only [bind,Sem.bind,Go.program,Sem.run,pure,Go.mark]
      obtain ⟨fn,h1,h2⟩:=hF g h
      rw [h1]
      rcases h2 with ⟨e1,e2,e3,g',e4,_⟩ | ⟨e1,e2⟩
      · simp only [e1,e2,e3,e4,Bool.false_eq_true,if_false,if_true,Sem.run,Sem.bind]
        intro e
        exfalso
        have e:((g' args).bind fun a=>.pure (Next.value a)).run P v=.ok (.enter f ys) v':=e
        rw [Sem.run_bind'] at e
        cases hr:(g' args).run P v with
        | ok a w=>rw [hr] at e;cases e
        | halt a w=>rw [hr] at e;cases e
      · simp only [e1,e2,Bool.false_eq_true,if_false,Sem.run]
        intro e
        cases e;rfl
    subst this
    exact slots_nil h0 _
  | _=>exact hn.elim
theorem fitsD_of {P:Program} {D:Dyn} {s:Sem Next} (K:Fits P D.F s) (h:∀ v f args v',s.run P v=.ok (.enter f args) v'→Slots D f args):FitsD P D s:=by
  refine ⟨K.sim,fun v x v' e=>?_⟩
  have hn:=K.nice v x v' e
  cases x with
  | value x=>trivial
  | skip=>trivial
  | enter f ys=>exact ⟨hn,h v f ys v' e⟩
  | _=>exact hn.elim
theorem fitsD_panic {P:Program} {D:Dyn} (x:RuntimeError):FitsD P D (runtimePanic x):=fitsD_of (fits_panic x) fun v f args v' e=>by
  have:=(fits_panic (P:=P) (F:=fun _=>false) x).nice v _ v' e
  exact absurd this.1 (by simp)
theorem fitsD_dead {P:Program} {D:Dyn} {s:Sem Next} (h:Dead P s):FitsD P D s:=fitsD_of (fits_dead h) fun v f args v' e=>by obtain ⟨y,h1,_⟩:=h v;rw [h1] at e;cases e
theorem callMethod_of {P:Program} {D:Dyn} (hM:Meths P D) (hF:∀ f,D.F f=true→FnOk P f) {e:TypeId × String × FuncId} (he:e∈D.T) (v:Value) (args:Array Value):FitsD P D (callMethod (.iface e.1 v) e.2.1 args):=by
  have K:=fitsD_callFree hF (hM e he).2.1 (hM e he).2.2 (#[v] ++ args)
  have S:Sim P (callMethod (.iface e.1 v) e.2.1 args):=by
    unfold callMethod
    refine Sim2.program ?_
    refine Sim2.congr (t:=callFunc e.2.2 (#[v] ++ args)) (fun u=>?_) (fun u es=>?_) K.sim
    · show (Sem.bind (method (P.types.size + Made.depth) e.1 v e.2.1) _).run P u=_
      rw [Sem.run_bind',← Sem.runT_fst P _ u #[],(hM e he).1 v u #[]]
      rfl
    · show (Sem.bind (method (P.types.size + Made.depth) e.1 v e.2.1) _).runT P u es=_
      rw [Sem.runT_bind',(hM e he).1 v u es]
  refine ⟨S,fun u x u' hx=>?_⟩
  have e1:(callMethod (.iface e.1 v) e.2.1 args).run P u=(callFunc e.2.2 (#[v] ++ args)).run P u:=by
    unfold callMethod
    show (Sem.bind (method (P.types.size + Made.depth) e.1 v e.2.1) _).run P u=_
    rw [Sem.run_bind',← Sem.runT_fst P _ u #[],(hM e he).1 v u #[]]
    rfl
  exact K.nice u x u' (by rw [← e1];exact hx)
theorem enter_callFunc {P:Program} {v v':World} {g f:FuncId} {args ys:Array Value} (h:FnOk P g) (e:(callFunc g args).run P v=.ok (.enter f ys) v'):f=g∧ys=args:=by
  revert e
  unfold callFunc
  simp only [bind,Sem.bind,Go.program,Sem.run,pure,Go.mark]
  obtain ⟨fn,h1,h2⟩:=h
  rw [h1]
  rcases h2 with ⟨e1,e2,e3,g',e4,_⟩ | ⟨e1,e2⟩
  · simp only [e1,e2,e3,e4,Bool.false_eq_true,if_false,if_true,Sem.run,Sem.bind]
    intro e
    exfalso
    have e:((g' args).bind fun a=>.pure (Next.value a)).run P v=.ok (.enter f ys) v':=e
    rw [Sem.run_bind'] at e
    cases hr:(g' args).run P v with
    | ok a w=>rw [hr] at e;cases e
    | halt a w=>rw [hr] at e;cases e
  · simp only [e1,e2,Bool.false_eq_true,if_false,Sem.run]
    intro e
    cases e;exact ⟨rfl,rfl⟩
theorem fits_opD {P:Program} {D:Dyn} (hF:∀ f,D.F f=true→FnOk P f) (hM:Meths P D) {f:FuncId} {o:Oper} (h:okOpD P D f o=true) {tmps:Array Value} (hs:Slots D f tmps):FitsD P D (execOp (Act.eval ⟨tmps,[]⟩) o):=by
  simp only [okOpD,Bool.and_eq_true] at h
  have h:=h.1
  have base:okOp P D.F o=true→(∀ c,o.op=.call c→∀ g,c.callee≠.value (.func g))→FitsD P D (execOp (Act.eval ⟨tmps,[]⟩) o):=fun hb hc=>by
    refine fitsD_of (fits_op hF hb _ fun _=>rfl) fun v g args v' e=>?_
    have F0:okOp P (fun _=>false) o=true:=by
      unfold okOp at hb ⊢
      split at hb <;> try (first | exact hb | (simp only;done) | rfl)
      all_goals (rename_i c hop;split at hb <;> first | exact hb | exact absurd ‹_› (hc _ hop _) | (cases hb))
    have:=(fits_op (F:=fun _=>false) (fun f h=>by cases h) F0 (Act.eval ⟨tmps,[]⟩) fun _=>rfl).nice v _ v' e
    exact absurd this.1 (by simp)
  unfold okRun at h
  split at h
  · rename_i c hop
    obtain ⟨callee,args,ats⟩:=c
    dsimp only at h
    split at h
    · rename_i g
      simp only [Bool.and_eq_true] at h
      have hb:okOp P D.F o=true:=by unfold okOp;rw [hop];exact h.1
      refine fitsD_of (fits_op hF hb _ fun _=>rfl) fun v g' ys v' e=>?_
      have e1:execOp (Act.eval ⟨tmps,[]⟩) o=callFunc g ((#[] ++ args.map (Act.eval ⟨tmps,[]⟩)) ++ #[]):=by
        unfold execOp
        rw [hop]
        rfl
      rw [e1] at e
      obtain ⟨rfl,rfl⟩:=enter_callFunc (hF g h.1) e
      intro s hsG
      have hall:=h.2
      simp only [okArgs,List.all_eq_true] at hall
      have hx:=hall s hsG
      simp only [Array.empty_append,Array.append_empty,Array.getD_eq_getD_getElem?,Array.getElem?_map]
      cases ha:args[s]? with
      | none=>rfl
      | some x=>rw [ha] at hx;exact goodO_val hs hx
    · rename_i s
      have hg:=hs s (by simpa using h)
      have e1:execOp (Act.eval ⟨tmps,[]⟩) o=(do let d ← Deferred.ofValue (tmps.getD s undef) (args.map (Act.eval ⟨tmps,[]⟩));invoke d.target d.args:Sem Next):=by
        unfold execOp
        rw [hop]
        rfl
      rw [e1]
      generalize tmps.getD s undef=y at hg
      cases y <;> first | exact fitsD_dead (fun _=>⟨_,rfl,rfl⟩) | skip
      · rename_i fn first captured
        cases fn <;> first | cases hg | skip
        rename_i g
        simp only [gv,Dyn.free,Bool.and_eq_true,List.isEmpty_iff] at hg
        exact fitsD_callFree hF hg.1 hg.2 ((first ++ args.map (Act.eval ⟨tmps,[]⟩)) ++ captured)
      · exact (show FitsD P D (runtimePanic .nilDeref) from fitsD_panic _)
    · rename_i s name
      simp only [Bool.and_eq_true] at h
      have hg:=hs s (by simpa using h.1)
      have e1:execOp (Act.eval ⟨tmps,[]⟩) o=callMethod (tmps.getD s undef) name ((#[tmps.getD s undef] ++ args.map (Act.eval ⟨tmps,[]⟩)).extract 1 (#[tmps.getD s undef] ++ args.map (Act.eval ⟨tmps,[]⟩)).size):=by
        unfold execOp
        rw [hop]
        show invoke (.fn (.method name) #[]) (#[tmps.getD s undef] ++ args.map (Act.eval ⟨tmps,[]⟩))=_
        unfold invoke
        have:(#[tmps.getD s undef] ++ args.map (Act.eval ⟨tmps,[]⟩))[0]?=some (tmps.getD s undef):=by rw [Array.getElem?_append_left (by simp)];rfl
        dsimp only
        rw [this]
      rw [e1]
      generalize ((#[tmps.getD s undef] ++ args.map (Act.eval ⟨tmps,[]⟩)).extract 1 (#[tmps.getD s undef] ++ args.map (Act.eval ⟨tmps,[]⟩)).size)=ys
      generalize tmps.getD s undef=y at hg
      cases y <;> first | exact fitsD_dead (fun _=>⟨_,rfl,rfl⟩) | skip
      · rename_i t z
        simp only [gv,List.any_eq_true,beq_iff_eq] at hg
        obtain ⟨e,he,rfl⟩:=hg
        have hn:=h.2
        simp only [List.all_eq_true,beq_iff_eq] at hn
        rw [← hn e he]
        exact callMethod_of hM hF he z ys
      · exact (show FitsD P D (runtimePanic .nilDeref) from fitsD_panic _)
    · rename_i hne _ _
      exact base h fun c hc g=>by rw [hop] at hc;cases hc;exact hne g
  · rename_i hne
    exact base h fun c hc=>absurd hc (hne c)
theorem good_op {P:Program} {D:Dyn} {f:FuncId} {o:Oper} (h:okOpD P D f o=true) {tmps:Array Value} (hs:Slots D f tmps) {d:Tmp} (hd:o.dst=some d) (hG:d∈D.G f) {v v':World} {x:Value} (hr:(execOp (Act.eval ⟨tmps,[]⟩) o).run P v=.ok (.value x) v'):gv D x=true:=by
  simp only [okOpD,Bool.and_eq_true,okDst,hd] at h
  have h:=h.2
  have hc:(D.G f).contains d=true:=by simpa using hG
  rw [hc] at h
  simp only [Bool.not_true,Bool.false_or] at h
  unfold execOp at hr
  split at h
  · rename_i y hop;rw [hop] at hr;dsimp only at hr;cases hr;exact goodO_val hs h
  · rename_i y hop;rw [hop] at hr;dsimp only at hr;cases hr;exact goodO_val hs h
  · rename_i t y hop
    rw [hop] at hr
    dsimp only at hr
    have e:(Sem.bind (Instr.makeInterface t (Act.eval ⟨tmps,[]⟩ y)) fun a=>.pure (Next.value a)).run P v=.ok (.value x) v':=hr
    rw [Sem.run_bind'] at e
    have key:∀ a u,(Instr.makeInterface t (Act.eval ⟨tmps,[]⟩ y)).run P v=.ok a u→a=.iface t (Act.eval ⟨tmps,[]⟩ y):=fun a u hk=>by
      unfold Instr.makeInterface at hk
      simp only [bind,Sem.bind,Go.underlying,Go.program,Sem.run,pure] at hk
      cases hu:P.underlying t with
      | none=>rw [hu] at hk;cases hk
      | some ty =>
        rw [hu] at hk
        cases ty <;> cases hk <;> rfl
    cases hk:(Instr.makeInterface t (Act.eval ⟨tmps,[]⟩ y)).run P v with
    | ok a u =>
      rw [hk] at e
      cases e
      rw [key _ v' hk];exact h
    | halt a u=>rw [hk] at e;cases e
  · rename_i g _ _ hop
    rw [hop] at hr
    dsimp only at hr
    cases hr
    exact h
  · cases h
theorem enter_dst {P:Program} {D:Dyn} {f:FuncId} {o:Oper} (h:okOpD P D f o=true) {ρ:Operand→Value} {d:Tmp} (hd:o.dst=some d) {v v':World} {g:FuncId} {xs:Array Value} (hr:(execOp ρ o).run P v=.ok (.enter g xs) v'):d ∉ D.G f:=fun hG=>by
  simp only [okOpD,Bool.and_eq_true,okDst,hd] at h
  have h:=h.2
  have hc:(D.G f).contains d=true:=by simpa using hG
  rw [hc] at h
  simp only [Bool.not_true,Bool.false_or] at h
  unfold execOp at hr
  split at h
  · rename_i y hop;rw [hop] at hr;dsimp only at hr;cases hr
  · rename_i y hop;rw [hop] at hr;dsimp only at hr;cases hr
  · rename_i t y hop
    rw [hop] at hr
    dsimp only at hr
    have e:(Sem.bind (Instr.makeInterface t (ρ y)) fun a=>.pure (Next.value a)).run P v=.ok (.enter g xs) v':=hr
    rw [Sem.run_bind'] at e
    cases hk:(Instr.makeInterface t (ρ y)).run P v with
    | ok a u=>rw [hk] at e;cases e
    | halt a u=>rw [hk] at e;cases e
  · rename_i g _ _ hop
    rw [hop] at hr
    dsimp only at hr
    cases hr
  · cases h
end Go.Proofs.Ytndppafplgilbaa
namespace Go.Proofs.Ytndppafplgilbaa
open Go Go.Conc
def okCode (P:Program) (D:Dyn) (f:FuncId):Code→Bool
  | .skip | .label _ | .ret | .exit _=>true
  | .seq a b | .cond _ a b=>okCode P D f a && okCode P D f b
  | .block _ c | .loop c=>okCode P D f c
  | .region _ ops _=>ops.all (okOpD P D f)
  | _=>false
def okItem (P:Program) (D:Dyn) (f:FuncId):Item→Bool
  | .code c | .inLoop c=>okCode P D f c
  | .inRegion ops _=>ops.all (okOpD P D f)
  | .inBlock _=>true
  | _=>false
structure Closed (P:Program) (D:Dyn):Prop where
  fn:∀ f,D.F f=true→FnOk P f
  body:∀ f fn c,D.F f=true→P.funcs[f]?=some fn→fn.body=some c→okCode P D f c=true
  meth:Meths P D
def fr (f:FuncId) (tmps:Array Value) (todo:List Item) (mode:FrameMode):Frame:={ fn:=f,tmps,todo,defers:=[],mode,kind:=.normal }
structure OkF (P:Program) (D:Dyn) (f:FuncId) (tmps:Array Value) (todo:List Item):Prop where
  items:∀ x∈todo,okItem P D f x=true
  there:∃ fn,P.funcs[f]?=some fn
  slots:Slots D f tmps
theorem fr_at (f:FuncId) (tmps:Array Value) (todo:List Item):fr f tmps todo .run=(base f).at ⟨tmps,[]⟩ todo:=rfl
def Ended:GStep→Prop
  | .ended ..=>True
  | _=>False
structure Behind (H:Nat→Prop) (L:Nat) (v w v' w':World) (es:Array Event):Prop where
  masked:Masked H (v.drawn + L - v'.drawn) v' w'
  treads:Treads H w w' es
  drawn:w'.drawn + v.drawn=w.drawn + v'.drawn
  le:v.drawn≤v'.drawn
  np:NoPend w→NoPend w'
inductive Res (P:Program) (D:Dyn) (Kt:List Item→Prop) (k0:List Item) (f:FuncId) (tmps:Array Value) (todo:List Item) (mode:FrameMode) (v:World):Prop
  | go (tmps':Array Value) (todo':List Item) (mode':FrameMode) (v':World)
      (lone:∃ es,∀ main k cs,Kt k→stepG P main (G (fr f tmps (todo ++ k) mode) cs) v=.go (G (fr f tmps' (todo' ++ k) mode') cs) v' es)
      (sim:∀ H L w,Masked H L v w→v'.drawn≤v.drawn + L→∃ w' es,(∀ main k cs,Kt k→stepG P main (G (fr f tmps (todo ++ k) mode) cs) w=.go (G (fr f tmps' (todo' ++ k) mode') cs) w' es)∧Behind H L v w v' w' es)
      (ok:OkF P D f tmps' todo') (okm:mode'=.run∨mode'=.returning) (np:NoPend v')
  | call (f':FuncId) (tmps':Array Value) (todo':List Item) (v':World)
      (lone:∃ es,∀ main k cs,Kt k→stepG P main (G (fr f tmps (todo ++ k) mode) cs) v=.go (G (fr f' tmps' todo' .run) (fr f tmps (todo ++ k) .run :: cs)) v' es)
      (sim:∀ H L w,Masked H L v w→v'.drawn≤v.drawn + L→∃ w' es,(∀ main k cs,Kt k→stepG P main (G (fr f tmps (todo ++ k) mode) cs) w=.go (G (fr f' tmps' todo' .run) (fr f tmps (todo ++ k) .run :: cs)) w' es)∧Behind H L v w v' w' es)
      (ok:OkF P D f' tmps' todo') (hF:D.F f'=true) (wait:∃ ops i rest t,todo=.inRegion ops (i :: rest) :: t∧∀ o d,ops[i]?=some o→o.dst=some d→d ∉ D.G f) (np:NoPend v')
  | raise (chain:List PanicEntry) (v':World) (lone:∃ es,∀ main cs,stepG P main (G (fr f tmps (todo ++ k0) mode) cs) v=.go (G (fr f tmps (todo ++ k0) (.panicking chain)) cs) v' es)
  | stop (lone:∀ main c cs,Ended (stepG P main (G (fr f tmps (todo ++ k0) mode) (c :: cs)) v))
section
variable {P:Program} {D:Dyn} {Kt:List Item→Prop} {k0:List Item} {f:FuncId} {tmps:Array Value} {todo:List Item} {mode:FrameMode} {v:World}
theorem Behind.idle {H:Nat→Prop} {L:Nat} {v w:World} (M:Masked H L v w):Behind H L v w v w #[]:=⟨M.fewer (by omega),Treads.refl H w,by omega,Nat.le_refl _,id⟩
theorem res_ctl {tmps':Array Value} {todo':List Item} {mode':FrameMode} (h:∀ main k cs w,Kt k→stepG P main (G (fr f tmps (todo ++ k) mode) cs) w=.go (G (fr f tmps' (todo' ++ k) mode') cs) w #[]) (ok:OkF P D f tmps' todo') (okm:mode'=.run∨mode'=.returning) (np:NoPend v):Res P D Kt k0 f tmps todo mode v :=
  .go tmps' todo' mode' v ⟨_,fun main k cs hk=>h main k cs v hk⟩ (fun H L w M hL=>⟨w,#[],fun main k cs hk=>h main k cs w hk,Behind.idle M⟩) ok okm np
theorem OkF.tail {x:Item} {k:List Item} (h:OkF P D f tmps (x :: k)):OkF P D f tmps k:=⟨fun y hy=>h.items y (List.mem_cons_of_mem _ hy),h.there,h.slots⟩
theorem OkF.head {x:Item} {k:List Item} (h:OkF P D f tmps (x :: k)):okItem P D f x=true:=h.items x (List.mem_cons_self ..)
theorem OkF.cons {x:Item} {k:List Item} (hx:okItem P D f x=true) (h:OkF P D f tmps k):OkF P D f tmps (x :: k):=⟨fun y hy=>(List.mem_cons.1 hy).elim (fun e=>e ▸ hx) (h.items y),h.there,h.slots⟩
theorem OkF.with {tmps':Array Value} {k:List Item} (h:OkF P D f tmps k) (hs:Slots D f tmps'):OkF P D f tmps' k:=⟨h.items,h.there,hs⟩
theorem OkF.exit {id:Nat}:∀ {k k':List Item},exitTo id k=some k'→OkF P D f tmps k→OkF P D f tmps k'
  | [],_,h,_=>by simp [exitTo] at h
  | x :: k,k',h,ok=>by
    unfold exitTo at h
    split at h
    · rename_i id' k heq
      cases heq
      split at h
      · cases h;exact ok.tail
      · exact OkF.exit h ok.tail
    · rename_i y k heq
      cases heq
      exact OkF.exit h ok.tail
    · rename_i heq;cases heq
theorem exitTo_app {id:Nat} {k₀:List Item}:∀ {k k':List Item},exitTo id k=some k'→exitTo id (k ++ k₀)=some (k' ++ k₀)
  | [],_,h=>by simp [exitTo] at h
  | x :: k,k',h=>by
    cases x <;> simp only [exitTo,List.cons_append] at h ⊢ <;> first | exact exitTo_app h | skip
    split at h
    · rename_i hid;rw [if_pos hid];cases h;rfl
    · rename_i hid;rw [if_neg hid];exact exitTo_app h
theorem exitTo_none {id:Nat} {k₀:List Item} (h0:exitTo id k₀=none):∀ {k:List Item},exitTo id k=none→exitTo id (k ++ k₀)=none
  | [],_=>h0
  | x :: k,h=>by
    cases x <;> simp only [exitTo,List.cons_append] at h ⊢ <;> first | exact exitTo_none h0 h | skip
    split at h
    · cases h
    · rename_i hid;rw [if_neg hid];exact exitTo_none h0 h
theorem treads_seen {H:Nat→Prop} {w w':World} {es:Array Event} (h:Treads H w w' es) (fn:FuncId):Treads H w w' (seen P fn es):=⟨h.os,h.tape,h.out,h.size,h.kept,h.objs,fun e he=>h.evs e (mem_seen he)⟩
theorem run_of {α:Type} {s:Sem α} {w:World} {r:Result α} {es:Array Event} (h:s.runT P w #[]=(r,es)):s.run P w=r:=by rw [← Sem.runT_fst P s w #[],h]
theorem events_of {α:Type} {s:Sem α} {w:World} {r:Result α} {es:Array Event} (h:s.runT P w #[]=(r,es)):s.events P w #[]=es:=by
  show (s.runT P w #[]).2=es
  rw [h]
theorem apply_value {s:Sem Next} {w w':World} {x:Value} {es:Array Event} {ops:Array Oper} {i:Nat} {rest:List Nat} {k:List Item} (h:s.runT P w #[]=(.ok (.value x) w',es)) (cs:List Frame) :
    stepG.apply P true (fr f tmps (.inRegion ops (i :: rest) :: k) .run) cs none s w=.go (G ((fr f tmps (.inRegion ops (i :: rest) :: k) .run).finish x) cs) w' (seen P f es):=by
  have hr:=run_of h
  have he:=events_of h
  unfold stepG.apply
  simp [hr,he,fr,GStep.after,G]
theorem apply_skip {s:Sem Next} {w w':World} {es:Array Event} {ops:Array Oper} {i:Nat} {rest:List Nat} {k:List Item} (h:s.runT P w #[]=(.ok .skip w',es)) (cs:List Frame) :
    stepG.apply P true (fr f tmps (.inRegion ops (i :: rest) :: k) .run) cs none s w=.go (G ((fr f tmps (.inRegion ops (i :: rest) :: k) .run).finish undef) cs) w' (seen P f es):=by
  have hr:=run_of h
  have he:=events_of h
  unfold stepG.apply
  simp [hr,he,fr,GStep.after,G]
theorem apply_enter {s:Sem Next} {w w':World} {g:FuncId} {args:Array Value} {es:Array Event} {ops:Array Oper} {i:Nat} {rest:List Nat} {k:List Item} (h:s.runT P w #[]=(.ok (.enter g args) w',es)) (cs:List Frame) :
    stepG.apply P true (fr f tmps (.inRegion ops (i :: rest) :: k) .run) cs none s w=.go (G (Frame.enter P g args .normal) (fr f tmps (.inRegion ops (i :: rest) :: k) .run :: cs)) w' (seen P f es):=by
  have hr:=run_of h
  have he:=events_of h
  unfold stepG.apply
  simp [hr,he,fr,GStep.after,G]
theorem apply_panic {s:Sem Next} {w w':World} {x:Value} {es:Array Event} {ops:Array Oper} {i:Nat} {rest:List Nat} {k:List Item} (h:s.runT P w #[]=(.halt (.panic x) w',es)) (cs:List Frame) :
    stepG.apply P true (fr f tmps (.inRegion ops (i :: rest) :: k) .run) cs none s w=.go (G (fr f tmps (.inRegion ops (i :: rest) :: k) (.panicking [{ v:=x,recovered:=false }])) cs) w' (seen P f es):=by
  have hr:=run_of h
  have he:=events_of h
  unfold stepG.apply
  simp [hr,he,fr,GStep.after,G,Frame.raise]
theorem apply_stop {s:Sem Next} {w w':World} {x:Halt} {es:Array Event} {ops:Array Oper} {i:Nat} {rest:List Nat} {k:List Item} (h:s.runT P w #[]=(.halt x w',es)) (hx:mildH x=true) (cs:List Frame) :
    Ended (stepG.apply P true (fr f tmps (.inRegion ops (i :: rest) :: k) .run) cs none s w):=by
  have hr:=run_of h
  have he:=events_of h
  unfold stepG.apply
  cases x with
  | stuck a=>simp [hr,he,fr,GStep.after,Ended]
  | unsupported u=>cases u <;> first | (simp [hr,he,fr,GStep.after,Ended];done) | cases hx
  | _=>cases hx
theorem sys_of {α:Type} {s:Sem α} {H:Nat→Prop} {L:Nat} {w:World} {c:α ⊕ Value} {v':World} (h:Sim P s) (hr:fin (s.run P v)=some (c,v')) (M:Masked H L v w) (hL:v'.drawn≤v.drawn + L) :
    ∃ w' es,s.runT P w #[]=(unfin w' c,es)∧Behind H L v w v' w' es:=by
  obtain ⟨w',fs,h1,h2,h3,h4⟩:=h.sim H L v w #[] M c v' hr hL
  refine ⟨w',fs,by rw [h1];simp,h2,h3,h4,fin_drawn hr,fun hw=>?_⟩
  have:=(h.mild w hw).2
  rw [run_of h1] at this
  cases c <;> exact this
theorem Behind.seen {H:Nat→Prop} {L:Nat} {w v' w':World} {es:Array Event} (h:Behind H L v w v' w' es) (g:FuncId):Behind H L v w v' w' (Go.seen P g es):=⟨h.masked,treads_seen h.treads g,h.drawn,h.le,h.np⟩
theorem runT_of {α:Type} (s:Sem α) (w:World):s.runT P w #[]=(s.run P w,s.events P w #[]):=Prod.ext (Sem.runT_fst P s w #[]) rfl
def putT (tmps:Array Value) (dst:Option Tmp) (x:Value):Array Value:=(Act.put ⟨tmps,[]⟩ dst x).tmps
theorem put_eq (tmps:Array Value) (dst:Option Tmp) (x:Value):Act.put ⟨tmps,[]⟩ dst x=⟨putT tmps dst x,[]⟩:=by cases dst <;> rfl
theorem finish_fr (f:FuncId) (tmps:Array Value) (ops:Array Oper) (i:Nat) (rest:List Nat) (k:List Item) (x:Value) :
    (fr f tmps (.inRegion ops (i :: rest) :: k) .run).finish x=fr f (putT tmps ((ops[i]?).bind (·.dst)) x) (.inRegion ops rest :: k) .run:=by
  cases h:(ops[i]?).bind (·.dst) <;> simp [Frame.finish,fr,putT,Act.put,h]
theorem slots_put {dst:Option Tmp} {x:Value} (hs:Slots D f tmps) (h:∀ d,dst=some d→d∈D.G f→gv D x=true):Slots D f (putT tmps dst x):=fun s hsG=>by
  cases dst with
  | none=>exact hs s hsG
  | some d =>
    have h0:=hs s hsG
    show gv D ((tmps.setIfInBounds d x).getD s undef)=true
    rw [Array.getD_eq_getD_getElem?] at h0 ⊢
    rw [Array.getElem?_setIfInBounds]
    split
    · rename_i e
      subst e
      split
      · exact h d rfl hsG
      · rfl
    · exact h0
theorem res_op (C:Closed P D) {ops:Array Oper} {i:Nat} {rest:List Nat} {k:List Item} {o:Oper} (ok:OkF P D f tmps (.inRegion ops (i :: rest) :: k)) (ho:ops[i]?=some o) (hw:Region.wanted o (yielded ops tmps)=true) (np:NoPend v):Res P D Kt k0 f tmps (.inRegion ops (i :: rest) :: k) .run v:=by
  have hx:=ok.head
  have hok:okOpD P D f o=true:=by
    simp only [okItem,Array.all_eq_true_iff_forall_mem] at hx
    exact hx o (Array.mem_of_getElem? ho)
  have K:=fits_opD C.fn C.meth hok ok.slots
  have st:∀ main k' cs w,stepG P main (G (fr f tmps (.inRegion ops (i :: rest) :: k ++ k') .run) cs) w=stepG.apply P true (fr f tmps (.inRegion ops (i :: rest) :: (k ++ k')) .run) cs none (execOp (Act.eval ⟨tmps,[]⟩) o) w:=fun main k' cs w=>stepG_oper (b:=base f) (a:=⟨tmps,[]⟩) ho hw
  have ok':OkF P D f tmps (.inRegion ops rest :: k):=OkF.cons (x:=.inRegion ops rest) hx ok.tail
  have hv:=runT_of (P:=P) (execOp (Act.eval ⟨tmps,[]⟩) o) v
  have hm:=K.sim.mild v np
  cases hr:(execOp (Act.eval ⟨tmps,[]⟩) o).run P v with
  | ok x v' =>
    rw [hr] at hv hm
    have hn:=K.nice v x v' hr
    cases x with
    | value x =>
      refine .go (putT tmps ((ops[i]?).bind (·.dst)) x) (.inRegion ops rest :: k) .run v' ⟨_,fun main k' cs _=>by rw [st,apply_value hv,finish_fr];rfl⟩ (fun H L w M hL=>?_) (ok'.with (slots_put ok.slots fun d hd hG=>good_op hok ok.slots (by rw [ho] at hd;exact hd) hG hr)) (.inl rfl) hm.2
      obtain ⟨w',es,h1,h2⟩:=sys_of K.sim (c:=.inl (.value x)) (by rw [hr];rfl) M hL
      exact ⟨w',_,fun main k' cs _=>by rw [st,apply_value h1,finish_fr];rfl,h2.seen _⟩
    | skip =>
      refine .go (putT tmps ((ops[i]?).bind (·.dst)) undef) (.inRegion ops rest :: k) .run v' ⟨_,fun main k' cs _=>by rw [st,apply_skip hv,finish_fr];rfl⟩ (fun H L w M hL=>?_) (ok'.with (slots_put ok.slots fun _ _ _=>rfl)) (.inl rfl) hm.2
      obtain ⟨w',es,h1,h2⟩:=sys_of K.sim (c:=.inl .skip) (by rw [hr];rfl) M hL
      exact ⟨w',_,fun main k' cs _=>by rw [st,apply_skip h1,finish_fr];rfl,h2.seen _⟩
    | enter g args =>
      obtain ⟨⟨hg,fn,c,h1,h2⟩,hsl⟩:=hn
      have he:Frame.enter P g args .normal=fr g (args ++ Array.replicate (fn.ntmps - args.size) undef) [.code c] .run:=by simp [Frame.enter,h1,h2,fr]
      refine .call g (args ++ Array.replicate (fn.ntmps - args.size) undef) [.code c] v' ⟨_,fun main k' cs _=>by rw [st,apply_enter hv,he];rfl⟩ (fun H L w M hL=>?_) ⟨fun y hy=>?_,⟨fn,h1⟩,slots_undef hsl _⟩ hg ⟨_,_,_,_,rfl,fun o' d ho' hd=>by rw [ho] at ho';cases ho';exact enter_dst hok hd hr⟩ hm.2
      · obtain ⟨w',es,h3,h4⟩:=sys_of K.sim (c:=.inl (.enter g args)) (by rw [hr];rfl) M hL
        exact ⟨w',_,fun main k' cs _=>by rw [st,apply_enter h3,he];rfl,h4.seen _⟩
      · rw [List.mem_singleton] at hy
        subst hy
        exact C.body g fn c hg h1 h2
    | _=>exact hn.elim
  | halt x v' =>
    rw [hr] at hv hm
    cases x with
    | panic y=>exact .raise _ v' ⟨_,fun main cs=>by rw [st,apply_panic hv];rfl⟩
    | _=>exact .stop fun main c cs=>by rw [st];exact apply_stop hv hm.1 _
theorem res_run (C:Closed P D) (h0:∀ id,exitTo id k0=none) (ok:OkF P D f tmps todo) (hK:todo≠[]∨∀ k,Kt k→k=[]) (np:NoPend v):Res P D Kt k0 f tmps todo .run v:=by
  cases todo with
  | nil=>exact res_ctl (tmps':=tmps) (todo':=[]) (mode':=.returning) (fun main k cs w hk=>by
      have e:=(hK.resolve_left (fun h=>h rfl)) k hk
      subst e
      exact stepG_end (b:=base f) (a:=⟨tmps,[]⟩)) ok (.inr rfl) np
  | cons x k =>
    have hx:=ok.head
    cases x with
    | inBlock id=>exact res_ctl (fun main k' cs w _=>stepG_inBlock (b:=base f) (a:=⟨tmps,[]⟩)) ok.tail (.inl rfl) np
    | inLoop c=>exact res_ctl (fun main k' cs w _=>stepG_inLoop (b:=base f) (a:=⟨tmps,[]⟩)) (OkF.cons (x:=.code c) hx ok) (.inl rfl) np
    | code c =>
      cases c with
      | skip=>exact res_ctl (fun main k' cs w _=>stepG_skip (b:=base f) (a:=⟨tmps,[]⟩)) ok.tail (.inl rfl) np
      | label l=>exact res_ctl (fun main k' cs w _=>stepG_label (b:=base f) (a:=⟨tmps,[]⟩)) ok.tail (.inl rfl) np
      | ret=>exact res_ctl (tmps':=tmps) (todo':=.code .ret :: k) (mode':=.returning) (fun main k' cs w _=>stepG_ret' (b:=base f) (a:=⟨tmps,[]⟩)) ok (.inr rfl) np
      | seq a b =>
        simp only [okItem,okCode,Bool.and_eq_true] at hx
        exact res_ctl (fun main k' cs w _=>stepG_seq (b:=base f) (a:=⟨tmps,[]⟩)) (OkF.cons (x:=.code a) hx.1 (OkF.cons (x:=.code b) hx.2 ok.tail)) (.inl rfl) np
      | block id c=>exact res_ctl (fun main k' cs w _=>stepG_block (b:=base f) (a:=⟨tmps,[]⟩)) (OkF.cons (x:=.code c) hx (OkF.cons (x:=.inBlock id) rfl ok.tail)) (.inl rfl) np
      | loop c=>exact res_ctl (fun main k' cs w _=>stepG_loop (b:=base f) (a:=⟨tmps,[]⟩)) (OkF.cons (x:=.code c) hx (OkF.cons (x:=.inLoop c) hx ok.tail)) (.inl rfl) np
      | cond o a b =>
        simp only [okItem,okCode,Bool.and_eq_true] at hx
        by_cases hb:∃ t,Act.eval ⟨tmps,[]⟩ o=.bool t
        · obtain ⟨t,ht⟩:=hb
          exact res_ctl (fun main k' cs w _=>stepG_cond (b:=base f) (a:=⟨tmps,[]⟩) ht) (OkF.cons (x:=.code (if t then a else b)) (by cases t <;> simp [okItem,hx.1,hx.2]) ok.tail) (.inl rfl) np
        · refine .stop fun main c cs=>?_
          have e:(fr f tmps (.code (.cond o a b) :: (k ++ k0)) .run).eval o=Act.eval ⟨tmps,[]⟩ o:=by cases o <;> rfl
          have hne:∀ t,(fr f tmps (.code (.cond o a b) :: (k ++ k0)) .run).eval o≠.bool t:=fun t h=>hb ⟨t,e ▸ h⟩
          simp only [G,stepG,stepG.exec,fr,List.cons_append] at hne ⊢
          cases hv:Frame.eval { fn:=f,tmps,todo:=.code (.cond o a b) :: (k ++ k0),defers:=[],mode:=.run,kind:=.normal } o <;> first | exact absurd hv (hne _) | (simp only [Ended])
      | exit id =>
        cases he:exitTo id k with
        | some k'=>exact res_ctl (fun main k₁ cs w _=>stepG_exit (b:=base f) (a:=⟨tmps,[]⟩) (exitTo_app he)) (OkF.exit he ok.tail) (.inl rfl) np
        | none =>
          refine .stop fun main c cs=>?_
          simp [G,stepG,stepG.exec,fr,exitTo_none (h0 id) he,Ended]
      | region id ops draw =>
        cases draw with
        | false=>exact res_ctl (fun main k' cs w _=>stepG_region (b:=base f) (a:=⟨tmps,[]⟩)) (OkF.cons (x:=.inRegion ops (List.range ops.size)) hx ok.tail) (.inl rfl) np
        | true =>
          have K:=sim_choose (P:=P) (.order f id)
          have hm:=K.mild v np
          obtain ⟨t,v',hr⟩:∃ t v',(choose (.order f id)).run P v=.ok t v':=⟨_,_,rfl⟩
          have st:∀ main k' cs w t w',(choose (.order f id)).run P w=.ok t w'→stepG P main (G (fr f tmps (.code (.region id ops true) :: k ++ k') .run) cs) w=.go (G (fr f tmps (.inRegion ops (Region.schedule (P.follows .mixedOrders) ops t) :: k ++ k') .run) cs) w' #[]:=fun main k' cs w t w' h=>by
            simp [G,stepG,stepG.exec,fr,h]
          rw [hr] at hm
          refine .go tmps (.inRegion ops (Region.schedule (P.follows .mixedOrders) ops t) :: k) .run v' ⟨_,fun main k' cs _=>st main k' cs v t v' hr⟩ (fun H L w M hL=>?_) (OkF.cons (x:=.inRegion ops _) hx ok.tail) (.inl rfl) hm.2
          obtain ⟨w',es,h1,h2⟩:=sys_of K (c:=.inl t) (by rw [hr];rfl) M hL
          exact ⟨w',#[],fun main k' cs _=>st main k' cs w t w' (run_of h1),⟨h2.masked,⟨h2.treads.os,h2.treads.tape,h2.treads.out,h2.treads.size,h2.treads.kept,h2.treads.objs,fun e he=>by simp at he⟩,h2.drawn,h2.le,h2.np⟩⟩
      | _=>cases hx
    | inRegion ops l =>
      cases l with
      | nil=>exact res_ctl (fun main k' cs w _=>stepG_region_end (b:=base f) (a:=⟨tmps,[]⟩)) ok.tail (.inl rfl) np
      | cons i rest =>
        have ok':OkF P D f tmps (.inRegion ops rest :: k):=OkF.cons (x:=.inRegion ops rest) hx ok.tail
        cases ho:ops[i]? with
        | none =>
          exact res_ctl (tmps':=tmps) (todo':=.inRegion ops rest :: k) (mode':=.run) (fun main k' cs w _=>by simp [G,stepG,stepG.exec,fr,ho,Frame.finish]) ok' (.inl rfl) np
        | some o =>
          cases hw:Region.wanted o (yielded ops tmps) with
          | false=>exact res_ctl (tmps':=putT tmps o.dst undef) (todo':=.inRegion ops rest :: k) (mode':=.run) (fun main k' cs w _=>by rw [List.cons_append,fr_at,stepG_unwanted ho hw,put_eq];rfl) (ok'.with (slots_put ok.slots fun _ _ _=>rfl)) (.inl rfl) np
          | true=>exact res_op C ok ho hw np
    | _=>cases hx
theorem sim_results (fn:Func) (tmps:Array Value):Sim P (results fn tmps):=by
  unfold results
  refine Sim2.bind' (Sim2.mapM _ (fun x=>?_) _) fun vs=>?_
  · cases x with
    | tmp t=>exact Sim2.pure' _
    | cell a t=>exact Sim2.bind' (sim_asAddr _) fun _=>sim_loadVar _ _
  · exact Sim2.pure' _
theorem res_back (there:∃ fn,P.funcs[f]?=some fn) (np:NoPend v) :
    (∃ val v',(∃ fn,P.funcs[f]?=some fn∧(results fn tmps).run P v=.ok val v')∧(∃ es,∀ main c cs,stepG P main (G (fr f tmps todo .returning) (c :: cs)) v=.go (G (c.finish val) cs) v' es) ∧
      (∀ H L w,Masked H L v w→v'.drawn≤v.drawn + L→∃ w' es,(∀ main c cs,stepG P main (G (fr f tmps todo .returning) (c :: cs)) w=.go (G (c.finish val) cs) w' es)∧Behind H L v w v' w' es)∧NoPend v') ∨
    ∀ main c cs,Ended (stepG P main (G (fr f tmps todo .returning) (c :: cs)) v):=by
  obtain ⟨fn,hfn⟩:=there
  have K:=sim_results (P:=P) fn tmps
  have hv:=runT_of (P:=P) (results fn tmps) v
  have hm:=K.mild v np
  have st:∀ main c cs w val w' es,(results fn tmps).runT P w #[]=(.ok val w',es)→stepG P main (G (fr f tmps todo .returning) (c :: cs)) w=.go (G (c.finish val) cs) w' (seen P f es):=fun main c cs w val w' es h=>by
    have hr:=run_of h
    have he:=events_of h
    simp [G,stepG,fr,unwind,hfn,hr,he,doReturn,GStep.after]
  cases hr:(results fn tmps).run P v with
  | ok val v' =>
    rw [hr] at hv hm
    refine .inl ⟨val,v',⟨fn,hfn,hr⟩,⟨_,fun main c cs=>st main c cs v val v' _ hv⟩,fun H L w M hL=>?_,hm.2⟩
    obtain ⟨w',es,h1,h2⟩:=sys_of K (c:=.inl val) (by rw [hr];rfl) M hL
    exact ⟨w',_,fun main c cs=>st main c cs w val w' es h1,h2.seen _⟩
  | halt x v' =>
    rw [hr] at hv
    refine .inr fun main c cs=>?_
    have he:=events_of hv
    cases x <;> simp [G,stepG,fr,unwind,hfn,hr,he,doReturn,GStep.after,Ended]
end
end Go.Proofs.Ytndppafplgilbaa
