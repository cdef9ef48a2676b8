/-
  larchlaw04.BatonThins returns true for every input. No condition. (Part 5 of 49; joined by program.)
-/
import Derived.Test.YtndppafplgilbaaL04
set_option linter.unusedVariables false
set_option linter.unusedSimpArgs false
set_option linter.unusedSectionVars false
set_option maxRecDepth 100000
namespace Go.Proofs.Ytndppafplgilbaa
open Go Go.Conc
inductive GoesI (P:Program) (main:Bool) (R:World→World→Prop) (D:World→World→Array Event→Prop) (Stop:Goroutine→World→Prop):Goroutine→World→Prop
  | stop {g:Goroutine} {w:World} (h:∀ w₁,R w w₁→Stop g w₁):GoesI P main R D Stop g w
  | step {g:Goroutine} {w:World} (hs:g.status=.running) (nx:World→Goroutine × World × Array Event)
      (h:∀ w₁,R w w₁→stepG P main g w₁=.go (nx w₁).1 (nx w₁).2.1 (nx w₁).2.2∧D w₁ (nx w₁).2.1 (nx w₁).2.2) (ih:∀ w₁,R w w₁→GoesI P main R D Stop (nx w₁).1 (nx w₁).2.1):GoesI P main R D Stop g w
theorem GoesI.weaken {P:Program} {main:Bool} {R:World→World→Prop} {D:World→World→Array Event→Prop} {Stop Stop':Goroutine→World→Prop} (hs:∀ g w,Stop g w→Stop' g w) {g:Goroutine} {w:World} (h:GoesI P main R D Stop g w):GoesI P main R D Stop' g w:=by
  induction h with
  | stop h=>exact .stop fun w₁ r=>hs _ _ (h w₁ r)
  | step hr nx h _ ih=>exact .step hr nx h ih
theorem GoesI.bind {P:Program} {main:Bool} {R:World→World→Prop} {D:World→World→Array Event→Prop} {Stop Stop':Goroutine→World→Prop} (hR:∀ w,R w w) (hs:∀ g w,Stop g w→GoesI P main R D Stop' g w) {g:Goroutine} {w:World} (h:GoesI P main R D Stop g w):GoesI P main R D Stop' g w:=by
  induction h with
  | stop h=>exact hs _ _ (h _ (hR _))
  | step hr nx h _ ih=>exact .step hr nx h ih
def sfx (k:List Item) (x:Frame):Frame:={ x with todo:=x.todo ++ k }
def sfxL (k:List Item):List Frame→List Frame
  | []=>[]
  | [y]=>[sfx k y]
  | y :: z :: l=>y :: sfxL k (z :: l)
def stk (k:List Item) (x:Frame) (a:List Frame) (cs:List Frame):Goroutine :=
  match a with
  | []=>G (sfx k x) cs
  | y :: l=>G x (sfxL k (y :: l) ++ cs)
theorem sfx_nil (x:Frame):sfx [] x=x:=by simp [sfx]
theorem sfxL_nil:∀ a:List Frame,sfxL [] a=a
  | []=>rfl
  | [y]=>by simp [sfxL,sfx_nil]
  | y :: z :: l=>by simp [sfxL,sfxL_nil (z :: l)]
theorem stk_nil (x:Frame) (a cs:List Frame):stk [] x a cs=G x (a ++ cs):=by
  cases a with
  | nil=>simp [stk,sfx_nil]
  | cons y l=>simp [stk,sfxL_nil]
theorem sfx_inj {k:List Item} {x y:Frame} (h:sfx k x=sfx k y):x=y:=by
  cases x;cases y
  simp only [sfx,Frame.mk.injEq] at h ⊢
  simp_all
theorem sfxL_length {k:List Item}:∀ a:List Frame,(sfxL k a).length=a.length
  | []=>rfl
  | [y]=>rfl
  | y :: z :: l=>by simp [sfxL,sfxL_length (z :: l)]
theorem sfxL_inj {k:List Item}:∀ {a b:List Frame},sfxL k a=sfxL k b→a=b
  | [],b,h=>by
    have:=congrArg List.length h
    rw [sfxL_length,sfxL_length] at this
    cases b <;> simp_all
  | [y],b,h=>by
    have:=congrArg List.length h
    rw [sfxL_length,sfxL_length] at this
    match b,this with
    | [z],_=>simp only [sfxL,List.cons.injEq,and_true] at h;rw [sfx_inj h]
  | y :: z :: l,b,h=>by
    have:=congrArg List.length h
    rw [sfxL_length,sfxL_length] at this
    match b,this with
    | y' :: z' :: l',_ =>
      simp only [sfxL,List.cons.injEq] at h
      rw [h.1,sfxL_inj h.2]
theorem stk_inj {k:List Item} {x y:Frame} {a b cs:List Frame} (h:stk k x a cs=stk k y b cs):x=y∧a=b:=by
  cases a with
  | nil =>
    cases b with
    | nil=>simp only [stk,G,Goroutine.mk.injEq] at h;exact ⟨sfx_inj h.1,rfl⟩
    | cons z m =>
      simp only [stk,G,Goroutine.mk.injEq] at h
      have:=congrArg List.length h.2.1
      rw [List.length_append,sfxL_length] at this
      simp at this
  | cons y' l =>
    cases b with
    | nil =>
      simp only [stk,G,Goroutine.mk.injEq] at h
      have:=congrArg List.length h.2.1
      rw [List.length_append,sfxL_length] at this
      simp at this
    | cons z m =>
      simp only [stk,G,Goroutine.mk.injEq] at h
      exact ⟨h.1,sfxL_inj (List.append_cancel_right h.2.1)⟩
theorem stk_running {k:List Item} {x:Frame} {a cs:List Frame}:(stk k x a cs).status=.running:=by cases a <;> rfl
def HidOk (H:Nat→Prop) (w:World):Prop:=∀ k,H k→∃ c e,w.heap[k]?=some (.cells c e (0,0))∧0 < c.size
open Classical in
noncomputable def maskO (H:Nat→Prop) (k:Nat) (o:Obj):Obj:=if H k then .coro none else match o with | .view _ u=>.view ⟨k,0,none⟩ u | .pending ..=>.coro none | o=>o
noncomputable def maskH (H:Nat→Prop) (w:World):Array Obj:=w.heap.mapIdx (maskO H)
noncomputable def mask (H:Nat→Prop) (w:World) (t:Tape) (d:Nat):World:={ w with heap:=maskH H w,tape:=t,drawn:=d }
theorem maskH_get (H:Nat→Prop) (w:World) (k:Nat):(maskH H w)[k]?=(w.heap[k]?).map (maskO H k):=by simp [maskH]
theorem masked_of {H:Nat→Prop} {v w:World} (h:HidOk H w) (e1:v.heap=maskH H w) (e2:v.os=w.os) (e3:v.output=w.output) {L:Nat} (ht:∀ i q,i < L→v.tape (v.drawn + i) q=w.tape (w.drawn + i) q):Masked H L v w:=by
  refine ⟨by rw [e1];simp [maskH],e2,e3,fun k hk=>?_,fun k hk=>?_,ht⟩
  · rw [e1,maskH_get]
    cases ho:w.heap[k]? with
    | none=>exact .inl ⟨rfl,(fun _ _ h=>by cases h),(fun _ _ h=>by cases h)⟩
    | some o =>
      cases o <;> simp [maskO,hk]
  · obtain ⟨c,e,h1,h2⟩:=h k hk
    refine ⟨c,e,h1,h2,?_⟩
    rw [e1,maskH_get,h1]
    simp [maskO,hk]
theorem masked_mask {H:Nat→Prop} {w:World} (h:HidOk H w) {L:Nat} {t:Tape} {d:Nat} (ht:∀ i q,i < L→t (d + i) q=w.tape (w.drawn + i) q):Masked H L (mask H w t d) w:=masked_of (v:=mask H w t d) h rfl rfl rfl ht
theorem Masked.heap {H:Nat→Prop} {L:Nat} {v w:World} (M:Masked H L v w):v.heap=maskH H w:=by
  apply Array.ext_getElem?
  intro k
  rw [maskH_get]
  by_cases hk:H k
  · obtain ⟨c,e,h1,h2,h3⟩:=M.hid k hk
    rw [h1,h3];simp [maskO,hk]
  · rcases M.free k hk with ⟨h1,h2,h3⟩ | ⟨a,u,h1,h2⟩ | ⟨a,u,h1,h2⟩
    · rw [h1]
      cases ho:w.heap[k]? with
      | none=>rfl
      | some o =>
        rw [ho] at h2 h3
        cases o <;> first | (simp [maskO,hk];done) | exact absurd rfl (h2 _ _) | exact absurd rfl (h3 _ _)
    · rw [h1,h2];simp [maskO,hk]
    · rw [h1,h2];simp [maskO,hk]
theorem Masked.hidOk {H:Nat→Prop} {L:Nat} {v w:World} (M:Masked H L v w):HidOk H w:=fun k hk=>by
  obtain ⟨c,e,h1,h2,_⟩:=M.hid k hk
  exact ⟨c,e,h1,h2⟩
structure SameT (v u:World):Prop where
  heap:u.heap=v.heap
  os:u.os=v.os
  out:u.output=v.output
  tape:∀ i q,u.tape (u.drawn + i) q=v.tape (v.drawn + i) q
theorem canon_masked {v u:World} (hv:NoPend v) (h1:u.heap=v.heap) (h2:u.os=v.os) (h3:u.output=v.output) {L:Nat} (ht:∀ i q,i < L→v.tape (v.drawn + i) q=u.tape (u.drawn + i) q):Masked (fun _=>False) L v u:=by
  refine ⟨by rw [h1],h2.symm,h3.symm,fun k _=>?_,fun k hk=>hk.elim,ht⟩
  rw [h1]
  cases ho:v.heap[k]? with
  | none=>exact .inl ⟨rfl,(fun _ _ h=>by cases h),(fun _ _ h=>by cases h)⟩
  | some o =>
    cases o
    case pending c e=>exact absurd ho ((hv k).1 _ _)
    case view b t =>
      have:=(hv k).2 _ _ ho
      subst this
      exact .inr (.inl ⟨_,_,rfl,rfl⟩)
    all_goals exact .inl ⟨rfl,(fun _ _ h=>by cases h),(fun _ _ h=>by cases h)⟩
theorem masked_heap_false {L:Nat} {v u:World} (M:Masked (fun _=>False) L v u) (hu:NoPend u):u.heap=v.heap:=by
  apply Array.ext_getElem?
  intro k
  rcases M.free k (fun h=>h) with ⟨h1,_⟩ | ⟨a,t,h1,h2⟩ | ⟨a,t,h1,h2⟩
  · exact h1.symm
  · rw [h1,h2,(hu k).2 _ _ h1]
  · exact absurd h1 ((hu k).1 _ _)
theorem SameT.masked {v u:World} (h:SameT v u) {H:Nat→Prop} {L:Nat} {w:World} (M:Masked H L u w):Masked H L v w :=
  ⟨by rw [← h.heap];exact M.size,h.os.symm.trans M.os,h.out.symm.trans M.out,by rw [← h.heap];exact M.free,by rw [← h.heap];exact M.hid,fun i q hi=>(h.tape i q).symm.trans (M.tape i q hi)⟩
structure Move (P:Program) (Ks:List Item→Prop) (x:Frame) (a:List Frame) (v:World) (x':Frame) (a':List Frame) (v':World):Prop where
  lone:∃ es,∀ main k cs,Ks k→stepG P main (stk k x a cs) v=.go (stk k x' a' cs) v' es
  sim:∀ H L w,Masked H L v w→v'.drawn≤v.drawn + L→∃ w' es,(∀ main k cs,Ks k→stepG P main (stk k x a cs) w=.go (stk k x' a' cs) w' es)∧Behind H L v w v' w' es
inductive Ends (P:Program) (Ks:List Item→Prop) (DoneP:Frame→World→Prop):Frame→List Frame→World→Prop
  | done {x:Frame} {v:World} (h:DoneP x v):Ends P Ks DoneP x [] v
  | step {x:Frame} {a:List Frame} {v:World} {x':Frame} {a':List Frame} {v':World} (h:Move P Ks x a v x' a' v') (ih:Ends P Ks DoneP x' a' v'):Ends P Ks DoneP x a v
structure Goal (P:Program) (Ks:List Item→Prop) (DoneP:Frame→World→Prop):Prop where
  some:∃ k,Ks k
  heap:∀ x v u,NoPend v→u.heap=v.heap→u.os=v.os→u.output=v.output→DoneP x v→DoneP x u
  stays:∀ x v x' a' v',DoneP x v→¬ ∃ u es,(∀ main k cs,Ks k→stepG P main (stk k x [] cs) u=.go (stk k x' a' cs) v' es)
theorem Masked.zero {H:Nat→Prop} {L:Nat} {v w:World} (M:Masked H L v w):Masked H 0 v w:=M.fewer (Nat.zero_le _)
variable {P:Program} {Ks:List Item→Prop} {DoneP:Frame→World→Prop}
theorem Move.lone_sim {x x':Frame} {a a':List Frame} {v v':World} (hk:∃ k,Ks k) (h:Move P Ks x a v x' a' v') (hv:NoPend v):v'.tape=v.tape∧NoPend v'∧v.drawn≤v'.drawn:=by
  obtain ⟨k,hk⟩:=hk
  obtain ⟨w',es,h1,B⟩:=h.sim (fun _=>False) v'.drawn v (canon_masked hv rfl rfl rfl fun _ _ _=>rfl) (by omega)
  obtain ⟨fs,h2⟩:=h.lone
  have e:=(h1 true k [] hk).symm.trans (h2 true k [] hk)
  injection e with _ e2
  subst e2
  exact ⟨B.treads.tape,B.np hv,B.le⟩
theorem Move.shift {x x':Frame} {a a':List Frame} {v v' u:World} (hk:∃ k,Ks k) (h:Move P Ks x a v x' a' v') (hv:NoPend v) (e1:u.heap=v.heap) (e2:u.os=v.os) (e3:u.output=v.output)
    (ht:∀ i q,i < v'.drawn - v.drawn→u.tape (u.drawn + i) q=v.tape (v.drawn + i) q) :
    ∃ u',(∃ es,∀ main k cs,Ks k→stepG P main (stk k x a cs) u=.go (stk k x' a' cs) u' es)∧u'.heap=v'.heap∧u'.os=v'.os∧u'.output=v'.output∧u'.tape=u.tape∧u'.drawn + v.drawn=u.drawn + v'.drawn:=by
  have hu:NoPend u:=fun k=>by rw [e1];exact hv k
  have hle:=(h.lone_sim hk hv).2.2
  obtain ⟨u',es,h1,B⟩:=h.sim (fun _=>False) (v'.drawn - v.drawn) u (canon_masked hv e1 e2 e3 fun i q hi=>(ht i q hi).symm) (by omega)
  exact ⟨u',⟨es,h1⟩,masked_heap_false B.masked (B.np hu),B.masked.os.symm,B.masked.out.symm,B.treads.tape,B.drawn⟩
theorem SameT.noPend {v u:World} (h:SameT v u) (hv:NoPend v):NoPend u:=fun k=>by rw [h.heap];exact hv k
theorem Ends.shift (hG:Goal P Ks DoneP) {x:Frame} {a:List Frame} {v:World} (h:Ends P Ks DoneP x a v):∀ u,NoPend v→SameT v u→Ends P Ks DoneP x a u:=by
  induction h with
  | @done x v h=>exact fun u hv S=>.done (hG.heap _ _ _ hv S.heap S.os S.out h)
  | @step x a v x' a' v' h _ ih =>
    intro u hv S
    have hu:=S.noPend hv
    obtain ⟨u',h1,e1,e2,e3,e4,e5⟩:=h.shift hG.some hv S.heap S.os S.out fun i q _=>S.tape i q
    obtain ⟨t1,np',hle⟩:=h.lone_sim hG.some hv
    have S':SameT v' u':=⟨e1,e2,e3,fun i q=>by
      have:=S.tape (v'.drawn - v.drawn + i) q
      rw [e4,t1]
      have a1:u'.drawn=u.drawn + (v'.drawn - v.drawn):=by omega
      have a2:v'.drawn=v.drawn + (v'.drawn - v.drawn):=by omega
      rw [a1,Nat.add_assoc,this]
      congr 1
      omega⟩
    refine .step (v':=u') ⟨h1,fun H L w M hL=>?_⟩ (ih u' np' S')
    obtain ⟨w',es,h2,B⟩:=h.sim H L w (S.masked M) (by omega)
    refine ⟨w',es,h2,⟨?_,B.treads,by have:=B.drawn;omega,by omega,B.np⟩⟩
    have:=B.masked
    exact ⟨by rw [S'.heap];exact this.size,S'.os.trans this.os,S'.out.trans this.out,by rw [S'.heap];exact this.free,by rw [S'.heap];exact this.hid,fun i q hi=>(S'.tape i q).trans (this.tape i q (by omega))⟩
structure RH (H:Nat→Prop) (w w₁:World):Prop where
  os:w₁.os=w.os
  out:w₁.output=w.output
  tape:w₁.tape=w.tape
  size:w₁.heap.size=w.heap.size
  free:∀ k,¬ H k→w₁.heap[k]?=w.heap[k]?
  hid:HidOk H w→HidOk H w₁
theorem RH.refl (H:Nat→Prop) (w:World):RH H w w:=⟨rfl,rfl,rfl,rfl,fun _ _=>rfl,id⟩
theorem RH.trans {H:Nat→Prop} {a b c:World} (h:RH H a b) (k:RH H b c):RH H a c :=
  ⟨k.os.trans h.os,k.out.trans h.out,k.tape.trans h.tape,k.size.trans h.size,fun x hx=>(k.free x hx).trans (h.free x hx),fun x=>k.hid (h.hid x)⟩
theorem RH.at (H:Nat→Prop) (w:World) (d:Nat):RH H w (w.at d):=⟨rfl,rfl,rfl,rfl,fun _ _=>rfl,id⟩
theorem RH.mask {H:Nat→Prop} {w w₁:World} (h:RH H w w₁) (ok:HidOk H w):maskH H w₁=maskH H w:=by
  apply Array.ext_getElem?
  intro k
  rw [maskH_get,maskH_get]
  by_cases hk:H k
  · obtain ⟨c,e,h1,_⟩:=ok k hk
    obtain ⟨c',e',h2,_⟩:=h.hid ok k hk
    rw [h1,h2];simp [maskO,hk]
  · rw [h.free k hk]
section
variable {P:Program} {H:Nat→Prop} {Ks:List Item→Prop} {DoneP:Frame→World→Prop}
def LoneOK (P:Program) (H:Nat→Prop) (Ks:List Item→Prop) (DoneP:Frame→World→Prop) (x:Frame) (a:List Frame) (w:World):Prop:=∀ v,Masked H 0 v w→Ends P Ks DoneP x a v
structure Steps1 (P:Program) (H:Nat→Prop) (Ks:List Item→Prop) (x:Frame) (a:List Frame) (w₁:World) (x':Frame) (a':List Frame) (w':World) (es:Array Event):Prop where
  go:∀ main k cs,Ks k→stepG P main (stk k x a cs) w₁=.go (stk k x' a' cs) w' es
  treads:Treads H w₁ w' es
  le:w₁.drawn≤w'.drawn
  lone:∀ v,v.heap=maskH H w₁→v.os=w₁.os→v.output=w₁.output→(∀ i q,i < w'.drawn - w₁.drawn→v.tape (v.drawn + i) q=w₁.tape (w₁.drawn + i) q) →
    ∃ v',(∃ es,∀ main k cs,Ks k→stepG P main (stk k x a cs) v=.go (stk k x' a' cs) v' es)∧v'.heap=maskH H w'∧v'.os=w'.os∧v'.output=w'.output∧v'.tape=v.tape∧v'.drawn=v.drawn + (w'.drawn - w₁.drawn)
theorem lone_det (hk:∃ k,Ks k) {x x' y':Frame} {a a' b':List Frame} {v v' u':World} (h:∃ es,∀ main k cs,Ks k→stepG P main (stk k x a cs) v=.go (stk k x' a' cs) v' es) (k:∃ es,∀ main k cs,Ks k→stepG P main (stk k x a cs) v=.go (stk k y' b' cs) u' es):y'=x'∧b'=a'∧u'=v':=by
  obtain ⟨k0,hk⟩:=hk
  obtain ⟨es,h⟩:=h
  obtain ⟨fs,k⟩:=k
  have e:=(h true k0 [] hk).symm.trans (k true k0 [] hk)
  injection e with e1 e2
  obtain ⟨e3,e4⟩:=stk_inj e1
  exact ⟨e3.symm,e4.symm,e2.symm⟩
theorem treads_hid {w w':World} {es:Array Event} (h:Treads H w w' es) (ok:HidOk H w):HidOk H w':=fun k hk=>by
  obtain ⟨c,e,h1,h2⟩:=ok k hk
  exact ⟨c,e,by rw [h.kept k hk];exact h1,h2⟩
theorem loneOK_step (hG:Goal P Ks DoneP) {x:Frame} {a:List Frame} {w w₁:World} (ok:HidOk H w) (h:LoneOK P H Ks DoneP x a w) (r:RH H w w₁) :
    (a=[]∧∃ v',Masked H 0 v' w₁∧DoneP x v') ∨
    ∃ x' a' w' es,Steps1 P H Ks x a w₁ x' a' w' es∧LoneOK P H Ks DoneP x' a' w':=by
  have ok₁:=r.hid ok
  have h₁:LoneOK P H Ks DoneP x a w₁:=fun v M=>h v (masked_of ok (by rw [M.heap,r.mask ok]) (M.os.trans r.os) (M.out.trans r.out) fun i q hi=>by omega)
  have Ma:∀ L,Masked H L (mask H w₁ w₁.tape w₁.drawn) w₁:=fun L=>masked_mask ok₁ fun _ _ _=>rfl
  have np:NoPend (mask H w₁ w₁.tape w₁.drawn):=(Ma 0).noPend
  generalize hva:mask H w₁ w₁.tape w₁.drawn=va at Ma np
  have hd:va.drawn=w₁.drawn:=by rw [← hva];rfl
  have ht:va.tape=w₁.tape:=by rw [← hva];rfl
  cases h₁ va (Ma 0) with
  | done hp=>exact .inl ⟨rfl,va,Ma 0,hp⟩
  | @step _ _ _ x' a' v' hm _ =>
    refine .inr ?_
    have hle:=(hm.lone_sim hG.some np).2.2
    obtain ⟨w',es,h1,B⟩:=hm.sim H (v'.drawn - va.drawn) w₁ (Ma _) (by omega)
    have hdr:=B.drawn
    have e1:=B.masked.heap
    refine ⟨x',a',w',es,⟨h1,B.treads,by omega,fun v hv1 hv2 hv3 hv4=>?_⟩,fun u Mu=>?_⟩
    · obtain ⟨v2,g1,g2,g3,g4,g5,g6⟩:=hm.shift hG.some np (u:=v) (by rw [hv1,(Ma 0).heap]) (hv2.trans (Ma 0).os.symm) (hv3.trans (Ma 0).out.symm) fun i q hi=>by
        rw [hv4 i q (by omega),hd,ht]
      exact ⟨v2,g1,g2.trans e1,g3.trans B.masked.os,g4.trans B.masked.out,g5,by omega⟩
    ·
      let t:Tape:=fun n q=>if n < v'.drawn - va.drawn then w₁.tape (w₁.drawn + n) q else u.tape (u.drawn + (n - (v'.drawn - va.drawn))) q
      have M0:Masked H 0 (mask H w₁ t 0) w₁:=masked_mask ok₁ fun _ _ hi=>by omega
      obtain ⟨v2,g1,g2,g3,g4,g5,g6⟩:=hm.shift hG.some np (u:=mask H w₁ t 0) (by rw [(Ma 0).heap];rfl) (M0.os.trans (Ma 0).os.symm) (M0.out.trans (Ma 0).out.symm) fun i q hi=>by
        show t (0 + i) q=_
        simp only [t,Nat.zero_add]
        rw [if_pos hi,hd,ht]
      have g6':v2.drawn=v'.drawn - va.drawn:=by
        have:(mask H w₁ t 0).drawn=0:=rfl
        omega
      have E:=h₁ _ M0
      have np2:NoPend v2:=fun k=>by rw [g2];exact (hm.lone_sim hG.some np).2.1 k
      have E2:Ends P Ks DoneP x' a' v2:=by
        cases E with
        | done hp =>
          exfalso
          obtain ⟨fs,k'⟩:=g1
          exact hG.stays _ _ _ _ _ hp ⟨_,fs,k'⟩
        | @step _ _ _ y' b' u' hm' ih' =>
          obtain ⟨rfl,rfl,rfl⟩:=lone_det hG.some g1 hm'.lone
          exact ih'
      refine E2.shift hG u np2 ⟨?_,?_,?_,fun i q=>?_⟩
      · rw [Mu.heap,g2,e1]
      · rw [Mu.os,g3,B.masked.os]
      · rw [Mu.out,g4,B.masked.out]
      · rw [g5,g6']
        show _=t _ q
        simp only [t]
        rw [if_neg (by omega)]
        congr 2
        omega
theorem GoesI.step' {main:Bool} {R:World→World→Prop} {D:World→World→Array Event→Prop} {Stop:Goroutine→World→Prop} {g:Goroutine} {w:World} (hs:g.status=.running)
    (h:∀ w₁,R w w₁→∃ g' w' es,stepG P main g w₁=.go g' w' es∧D w₁ w' es∧GoesI P main R D Stop g' w'):GoesI P main R D Stop g w:=by
  classical
  have h':∀ w₁,∃ n:Goroutine × World × Array Event,R w w₁→stepG P main g w₁=.go n.1 n.2.1 n.2.2∧D w₁ n.2.1 n.2.2∧GoesI P main R D Stop n.1 n.2.1:=fun w₁=>by
    by_cases hr:R w w₁
    · obtain ⟨g',w',es,h1,h2,h3⟩:=h w₁ hr
      exact ⟨(g',w',es),fun _=>⟨h1,h2,h3⟩⟩
    · exact ⟨default,fun x=>absurd x hr⟩
  exact .step hs (fun w₁=>(h' w₁).choose) (fun w₁ hr=>⟨((h' w₁).choose_spec hr).1,((h' w₁).choose_spec hr).2.1⟩) (fun w₁ hr=>((h' w₁).choose_spec hr).2.2)
def Came (H:Nat→Prop) (DoneP:Frame→World→Prop) (k:List Item) (cs:List Frame) (g:Goroutine) (w':World):Prop:=∃ x v',g=stk k x [] cs∧Masked H 0 v' w'∧DoneP x v'
section
variable {main:Bool} {R:World→World→Prop} {D:World→World→Array Event→Prop} {k:List Item} {cs:List Frame}
structure Bad (P:Program) (main:Bool) (R:World→World→Prop) (D:World→World→Array Event→Prop) (H:Nat→Prop) (Ks:List Item→Prop) (DoneP:Frame→World→Prop) (k:List Item) (cs:List Frame) (s:Frame × List Frame × World):Prop where
  lone:LoneOK P H Ks DoneP s.1 s.2.1 s.2.2
  hid:HidOk H s.2.2
  not:¬ GoesI P main R D (Came H DoneP k cs) (stk k s.1 s.2.1 cs) s.2.2
theorem bad_next (hG:Goal P Ks DoneP) (hk:Ks k) (hR:∀ w w₁,R w w₁→RH H w w₁) (hD:∀ w w' es,Treads H w w' es→D w w' es)
    {s:Frame × List Frame × World} (b:Bad P main R D H Ks DoneP k cs s):∃ n:World × (Frame × List Frame × World),R s.2.2 n.1∧(∃ es,Steps1 P H Ks s.1 s.2.1 n.1 n.2.1 n.2.2.1 n.2.2.2 es)∧Bad P main R D H Ks DoneP k cs n.2:=by
  by_cases hn:∃ n:World × (Frame × List Frame × World),R s.2.2 n.1∧(∃ es,Steps1 P H Ks s.1 s.2.1 n.1 n.2.1 n.2.2.1 n.2.2.2 es)∧Bad P main R D H Ks DoneP k cs n.2
  · exact hn
  exfalso
  by_cases hd:∃ w₁,R s.2.2 w₁∧s.2.1=[]∧∃ v',Masked H 0 v' w₁∧DoneP s.1 v'
  · obtain ⟨w₁,r,ha,v',M,hp⟩:=hd
    refine b.not (.stop fun w₂ r₂=>?_)
    rw [ha]
    refine ⟨s.1,v',rfl,?_,hp⟩
    have r1:=hR _ _ r
    have r2:=hR _ _ r₂
    exact masked_of (r2.hid b.hid) (by rw [M.heap,r1.mask b.hid,r2.mask b.hid]) ((M.os.trans r1.os).trans r2.os.symm) ((M.out.trans r1.out).trans r2.out.symm) fun i q hi=>by omega
  refine b.not (GoesI.step' stk_running fun w₁ r=>?_)
  rcases loneOK_step hG b.hid b.lone (hR _ _ r) with ⟨ha,v',M,hp⟩ | ⟨x',a',w',es,S,h'⟩
  · exact absurd ⟨w₁,r,ha,v',M,hp⟩ hd
  · refine ⟨stk k x' a' cs,w',es,S.go main k cs hk,hD _ _ _ S.treads,?_⟩
    by_cases hg:GoesI P main R D (Came H DoneP k cs) (stk k x' a' cs) w'
    · exact hg
    · exact absurd ⟨(w₁,x',a',w'),r,⟨es,S⟩,⟨h',treads_hid S.treads ((hR _ _ r).hid b.hid),hg⟩⟩ hn
theorem goes_of_lone (hG:Goal P Ks DoneP) (hk:Ks k) (hR:∀ w w₁,R w w₁→RH H w w₁) (hD:∀ w w' es,Treads H w w' es→D w w' es)
    {x:Frame} {a:List Frame} {w:World} (ok:HidOk H w) (h:LoneOK P H Ks DoneP x a w):GoesI P main R D (Came H DoneP k cs) (stk k x a cs) w:=by
  classical
  by_cases hg:GoesI P main R D (Came H DoneP k cs) (stk k x a cs) w
  · exact hg
  exfalso
  let S:={ s:Frame × List Frame × World // Bad P main R D H Ks DoneP k cs s }
  let nx:S→World × S:=fun s=>((bad_next hG hk hR hD s.2).choose.1,⟨(bad_next hG hk hR hD s.2).choose.2,(bad_next hG hk hR hD s.2).choose_spec.2.2⟩)
  have nxR:∀ s:S,R s.1.2.2 (nx s).1:=fun s=>(bad_next hG hk hR hD s.2).choose_spec.1
  have nxS:∀ s:S,∃ es,Steps1 P H Ks s.1.1 s.1.2.1 (nx s).1 (nx s).2.1.1 (nx s).2.1.2.1 (nx s).2.1.2.2 es:=fun s=>(bad_next hG hk hR hD s.2).choose_spec.2.1
  generalize nx=nx at nxR nxS
  let sq:Nat→S:=fun n=>Nat.rec ⟨(x,a,w),⟨h,ok,hg⟩⟩ (fun _ s=>(nx s).2) n
  have sq0:(sq 0).1=(x,a,w):=rfl
  have sq1:∀ n,sq (n + 1)=(nx (sq n)).2:=fun n=>rfl
  let w1:Nat→World:=fun n=>(nx (sq n)).1
  let k:Nat→Nat:=fun n=>(sq (n + 1)).1.2.2.drawn - (w1 n).drawn
  let sm:Nat→Nat:=fun n=>Nat.rec 0 (fun i s=>s + k i) n
  have sm1:∀ n,sm (n + 1)=sm n + k n:=fun n=>rfl
  have smm:∀ i j,i≤j→sm i≤sm j:=fun i j hij=>by
    induction hij with
    | refl=>exact Nat.le_refl _
    | step _ ih=>rw [sm1];omega
  let In:Nat→Nat→Prop:=fun n i=>sm i≤n∧n < sm (i + 1)
  have uniq:∀ n i j,In n i→In n j→i=j:=fun n i j hi hj=>by
    rcases Nat.lt_trichotomy i j with hl | rfl | hl
    · have:=smm (i + 1) j hl;have:=hi.2;have:=hj.1;omega
    · rfl
    · have:=smm (j + 1) i hl;have:=hj.2;have:=hi.1;omega
  let t:Tape:=fun n q=>if hn:∃ i,In n i then (w1 hn.choose).tape ((w1 hn.choose).drawn + (n - sm hn.choose)) q else 0
  have tt:∀ i j q,j < k i→t (sm i + j) q=(w1 i).tape ((w1 i).drawn + j) q:=fun i j q hj=>by
    have hin:In (sm i + j) i:=⟨by omega,by rw [sm1];omega⟩
    have hex:∃ i',In (sm i + j) i':=⟨i,hin⟩
    show (if hn:∃ i',In (sm i + j) i' then _ else 0)=_
    rw [dif_pos hex]
    have e:=uniq _ _ _ hex.choose_spec hin
    rw [e]
    congr 1
    omega
  have okS:∀ n,HidOk H (sq n).1.2.2:=fun n=>(sq n).2.hid
  have w1mask:∀ n,maskH H (w1 n)=maskH H (sq n).1.2.2:=fun n=>(hR _ _ (nxR (sq n))).mask (okS n)
  have key:∀ (y:Frame) (b:List Frame) (v:World),Ends P Ks DoneP y b v→∀ i,(sq i).1.1=y→(sq i).1.2.1=b→v.heap=maskH H (w1 i)→v.os=(w1 i).os→v.output=(w1 i).output→v.tape=t→v.drawn=sm i→False:=by
    intro y b v E
    induction E with
    | @done y v hp =>
      intro i e1 e2 h1 h2 h3 h4 h5
      obtain ⟨es,S1⟩:=nxS (sq i)
      obtain ⟨v',⟨fs,g⟩,_⟩:=S1.lone v h1 h2 h3 fun j q hj=>by rw [h4,h5];exact tt i j q hj
      rw [e1,e2] at g
      exact hG.stays _ _ _ _ _ hp ⟨_,fs,g⟩
    | @step y b v y' b' v' hm _ ih =>
      intro i e1 e2 h1 h2 h3 h4 h5
      obtain ⟨es,S1⟩:=nxS (sq i)
      obtain ⟨v2,g,g2,g3,g4,g5,g6⟩:=S1.lone v h1 h2 h3 fun j q hj=>by rw [h4,h5];exact tt i j q hj
      rw [e1,e2] at g
      obtain ⟨f1,f2,rfl⟩:=lone_det hG.some g hm.lone
      have r:=hR _ _ (nxR (sq (i + 1)))
      refine ih (i + 1) f1.symm f2.symm (Eq.trans g2 (w1mask (i + 1)).symm) (g3.trans r.os.symm) (g4.trans r.out.symm) (g5.trans h4) ?_
      rw [g6,h5,sm1]
  have r0:=hR _ _ (nxR (sq 0))
  have ok0:HidOk H (w1 0):=r0.hid ok
  have M:Masked H 0 (mask H (w1 0) t 0) w:=masked_of (v:=mask H (w1 0) t 0) ok (w1mask 0) r0.os r0.out fun i q hi=>absurd hi (Nat.not_lt_zero _)
  exact key x a _ (h _ M) 0 rfl rfl rfl rfl rfl rfl rfl
end
end
end Go.Proofs.Ytndppafplgilbaa
namespace Go.Proofs.Ytndppafplgilbaa
open Go Go.Conc
def deadF (f:FuncId):Frame:={ fn:=f,tmps:=#[],todo:=[.code (.refuse "")],defers:=[{ target:=.nil,args:=#[] }],mode:=.run,kind:=.normal }
def mark0:List Item:=[.code (.refuse "")]
section
variable {P:Program} {D:Dyn}
theorem lone_step {x x':Frame} {cs cs':List Frame} {v v':World} {es:Array Event} (h:stepG P true (G x cs) v=.go (G x' cs') v' es):step P (lone x cs v)=.next (lone x' cs' v') :=
  step_lone_go (by show (stepG P true (G x cs) v).bare=_;rw [h];rfl)
theorem lone_stop {x:Frame} {cs:List Frame} {v:World} (h:Ended (stepG P true (G x cs) v)) (m:Machine):step P (lone x cs v)≠.next m:=by
  cases hs:stepG P true (G x cs) v with
  | ended o w es =>
    have:step P (lone x cs v)=.ended o w:=step_lone_ended (by show (stepG P true (G x cs) v).bare=_;rw [hs];rfl)
    rw [this];intro e;cases e
  | _=>rw [hs] at h;exact h.elim
theorem lone_inj {x x':Frame} {cs cs':List Frame} {v v':World} (h:lone x cs v=lone x' cs' v'):x=x'∧cs=cs'∧v=v':=by
  simp only [lone,Machine.mk.injEq] at h
  have:=h.2.1
  simp at this
  exact ⟨this.1,this.2,h.1⟩
theorem runN_succ {n:Nat} {m m':Machine} (h:runN P (n + 1) m=.next m'):∃ m₁,step P m=.next m₁∧runN P n m₁=.next m':=by
  unfold runN at h
  cases hs:step P m with
  | next m₁=>rw [hs] at h;exact ⟨m₁,rfl,h⟩
  | ended o w=>rw [hs] at h;cases h
def lstk (k:List Item) (x:Frame) (a cs:List Frame) (v:World):Machine:=match a with
  | []=>lone (sfx k x) cs v
  | y :: l=>lone x (sfxL k (y :: l) ++ cs) v
theorem lstk_step {k:List Item} {x x':Frame} {a a' cs:List Frame} {v v':World} {es:Array Event} (h:stepG P true (stk k x a cs) v=.go (stk k x' a' cs) v' es):step P (lstk k x a cs v)=.next (lstk k x' a' cs v'):=by
  cases a <;> cases a' <;> exact lone_step h
def OkW (P:Program) (D:Dyn) (y:Frame):Prop:=∃ f tmps ops i rest t,y=fr f tmps (.inRegion ops (i :: rest) :: t) .run∧OkF P D f tmps (.inRegion ops (i :: rest) :: t)∧∀ o d,ops[i]?=some o→o.dst=some d→d ∉ D.G f
theorem dead_stop (f:FuncId) (cs:List Frame) (v:World):Ended (stepG P true (G (deadF f) cs) v):=by
  simp [G,stepG,stepG.exec,deadF,Ended]
theorem dead_panics (f:FuncId) (chain:List PanicEntry) (v:World):Ended (stepG P true (G ((deadF f).raise chain) []) v):=by
  simp [G,stepG,unwind,callDeferred,deadF,Frame.raise,Ended]
theorem mark_stop (f:FuncId) (tmps:Array Value) (main:Bool) (cs:List Frame) (v:World):Ended (stepG P main (G (fr f tmps mark0 .run) cs) v):=by
  simp [G,stepG,stepG.exec,fr,mark0,Ended]
theorem mark_exit (id:Nat):exitTo id mark0=none:=by simp [mark0,exitTo]
def Bare (P:Program) (l:List Frame):Prop:=∀ z∈l,∃ g tb kb fn,z=fr g tb kb .run∧P.funcs[g]?=some fn
theorem bare_sfxL {k:List Item}:∀ {a:List Frame},(∀ z∈a,OkW P D z)→Bare P (sfxL k a)
  | [],_=>fun z hz=>by simp [sfxL] at hz
  | [y],h=>fun z hz=>by
    simp only [sfxL,List.mem_singleton] at hz
    obtain ⟨f,tmps,ops,i,rest,t,rfl,ok,_⟩:=h y (List.mem_singleton.2 rfl)
    obtain ⟨fn,hfn⟩:=ok.there
    exact ⟨_,_,_,fn,hz,hfn⟩
  | y :: y' :: l,h=>fun z hz=>by
    simp only [sfxL,List.mem_cons] at hz
    rcases hz with rfl | hz
    · obtain ⟨f,tmps,ops,i,rest,t,rfl,ok,_⟩:=h z (List.mem_cons_self ..)
      obtain ⟨fn,hfn⟩:=ok.there
      exact ⟨_,_,_,fn,rfl,hfn⟩
    · exact bare_sfxL (a:=y' :: l) (fun z hz=>h z (List.mem_cons_of_mem _ hz)) z hz
theorem doom {c:FuncId} {y:Frame} {u:World} (hy:∀ chain,y.mode≠.panicking chain):∀ (N:Nat) (a:List Frame),Bare P a→∀ {f:FuncId} {tmps:Array Value} {todo:List Item} {chain:List PanicEntry} {v:World},(∃ fn,P.funcs[f]?=some fn) →
    runN P N (lone (fr f tmps todo (.panicking chain)) (a ++ [deadF c]) v)≠.next (lone y [deadF c] u):=by
  intro N
  induction N with
  | zero =>
    intro a ha f tmps todo chain v hf h
    simp only [runN,Stepped.next.injEq] at h
    obtain ⟨rfl,_⟩:=lone_inj h
    exact hy chain rfl
  | succ N ih =>
    intro a ha f tmps todo chain v ⟨fn,hf⟩ h
    obtain ⟨m,h1,h2⟩:=runN_succ h
    cases a with
    | nil =>
      have:step P (lone (fr f tmps todo (.panicking chain)) ([] ++ [deadF c]) v)=.next (lone ((deadF c).raise chain) [] v):=lone_step (es:=#[]) (by simp [G,stepG,unwind,fr,Frame.catches,hf])
      rw [this] at h1
      cases h1
      cases N with
      | zero =>
        simp only [runN,Stepped.next.injEq] at h2
        have:=(lone_inj h2).2.1
        cases this
      | succ N =>
        obtain ⟨m',h3,_⟩:=runN_succ h2
        exact lone_stop (dead_panics c chain v) m' h3
    | cons b rest =>
      obtain ⟨g,tb,kb,fb,rfl,hfb⟩:=ha b (List.mem_cons_self ..)
      have:step P (lone (fr f tmps todo (.panicking chain)) ((fr g tb kb .run :: rest) ++ [deadF c]) v)=.next (lone (fr g tb kb (.panicking chain)) (rest ++ [deadF c]) v):=lone_step (es:=#[]) (by simp [G,stepG,unwind,fr,Frame.catches,Frame.raise,hf])
      rw [this] at h1
      cases h1
      exact ih rest (fun z hz=>ha z (List.mem_cons_of_mem _ hz)) ⟨fb,hfb⟩ h2
theorem ends_of_steps (C:Closed P D) {Ks:List Item→Prop} {m:List Item} (hm:Ks m) (hK:(m=[]∧∀ k,Ks k→k=[])∨m=mark0) {DoneP:Frame→World→Prop} {c:FuncId} {y:Frame} {u:World} (hy:y.mode=.returning∨y.mode=.run) (hD:∀ f tmps todo mode,OkF P D f tmps todo→NoPend u→sfx m (fr f tmps todo mode)=y→DoneP (fr f tmps todo mode) u) :
    ∀ (N:Nat) (f:FuncId) (tmps:Array Value) (todo:List Item) (mode:FrameMode) (a:List Frame) (v:World),OkF P D f tmps todo→(mode=.run∨mode=.returning)→(∀ z∈a,OkW P D z)→NoPend v →
      runN P N (lstk m (fr f tmps todo mode) a [deadF c] v)=.next (lone y [deadF c] u)→Ends P Ks DoneP (fr f tmps todo mode) a v:=by
  have hm0:∀ id,exitTo id m=none:=fun id=>by
    rcases hK with ⟨rfl,_⟩ | rfl
    · simp [exitTo]
    · exact mark_exit id
  intro N
  induction N with
  | zero =>
    intro f tmps todo mode a v ok hmode ha np h
    simp only [runN,Stepped.next.injEq] at h
    cases a with
    | nil =>
      obtain ⟨e1,_,rfl⟩:=lone_inj h
      exact .done (hD _ _ _ _ ok np e1)
    | cons b rest =>
      obtain ⟨_,e2,_⟩:=lone_inj h
      have:=congrArg List.length e2
      rw [List.length_append,sfxL_length] at this
      simp at this
  | succ N ih =>
    intro f tmps todo mode a v ok hmode ha np h
    obtain ⟨m₁,h1,h2⟩:=runN_succ h
    rcases hmode with rfl | rfl
    · cases a with
      | nil =>
        by_cases hend:todo=[]∧m=mark0
        · exfalso
          obtain ⟨rfl,rfl⟩:=hend
          exact lone_stop (mark_stop f tmps true [deadF c] v) m₁ h1
        have hKt:todo≠[]∨∀ k,Ks k→k=[]:=by
          rcases hK with ⟨_,h⟩ | h
          · exact .inr h
          · exact .inl fun e=>hend ⟨e,h⟩
        cases res_run C (Kt:=Ks) (k0:=m) hm0 ok hKt np (tmps:=tmps) with
        | go tmps' todo' mode' v' lone sim ok' okm np' =>
          obtain ⟨es,hl⟩:=lone
          have e1:=lstk_step (k:=m) (a:=[]) (a':=[]) (cs:=[deadF c]) (x:=fr f tmps todo .run) (x':=fr f tmps' todo' mode') (hl true m [deadF c] hm)
          rw [e1] at h1
          cases h1
          refine .step (x':=fr f tmps' todo' mode') (a':=[]) (v':=v') ⟨⟨es,fun main k cs hk=>hl main k cs hk⟩,fun H L w M hL=>?_⟩ (ih f tmps' todo' mode' [] v' ok' okm (fun z hz=>by cases hz) np' h2)
          obtain ⟨w',es,h3,h4⟩:=sim H L w M hL
          exact ⟨w',es,fun main k cs hk=>h3 main k cs hk,h4⟩
        | call f' tmps' todo' v' lone sim ok' hF wait np' =>
          obtain ⟨es,hl⟩:=lone
          obtain ⟨ops,i,rest,t,rfl,hwt⟩:=wait
          have e1:=lstk_step (k:=m) (a:=[]) (a':=[fr f tmps (.inRegion ops (i :: rest) :: t) .run]) (cs:=[deadF c]) (x:=fr f tmps (.inRegion ops (i :: rest) :: t) .run) (x':=fr f' tmps' todo' .run) (hl true m [deadF c] hm)
          rw [e1] at h1
          cases h1
          refine .step (x':=fr f' tmps' todo' .run) (a':=[fr f tmps (.inRegion ops (i :: rest) :: t) .run]) (v':=v') ⟨⟨es,fun main k cs hk=>hl main k cs hk⟩,fun H L w M hL=>?_⟩ (ih f' tmps' todo' .run _ v' ok' (.inl rfl) (fun z hz=>by rw [List.mem_singleton] at hz;subst hz;exact ⟨_,_,_,_,_,_,rfl,ok,hwt⟩) np' h2)
          obtain ⟨w',es,h3,h4⟩:=sim H L w M hL
          exact ⟨w',es,fun main k cs hk=>h3 main k cs hk,h4⟩
        | raise chain v' lone =>
          obtain ⟨es,hl⟩:=lone
          have e1:=lone_step (hl true [deadF c])
          have:step P (lstk m (fr f tmps todo .run) [] [deadF c] v)=_:=e1
          rw [this] at h1
          cases h1
          exact absurd h2 (doom (by rintro chain e;rcases hy with h | h <;> rw [h] at e <;> cases e) N [] (fun z hz=>by cases hz) ok.there)
        | stop lone =>
          exfalso
          exact lone_stop (lone true (deadF c) []) m₁ h1
      | cons b rest =>
        cases res_run C (Kt:=(·=[])) (k0:=[]) (fun id=>by simp [exitTo]) ok (.inr fun k hk=>hk) np (tmps:=tmps) with
        | go tmps' todo' mode' v' lone sim ok' okm np' =>
          obtain ⟨es,hl⟩:=lone
          have hl':∀ main k cs,Ks k→stepG P main (stk k (fr f tmps todo .run) (b :: rest) cs) v=.go (stk k (fr f tmps' todo' mode') (b :: rest) cs) v' es:=fun main k cs _=>by
            have:=hl main [] (sfxL k (b :: rest) ++ cs) rfl
            rw [List.append_nil,List.append_nil] at this
            exact this
          have e1:=lstk_step (hl' true m [deadF c] hm)
          rw [e1] at h1
          cases h1
          refine .step (x':=fr f tmps' todo' mode') (a':=b :: rest) (v':=v') ⟨⟨es,hl'⟩,fun H L w M hL=>?_⟩ (ih f tmps' todo' mode' _ v' ok' okm ha np' h2)
          obtain ⟨w',es,h3,h4⟩:=sim H L w M hL
          exact ⟨w',es,fun main k cs hk=>(by
            have:=h3 main [] (sfxL k (b :: rest) ++ cs) rfl
            rw [List.append_nil,List.append_nil] at this
            exact this),h4⟩
        | call f' tmps' todo' v' lone sim ok' hF wait np' =>
          obtain ⟨es,hl⟩:=lone
          obtain ⟨ops,i,rest',t,rfl,hwt⟩:=wait
          have hl':∀ main k cs,Ks k→stepG P main (stk k (fr f tmps (.inRegion ops (i :: rest') :: t) .run) (b :: rest) cs) v=.go (stk k (fr f' tmps' todo' .run) (fr f tmps (.inRegion ops (i :: rest') :: t) .run :: b :: rest) cs) v' es:=fun main k cs _=>by
            have:=hl main [] (sfxL k (b :: rest) ++ cs) rfl
            rw [List.append_nil] at this
            exact this
          have e1:=lstk_step (hl' true m [deadF c] hm)
          rw [e1] at h1
          cases h1
          refine .step (x':=fr f' tmps' todo' .run) (a':=fr f tmps (.inRegion ops (i :: rest') :: t) .run :: b :: rest) (v':=v') ⟨⟨es,hl'⟩,fun H L w M hL=>?_⟩ (ih f' tmps' todo' .run _ v' ok' (.inl rfl) (fun z hz=>?_) np' h2)
          · obtain ⟨w',es,h3,h4⟩:=sim H L w M hL
            exact ⟨w',es,fun main k cs hk=>(by
              have:=h3 main [] (sfxL k (b :: rest) ++ cs) rfl
              rw [List.append_nil] at this
              exact this),h4⟩
          · rcases List.mem_cons.1 hz with rfl | hz
            · exact ⟨_,_,_,_,_,_,rfl,ok,hwt⟩
            · exact ha z hz
        | raise chain v' lone =>
          obtain ⟨es,hl⟩:=lone
          have e1:=lone_step (hl true (sfxL m (b :: rest) ++ [deadF c]))
          simp only [List.append_nil] at e1
          have:step P (lstk m (fr f tmps todo .run) (b :: rest) [deadF c] v)=_:=e1
          rw [this] at h1
          cases h1
          exact absurd h2 (doom (by rintro chain e;rcases hy with h | h <;> rw [h] at e <;> cases e) N _ (bare_sfxL ha) ok.there)
        | stop lone =>
          exfalso
          have hne:∃ d l,sfxL m (b :: rest) ++ [deadF c]=d :: l:=by cases rest <;> exact ⟨_,_,rfl⟩
          obtain ⟨d,l,hdl⟩:=hne
          have:=lone true d l
          rw [List.append_nil,← hdl] at this
          exact lone_stop this m₁ h1
    · cases a with
      | nil =>
        exfalso
        rcases res_back (todo:=todo ++ m) ok.there np (tmps:=tmps) with ⟨val',v',_,⟨es,h3⟩,h4,h5⟩ | hE
        · have e1:=lone_step (h3 true (deadF c) [])
          have:step P (lstk m (fr f tmps todo .returning) [] [deadF c] v)=_:=e1
          rw [this] at h1
          cases h1
          have e2:(deadF c).finish val'=deadF c:=rfl
          rw [e2] at h2
          cases N with
          | zero =>
            simp only [runN,Stepped.next.injEq] at h2
            have:=(lone_inj h2).2.1
            cases this
          | succ N =>
            obtain ⟨m',h6,_⟩:=runN_succ h2
            exact lone_stop (dead_stop c [] v') m' h6
        · exact lone_stop (hE true (deadF c) []) m₁ h1
      | cons b rest =>
        rcases res_back (todo:=todo) ok.there np (tmps:=tmps) with ⟨val',v',_,⟨es,h3⟩,h4,h5⟩ | hE
        ·
          obtain ⟨g,tb,ops,i,rst,t,rfl,okb,hwt⟩:=ha b (List.mem_cons_self ..)
          have okb':OkF P D g (putT tb ((ops[i]?).bind (·.dst)) val') (.inRegion ops rst :: t):=(OkF.cons (x:=.inRegion ops rst) okb.head okb.tail).with (slots_put okb.slots fun d hd hG=>by
            obtain ⟨o,ho,hd⟩:=Option.bind_eq_some_iff.1 hd
            exact absurd hG (hwt o d ho hd))
          have hfin:∀ k,(sfx k (fr g tb (.inRegion ops (i :: rst) :: t) .run)).finish val'=sfx k (fr g (putT tb ((ops[i]?).bind (·.dst)) val') (.inRegion ops rst :: t) .run):=fun k=>finish_fr ..
          have hmv:∀ (k:List Item) main cs u u' es,(∀ main d cs,stepG P main (G (fr f tmps todo .returning) (d :: cs)) u=.go (G (d.finish val') cs) u' es) →
              stepG P main (stk k (fr f tmps todo .returning) (fr g tb (.inRegion ops (i :: rst) :: t) .run :: rest) cs) u=.go (stk k (fr g (putT tb ((ops[i]?).bind (·.dst)) val') (.inRegion ops rst :: t) .run) rest cs) u' es:=fun k main cs u u' es hh=>by
            cases rest with
            | nil =>
              have:=hh main (sfx k (fr g tb (.inRegion ops (i :: rst) :: t) .run)) cs
              rw [hfin] at this
              exact this
            | cons z l =>
              have:=hh main (fr g tb (.inRegion ops (i :: rst) :: t) .run) (sfxL k (z :: l) ++ cs)
              rw [finish_fr] at this
              exact this
          have e1:=lstk_step (hmv m true [deadF c] v v' es h3)
          rw [e1] at h1
          cases h1
          refine .step (x':=fr g (putT tb ((ops[i]?).bind (·.dst)) val') (.inRegion ops rst :: t) .run) (a':=rest) (v':=v') ⟨⟨es,fun main k cs _=>hmv k main cs v v' es h3⟩,fun H L w M hL=>?_⟩ (ih g _ _ .run rest v' okb' (.inl rfl) (fun z hz=>ha z (List.mem_cons_of_mem _ hz)) h5 h2)
          obtain ⟨w',es,h6,h7⟩:=h4 H L w M hL
          exact ⟨w',es,fun main k cs _=>hmv k main cs w w' es h6,h7⟩
        · exfalso
          have hne:∃ d l,sfxL m (b :: rest) ++ [deadF c]=d :: l:=by cases rest <;> exact ⟨_,_,rfl⟩
          obtain ⟨d,l,hdl⟩:=hne
          have:=hE true d l
          rw [← hdl] at this
          exact lone_stop this m₁ h1
end
end Go.Proofs.Ytndppafplgilbaa
