/-
  larchlaw04.BatonThins returns true for every input. No condition. (Part 2 of 49; joined by program.)
-/
import Derived.Conc.Beside
set_option linter.unusedVariables false
set_option linter.unusedSimpArgs false
set_option linter.unusedSectionVars false
set_option maxRecDepth 100000
namespace Go.Proofs.Ytndppafplgilbaa
open Go Go.Conc
structure Masked (H:Nat→Prop) (L:Nat) (v w:World):Prop where
  size:v.heap.size=w.heap.size
  os:v.os=w.os
  out:v.output=w.output
  free:∀ k,¬ H k→(v.heap[k]?=w.heap[k]?∧(∀ at_ u,w.heap[k]?≠some (.view at_ u))∧∀ c e,w.heap[k]?≠some (.pending c e))∨(∃ at_ u,w.heap[k]?=some (.view at_ u)∧v.heap[k]?=some (.view ⟨k,0,none⟩ u))∨∃ c e,w.heap[k]?=some (.pending c e)∧v.heap[k]?=some (.coro none)
  hid:∀ k,H k→∃ c e,w.heap[k]?=some (.cells c e (0,0))∧0 < c.size∧v.heap[k]?=some (.coro none)
  tape:∀ i q,i < L→v.tape (v.drawn + i) q=w.tape (w.drawn + i) q
def EvM (H:Nat→Prop) (B:Nat) (e:Event):Prop :=
  (∃ a wr sy,e=⟨.cell a,wr,sy⟩∧a.block < B∧¬ H a.block)∨(∃ r sy,e=⟨.obj r,false,sy⟩∧r < B∧¬ H r)∨(∃ f,e=⟨.mark (.extern f),false,true⟩)∨e=⟨.mark .noRoom,false,true⟩
structure Treads (H:Nat→Prop) (w w':World) (es:Array Event):Prop where
  os:w'.os=w.os
  tape:w'.tape=w.tape
  out:w'.output=w.output
  size:w.heap.size≤w'.heap.size
  kept:∀ k,H k→w'.heap[k]?=w.heap[k]?
  objs:∀ (k:Nat) (o:Obj),w.heap[k]?=some o→(∀ c e f,o≠Obj.cells c e f)→w'.heap[k]?=some o
  evs:∀ e∈es,EvM H w'.heap.size e
theorem EvM.mono {H:Nat→Prop} {B B':Nat} {e:Event} (h:EvM H B e) (hB:B≤B'):EvM H B' e:=by
  rcases h with ⟨a,wr,sy,he,hb,hm⟩ | ⟨r,sy,he,hb,hm⟩ | h
  · exact .inl ⟨a,wr,sy,he,Nat.lt_of_lt_of_le hb hB,hm⟩
  · exact .inr (.inl ⟨r,sy,he,Nat.lt_of_lt_of_le hb hB,hm⟩)
  · exact .inr (.inr h)
theorem Treads.refl (H:Nat→Prop) (w:World):Treads H w w #[]:=⟨rfl,rfl,rfl,Nat.le_refl _,fun _ _=>rfl,fun _ _ h _=>h,fun e he=>by simp at he⟩
theorem Treads.trans {H:Nat→Prop} {a b c:World} {es fs:Array Event} (h:Treads H a b es) (k:Treads H b c fs):Treads H a c (es ++ fs) :=
  ⟨k.os.trans h.os,k.tape.trans h.tape,k.out.trans h.out,Nat.le_trans h.size k.size,fun x hx=>(k.kept x hx).trans (h.kept x hx),fun x o hx hn=>k.objs x o (h.objs x o hx hn) hn,
    fun e he=>(Array.mem_append.1 he).elim (fun he=>(h.evs e he).mono k.size) (fun he=>k.evs e he)⟩
theorem cell_some {w:World} {a:Addr} {x:Value} (h:w.cell? a=some x):∃ c e f,w.heap[a.block]?=some (.cells c e f)∧a.spot=none∧c[a.off]?=some x:=by
  unfold World.cell? at h
  split at h
  · rename_i c e f hh
    split at h
    · cases h
    · rename_i hs
      exact ⟨c,e,f,hh,by simpa using hs,h⟩
  · cases h
theorem cell_of {w:World} {a:Addr} {c:Array Value} {e:TypeId} {f:Nat × Nat} (h:w.heap[a.block]?=some (.cells c e f)) (hs:a.spot=none):w.cell? a=c[a.off]?:=by
  unfold World.cell?
  rw [h]
  simp [hs]
theorem setCell_size (w:World) (a:Addr) (x:Value):(w.setCell a x).heap.size=w.heap.size:=by simp [World.setCell]
theorem setCell_ne (w:World) (a:Addr) (x:Value) {k:Nat} (h:k≠a.block):(w.setCell a x).heap[k]?=w.heap[k]?:=by
  simp only [World.setCell,Array.getElem?_modify]
  rw [if_neg (fun e=>h e.symm)]
theorem setCell_self {w:World} {a:Addr} {c:Array Value} {e:TypeId} {f:Nat × Nat} (x:Value) (h:w.heap[a.block]?=some (.cells c e f)) (hs:a.spot=none):(w.setCell a x).heap[a.block]?=some (.cells (c.setIfInBounds a.off x) e f):=by
  simp only [World.setCell,Array.getElem?_modify]
  rw [if_pos trivial,h]
  simp [hs]
section
variable {H:Nat→Prop} {L:Nat} {v w:World}
theorem Masked.notHid (M:Masked H L v w) {k:Nat} {c:Array Value} {e:TypeId} {f:Nat × Nat} (h:v.heap[k]?=some (.cells c e f)):¬ H k:=fun hk=>by
  obtain ⟨_,_,_,_,h2⟩:=M.hid k hk
  rw [h] at h2;cases h2
theorem Masked.cells (M:Masked H L v w) {k:Nat} {c:Array Value} {e:TypeId} {f:Nat × Nat} (h:v.heap[k]?=some (.cells c e f)):w.heap[k]?=some (.cells c e f):=by
  rcases M.free k (M.notHid h) with ⟨h1,_⟩ | ⟨a,u,_,h2⟩ | ⟨a,u,_,h2⟩
  · rw [← h1];exact h
  · rw [h] at h2;cases h2
  · rw [h] at h2;cases h2
def NoPend (v:World):Prop:=∀ (k:Nat),(∀ c e,v.heap[k]?≠some (.pending c e))∧∀ a u,v.heap[k]?=some (.view a u)→a=⟨k,0,none⟩
theorem Masked.cell (M:Masked H L v w) {a:Addr} {x:Value} (h:v.cell? a=some x):w.cell? a=some x∧a.block < w.heap.size∧¬ H a.block:=by
  obtain ⟨c,e,f,hb,hs,hx⟩:=cell_some h
  have hlt:a.block < w.heap.size:=by rw [← M.size];exact (Array.getElem?_eq_some_iff.1 hb).1
  exact ⟨by rw [cell_of (M.cells hb) hs];exact hx,hlt,M.notHid hb⟩
theorem Masked.frozenCell (M:Masked H L v w) {a:Addr} {x:Value} (h:v.cell? a=some x):w.frozen? a=v.frozen? a:=by
  obtain ⟨c,e,f,hb,hs,hx⟩:=cell_some h
  unfold World.frozen?
  rw [hb,M.cells hb]
theorem Masked.frozen (M:Masked H L v w) (a:Addr):w.frozen? a=v.frozen? a:=by
  unfold World.frozen?
  by_cases hk:H a.block
  · obtain ⟨c,e,h1,_,h2⟩:=M.hid _ hk
    rw [h1,h2];simp
  · rcases M.free _ hk with ⟨h1,_⟩ | ⟨b,u,h1,h2⟩ | ⟨b,u,h1,h2⟩
    · rw [h1]
    · rw [h1,h2]
    · rw [h1,h2]
theorem Masked.fewer (M:Masked H L v w) {L':Nat} (h:L'≤L):Masked H L' v w:=⟨M.size,M.os,M.out,M.free,M.hid,fun i q hi=>M.tape i q (by omega)⟩
theorem Masked.view (M:Masked H L v w) {k:Nat} {a:Addr} {u:TypeId} (h:v.heap[k]?=some (.view a u)):a=⟨k,0,none⟩:=by
  by_cases hk:H k
  · obtain ⟨_,_,_,_,h2⟩:=M.hid k hk
    rw [h] at h2;cases h2
  · rcases M.free k hk with ⟨h1,h3,_⟩ | ⟨a',u',_,h2⟩ | ⟨a',u',_,h2⟩
    · exact absurd (h1 ▸ h) (h3 a u)
    · rw [h] at h2;cases h2;rfl
    · rw [h] at h2;cases h2
theorem seen_view {P:Program} {v:World} {k:Nat} {a b:Addr} {u u':TypeId} {at_:Bool} (hb:v.heap[k]?=some (.view b u)) {r:Array Value × TypeId × (Nat × Nat) × Nat × Value × List (Nat × Nat × List UInt8)} (h:v.seen P ⟨k,0,none⟩ u' a at_=.ok r):False:=by
  unfold World.seen at h
  simp only [bind,Except.bind,pure,Except.pure,throw,throwThe,MonadExceptOf.throw,MonadExcept.throw,hb] at h
  repeat' split at h
  all_goals first | cases h | skip
  all_goals simp_all
theorem Masked.noPend (M:Masked H L v w):NoPend v:=fun k=>⟨fun c e h=>by
  by_cases hk:H k
  · obtain ⟨_,_,_,_,h2⟩:=M.hid k hk
    rw [h] at h2;cases h2
  · rcases M.free k hk with ⟨h1,_,h3⟩ | ⟨a,u,_,h2⟩ | ⟨a,u,_,h2⟩
    · exact h3 c e (h1 ▸ h)
    · rw [h] at h2;cases h2
    · rw [h] at h2;(cases h2),fun a u h=>M.view h⟩
theorem Masked.noLoad (M:Masked H L v w) {P:Program} {a:Addr} {b:Bool} {z:Value × List Addr} (h:v.farLoad P a b=.ok z):False:=by
  unfold World.farLoad at h
  split at h
  · rename_i at_ u hb
    obtain rfl:=M.view hb
    cases hr:v.viewLoad P ⟨a.block,0,none⟩ u a b with
    | error x=>rw [hr] at h;cases h
    | ok r =>
      unfold World.viewLoad at hr
      cases hs:v.seen P ⟨a.block,0,none⟩ u a b with
      | error x=>rw [hs] at hr;cases hr
      | ok r=>exact seen_view hb hs
  · cases h
theorem Masked.noStore (M:Masked H L v w) {P:Program} {a:Addr} {x:Value} {b:Bool} {z:World × List Addr} (h:v.farStore P a x b=.ok z):False:=by
  unfold World.farStore at h
  split at h
  · rename_i at_ u hb
    obtain rfl:=M.view hb
    cases hr:v.viewStore P ⟨a.block,0,none⟩ u a x b with
    | error x=>rw [hr] at h;cases h
    | ok r =>
      unfold World.viewStore at hr
      cases hs:v.seen P ⟨a.block,0,none⟩ u a b with
      | error x =>
        rw [hs] at hr
        simp only [bind,Except.bind,pure,Except.pure,throw,throwThe,MonadExceptOf.throw,MonadExcept.throw] at hr
        split at hr <;> cases hr
      | ok r=>exact seen_view hb hs
  · cases h
theorem Masked.store (M:Masked H L v w) {a:Addr} {y:Value} (x:Value) (h:v.cell? a=some y) (sy:Bool):Masked H L (v.setCell a x) (w.setCell a x)∧Treads H w (w.setCell a x) #[⟨.cell a,true,sy⟩]:=by
  obtain ⟨hw,hlt,hn⟩:=M.cell h
  obtain ⟨c,e,f,hb,hs,hx⟩:=cell_some h
  have hb':=M.cells hb
  refine ⟨⟨by rw [setCell_size,setCell_size];exact M.size,M.os,M.out,fun k hk=>?_,fun k hk=>?_,M.tape⟩,⟨rfl,rfl,rfl,by rw [setCell_size];exact Nat.le_refl _,fun k hk=>?_,fun k o hk hno=>?_,fun ev hev=>?_⟩⟩
  · by_cases e1:k=a.block
    · subst e1
      rw [setCell_self x hb' hs,setCell_self x hb hs]
      exact .inl ⟨rfl,(fun _ _ h=>by cases h),(fun _ _ h=>by cases h)⟩
    · rw [setCell_ne v a x e1,setCell_ne w a x e1];exact M.free k hk
  · have e1:k≠a.block:=fun e1=>hn (e1 ▸ hk)
    rw [setCell_ne v a x e1,setCell_ne w a x e1];exact M.hid k hk
  · exact setCell_ne w a x fun e1=>hn (e1 ▸ hk)
  · have e1:k≠a.block:=by
      intro e1
      subst e1
      rw [hb'] at hk
      injection hk with hk
      exact hno _ _ _ hk.symm
    rw [setCell_ne w a x e1];exact hk
  · simp only [List.mem_toArray,List.mem_singleton] at hev
    subst hev
    exact .inl ⟨a,true,sy,rfl,by rw [setCell_size];exact hlt,hn⟩
def Obj.plain:Obj→Bool
  | .view .. | .pending ..=>false
  | _=>true
theorem Masked.new (M:Masked H L v w) (o:Obj) (hno:Obj.plain o=true):Masked H L { v with heap:=v.heap.push o } { w with heap:=w.heap.push o }∧Treads H w { w with heap:=w.heap.push o } #[]:=by
  have push:∀ {k:Nat} {x:Obj} (u:World),u.heap[k]?=some x→(u.heap.push o)[k]?=some x:=fun u h=>by
    rw [Array.getElem?_push_lt (Array.getElem?_eq_some_iff.1 h).1,← Array.getElem?_eq_getElem]
    exact h
  refine ⟨⟨by simp [M.size],M.os,M.out,fun k hk=>?_,fun k hk=>?_,M.tape⟩,⟨rfl,rfl,rfl,by simp,fun k hk=>?_,fun k x hk _=>push w hk,fun e he=>by simp at he⟩⟩
  · simp only [Array.getElem?_push,M.size]
    by_cases e:k=w.heap.size
    · rw [if_pos e,if_pos e];exact .inl ⟨rfl,(fun a u h=>by injection h with h;subst h;cases hno),(fun a u h=>by injection h with h;subst h;cases hno)⟩
    · rw [if_neg e,if_neg e];exact M.free k hk
  · obtain ⟨c,e,h1,h0,h2⟩:=M.hid k hk
    exact ⟨c,e,push w h1,h0,push v h2⟩
  · obtain ⟨c,e,h1,h0,h2⟩:=M.hid k hk
    rw [h1];exact push w h1
end
def fin {α:Type}:Result α→Option ((α ⊕ Value) × World)
  | .ok a w=>some (.inl a,w)
  | .halt (.panic x) w=>some (.inr x,w)
  | _=>none
def unfin {α:Type} (w:World):α ⊕ Value→Result α
  | .inl a=>.ok a w
  | .inr x=>.halt (.panic x) w
theorem fin_some {α:Type} {r:Result α} {c:α ⊕ Value} {w:World} (h:fin r=some (c,w)):r=unfin w c:=by
  unfold fin at h
  split at h <;> cases h <;> rfl
def wof {α:Type}:Result α→World
  | .ok _ w=>w
  | .halt _ w=>w
theorem ask_drawn {α:Type} (x:Ask α):∀ w:World,w.drawn≤(w.ask x).2.drawn:=by
  induction x with
  | done a=>intro w;exact Nat.le_refl _
  | ask what range k ih =>
    intro w
    unfold World.ask
    simp only
    split
    · exact ih _ w
    · exact Nat.le_trans (Nat.le_succ _) (ih _ { w with drawn:=w.drawn + 1 })
theorem sys_drawn (w:World) (c:Sys):w.drawn≤(w.sys c).2.drawn:=by
  unfold World.sys
  have:=ask_drawn (Kernel.perform c w.os) w
  split
  · exact Nat.le_refl _
  · rename_i h
    rw [h] at this
    exact this
theorem farStore_drawn {P:Program} {w w':World} {a:Addr} {x:Value} {b:Bool} {l:List Addr} (h:w.farStore P a x b=.ok (w',l)):w'.drawn=w.drawn:=by
  unfold World.farStore at h
  split at h
  · split at h
    · rename_i at_ u _ r hr
      cases h
      unfold World.viewStore at hr
      simp only [bind,Except.bind,pure,Except.pure,throw,throwThe,MonadExceptOf.throw] at hr
      repeat' split at hr
      all_goals first | cases hr | skip
      all_goals rfl
    · cases h
  · cases h
theorem run_drawn (P:Program) {α:Type} (s:Sem α):∀ w:World,w.drawn≤(wof (s.run P w)).drawn:=by
  induction s with
  | pure a=>intro w;exact Nat.le_refl _
  | load m a k ih =>
    intro w
    unfold Sem.run
    split
    · exact ih _ w
    · split
      · exact ih _ w
      · exact Nat.le_refl _
  | store m a x k ih =>
    intro w
    have key:w.drawn≤(wof (match w.cell? a with
      | some _=>if w.frozen? a then .halt (.unsupported (.unsafePointer "a write to bytes that a string shares")) w else k.run P (w.setCell a x)
      | none=>match w.farStore P a x (m == .atomic) with
        | .ok (w,_)=>k.run P w
        | .error h=>.halt h w)).drawn:=by
      split
      · split
        · exact Nat.le_refl _
        · exact ih (w.setCell a x)
      · split
        · rename_i h
          rw [← farStore_drawn h];exact ih _
        · exact Nat.le_refl _
    cases x <;> first | exact Nat.le_refl _ | exact key
  | new o k ih=>intro w;exact ih _ { w with heap:=w.heap.push o }
  | shape r k ih=>intro w;exact ih _ w
  | freeze a n k ih =>
    intro w
    have:(w.freeze a n).drawn=w.drawn:=by unfold World.freeze;split <;> rfl
    show w.drawn≤(wof (k.run P (w.freeze a n))).drawn
    rw [← this];exact ih _
  | frozen a k ih=>intro w;exact ih _ w
  | getObj r k ih =>
    intro w
    unfold Sem.run
    split
    · exact Nat.le_refl _
    · exact ih _ w
    · exact Nat.le_refl _
  | setObj r o k ih =>
    intro w
    unfold Sem.run
    split
    · exact Nat.le_refl _
    · exact ih { w with heap:=w.heap.setIfInBounds r o }
    · exact Nat.le_refl _
  | choose q k ih =>
    intro w
    unfold Sem.run
    split
    · exact ih _ w
    · exact Nat.le_trans (Nat.le_succ _) (ih _ { w with drawn:=w.drawn + 1 })
  | sys c k ih=>intro w;exact Nat.le_trans (sys_drawn w c) (ih _ _)
  | program k ih=>intro w;exact ih _ w
  | mark m k ih=>intro w;exact ih w
  | halt h=>intro w;exact Nat.le_refl _
theorem fin_drawn {P:Program} {α:Type} {s:Sem α} {w w':World} {c:α ⊕ Value} (h:fin (s.run P w)=some (c,w')):w.drawn≤w'.drawn:=by
  have:=run_drawn P s w
  rw [fin_some h] at this
  cases c <;> exact this
def mildH:Halt→Bool
  | .stuck _=>true
  | .unsupported (.initOrder _)=>false
  | .unsupported _=>true
  | _=>false
def mildR {α:Type}:Result α→Prop
  | .ok _ _=>True
  | .halt (.panic _) _=>True
  | .halt h _=>mildH h=true
structure Sim2 (P:Program) {α:Type} (s t:Sem α):Prop where
  sim:∀ (H:Nat→Prop) (L:Nat) (v w:World) (es:Array Event),Masked H L v w→∀ c v',fin (s.run P v)=some (c,v')→v'.drawn≤v.drawn + L →
    ∃ w' fs,t.runT P w es=(unfin w' c,es ++ fs)∧Masked H (v.drawn + L - v'.drawn) v' w'∧Treads H w w' fs∧w'.drawn + v.drawn=w.drawn + v'.drawn
  mild:∀ v,NoPend v→mildR (s.run P v)∧NoPend (wof (s.run P v))
abbrev Sim (P:Program) {α:Type} (s:Sem α):Prop:=Sim2 P s s
def Dead (P:Program) {α:Type} (s:Sem α):Prop:=∀ v,∃ h,s.run P v=.halt h v∧mildH h=true
theorem mild_halt {α:Type} {h:Halt} {v:World} (m:mildH h=true):mildR (.halt h v:Result α):=by
  cases h <;> first | trivial | exact m
theorem fin_mild {α:Type} {h:Halt} {v:World} (m:mildH h=true):fin (.halt h v:Result α)=none:=by
  cases h <;> first | rfl | cases m
theorem noPend_cell {v:World} (h:NoPend v) (a:Addr) (x:Value):NoPend (v.setCell a x):=by
  have key:∀ (k:Nat) (o:Obj),(v.setCell a x).heap[k]?=some o→v.heap[k]?=some o∨∃ c e f,o=.cells c e f:=fun k o hk=>by
    simp only [World.setCell,Array.getElem?_modify] at hk
    split at hk
    · cases ho:v.heap[k]? with
      | none=>rw [ho] at hk;cases hk
      | some o' =>
        rw [ho] at hk
        cases o' <;> first | exact .inl hk | (cases hk;exact .inr ⟨_,_,_,rfl⟩)
    · exact .inl hk
  refine fun k=>⟨fun c e hk=>?_,fun b u hk=>?_⟩
  · rcases key k _ hk with h1 | ⟨_,_,_,h1⟩
    · exact (h k).1 _ _ h1
    · cases h1
  · rcases key k _ hk with h1 | ⟨_,_,_,h1⟩
    · exact (h k).2 _ _ h1
    · cases h1
theorem noPend_new {v:World} (h:NoPend v) {o:Obj} (ho:Obj.plain o=true):NoPend { v with heap:=v.heap.push o }:=by
  refine fun k=>⟨fun c e hk=>?_,fun b u hk=>?_⟩
  · simp only [Array.getElem?_push] at hk
    split at hk
    · cases hk;cases ho
    · exact (h k).1 c e hk
  · simp only [Array.getElem?_push] at hk
    split at hk
    · cases hk;cases ho
    · exact (h k).2 b u hk
theorem noPend_farStore {P:Program} {v v':World} (h:NoPend v) {a:Addr} {x:Value} {b:Bool} {l:List Addr} (hs:v.farStore P a x b=.ok (v',l)):NoPend v':=by
  unfold World.farStore at hs
  split at hs
  · split at hs
    · rename_i at_ u _ r hr
      cases hs
      unfold World.viewStore at hr
      simp only [bind,Except.bind,pure,Except.pure,throw,throwThe,MonadExceptOf.throw] at hr
      repeat' split at hr
      all_goals first | cases hr | skip
      all_goals
        refine fun k=>⟨fun c e hk=>?_,fun b u hk=>?_⟩
        · simp only [Array.getElem?_setIfInBounds] at hk
          split at hk
          · split at hk <;> cases hk
          · exact (h k).1 c e hk
        · simp only [Array.getElem?_setIfInBounds] at hk
          split at hk
          · split at hk <;> cases hk
          · exact (h k).2 b u hk
    · cases hs
  · cases hs
theorem mild_noCell {α:Type} {v:World} (h:NoPend v) (a:Addr) (s:String):mildR (.halt (v.noCell a s) v:Result α):=by
  unfold World.noCell
  split
  · rename_i hb;exact absurd hb ((h _).1 _ _)
  · rfl
  · rfl
section
variable {P:Program} {α β:Type} {H:Nat→Prop} {L:Nat} {v w:World}
theorem Sim2.dead {s t:Sem α} (h:Dead P s):Sim2 P s t:=⟨fun H L v w es M c v' e=>by obtain ⟨x,h1,h2⟩:=h v;rw [h1,fin_mild h2] at e;(cases e),fun v hv=>by obtain ⟨x,h1,h2⟩:=h v;rw [h1];exact ⟨mild_halt h2,hv⟩⟩
theorem Sim2.pure (a:α):Sim P (Sem.pure a):=⟨fun H L v w es M c v' e hL=>by
  simp only [Sem.run,fin,Option.some.injEq,Prod.mk.injEq] at e
  obtain ⟨rfl,rfl⟩:=e
  exact ⟨w,#[],by simp [Sem.runT,unfin],M.fewer (by omega),Treads.refl H w,by omega⟩,fun v hv=>⟨trivial,hv⟩⟩
theorem Sim2.pure' (a:α):Sim P (Pure.pure a:Sem α):=Sim2.pure a
theorem Sim2.panic (x:Value):Sim P (Sem.halt (.panic x):Sem α):=⟨fun H L v w es M c v' e hL=>by
  simp only [Sem.run,fin,Option.some.injEq,Prod.mk.injEq] at e
  obtain ⟨rfl,rfl⟩:=e
  exact ⟨w,#[],by simp [Sem.runT,unfin],M.fewer (by omega),Treads.refl H w,by omega⟩,fun v hv=>⟨trivial,hv⟩⟩
theorem Sim2.halt (h:Halt) (m:mildH h=true):Sim P (Sem.halt h:Sem α):=Sim2.dead fun v=>⟨h,rfl,m⟩
theorem Sim2.bind {s t:Sem α} {f g:α→Sem β} (h:Sim2 P s t) (k:∀ a,Sim2 P (f a) (g a)):Sim2 P (s.bind f) (t.bind g):=⟨fun H L v w es M c v' e hL=>by
  rw [Sem.run_bind'] at e
  cases hr:s.run P v with
  | ok a v1 =>
    rw [hr] at e
    have hd:=fin_drawn (c:=c) e
    obtain ⟨w1,fs,r1,M1,D1,n1⟩:=h.sim H L v w es M (.inl a) v1 (by rw [hr];rfl) (by omega)
    have hd1:v.drawn≤v1.drawn:=fin_drawn (s:=s) (P:=P) (c:=.inl a) (by rw [hr];rfl)
    obtain ⟨w2,gs,r2,M2,D2,n2⟩:=(k a).sim H (v.drawn + L - v1.drawn) v1 w1 (es ++ fs) M1 c v' e (by omega)
    refine ⟨w2,fs ++ gs,?_,M2.fewer (by omega),D1.trans D2,by omega⟩
    rw [Sem.runT_bind',r1]
    simp only [unfin]
    rw [r2,Array.append_assoc]
    cases c <;> rfl
  | halt x v1 =>
    rw [hr] at e
    cases x with
    | panic y =>
      simp only [fin,Option.some.injEq,Prod.mk.injEq] at e
      obtain ⟨rfl,rfl⟩:=e
      obtain ⟨w1,fs,r1,M1,D1,n1⟩:=h.sim H L v w es M (.inr y) v' (by rw [hr];rfl) hL
      refine ⟨w1,fs,?_,M1,D1,n1⟩
      rw [Sem.runT_bind',r1]
      rfl
    | _=>(simp [fin] at e),fun v hv=>by
  rw [Sem.run_bind']
  have:=h.mild v hv
  cases hr:s.run P v with
  | ok a v1=>rw [hr] at this;exact (k a).mild v1 this.2
  | halt x v1=>rw [hr] at this;cases x <;> exact this⟩
theorem Sim2.bind' {s t:Sem α} {f g:α→Sem β} (h:Sim2 P s t) (k:∀ a,Sim2 P (f a) (g a)):Sim2 P (s >>= f) (t >>= g):=Sim2.bind h k
theorem Sim2.load (m:Mode) (a:Addr) {k:Value→Sem α} (hk:∀ x,Sim P (k x)):Sim P (Sem.load m a k):=⟨fun H L v w es M c v' e hL=>by
  unfold Sem.run at e
  cases hc:v.cell? a with
  | some x =>
    rw [hc] at e
    obtain ⟨hw,hlt,hn⟩:=M.cell hc
    obtain ⟨w',fs,r,M',D,n⟩:=(hk x).sim H L v w (es.push ⟨.cell a,false,m == .atomic⟩) M c v' e hL
    refine ⟨w',#[⟨.cell a,false,m == .atomic⟩] ++ fs,?_,M',(Treads.mk rfl rfl rfl (Nat.le_refl _) (fun _ _=>rfl) (fun _ _ h _=>h) (fun e he=>?_):Treads H w w _).trans D,n⟩
    · unfold Sem.runT
      rw [hw]
      simp only
      rw [r]
      simp
    · simp only [List.mem_toArray,List.mem_singleton] at he
      subst he
      exact .inl ⟨a,false,_,rfl,hlt,hn⟩
  | none =>
    rw [hc] at e
    simp only at e
    split at e
    · rename_i h;exact (M.noLoad h).elim
    · rename_i x h
      have:=mild_noCell (α:=α) M.noPend a "load: no such cell"
      unfold World.farLoad at h
      split at h
      · split at h <;> cases h
        simp [fin] at e
      · cases h
        unfold fin at e
        split at e
        · rename_i h1;cases h1
        · rename_i h1
          injection h1 with h1
          unfold World.noCell at h1
          split at h1 <;> cases h1
        · (cases e),fun v hv=>by
  unfold Sem.run
  split
  · exact (hk _).mild v hv
  · split
    · exact (hk _).mild v hv
    · rename_i h
      refine ⟨?_,hv⟩
      unfold World.farLoad at h
      split at h
      · split at h <;> cases h
        rfl
      · cases h;exact mild_noCell hv _ _⟩
theorem Sim2.store (m:Mode) (a:Addr) (x:Value) {k:Sem α} (hk:Sim P k):Sim P (Sem.store m a x k):=⟨fun H L v w es M c v' e hL=>by
  have key:∀ {r},(match v.cell? a with
      | some _=>if v.frozen? a then Result.halt (.unsupported (.unsafePointer "a write to bytes that a string shares")) v else k.run P (v.setCell a x)
      | none=>match v.farStore P a x (m == .atomic) with
        | .ok (w,_)=>k.run P w
        | .error h=>.halt h v)=r→fin r=some (c,v') →
      ∃ w' fs,(match w.cell? a with
      | some _=>if w.frozen? a then (Result.halt (.unsupported (.unsafePointer "a write to bytes that a string shares")) w,es) else k.runT P (w.setCell a x) (es.push ⟨.cell a,true,m == .atomic⟩)
      | none=>match w.farStore P a x (m == .atomic) with
        | .ok (w,touched)=>k.runT P w (es ++ touched.toArray.map (⟨.cell ·,true,m == .atomic⟩))
        | .error h=>(.halt h w,es))=(unfin w' c,es ++ fs)∧Masked H (v.drawn + L - v'.drawn) v' w'∧Treads H w w' fs∧w'.drawn + v.drawn=w.drawn + v'.drawn:=by
    intro r hr e
    subst hr
    cases hc:v.cell? a with
    | some y =>
      rw [hc] at e
      obtain ⟨hw,hlt,hn⟩:=M.cell hc
      have hf:=M.frozenCell hc
      rw [hw]
      simp only at e ⊢
      rw [hf]
      cases hz:v.frozen? a with
      | true=>rw [hz] at e;simp [fin] at e
      | false =>
        rw [hz] at e
        simp only [Bool.false_eq_true,↓reduceIte] at e ⊢
        obtain ⟨M1,D1⟩:=M.store x hc (m == .atomic)
        obtain ⟨w',fs,r,M',D,n⟩:=hk.sim H L _ _ (es.push ⟨.cell a,true,m == .atomic⟩) M1 c v' e hL
        exact ⟨w',_,by rw [r,Array.push_eq_append,Array.append_assoc],M',D1.trans D,n⟩
    | none =>
      exfalso
      rw [hc] at e
      simp only at e
      split at e
      · rename_i h;exact (M.noStore h).elim
      · rename_i x h
        unfold World.farStore at h
        split at h
        · split at h <;> cases h
          simp [fin] at e
        · cases h
          unfold fin at e
          split at e
          · rename_i h1;cases h1
          · rename_i h1
            injection h1 with h1
            unfold World.noCell at h1
            split at h1 <;> cases h1
          · cases e
  cases x <;> first | (unfold Sem.run at e;simp [fin] at e;done) | exact key rfl e,fun v hv=>by
  have key:∀ {r},(match v.cell? a with
      | some _=>if v.frozen? a then Result.halt (.unsupported (.unsafePointer "a write to bytes that a string shares")) v else k.run P (v.setCell a x)
      | none=>match v.farStore P a x (m == .atomic) with
        | .ok (w,_)=>k.run P w
        | .error h=>.halt h v)=r→mildR r∧NoPend (wof r):=by
    intro r hr
    subst hr
    split
    · split
      · exact ⟨rfl,hv⟩
      · exact hk.mild _ (noPend_cell hv a x)
    · split
      · rename_i h;exact hk.mild _ (noPend_farStore hv h)
      · rename_i h
        refine ⟨?_,hv⟩
        unfold World.farStore at h
        split at h
        · split at h <;> cases h
          rfl
        · cases h;exact mild_noCell hv _ _
  cases x <;> first | exact ⟨rfl,hv⟩ | exact key rfl⟩
theorem Sim2.new (o:Obj) {k:Nat→Sem α} (hno:Obj.plain o=true) (hk:∀ r,Sim P (k r)):Sim P (Sem.new o k):=⟨fun H L v w es M c v' e hL=>by
  obtain ⟨M1,D1⟩:=M.new o hno
  have e1:v.heap.size=w.heap.size:=M.size
  obtain ⟨w',fs,r,M',D,n⟩:=(hk w.heap.size).sim H L _ _ es M1 c v' (by rw [← e1];exact e) hL
  exact ⟨w',_,by unfold Sem.runT;rw [r],M',by have:=D1.trans D;simpa using this,n⟩,fun v hv=>(hk _).mild _ (noPend_new hv hno)⟩
theorem Sim2.choose (q:Question) {k:Nat→Sem α} (hk:∀ r,Sim P (k r)):Sim P (Sem.choose q k):=⟨fun H L v w es M c v' e hL=>by
  unfold Sem.run at e
  unfold Sem.runT
  cases hq:q.forced with
  | true=>rw [hq] at e;simp only [↓reduceIte] at e ⊢;exact (hk 0).sim H L v w es M c v' e hL
  | false =>
    rw [hq] at e
    simp only [Bool.false_eq_true,↓reduceIte] at e ⊢
    have hd:=fin_drawn (c:=c) e
    simp only at hd
    have ht:w.tape w.drawn q=v.tape v.drawn q:=by have:=M.tape 0 q (by omega);simpa using this.symm
    rw [ht]
    obtain ⟨w',fs,r,M',D,n⟩:=(hk (q.cut (v.tape v.drawn q))).sim H (L - 1) { v with drawn:=v.drawn + 1 } { w with drawn:=w.drawn + 1 } es
      ⟨M.size,M.os,M.out,M.free,M.hid,fun i q hi=>by have:=M.tape (1 + i) q (by omega);simpa [Nat.add_assoc] using this⟩ c v' e (by simp only;omega)
    exact ⟨w',fs,r,M'.fewer (by simp only;omega),⟨D.os,D.tape,D.out,D.size,D.kept,D.objs,D.evs⟩,by simp only at n;omega⟩,fun v hv=>by
  unfold Sem.run
  split
  · exact (hk _).mild v hv
  · exact (hk _).mild { v with drawn:=v.drawn + 1 } hv⟩
theorem Sim2.program {k:Program→Sem α} (hk:Sim P (k P)):Sim P (Sem.program k):=⟨fun H L v w es M c v' e hL=>hk.sim H L v w es M c v' e hL,fun v hv=>hk.mild v hv⟩
theorem Sim2.mark (m:Mark) {k:Sem α} (hm:(∃ f,m=.extern f)∨m=.noRoom) (hk:Sim P k):Sim P (Sem.mark m k):=⟨fun H L v w es M c v' e hL=>by
  obtain ⟨w',fs,r,M',D,n⟩:=hk.sim H L v w (es.push ⟨.mark m,false,true⟩) M c v' e hL
  refine ⟨w',#[⟨.mark m,false,true⟩] ++ fs,?_,M',(Treads.mk rfl rfl rfl (Nat.le_refl _) (fun _ _=>rfl) (fun _ _ h _=>h) (fun e he=>?_):Treads H w w _).trans D,n⟩
  · unfold Sem.runT
    rw [r,Array.push_eq_append,Array.append_assoc]
  · simp only [List.mem_toArray,List.mem_singleton] at he
    subst he
    rcases hm with ⟨f,rfl⟩ | rfl
    · exact .inr (.inr (.inl ⟨f,rfl⟩))
    · exact .inr (.inr (.inr rfl)),fun v hv=>hk.mild v hv⟩
theorem Sim2.frozen (a:Addr) {k:Bool→Sem α} (hk:∀ b,Sim P (k b)):Sim P (Sem.frozen a k):=⟨fun H L v w es M c v' e hL=>by
  unfold Sem.runT
  rw [M.frozen a]
  exact (hk _).sim H L v w es M c v' e hL,fun v hv=>(hk _).mild v hv⟩
theorem shape_cells {w:World} {r:Nat} {c:Array Value} {e:TypeId} {f:Nat × Nat} (h:w.heap[r]?=some (.cells c e f)):w.shape? r=some (e,c.size):=by unfold World.shape?;rw [h]
theorem Masked.shape (M:Masked H L v w) (r:Nat):(v.shape? r=w.shape? r∧¬ H r)∨(H r∧v.shape? r=none∧∃ e n,0 < n∧w.shape? r=some (e,n)):=by
  by_cases hk:H r
  · obtain ⟨c,e,h1,h0,h2⟩:=M.hid _ hk
    exact .inr ⟨hk,by unfold World.shape?;rw [h2],e,c.size,h0,shape_cells h1⟩
  · refine .inl ⟨?_,hk⟩
    unfold World.shape?
    rcases M.free _ hk with ⟨h1,_⟩ | ⟨b,u,h1,h2⟩ | ⟨b,u,h1,h2⟩
    · rw [h1]
    · rw [h1,h2]
    · rw [h1,h2]
theorem Sim2.shape (r:Nat) {k:Option (TypeId × Nat)→Sem α} (hk:∀ x,Sim P (k x)) (hn:∀ e n,0 < n→Sim2 P (k none) (k (some (e,n)))):Sim P (Sem.shape r k):=⟨fun H L v w es M c v' e hL=>by
  unfold Sem.run at e
  unfold Sem.runT
  rcases M.shape r with ⟨h,_⟩ | ⟨_,h1,e',n,h0,h2⟩
  · rw [← h];exact (hk _).sim H L v w es M c v' e hL
  · rw [h1] at e;rw [h2];exact (hn e' n h0).sim H L v w es M c v' e hL,fun v hv=>(hk _).mild v hv⟩
theorem pushed {α:Type} {H:Nat→Prop} {w:World} {es:Array Event} {ev:Event} {r:Result α × Array Event} {c:α ⊕ Value} {A B:World→Prop} (hev:EvM H w.heap.size ev) (h:∃ w' fs,r=(unfin w' c,es.push ev ++ fs)∧A w'∧Treads H w w' fs∧B w') :
    ∃ w' fs,r=(unfin w' c,es ++ fs)∧A w'∧Treads H w w' fs∧B w':=by
  obtain ⟨w',fs,h1,h2,h3,h4⟩:=h
  refine ⟨w',#[ev] ++ fs,by rw [h1,Array.push_eq_append,Array.append_assoc],h2,(Treads.mk rfl rfl rfl (Nat.le_refl _) (fun _ _=>rfl) (fun _ _ h _=>h) (fun e he=>?_):Treads H w w _).trans h3,h4⟩
  simp only [List.mem_toArray,List.mem_singleton] at he
  subst he
  exact hev
theorem Sim2.getObj (r:Nat) {k:Obj→Sem α} (hk:∀ o,Sim P (k o)) (hp:∀ c e,Sim2 P (k (.coro none)) (k (.pending c e))) (hv:∀ a a' u,Sim2 P (k (.view a u)) (k (.view a' u))) (hc:Dead P (k (.coro none))):Sim P (Go.getObj r >>= k):=⟨fun H L v w es M c v' e hL=>by
  have e:fin ((Sem.getObj r k).run P v)=some (c,v'):=e
  show ∃ w' fs,(Sem.getObj r k).runT P w es=_∧_
  unfold Sem.run at e
  unfold Sem.runT
  by_cases hk':H r
  · obtain ⟨cc,e',h1,h0,h2⟩:=M.hid _ hk'
    rw [h2] at e
    simp only at e
    obtain ⟨x,h3,h4⟩:=hc v
    rw [h3,fin_mild h4] at e;cases e
  · rcases M.free _ hk' with ⟨h1,_⟩ | ⟨b,u,h1,h2⟩ | ⟨b,u,h1,h2⟩
    · rw [h1] at e
      cases ho:w.heap[r]? with
      | none=>rw [ho] at e;simp [fin] at e
      | some o =>
        have hev:∀ y,EvM H w.heap.size ⟨.obj r,false,y⟩:=fun y=>.inr (.inl ⟨r,y,rfl,(Array.getElem?_eq_some_iff.1 ho).1,hk'⟩)
        rw [ho] at e
        cases o <;> first | (simp [fin] at e;done) | exact pushed (hev _) ((hk _).sim H L v w _ M c v' e hL)
    · rw [h2] at e
      rw [h1]
      exact pushed (.inr (.inl ⟨r,_,rfl,(Array.getElem?_eq_some_iff.1 h1).1,hk'⟩)) ((hv _ _ _).sim H L v w _ M c v' e hL)
    · rw [h2] at e
      rw [h1]
      exact pushed (.inr (.inl ⟨r,_,rfl,(Array.getElem?_eq_some_iff.1 h1).1,hk'⟩)) ((hp _ _).sim H L v w _ M c v' e hL),fun v hv=>by
  show mildR ((Sem.getObj r k).run P v)∧NoPend (wof ((Sem.getObj r k).run P v))
  unfold Sem.run
  split
  · exact ⟨rfl,hv⟩
  · exact (hk _).mild v hv
  · exact ⟨rfl,hv⟩⟩
theorem Sim2.peep (r:Nat) {k:Obj→Sem α} {z:Sem α} (hz:Sim P z) (hk:∀ o,Sim P (k o)) (hp:∀ c e,k (.pending c e)=z) (hv:∀ a a' u,Sim2 P (k (.view a u)) (k (.view a' u))) (hc:k (.coro none)=z) :
    Sim P (Sem.shape r (fun s=>if s.isSome then z else .getObj r k)):=⟨fun H L v w es M c v' e hL=>by
  unfold Sem.run at e
  unfold Sem.runT
  by_cases hk':H r
  · obtain ⟨cc,e',h1,h0,h2⟩:=M.hid _ hk'
    rw [shape_cells h1]
    have:v.shape? r=none:=by unfold World.shape?;rw [h2]
    rw [this] at e
    simp only [Option.isSome_none,Bool.false_eq_true,↓reduceIte,Option.isSome_some] at e ⊢
    unfold Sem.run at e
    rw [h2] at e
    simp only [hc] at e
    exact hz.sim H L v w es M c v' e hL
  · rcases M.free _ hk' with ⟨h1,_⟩ | ⟨b,u,h1,h2⟩ | ⟨b,u,h1,h2⟩
    · have hs:v.shape? r=w.shape? r:=by unfold World.shape?;rw [h1]
      rw [hs] at e
      dsimp only at e ⊢
      split at e
      · rename_i h;rw [if_pos h];exact hz.sim H L v w es M c v' e hL
      · rename_i h;rw [if_neg h]
        unfold Sem.run at e
        unfold Sem.runT
        rw [h1] at e
        cases ho:w.heap[r]? with
        | none=>rw [ho] at e;simp [fin] at e
        | some o =>
          have hev:∀ y,EvM H w.heap.size ⟨.obj r,false,y⟩:=fun y=>.inr (.inl ⟨r,y,rfl,(Array.getElem?_eq_some_iff.1 ho).1,hk'⟩)
          rw [ho] at e
          cases o <;> first | (simp [fin] at e;done) | exact pushed (hev _) ((hk _).sim H L v w _ M c v' e hL)
    · have hs:v.shape? r=none:=by unfold World.shape?;rw [h2]
      have hs':w.shape? r=none:=by unfold World.shape?;rw [h1]
      rw [hs] at e
      rw [hs']
      simp only [Option.isSome_none,Bool.false_eq_true,↓reduceIte] at e ⊢
      unfold Sem.run at e
      unfold Sem.runT
      rw [h2] at e
      rw [h1]
      exact pushed (.inr (.inl ⟨r,_,rfl,(Array.getElem?_eq_some_iff.1 h1).1,hk'⟩)) ((hv _ _ _).sim H L v w _ M c v' e hL)
    · have hs:v.shape? r=none:=by unfold World.shape?;rw [h2]
      have hs':w.shape? r=none:=by unfold World.shape?;rw [h1]
      rw [hs] at e
      rw [hs']
      simp only [Option.isSome_none,Bool.false_eq_true,↓reduceIte] at e ⊢
      unfold Sem.run at e
      unfold Sem.runT
      rw [h2] at e
      rw [h1]
      simp only [hc] at e
      simp only [hp]
      exact pushed (.inr (.inl ⟨r,_,rfl,(Array.getElem?_eq_some_iff.1 h1).1,hk'⟩)) (hz.sim H L v w _ M c v' e hL),fun v hv=>by
  unfold Sem.run
  dsimp only
  split
  · exact hz.mild v hv
  · unfold Sem.run
    split
    · exact ⟨rfl,hv⟩
    · exact (hk _).mild v hv
    · exact ⟨rfl,hv⟩⟩
theorem numberAt_eq (r:Nat):Go.numberAt r=.shape r (fun s=>if s.isSome then .pure none else .getObj r (fun o=>match o with | .number a lost=>.pure (some (a,lost)) | _=>.pure none)):=by
  unfold Go.numberAt
  simp only [bind,Sem.bind,Go.shape,Go.getObj,pure]
  rfl
theorem viewAt_eq (r:Nat):Go.viewAt r=.shape r (fun s=>if s.isSome then .pure none else .getObj r (fun o=>match o with | .view a t=>.pure (some (a,t)) | _=>.pure none)):=by
  unfold Go.viewAt
  simp only [bind,Sem.bind,Go.shape,Go.getObj,pure]
  rfl
theorem sim_numberAt (r:Nat):Sim P (Go.numberAt r):=by
  rw [numberAt_eq]
  refine Sim2.peep r (Sim2.pure _) (fun o=>?_) (fun _ _=>rfl) (fun _ _ _=>Sim2.pure _) rfl
  cases o <;> exact Sim2.pure _
theorem Sim2.viewAt (r:Nat) {k:Option (Addr × TypeId)→Sem α} (hk:Sim P (k none)) (hd:∀ x,Dead P (k (some x))):Sim P (Go.viewAt r >>= k):=by
  have e:(Go.viewAt r >>= k)=.shape r (fun s=>if s.isSome then k none else .getObj r (fun o=>match o with | .view a t=>k (some (a,t)) | _=>k none)):=by
    rw [viewAt_eq]
    show Sem.bind _ k=_
    simp only [Sem.bind]
    congr 1
    funext s
    split
    · rfl
    · simp only [Sem.bind]
      congr 1
      funext o
      cases o <;> rfl
  rw [e]
  refine Sim2.peep r hk (fun o=>?_) (fun _ _=>rfl) (fun _ _ _=>Sim2.dead (hd _)) rfl
  cases o <;> first | exact hk | exact Sim2.dead (hd _)
theorem sim_noView (a:Addr):Sim P (Go.noView a):=by
  unfold Go.noView
  exact Sim2.viewAt _ (Sim2.pure _) fun _ _=>⟨_,rfl,rfl⟩
theorem Sim2.look {s:Sem α} (g:World→α) (h1:∀ u,s.run P u=.ok (g u) u) (h2:∀ u es,s.runT P u es=(.ok (g u) u,es)) (h3:∀ H L v w,Masked H L v w→g v=g w):Sim P s:=⟨fun H L v w es M c v' e hL=>by
  rw [h1] at e
  simp only [fin,Option.some.injEq,Prod.mk.injEq] at e
  obtain ⟨rfl,rfl⟩:=e
  exact ⟨w,#[],by rw [h2,h3 H L v w M];simp [unfin],M.fewer (by omega),Treads.refl H w,by omega⟩,fun v hv=>by rw [h1];exact ⟨trivial,hv⟩⟩
end
end Go.Proofs.Ytndppafplgilbaa
