/-
  larchlaw04.BatonThins returns true for every input. No condition. (Part 7 of 49; joined by program.)
-/
import Derived.Test.YtndppafplgilbaaL05
import Derived.Conc.TokenTrace
set_option linter.unusedVariables false
set_option linter.unusedSimpArgs false
set_option linter.unusedSectionVars false
set_option maxRecDepth 100000
namespace Go.Proofs.Ytndppafplgilbaa
open Go Go.Conc
structure PastR (Shun:Loc→Prop) (Still:Nat→Loc→Prop) (Mem Loose:Nat→Prop) (K:Nat→Prop) (t:Trace):Prop where
  clean:∀ said,¬ Race said t
  known:∀ i a,touchAt t i=some a→a.loc.isMemory=true→K i∨(Shun a.loc∧a.kind=.atomic∧¬ t.heard i)∨(a.write=false∧∃ g,t.g? i=some g∧Loose g∧Still g a.loc)
  shun:∀ i a,touchAt t i=some a→Shun a.loc→a.kind≠.plain
  wrote:∀ i a,touchAt t i=some a→a.write=true→∀ g,Mem g→Still g a.loc→Knows t g i
  apart:∀ g l,Mem g→Still g l→l.isMemory=true∧¬ Shun l
  loose:∀ g,Loose g→Mem g
  hears:∀ g,Mem g→Deaf t g=0
abbrev PastW (Shun:Loc→Prop) (Still:Nat→Loc→Prop) (Mem Loose:Nat→Prop) (h:Nat) (t:Trace):Prop:=PastR Shun Still Mem Loose (Knows t h) t
section
variable {Shun:Loc→Prop} {Still:Nat→Loc→Prop} {Mem Loose:Nat→Prop} {K K':Nat→Prop} {h g:Nat} {t u:Trace}
theorem PastR.oldK (H:PastR Shun Still Mem Loose K t) (hK:∀ i,K i→K' i) {i:Nat} {a:Touch} {x:MemOp} (hx':t[i]?=some x) (hxa:x.act.touch?=some a) (hm:a.loc.isMemory=true) :
    K' i∨(Shun a.loc∧a.kind=.atomic∧¬ (t ++ u).heard i)∨(a.write=false∧∃ g,(t ++ u).g? i=some g∧Loose g∧Still g a.loc) :=
  (H.known i a (by rw [touchAt_of hx'];exact hxa) hm).imp (hK i) fun h=>h.imp (fun ⟨p,q,r⟩=>⟨p,q,fun e=>r ((heard_old (lt_size_of_getElem? hx')).1 e)⟩) fun ⟨p,g,hg,hl⟩=>⟨p,g,by rw [g?_old (lt_size_of_getElem? hx')];exact hg,hl⟩
theorem PastR.oldHears (H:PastR Shun Still Mem Loose K t) (hu:∀ op∈u,op.g=g) (hd:Mem g→Deaf (t ++ u) g=Deaf t g):∀ g',Mem g'→Deaf (t ++ u) g'=0:=fun g' hg'=>by
  by_cases e:g'=g
  · subst e;exact (hd hg').trans (H.hears g' hg')
  · exact (Deaf_other t (fun x=>e x.symm) u hu).trans (H.hears g' hg')
theorem PastR.oldWrote (H:PastR Shun Still Mem Loose K t) {i:Nat} {a:Touch} {x:MemOp} (hx':t[i]?=some x) (hxa:x.act.touch?=some a) (hw:a.write=true) {g:Nat} (hg:Mem g) (hS:Still g a.loc):Knows (t ++ u) g i :=
  (H.wrote i a (by rw [touchAt_of hx'];exact hxa) hw g hg hS).app u
theorem PastR.appMute (H:PastR Shun Still Mem Loose K t) (hK:∀ i,K i→K' i) (hu:∀ op∈u,op.g=g) (hn:∀ op∈u,op.act.touch?=none) (hd:Mem g→Deaf (t ++ u) g=Deaf t g):PastR Shun Still Mem Loose K' (t ++ u):=by
  refine ⟨fun said=>noRace_appendMute (H.clean said) hn,fun i a ha hm=>?_,fun i a ha hs=>?_,fun i a ha hw g' hg' hS=>?_,H.apart,H.loose,H.oldHears hu hd⟩
  all_goals
    obtain ⟨x,hx,hxa⟩:=touch_of ha
    rcases getElem?_append_cases hx with ⟨_,hx'⟩ | ⟨_,hxu⟩
  · exact H.oldK hK hx' hxa hm
  · rw [hn x hxu] at hxa;cases hxa
  · exact H.shun i a (by rw [touchAt_of hx'];exact hxa) hs
  · rw [hn x hxu] at hxa;cases hxa
  · exact H.oldWrote hx' hxa hw hg' hS
  · rw [hn x hxu] at hxa;cases hxa
theorem PastR.appRead (H:PastR Shun Still Mem Loose K t) (hK:∀ i,K i→K' i) (hL:Loose g) (hu:∀ op∈u,op.g=g) (hr:∀ op∈u,∀ b,op.act.touch?=some b→b.write=false∧Still g b.loc) (hd:Deaf (t ++ u) g=Deaf t g):PastR Shun Still Mem Loose K' (t ++ u):=by
  have hg:=H.loose g hL
  refine ⟨fun said=>noRace_append (H.clean said) hu fun i a ha op hop b hb hc=>?_,fun i a ha hm=>?_,fun i a ha hs=>?_,fun i a ha hw g' hg' hS=>?_,H.apart,H.loose,H.oldHears hu (fun _=>hd)⟩
  · obtain ⟨hb0,hbS⟩:=hr op hop b hb
    rcases hc.2.2.1 with x | x
    · exact H.wrote i a ha x g hg (hc.1 ▸ hbS)
    · rw [hb0] at x;cases x
  all_goals
    obtain ⟨x,hx,hxa⟩:=touch_of ha
    rcases getElem?_append_cases hx with ⟨_,hx'⟩ | ⟨_,hxu⟩
  · exact H.oldK hK hx' hxa hm
  · exact .inr (.inr ⟨(hr x hxu a hxa).1,g,by rw [g?_of hx,hu x hxu],hL,(hr x hxu a hxa).2⟩)
  · exact H.shun i a (by rw [touchAt_of hx'];exact hxa) hs
  · exact absurd hs (H.apart g _ hg (hr x hxu a hxa).2).2
  · exact H.oldWrote hx' hxa hw hg' hS
  · rw [(hr x hxu a hxa).1] at hw;cases hw
theorem PastR.appShun (H:PastR Shun Still Mem Loose K t) (hK:∀ i,K i→K' i) (hu:∀ op∈u,op.g=g) (hr:∀ op∈u,∀ b,op.act.touch?=some b→Shun b.loc∧b.kind=.atomic) (hq:∀ op∈u,∀ d,deafStep g d op=d) (hd:Deaf t g≠0):PastR Shun Still Mem Loose K' (t ++ u):=by
  have hear:∀ i x,(t ++ u)[i]?=some x→t.size≤i→¬ (t ++ u).heard i:=fun i x hx hi=>by
    rintro ⟨g',h1,h2⟩
    obtain ⟨k,rfl⟩:=Nat.exists_eq_add_of_le hi
    have hk:k < u.size:=by have:=lt_size_of_getElem? hx;simp at this;omega
    have hxu:x∈u:=by rw [at_new] at hx;exact Array.mem_of_getElem? hx
    have e:g'=g:=by rw [g?_of hx,hu x hxu] at h1;exact (Option.some.inj h1).symm
    subst e
    rw [deaf_quiet hq k (Nat.le_of_lt hk)] at h2
    exact hd h2
  refine ⟨fun said=>noRace_append (H.clean said) hu fun i a ha op hop b hb hc=>?_,fun i a ha hm=>?_,fun i a ha hs=>?_,fun i a ha hw g' hg' hS=>?_,H.apart,H.loose,H.oldHears hu (fun hM=>absurd (H.hears g hM) hd)⟩
  · exfalso
    obtain ⟨hbS,hbk⟩:=hr op hop b hb
    rcases hc.2.2.2 with x | x | ⟨_,_,x⟩
    · exact H.shun i a ha (hc.1 ▸ hbS) x
    · rw [hbk] at x;cases x
    · rw [hbk] at x;cases x
  all_goals
    obtain ⟨x,hx,hxa⟩:=touch_of ha
    rcases getElem?_append_cases hx with ⟨_,hx'⟩ | ⟨hge,hxu⟩
  · exact H.oldK hK hx' hxa hm
  · exact .inr (.inl ⟨(hr x hxu a hxa).1,(hr x hxu a hxa).2,hear i x hx hge⟩)
  · exact H.shun i a (by rw [touchAt_of hx'];exact hxa) hs
  · rw [(hr x hxu a hxa).2];intro e;cases e
  · exact H.oldWrote hx' hxa hw hg' hS
  · exact absurd (hr x hxu a hxa).1 (H.apart g' _ hg' hS).2
theorem PastR.appH (H:PastW Shun Still Mem Loose h t) (hu:∀ op∈u,op.g=h) (hs:∀ op∈u,∀ b,op.act.touch?=some b→(∀ g,Mem g→Still g b.loc→b.write=false)∧(Shun b.loc→b.kind≠.plain)) (hd:Mem h→Deaf (t ++ u) h=Deaf t h):PastW Shun Still Mem Loose h (t ++ u):=by
  refine ⟨fun said=>noRace_append (H.clean said) hu fun i a ha op hop b hb hc=>?_,fun i a ha hm=>?_,fun i a ha hS=>?_,fun i a ha hw g' hg' hS=>?_,H.apart,H.loose,H.oldHears hu hd⟩
  · obtain ⟨h1,h2⟩:=hs op hop b hb
    rcases H.known i a ha hc.2.1 with hk | ⟨hS,hk,_⟩ | ⟨hw,g,_,hl,hS⟩
    · exact hk
    · exfalso
      rcases hc.2.2.2 with x | x | ⟨_,x,_⟩
      · rw [hk] at x;cases x
      · exact h2 (hc.1 ▸ hS) x
      · rw [hk] at x;cases x
    · exfalso
      rcases hc.2.2.1 with x | x
      · rw [hw] at x;cases x
      · rw [h1 g (H.loose g hl) (hc.1 ▸ hS)] at x;cases x
  all_goals
    obtain ⟨x,hx,hxa⟩:=touch_of ha
    rcases getElem?_append_cases hx with ⟨_,hx'⟩ | ⟨_,hxu⟩
  · exact H.oldK (fun i=>Knows.app u) hx' hxa hm
  · have:=knows_own hx
    rw [hu x hxu] at this
    exact .inl this
  · exact H.shun i a (by rw [touchAt_of hx'];exact hxa) hS
  · exact (hs x hxu a hxa).2 hS
  · exact H.oldWrote hx' hxa hw hg' hS
  · rw [(hs x hxu a hxa).1 g' hg' hS] at hw;cases hw
theorem PastR.join {S:Loc→Prop} (H:PastW Shun Still Mem Loose h t) (hM:¬ Mem h) (hS:∀ l,S l→l.isMemory=true∧¬ Shun l) (hd:Deaf t h=0) (l:Bool) :
    PastW Shun (fun g=>if g=h then S else Still g) (fun g=>Mem g∨g=h) (fun g=>Loose g∨(l=true∧g=h)) h t:=by
  have hne:∀ g,Mem g→g≠h:=fun g hg e=>hM (e ▸ hg)
  refine ⟨H.clean,fun i a ha hm=>?_,H.shun,fun i a ha hw g hg hs=>?_,fun g x hg hs=>?_,fun g hg=>?_,fun g hg=>hg.elim (H.hears g) fun e=>e ▸ hd⟩
  · exact (H.known i a ha hm).imp id fun h=>h.imp id fun ⟨p,g,hg,hl,hs⟩=>⟨p,g,hg,.inl hl,by rw [if_neg (hne g (H.loose g hl))];exact hs⟩
  · rcases hg with hg | rfl
    · rw [if_neg (hne g hg)] at hs;exact H.wrote i a ha hw g hg hs
    · rw [if_pos rfl] at hs
      obtain ⟨h1,h2⟩:=hS _ hs
      rcases H.known i a ha h1 with hk | ⟨hk,_⟩ | ⟨hk,_⟩
      · exact hk
      · exact absurd hk h2
      · rw [hw] at hk;cases hk
  · rcases hg with hg | rfl
    · rw [if_neg (hne g hg)] at hs;exact H.apart g x hg hs
    · rw [if_pos rfl] at hs;exact hS x hs
  · exact hg.imp (H.loose g) fun x=>x.2
theorem PastR.fewer {Mem' Loose':Nat→Prop} (H:PastR Shun Still Mem Loose K t) (hM:∀ g,Mem' g→Mem g) (hL:∀ g,Loose' g→Mem' g) (hl:∀ i g,t.g? i=some g→Loose g→Loose' g∨K i):PastR Shun Still Mem' Loose' K t :=
  ⟨H.clean,fun i a ha hm=>by
    rcases H.known i a ha hm with h | h | ⟨p,g,hg,hl',hs⟩
    · exact .inl h
    · exact .inr (.inl h)
    · rcases hl i g hg hl' with h | h
      · exact .inr (.inr ⟨p,g,hg,h,hs⟩)
      · exact .inl h,H.shun,fun i a ha hw g hg hs=>H.wrote i a ha hw g (hM g hg) hs,fun g l hg hs=>H.apart g l (hM g hg) hs,hL,fun g hg=>H.hears g (hM g hg)⟩
theorem PastR.turn {Loose':Nat→Prop} (H:PastR Shun Still Mem Loose K t) (hn:∀ op∈u,op.act.touch?=none) (hq:∀ g,∀ op∈u,∀ d,deafStep g d op=d) (hL:∀ g,Loose' g→Mem g)
    (hK:∀ i,K i→K' i) (hl:∀ i g,t.g? i=some g→Loose g→Loose' g∨K' i):PastR Shun Still Mem Loose' K' (t ++ u):=by
  refine ⟨fun said=>noRace_appendMute (H.clean said) hn,fun i a ha hm=>?_,fun i a ha hs=>?_,fun i a ha hw g' hg' hS=>?_,H.apart,hL,fun g hg=>(Deaf_quiet (hq g)).trans (H.hears g hg)⟩
  all_goals
    obtain ⟨x,hx,hxa⟩:=touch_of ha
    rcases getElem?_append_cases hx with ⟨hi,hx'⟩ | ⟨_,hxu⟩
  · rcases H.known i a (by rw [touchAt_of hx'];exact hxa) hm with h | ⟨p,q,r⟩ | ⟨p,g,hg,hl',hs⟩
    · exact .inl (hK i h)
    · exact .inr (.inl ⟨p,q,fun e=>r ((heard_old hi).1 e)⟩)
    · rcases hl i g hg hl' with h | h
      · exact .inr (.inr ⟨p,g,by rw [g?_old hi];exact hg,h,hs⟩)
      · exact .inl h
  · rw [hn x hxu] at hxa;cases hxa
  · exact H.shun i a (by rw [touchAt_of hx'];exact hxa) hs
  · rw [hn x hxu] at hxa;cases hxa
  · exact H.oldWrote hx' hxa hw hg' hS
  · rw [hn x hxu] at hxa;cases hxa
theorem g?_lt {t:Trace} {i g:Nat} (h:t.g? i=some g):∃ x,t[i]?=some x∧x.g=g:=by
  unfold Trace.g? at h
  obtain ⟨x,h1,h2⟩:=Option.map_eq_some_iff.1 h
  exact ⟨x,h1,h2⟩
theorem knows_mine {t:Trace} {i j:Nat} (u:Trace) (h:t.g? i=some j):Knows (t ++ u) j i:=by
  obtain ⟨x,h1,rfl⟩:=g?_lt h
  exact (knows_own h1).app u
theorem PastR.give {j:Nat} (H:PastW Shun Still Mem Loose h t) (hh:Deaf t h=0) (hj:Mem j) (fh:FuncId) (ph:String) (fj:FuncId) (pj:String) (c k cap:Nat) :
    PastW Shun Still Mem (fun g=>Loose g∧g≠j) j (t ++ met h j fh ph fj pj c k cap):=by
  have e0:(t ++ met h j fh ph fj pj c k cap)[t.size]?=some { g:=h,fn:=fh,pos:=ph,act:=.send c k }:=by simp [met]
  have e3:(t ++ met h j fh ph fj pj c k cap)[t.size + 3]?=some { g:=j,fn:=fj,pos:=pj,act:=.recvDone c k }:=by simp [met]
  have edge:HappensBefore (t ++ met h j fh ph fj pj c k cap) t.size (t.size + 3) :=
    Relation.TransGen.single (.inr ⟨.handOver (act?_of e0) (act?_of e3),⟨h,g?_of e0,by rw [deaf_old (Nat.le_refl _)];exact hh⟩,⟨j,g?_of e3,by rw [deaf_quiet (met_quiet h j fh ph fj pj c k cap j) 3 (by simp [met])];exact H.hears j hj⟩⟩)
  refine PastR.turn H (met_mute h j fh ph fj pj c k cap) (met_quiet h j fh ph fj pj c k cap) (fun g hg=>H.loose g hg.1) (fun i hk=>⟨t.size + 3,_,e3,rfl,.inr ((hk.hb_new (Nat.le_refl _) e0 rfl).trans edge)⟩) fun i g hg hl=>?_
  by_cases e:g=j
  · subst e;exact .inr (knows_mine _ hg)
  · exact .inl ⟨hl,e⟩
def born2 (h c:Nat) (fh:FuncId) (ph:String) (fc:FuncId):Trace:=#[{ g:=h,fn:=fh,pos:=ph,act:=.go c },{ g:=c,fn:=fc,pos:=ph,act:=.start }]
theorem born2_mute (h c:Nat) (fh:FuncId) (ph:String) (fc:FuncId):∀ op∈born2 h c fh ph fc,op.act.touch?=none:=by
  intro op hop
  simp only [born2,List.mem_toArray,List.mem_cons,List.not_mem_nil,or_false] at hop
  rcases hop with rfl | rfl <;> rfl
theorem born2_quiet (h c:Nat) (fh:FuncId) (ph:String) (fc:FuncId) (g:Nat):∀ op∈born2 h c fh ph fc,∀ d,deafStep g d op=d:=by
  intro op hop d
  simp only [born2,List.mem_toArray,List.mem_cons,List.not_mem_nil,or_false] at hop
  rcases hop with rfl | rfl <;> rfl
theorem PastR.hire {c:Nat} (H:PastW Shun Still Mem Loose h t) (hh:Deaf t h=0) (hc:Deaf t c=0) (fh:FuncId) (ph:String) (fc:FuncId):PastW Shun Still Mem Loose c (t ++ born2 h c fh ph fc):=by
  have e0:(t ++ born2 h c fh ph fc)[t.size]?=some { g:=h,fn:=fh,pos:=ph,act:=.go c }:=by simp [born2]
  have e1:(t ++ born2 h c fh ph fc)[t.size + 1]?=some { g:=c,fn:=fc,pos:=ph,act:=.start }:=by simp [born2]
  have edge:HappensBefore (t ++ born2 h c fh ph fc) t.size (t.size + 1) :=
    Relation.TransGen.single (.inr ⟨.spawn (act?_of e0) (act?_of e1) (g?_of e1),⟨h,g?_of e0,by rw [deaf_old (Nat.le_refl _)];exact hh⟩,⟨c,g?_of e1,by rw [deaf_quiet (born2_quiet h c fh ph fc c) 1 (by simp [born2])];exact hc⟩⟩)
  exact PastR.turn H (born2_mute h c fh ph fc) (born2_quiet h c fh ph fc) H.loose (fun i hk=>⟨t.size + 1,_,e1,rfl,.inr ((hk.hb_new (Nat.le_refl _) e0 rfl).trans edge)⟩) fun i g hg hl=>.inl hl
structure PastS (Shun:Loc→Prop) (Still:Nat→Loc→Prop) (Mem Loose:Nat→Prop) (c m:Nat) (t:Trace):Prop where
  past:PastR Shun Still Mem Loose (fun i=>Before t i m) t
  shut:t.act? m=some (.close c)
  heard:t.heard m
theorem PastR.close (H:PastW Shun Still Mem Loose h t) (hh:Deaf t h=0) (fh:FuncId) (ph:String) (c:Nat):PastS Shun Still Mem Loose c t.size (t ++ #[{ g:=h,fn:=fh,pos:=ph,act:=.close c }]):=by
  have e0:(t ++ #[{ g:=h,fn:=fh,pos:=ph,act:=.close c }])[t.size]?=some { g:=h,fn:=fh,pos:=ph,act:=.close c }:=by simp
  refine ⟨PastR.turn H (fun op hop=>?_) (fun g op hop d=>?_) H.loose (fun i hk=>.inr (hk.hb_new (Nat.le_refl _) e0 rfl)) fun i g hg hl=>.inl hl,act?_of e0,h,g?_of e0,by rw [deaf_old (Nat.le_refl _)];exact hh⟩
  all_goals
    simp only [List.mem_toArray,List.mem_cons,List.not_mem_nil,or_false] at hop
    subst hop
    rfl
theorem PastS.app {c m:Nat} (H:PastS Shun Still Mem Loose c m t) (h:(∀ i,Before t i m→Before (t ++ u) i m)→PastR Shun Still Mem Loose (fun i=>Before (t ++ u) i m) (t ++ u)):PastS Shun Still Mem Loose c m (t ++ u):=by
  have hm:=lt_of_act? H.shut
  exact ⟨h fun i hb=>hb.app u,by rw [act?_old hm];exact H.shut,(heard_old hm).2 H.heard⟩
theorem PastS.take {c m j:Nat} (H:PastS Shun Still Mem Loose c m t) (hj:Mem j) (fj:FuncId) (pj:String):PastW Shun Still Mem (fun g=>Loose g∧g≠j) j (t ++ #[{ g:=j,fn:=fj,pos:=pj,act:=.recvClosed c }]):=by
  generalize hu:(#[{ g:=j,fn:=fj,pos:=pj,act:=.recvClosed c }]:Trace)=u
  have hlt:=lt_of_act? H.shut
  have hn:∀ op∈u,op.act.touch?=none:=by
    intro op hop
    subst hu
    simp only [List.mem_toArray,List.mem_cons,List.not_mem_nil,or_false] at hop
    subst hop;rfl
  have hq:∀ g,∀ op∈u,∀ d,deafStep g d op=d:=by
    intro g op hop d
    subst hu
    simp only [List.mem_toArray,List.mem_cons,List.not_mem_nil,or_false] at hop
    subst hop;rfl
  have e0:(t ++ u)[t.size]?=some { g:=j,fn:=fj,pos:=pj,act:=.recvClosed c }:=by subst hu;simp
  have edge:HappensBefore (t ++ u) m t.size :=
    Relation.TransGen.single (.inr ⟨.closed (by rw [act?_old hlt];exact H.shut) (act?_of e0),(heard_old hlt).2 H.heard,⟨j,g?_of e0,by rw [deaf_old (Nat.le_refl _)];exact H.past.hears j hj⟩⟩)
  refine PastR.turn H.past hn hq (fun g hg=>H.past.loose g hg.1) (fun i hk=>⟨t.size,_,e0,rfl,.inr ((hk.app u).hb edge)⟩) fun i g hg hl=>?_
  by_cases e:g=j
  · subst e;exact .inr (knows_mine _ hg)
  · exact .inl ⟨hl,e⟩
theorem PastR.over (H:PastW Shun Still Mem Loose 0 t) (hL:∀ g,¬ Loose g):t.HandedOver:=by
  intro i g hg hne ⟨x,hx,hm,hc⟩
  rcases H.known i x hx hm with ⟨q,z,hq,hz,hb⟩ | ⟨_,h1,h2⟩ | ⟨_,g',_,hl,_⟩
  · rcases hb with rfl | hb
    · rw [g?_of hq,hz] at hg
      exact absurd (Option.some.inj hg).symm hne
    · exact ⟨q,by rw [g?_of hq,hz],hb⟩
  · exact hc.elim (fun h=>absurd h1 h) (fun h=>absurd h h2)
  · exact absurd hl (hL g')
theorem pastR_nil:PastW Shun Still (fun _=>False) (fun _=>False) 0 #[] :=
  ⟨fun said=>by rintro ⟨i,j,_,⟨a,b,ha,_⟩,_⟩;simp [Trace.act?] at ha,fun i a ha=>by simp [touchAt,Trace.act?] at ha,fun i a ha=>by simp [touchAt,Trace.act?] at ha,fun i a ha=>by simp [touchAt,Trace.act?] at ha,fun _ _ h=>h.elim,fun _ h=>h,fun _ h=>h.elim⟩
theorem PastR.reshun {Shun':Loc→Prop} (H:PastR Shun Still Mem Loose K t) (h1:∀ l,Shun l→Shun' l) (h2:∀ i a,touchAt t i=some a→Shun' a.loc→a.kind≠.plain) (h3:∀ g l,Mem g→Still g l→¬ Shun' l):PastR Shun' Still Mem Loose K t :=
  ⟨H.clean,fun i a ha hm=>(H.known i a ha hm).imp id fun h=>h.imp (fun x=>⟨h1 _ x.1,x.2⟩) id,h2,H.wrote,fun g l hg hs=>⟨(H.apart g l hg hs).1,h3 g l hg hs⟩,H.loose,H.hears⟩
end
end Go.Proofs.Ytndppafplgilbaa
