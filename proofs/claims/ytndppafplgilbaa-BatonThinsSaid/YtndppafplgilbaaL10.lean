/-
  larchlaw04.BatonThins returns true for every input. No condition. (Part 10 of 49; joined by program.)
-/
import Derived.Test.YtndppafplgilbaaL09
set_option linter.unusedVariables false
set_option linter.unusedSimpArgs false
set_option linter.unusedSectionVars false
set_option maxRecDepth 100000
namespace Go.Proofs.Ytndppafplgilbaa
open Go Go.Conc
open Go.ConcN (sumTo upd sumTo_upd upd_ne upd_same)
def Wins (P:Program) (Post:Value→World→Prop) (m:Machine) (T:Trace):Prop :=
  ∃ N last o w' t',runNT P (N + 1) m T=(.ended o w',t')∧runN P N m=.next last∧step P last=.ended o w'∧Good P Post last o w' t'
theorem Wins.back {P:Program} {Post:Value→World→Prop} {N:Nat} {m m':Machine} {T T':Trace} (h:runNT P N m T=(.next m',T')) (k:Wins P Post m' T'):Wins P Post m T:=by
  obtain ⟨M,last,o,w',t',h1,h2,h3,h4⟩:=k
  refine ⟨N + M,last,o,w',t',?_,?_,h3,h4⟩
  · rw [Nat.add_assoc,runNT_add,h];exact h1
  · have h5:runN P N m=.next m':=by rw [← runNT_fst P N m T,h]
    rw [runN_add,h5];exact h2
structure Sit where
  K:World→Prop
  S:Nat→Loc→Prop
  Shun:Loc→Prop
  st:Addr
  R0:Nat→Role
  A0:Nat→Bool
  n:Nat
  d:Nat
structure Sit.Ok (s:Sit):Prop where
  Kat:∀ w d,s.K w→s.K (w.at d)
  Kst:∀ w x,s.K w→s.K (w.setCell s.st x)
  Kc:∀ w c cap buf cl a b tm,(∃ x,(s.R0 x).has c)→s.K w→s.K (w.setChan c cap buf cl a b tm)
  stc:∀ x c,(s.R0 x).has c→c≠s.st.block
def OO (Post:Value→World→Prop) (w:World):Prop:=∃ v w₁,Post v w₁∧w₁.os=w.os∧w₁.output=w.output
theorem OO.of {Post:Value→World→Prop} {w w':World} (h:OO Post w) (h1:w'.os=w.os) (h2:w'.output=w.output):OO Post w':=by
  obtain ⟨v,w₁,a,b,c⟩:=h
  exact ⟨v,w₁,a,b.trans h1.symm,c.trans h2.symm⟩
def Sit.KO (s:Sit) (Post:Value→World→Prop) (w:World):Prop:=s.K w∧OO Post w
section
variable {Post:Value→World→Prop} {s:Sit} (ok:s.Ok)
include ok
theorem Sit.Ok.KatO:∀ w d,s.KO Post w→s.KO Post (w.at d):=fun w d h=>⟨ok.Kat w d h.1,h.2⟩
theorem Sit.Ok.KstO:∀ w x,s.KO Post w→s.KO Post (w.setCell s.st x):=fun w x h=>⟨ok.Kst w x h.1,h.2⟩
theorem Sit.Ok.KcO:∀ w c cap buf cl a b tm,(∃ x,(s.R0 x).has c)→s.KO Post w→s.KO Post (w.setChan c cap buf cl a b tm):=fun w c cap buf cl a b tm hx h=>⟨ok.Kc w c cap buf cl a b tm hx h.1,h.2⟩
end
def Stand (P:Program) (Post:Value→World→Prop) (s:Sit) (h:Nat) (g:Goroutine) (w:World) (m:Machine) (T:Trace):Prop :=
  ∃ gs sl q Rl A w₁,m=crowd gs w₁ sl∧RW s.st w w₁∧gs.size=s.n∧gs[h]?=some g∧Hold P (s.KO Post) s.S s.Shun s.st Rl A h T gs w₁ q∧Same s.R0 Rl∧Deaf T h=s.d ∧
    (∀ x,x=h∨(s.R0 x).sits∨s.n≤x→A x=s.A0 x)∧(∀ x,A x=true→s.A0 x=true)∧∀ x,(s.R0 x).sits∨s.n≤x→Rl x=s.R0 x
def Lh (P:Program) (Post:Value→World→Prop) (s:Sit) (h:Nat) (g:Goroutine) (w:World):Prop:=∀ m T,Stand P Post s h g w m T→Wins P Post m T
section
variable {P:Program} {Post:Value→World→Prop} {s s':Sit} {h:Nat} {g g':Goroutine} {w w':World}
theorem Lh.rw (H:Lh P Post s h g w) (r:RW s.st w w'):Lh P Post s h g w':=fun m T ⟨gs,sl,q,Rl,A,w₁,h1,h2,h3⟩=>H m T ⟨gs,sl,q,Rl,A,w₁,h1,r.trans h2,h3⟩
def EvT (S:Nat→Loc→Prop) (Shun:Loc→Prop) (Rl:Nat→Role) (h:Nat) (e:Event):Prop :=
  ∀ b,(MemAct.ofEvent e).touch?=some b→(∀ g,g≠h→(Rl g).sits→S g b.loc→b.write=false)∧(Shun b.loc→b.kind≠.plain)
structure DT (s:Sit) (h:Nat) (w w':World) (es:Array Event):Prop where
  keep:s.K w→s.K w'
  chans:∀ x c,(s.R0 x).has c→(∃ cap k,w.heap[c]?=some (.chan cap #[] false k k false))→w'.heap[c]?=w.heap[c]?
  cell:s.st.spot=none→w'.cell? s.st=w.cell? s.st∧w'.frozen? s.st=w.frozen? s.st
  evs:∀ e∈es,EvT s.S s.Shun s.R0 h e
  size:w.heap.size≤w'.heap.size
  low:∀ e∈es,∀ b x,(MemAct.ofEvent e).touch?=some b→b.loc=.cell x→x.block < w'.heap.size
  os:w'.os=w.os
  out:w'.output=w.output
theorem Core.own' {K:World→Prop} {S:Nat→Loc→Prop} {Shun:Loc→Prop} {st:Addr} {Rl:Nat→Role} {A A':Nat→Bool} {T:Trace} {gs:Array Goroutine} {q:Nat→Nat} (C:Hold P K S Shun st Rl A h T gs w q) {a a':Goroutine} {es:Array Event} (ha:gs[h]?=some a)
    (keep:K w') (hch:∀ x c,(Rl x).has c→w'.heap[c]?=w.heap[c]?) (hcell:st.spot=none→w'.cell? st=some (.int .u64 (alive A' (gs.size + 1) * 4294967296))∧w'.frozen? st=false) (hfew:alive A' (gs.size + 1) < 1000) (hAn:∀ x,x < gs.size→A' x=true→A x=true) (hA:∀ x,A x=true→A' x=true)
    (hevs:∀ e∈es,EvT S Shun Rl h e) (hsize:w.heap.size≤w'.heap.size) (hlow:∀ e∈es,∀ b x,(MemAct.ofEvent e).touch?=some b→b.loc=.cell x→x.block < w'.heap.size) :
    Hold P K S Shun st Rl A' h (T ++ MemOp.ofEvents h a.frame.fn a.frame.place es) ((gs.map (woken P a a' w')).setIfInBounds h a') w' q∧((gs.map (woken P a a' w')).setIfInBounds h a')[h]?=some a':=by
  have hlt:h < gs.size:=(Array.getElem?_eq_some_iff.1 ha).1
  have hwk:∀ (x:Nat) (y:Goroutine),x≠h→gs[x]?=some y→woken P a a' w' y=y:=fun x y hx hy=>by
    unfold woken
    split
    · exact IdleR.again keep (C.idle x y hx hy) fun c hc=>by rw [hch x c hc];exact C.chans x c (fun h=>h) hc
    · rfl
  refine ⟨⟨fun x y hx hy=>?_,fun x c _ hc=>by rw [hch x c hc];exact C.chans x c (fun h=>h) hc,fun _ _ hx=>hx.elim,fun _ hx=>hx.elim,C.inj,fun j hj=>?_,fun x hx hd=>⟨hA x (C.aliveD x hx hd).1,(C.aliveD x hx hd).2⟩,?_,C.shun,keep,fun hs=>by simpa using hcell hs,by simpa using hfew,C.low.app hsize (lowOps hlow),fun x y h1 h2=>Nat.lt_of_lt_of_le (C.slow x y h1 h2) hsize,fun x hx hsx hAx=>by have hx':x < gs.size:=(by simpa using hx);exact C.aliveC x hx' hsx (hAn x hx' hAx)⟩,Array.getElem?_setIfInBounds_self_of_lt (by simpa using hlt)⟩
  · rw [Array.getElem?_setIfInBounds_ne (fun e=>hx e.symm),Array.getElem?_map] at hy
    obtain ⟨y₀,hy₀,rfl⟩:=Option.map_eq_some_iff.1 hy
    rw [hwk x y₀ hx hy₀]
    have hi:=C.idle x y₀ hx hy₀
    cases es':Rl x with
    | seat c z ok home=>rw [es'] at hi;exact hi
    | done=>rw [es'] at hi;exact ⟨hi.1,by rw [Deaf_other T (fun z=>hx z.symm) _ own_of];exact hi.2⟩
    | leave=>rw [es'] at hi;exact ⟨hi.1,by rw [Deaf_other T (fun z=>hx z.symm) _ own_of];exact hi.2⟩
  · simp only [Array.size_setIfInBounds,Array.size_map] at hj
    rw [Deaf_other T (g':=h) (by omega) _ own_of]
    exact C.above j hj
  · refine PastR.appH C.past own_of (fun op hop b hb=>?_) (fun hM=>absurd rfl hM.1)
    obtain ⟨e,h1,rfl⟩:=Go.Conc.mem_ofEvents hop
    exact ⟨fun g hg=>(hevs e h1 b hb).1 g hg.1 hg.2,(hevs e h1 b hb).2⟩
theorem EvT.same {S:Nat→Loc→Prop} {Shun:Loc→Prop} {R R':Nat→Role} {e:Event} (k:Same R R') (H:EvT S Shun R h e):EvT S Shun R' h e :=
  fun b hb=>⟨fun g hg hs hS=>(H b hb).1 g hg ((k.sits g).1 hs) hS,(H b hb).2⟩
theorem Stand.pick (ok:s.Ok) (hrun:g.status=.running) {m:Machine} {T:Trace} (H:Stand P Post s h g w m T) :
    ∃ N gs₁ w₁ sl₁ sl₂ T₁ q₁ R1 A1 m₁,runNT P N m T=(.next m₁,T₁)∧stepT P m₁=runT P (crowd gs₁ w₁ sl₂) h∧m₁.world=w₁.at m₁.world.drawn∧m₁=crowd gs₁ m₁.world sl₁∧RW s.st w w₁∧gs₁.size=s.n∧gs₁[h]?=some g∧Hold P (s.KO Post) s.S s.Shun s.st R1 A1 h T₁ gs₁ w₁ q₁∧Same s.R0 R1∧Deaf T₁ h=s.d ∧
      (∀ x,x=h∨(s.R0 x).sits∨s.n≤x→A1 x=s.A0 x)∧(∀ x,A1 x=true→s.A0 x=true)∧∀ x,(s.R0 x).sits∨s.n≤x→R1 x=s.R0 x:=by
  obtain ⟨gs,sl,q,Rl,A,w₀,rfl,r,hn,ha,C,sm,hd,hA1,hA2,hR⟩:=H
  obtain ⟨N,gs₁,w₁,d,sl₁,sl₂,T₁,q₁,R1,A1,hr,hst,hsz,ha₁,C₁,sm1,rw₁,hdf,hAA,hRR⟩:=picked ok.KatO ok.KstO ok.stc hrun _ gs w₀ sl T q Rl A rfl r ha C sm
  refine ⟨N,gs₁,w₁.at d,sl₁,sl₂,T₁,q₁,R1,A1,crowd gs₁ w₁ sl₁,hr,hst,rfl,rfl,rw₁,hsz.trans hn,ha₁,C₁,sm1,hdf.trans hd,fun x hx=>?_,fun x hx=>hA2 x (hAA.2 x hx),fun x hx=>?_⟩
  · exact (hAA.1 x (by rw [hn];exact hx)).trans (hA1 x hx)
  · exact (hRR x (by rw [hn];exact hx)).trans (hR x hx)
theorem Wins.step {m m':Machine} {T:Trace} {ops:Array MemOp} (h:stepT P m=(.next m',ops)) (k:Wins P Post m' (T ++ ops)):Wins P Post m T:=by
  refine Wins.back (N:=1) (m':=m') (T':=T ++ ops) ?_ k
  simp only [runNT,h]
theorem Lh.step (ok:s.Ok) (hrun:g.status=.running)
    (H:∀ w₁,RW s.st w w₁→∃ g' w' es,stepG P (h == 0) g w₁=.go g' w' es∧DT s h w₁ w' es∧Lh P Post { s with d:=deafBehind s.d es } h g' w'):Lh P Post s h g w:=by
  intro m T hS
  obtain ⟨N,gs₁,w₁,sl₁,sl₂,T₁,q₁,R1,A1,m₁,hr,hst,_,_,rw₁,hn,ha,C,sm,hd,hA1,hA2,hR⟩:=hS.pick ok hrun
  obtain ⟨g',w',es,hgo,hD,hL⟩:=H w₁ rw₁
  obtain ⟨C',ha'⟩:=Core.own' (A':=A1) (a':=g') C ha ⟨hD.keep C.keep.1,C.keep.2.of hD.os hD.out⟩ (fun x c hc=>hD.chans x c ((sm.has x c).1 hc) (C.chans x c (fun h=>h) hc)) (fun hs=>by rw [(hD.cell hs).1,(hD.cell hs).2];exact C.cell hs) C.few (fun _ _ h=>h) (fun _ h=>h) (fun e he=>(hD.evs e he).same sm) hD.size hD.low
  refine Wins.back hr (Wins.step (hst.trans (runT_crowd_go ha hgo)) (hL _ _ ⟨_,_,_,R1,A1,w',rfl,RW.refl,by simpa using hn,ha',C',sm,?_,hA1,hA2,hR⟩))
  rw [Deaf_own,hd]
theorem Lh.add (ok:s.Ok) (hrun:g.status=.running) (hspot:s.st.spot=none) (hnew:s.A0 s.n=false) (hbd:alive s.A0 (s.n + 1) < 900)
    (H:∀ w₁ k,RW s.st w w₁→w₁.cell? s.st=some (.int .u64 (k * 4294967296:Nat))→w₁.frozen? s.st=false→k < 1000→∃ g' es,stepG P (h == 0) g w₁=.go g' (w₁.setCell s.st (.int .u64 ((k + 1) * 4294967296:Nat))) es∧(∀ e∈es,∃ b,e=⟨.cell s.st,b,true⟩) ∧
      (∀ g l,g≠h→(s.R0 g).sits→s.S g l→l≠.cell s.st) ∧
      Lh P Post { s with A0:=upd s.A0 s.n true } h g' (w₁.setCell s.st (.int .u64 ((k + 1) * 4294967296:Nat)))):Lh P Post s h g w:=by
  intro m T hS
  obtain ⟨N,gs₁,w₁,sl₁,sl₂,T₁,q₁,R1,A1,m₁,hr,hst,_,_,rw₁,hn,ha,C,sm,hd,hA1,hA2,hR⟩:=hS.pick ok hrun
  obtain ⟨hc1,hc2⟩:=C.cell hspot
  obtain ⟨g',es,hgo,hes,hSS,hL⟩:=H w₁ _ rw₁ hc1 hc2 C.few
  obtain ⟨_,_,_,hcc,_⟩:=cell_some hc1
  have hblk:=(Array.getElem?_eq_some_iff.1 hcc).1
  have hAn:A1 s.n=false:=(hA1 _ (.inr (.inr (Nat.le_refl _)))).trans hnew
  have hal:alive (upd A1 s.n true) (gs₁.size + 1)=alive A1 (gs₁.size + 1) + 1:=by
    have e0:upd (upd A1 s.n true) s.n false=A1:=by funext x;by_cases e:x=s.n <;> simp [upd,e,hAn]
    have:=alive_upd (A:=upd A1 s.n true) (i:=s.n) (upd_same ..) (n:=gs₁.size + 1) (by omega)
    rw [e0] at this
    exact this.symm
  have hle:alive A1 (gs₁.size + 1)≤alive s.A0 (s.n + 1):=by
    rw [hn]
    have:∀ n,alive A1 n≤alive s.A0 n:=fun n=>by
      induction n with
      | zero=>exact Nat.le_refl _
      | succ n ih =>
        simp only [alive]
        cases e:A1 n with
        | false=>simp;omega
        | true=>rw [hA2 n e];simp;exact ih
    exact this _
  obtain ⟨C',ha'⟩:=Core.own' (A':=upd A1 s.n true) (a':=g') (w':=w₁.setCell s.st (.int .u64 ((alive A1 (gs₁.size + 1) + 1) * 4294967296:Nat))) (es:=es) C ha (ok.KstO _ _ C.keep) (fun x c hc=>setCell_ne w₁ s.st _ (ok.stc x c ((sm.has x c).1 hc)))
    (fun _=>⟨by rw [hal];exact cell_set hc1,by rw [frozen_set];exact hc2⟩) (by rw [hal];omega) (fun x hx h=>by rw [hn] at hx;rwa [upd_ne _ _ (by omega)] at h) (fun x hx=>by by_cases e:x=s.n <;> simp [upd,e,hx])
    (fun e he b hb=>by
      obtain ⟨wr,rfl⟩:=hes e he
      simp only [ofEvent_cell0,MemAct.touch?,Option.some.injEq] at hb
      subst hb
      exact ⟨fun x hx hs hS=>absurd rfl (hSS x _ hx ((sm.sits x).1 hs) hS),fun _ h=>by cases h⟩)
    (by rw [setCell_size];exact Nat.le_refl _) (fun e he b x hb hx=>by
      obtain ⟨wr,rfl⟩:=hes e he
      simp only [ofEvent_cell0,MemAct.touch?,Option.some.injEq] at hb
      subst hb
      cases hx
      rw [setCell_size];exact hblk)
  refine Wins.back hr (Wins.step (hst.trans (runT_crowd_go ha hgo)) (hL _ _ ⟨_,_,_,R1,upd A1 s.n true,_,rfl,RW.refl,by simpa using hn,ha',C',sm,?_,fun x hx=>?_,fun x hx=>?_,hR⟩))
  · rw [Deaf_own,hd]
    exact deafBehind_still (fun e he=>by obtain ⟨b,rfl⟩:=hes e he;exact ⟨by simp,by simp⟩) _
  · show upd A1 s.n true x=upd s.A0 s.n true x
    by_cases e:x=s.n
    · simp [upd,e]
    · rw [upd_ne _ _ e,upd_ne _ _ e];exact hA1 x hx
  · show upd s.A0 s.n true x=true
    by_cases e:x=s.n
    · simp [upd,e]
    · rw [upd_ne _ _ e] at hx ⊢;exact hA2 x hx
end
end Go.Proofs.Ytndppafplgilbaa
namespace Go.Proofs.Ytndppafplgilbaa
open Go Go.Conc
open Go.ConcN (sumTo upd sumTo_upd upd_ne upd_same)
section
variable {P:Program} {Post:Value→World→Prop} {s s':Sit} {h:Nat} {g g':Goroutine} {w w':World}
theorem setChan_set {w:World} {a:Addr} (x:Value) {c:Nat} (hc:c≠a.block) (cap:Nat) (buf:Array Value) (cl:Bool) (p r:Nat) (tm:Bool):(w.setCell a x).setChan c cap buf cl p r tm=(w.setChan c cap buf cl p r tm).setCell a x:=by
  have hh:((w.setCell a x).setChan c cap buf cl p r tm).heap=((w.setChan c cap buf cl p r tm).setCell a x).heap:=by
    apply Array.ext_getElem?
    intro k
    simp only [World.setChan,World.setCell,Array.getElem?_modify,Array.getElem?_setIfInBounds,Array.size_modify]
    by_cases e1:c=k
    · subst e1
      have:¬ a.block=c:=fun e=>hc e.symm
      simp [this]
    · simp [e1]
  cases w
  simp only [World.setCell,World.setChan] at hh ⊢
  simp_all
theorem RW.chan {st:Addr} {w w₁:World} (r:RW st w w₁) {c:Nat} (hc:c≠st.block) (cap:Nat) (buf:Array Value) (cl:Bool) (p q:Nat) (tm:Bool):RW st (w.setChan c cap buf cl p q tm) (w₁.setChan c cap buf cl p q tm):=by
  rcases r with ⟨d,rfl⟩ | ⟨n,n₁,d,h1,h2,rfl⟩
  · exact .inl ⟨d,rfl⟩
  · refine .inr ⟨n,n₁,d,?_,h2,?_⟩
    · obtain ⟨ca,e,f,h3,h4,h5⟩:=cell_some h1
      rw [← h1]
      unfold World.cell?
      rw [heap_setChan_ne w _ _ _ _ _ _ hc]
    · rw [← setChan_set _ hc];rfl
theorem Same.upd {R R':Nat→Role} (k:Same R R') (h:Nat) (r:Role):Same (Go.ConcN.upd R h r) (Go.ConcN.upd R' h r) :=
  ⟨fun x=>by by_cases e:x=h <;> simp [Go.ConcN.upd,e,k.sits x],fun x c=>by by_cases e:x=h <;> simp [Go.ConcN.upd,e,k.has x c],fun x=>by
    by_cases e:x=h
    · subst e;exact .inl (by rw [upd_same,upd_same])
    · rw [upd_ne _ _ e,upd_ne _ _ e];exact k.kind x⟩
structure Becomes (P:Program) (s:Sit) (h:Nat) (w:World) (g':Goroutine) (r':Role) (S':Loc→Prop) (nh:Nat):Prop where
  still:∀ l,S' l→l.isMemory=true∧¬ s.Shun l
  low:∀ x,S' (.cell x)→x.block < w.heap.size
  chan:∀ c',r'.has c'→c'≠s.st.block∧(∀ x,x≠h→¬ (s.R0 x).has c')∧∃ cap k,w.heap[c']?=some (.chan cap #[] false k k false)
  done:r'=.done→s.A0 h=true∧s.st.spot=none
  live:s.A0 h=true→r'≠.leave
  idle:∀ T',Deaf T' h=0→IdleR P s.K (fun g=>if g=h then S' else s.S g) s.st T' h nh g' r'
theorem Becomes.rw {g':Goroutine} {r':Role} {S':Loc→Prop} {nh:Nat} (B:Becomes P s h w g' r' S' nh) {w₁:World} (r:RW s.st w w₁):Becomes P s h w₁ g' r' S' nh :=
  ⟨B.still,fun x hx=>by rw [r.size];exact B.low x hx,fun c' hc'=>by
    obtain ⟨h1,h2,cap,k,h3⟩:=B.chan c' hc'
    exact ⟨h1,h2,cap,k,(rw_heap r h1).trans h3⟩,B.done,B.live,B.idle⟩
theorem Goes.less {P:Program} {main:Bool} {R R':World→World→Prop} {D:World→World→Array Event→Prop} {Stop Stop':Goroutine→World→Prop} (hR:∀ w w₁,R' w w₁→R w w₁) (hS:∀ g w,Stop g w→Stop' g w):∀ {n:Nat} {g:Goroutine} {w:World},Goes P main R D Stop n g w→Goes P main R' D Stop' n g w
  | 0,g,w,h=>fun w₁ r=>hS _ _ (h w₁ (hR _ _ r))
  | n + 1,g,w,h=>by
    rcases h with h | ⟨hs,h⟩
    · exact .inl fun w₁ r=>hS _ _ (h w₁ (hR _ _ r))
    · refine .inr ⟨hs,fun w₁ r=>?_⟩
      have:=h w₁ (hR _ _ r)
      revert this
      cases stepG P main g w₁ <;> simp only [GStep.goes,imp_self]
      exact fun ⟨d,x⟩=>⟨d,Goes.less hR hS x⟩
theorem SitsS.stronger {K K':World→Prop} (hK:∀ w,K' w→K w) {main:Bool} {S:Loc→Prop} {c:Nat} {z:Value} {ok:Bool} {home:Goroutine→Prop} {n:Nat} {g:Goroutine} (h:SitsS P main K S c z ok home n g):SitsS P main K' S c z ok home n g:=by
  have at':∀ g g₂,AtS P main K S c z ok home g g₂→AtS P main K' S c z ok home g g₂:=fun g g₂ ⟨h1,h2,h3,h4,h5,es,h6,h7⟩=>⟨h1,h2,h3,h4,h5,es,h6,fun w hw=>h7 w (hK w hw)⟩
  rcases h with ⟨k,w,e,h⟩ | ⟨e,g₀,g₂,e2,h⟩
  · exact .inl ⟨k,w,e,Goes.less (fun _ w₁ r=>hK w₁ r) (fun g _ ⟨g₂,x⟩=>⟨g₂,at' g g₂ x⟩) h⟩
  · exact .inr ⟨e,g₀,g₂,e2,at' _ _ h⟩
theorem IdleR.stronger {K K':World→Prop} (hK:∀ w,K' w→K w) {S:Nat→Loc→Prop} {st:Addr} {T:Trace} {i n:Nat} {g:Goroutine} {r:Role} (h:IdleR P K S st T i n g r):IdleR P K' S st T i n g r:=by
  cases r with
  | seat c z ok home=>exact SitsS.stronger hK h
  | done=>exact h
  | leave=>exact h
theorem Lh.give (ok:s.Ok) (hd0:s.d=0) {a a₂:Goroutine} {j c k nh:Nat} {z v:Value} {okr:Bool} {home:Goroutine→Prop} {r':Role} {S':Loc→Prop} (hjh:j≠h) (hjn:j < s.n) (hj:s.R0 j=.seat c z okr home) (hat:AtSend P (h == 0) s.S s.Shun s.R0 h c v a a₂)
    (hc:w.heap[c]?=some (.chan 0 #[] false k k false)) (B:Becomes P s h w (Go.Conc.served a₂ undef) r' S' nh)
    (H:∀ g₂,home g₂→Lh P Post { s with S:=fun g=>if g=h then S' else s.S g,R0:=upd s.R0 h r' } j (Go.Conc.served g₂ (recvd okr v true)) (w.setChan c 0 #[] false (k + 1) (k + 1) false)):Lh P Post s h a w:=by
  rintro m T ⟨gs,sl,q,Rl,A,w₁,rfl,rw₁,hn,ha,C,sm,hd,hA1,hA2,hR⟩
  have hcb:c≠s.st.block:=ok.stc j c (by rw [hj];rfl)
  have hjR:Rl j=.seat c z okr home:=(hR j (.inl (by rw [hj];trivial))).trans hj
  have hat':AtSend P (h == 0) s.S s.Shun Rl h c v a a₂:=by
    obtain ⟨h1,z',es,h2,h3⟩:=hat
    exact ⟨h1,z',es,fun e he=>⟨(h2 e he).1.same sm,(h2 e he).2⟩,h3⟩
  have B':=B.rw rw₁
  obtain ⟨N,m',T',hr,gs',g₂,w₂,k',sl',q',R1,A',rfl,hsz,hg,hhome,hc2,rw₂,sm2,hdj,hAA,hRR,C'⟩:=Go.Proofs.Ytndppafplgilbaa.give (sl:=sl) ok.KatO ok.KstO (fun w c cap buf cl a b tm hx=>ok.KcO w c cap buf cl a b tm (by obtain ⟨x,hx⟩:=hx;exact ⟨x,(sm.has x c).1 hx⟩))
    (fun x c hc=>ok.stc x c ((sm.has x c).1 hc)) hjh (by rw [hn];exact hjn) hjR ha hat' C (hd.trans hd0) ((rw_heap rw₁ hcb).trans hc) B'.still B'.low (fun c' hc'=>by
      obtain ⟨h1,h2,h3⟩:=B'.chan c' hc'
      exact ⟨h1,fun x hx hh=>h2 x hx ((sm.has x c').1 hh),h3⟩) (fun e=>⟨(hA1 h (.inl rfl)).trans (B'.done e).1,(B'.done e).2⟩) (fun e=>B'.live ((hA1 h (.inl rfl)).symm.trans e)) (fun T' hT=>IdleR.stronger (fun _ h=>h.1) (B'.idle T' hT))
  have hkk:k'=k:=by
    have:=hc2.symm.trans (((rw_heap rw₂ hcb).trans (rw_heap rw₁ hcb)).trans hc)
    cases this;rfl
  subst hkk
  refine Wins.back hr (H g₂ hhome _ _ ⟨gs',sl',q',upd R1 h r',A',_,rfl,(rw₁.trans rw₂).chan hcb _ _ _ _ _ _,hsz.trans hn,hg,C',(sm.trans sm2).upd h r',hdj.trans hd0.symm,fun x hx=>?_,fun x hx=>hA2 x (hAA.2 x hx),fun x hx=>?_⟩)
  · have:x=h∨(Rl x).sits∨gs.size≤x:=by
      rcases hx with rfl | hx | hx
      · exact .inr (.inl (by rw [hjR];trivial))
      · by_cases e:x=h
        · exact .inl e
        · exact .inr (.inl ((sm.sits x).2 (by have:(upd s.R0 h r' x).sits:=hx;rwa [upd_ne _ _ e] at this)))
      · exact .inr (.inr (by rw [hn];exact hx))
    refine (hAA.1 x this).trans (hA1 x ?_)
    rcases this with e | e | e
    · exact .inl e
    · exact .inr (.inl ((sm.sits x).1 e))
    · exact .inr (.inr (by rw [← hn];exact e))
  · by_cases e:x=h
    · subst e;show upd R1 x r' x=upd s.R0 x r' x;rw [upd_same,upd_same]
    · show upd R1 h r' x=upd s.R0 h r' x
      rw [upd_ne _ _ e,upd_ne _ _ e]
      have hx':(s.R0 x).sits∨s.n≤x:=hx.imp (fun hx=>by have:(upd s.R0 h r' x).sits:=hx;rwa [upd_ne _ _ e] at this) id
      exact (hRR x (hx'.imp (sm.sits x).2 (fun y=>by rw [hn];exact y))).trans (hR x hx')
theorem Lh.close (ok:s.Ok) (hd0:s.d=0) {a a':Goroutine} {j c k nh:Nat} {z:Value} {okr:Bool} {home:Goroutine→Prop} {r':Role} {S':Loc→Prop} (hjh:j≠h) (hjn:j < s.n) (hj:s.R0 j=.seat c z okr home) (hat:AtClose P (h == 0) c a a')
    (hc:w.heap[c]?=some (.chan 0 #[] false k k false)) (B:Becomes P s h w a' r' S' nh)
    (H:∀ g₂,home g₂→Lh P Post { s with S:=fun g=>if g=h then S' else s.S g,R0:=upd (upd s.R0 h r') j .leave } j (Go.Conc.served g₂ (recvd okr z false)) (w.setChan c 0 #[] true k k false)):Lh P Post s h a w:=by
  rintro m T ⟨gs,sl,q,Rl,A,w₁,rfl,rw₁,hn,ha,C,sm,hd,hA1,hA2,hR⟩
  have hcb:c≠s.st.block:=ok.stc j c (by rw [hj];rfl)
  have hjR:Rl j=.seat c z okr home:=(hR j (.inl (by rw [hj];trivial))).trans hj
  have B':=B.rw rw₁
  obtain ⟨N,m',T',w₀,R1,A1,hr,rw₂,sm2,hAh,hAR,gs',g₂,w₃,sl',q',R2,A2,rfl,hsz,hg,hhome,rw₃,sm3,hdj,hAR2,C'⟩:=Go.Proofs.Ytndppafplgilbaa.give_close (sl:=sl) ok.KatO ok.KstO (fun w c cap buf cl a b tm hx=>ok.KcO w c cap buf cl a b tm (by obtain ⟨x,hx⟩:=hx;exact ⟨x,(sm.has x c).1 hx⟩))
    (fun x c hc=>ok.stc x c ((sm.has x c).1 hc)) hjh (by rw [hn];exact hjn) hjR ha hat C (hd.trans hd0) ((rw_heap rw₁ hcb).trans hc) B'.still B'.low (fun c' hc'=>by
      obtain ⟨h1,h2,h3⟩:=B'.chan c' hc'
      exact ⟨h1,fun x hx hh=>h2 x hx ((sm.has x c').1 hh),h3⟩) (fun e=>⟨(hA1 h (.inl rfl)).trans (B'.done e).1,(B'.done e).2⟩) (fun e=>B'.live ((hA1 h (.inl rfl)).symm.trans e)) (fun T' hT=>IdleR.stronger (fun _ h=>h.1) (B'.idle T' hT))
  have smA:Same (upd s.R0 h r') R2:=((sm.trans sm2).upd h r').trans sm3
  refine Wins.back hr (H g₂ hhome _ _ ⟨gs',sl',q',upd R2 j .leave,A2,_,rfl,((rw₁.trans rw₂).chan hcb _ _ _ _ _ _).trans rw₃,hsz.trans hn,hg,C',smA.upd j .leave,hdj.trans hd0.symm,fun x hx=>?_,fun x hx=>hA2 x (hAR.2 x (hAR2.2 x hx)),fun x hx=>?_⟩)
  · have key:∀ x,((upd s.R0 h r') x).sits∨s.n≤x→A2 x=s.A0 x:=fun x hx=>by
      have h1:A2 x=A1 x:=(hAR2.1 x (by
        rcases hx with hx | hx
        · by_cases e:x=h
          · subst e;rw [upd_same] at hx;exact .inl (by rw [upd_same];exact hx)
          · rw [upd_ne _ _ e] at hx;exact .inl (by rw [upd_ne _ _ e];exact (sm2.sits x).2 ((sm.sits x).2 hx))
        · exact .inr (by rw [hn];exact hx))).1
      by_cases e:x=h
      · subst e;exact (h1.trans hAh).trans (hA1 x (.inl rfl))
      · have hx':(s.R0 x).sits∨s.n≤x:=by rwa [upd_ne _ _ e] at hx
        exact (h1.trans (hAR.1 x (hx'.imp (sm.sits x).2 (fun y=>by rw [hn];exact y))).1).trans (hA1 x (.inr hx'))
    rcases hx with rfl | hx | hx
    · exact key x (.inl (by rw [upd_ne _ _ hjh,hj];trivial))
    · by_cases e:x=j
      · subst e
        have:(upd (upd s.R0 h r') x Role.leave x).sits:=hx
        rw [upd_same] at this;exact this.elim
      · have:(upd (upd s.R0 h r') j Role.leave x).sits:=hx
        rw [upd_ne _ _ e] at this
        exact key x (.inl this)
    · exact key x (.inr hx)
  · show upd R2 j Role.leave x=upd (upd s.R0 h r') j Role.leave x
    by_cases e:x=j
    · subst e;rw [upd_same,upd_same]
    · rw [upd_ne _ _ e,upd_ne _ _ e]
      have hx':((upd s.R0 h r') x).sits∨s.n≤x:=hx.imp (fun hx=>by
        have:(upd (upd s.R0 h r') j Role.leave x).sits:=hx
        rwa [upd_ne _ _ e] at this) id
      have h1:R2 x=upd R1 h r' x:=(hAR2.1 x (hx'.imp (fun hx=>by
        by_cases e:x=h
        · subst e;rw [upd_same] at hx;rw [upd_same];exact hx
        · rw [upd_ne _ _ e] at hx;rw [upd_ne _ _ e];exact (sm2.sits x).2 ((sm.sits x).2 hx)) (fun y=>by rw [hn];exact y))).2
      rw [h1]
      by_cases e:x=h
      · subst e;rw [upd_same,upd_same]
      · rw [upd_ne _ _ e] at hx' ⊢
        rw [upd_ne _ _ e]
        exact ((hAR.1 x (hx'.imp (sm.sits x).2 (fun y=>by rw [hn];exact y))).2).trans (hR x hx')
theorem Lh.hire (ok:s.Ok) (hd0:s.d=0) {a a' child:Goroutine} {nh:Nat} {r':Role} {S':Loc→Prop} (hat:AtGo P (h == 0) s.S s.Shun s.R0 h a a' child) (hnew:s.R0 s.n=.leave) (hnA:s.A0 (s.n + 1)=false) (hhn:h < s.n) (B:Becomes P s h w a' r' S' nh)
    (H:Lh P Post { s with S:=fun g=>if g=h then S' else s.S g,R0:=upd s.R0 h r',n:=s.n + 1 } s.n child w):Lh P Post s h a w:=by
  rintro m T ⟨gs,sl,q,Rl,A,w₁,rfl,rw₁,hn,ha,C,sm,hd,hA1,hA2,hR⟩
  have hat':AtGo P (h == 0) s.S s.Shun Rl h a a' child:=by
    obtain ⟨h1,es,h2,h3⟩:=hat
    exact ⟨h1,es,fun e he=>⟨(h2 e he).1.same sm,(h2 e he).2⟩,h3⟩
  have B':=B.rw rw₁
  have hRn:Rl gs.size=.leave:=by rw [hn];exact (hR _ (.inr (Nat.le_refl _))).trans hnew
  have hAn:A (gs.size + 1)=false:=by rw [hn];exact (hA1 _ (.inr (.inr (Nat.le_succ _)))).trans hnA
  obtain ⟨N,gs',w₂,sl',T',q',R1,A1,hr,hsz,hg,rw₂,sm2,hdj,hAA,hRR,C'⟩:=Go.Proofs.Ytndppafplgilbaa.hire (sl:=sl) ok.KatO ok.KstO (fun x c hc=>ok.stc x c ((sm.has x c).1 hc)) ha hat' C (hd.trans hd0) hRn hAn B'.still B'.low (fun c' hc'=>by
      obtain ⟨h1,h2,h3⟩:=B'.chan c' hc'
      exact ⟨h1,fun x hx hh=>h2 x hx ((sm.has x c').1 hh),h3⟩) (fun e=>⟨(hA1 h (.inl rfl)).trans (B'.done e).1,(B'.done e).2⟩) (fun e=>B'.live ((hA1 h (.inl rfl)).symm.trans e)) (fun T' hT=>IdleR.stronger (fun _ h=>h.1) (B'.idle T' hT))
  rw [hn] at hsz hg hdj C'
  refine Wins.back hr (H _ _ ⟨gs',sl',q',upd R1 h r',A1,_,rfl,rw₁.trans rw₂,hsz,hg,C',(sm.trans sm2).upd h r',hdj.trans hd0.symm,fun x hx=>?_,fun x hx=>hA2 x (hAA.2 x hx),fun x hx=>?_⟩)
  · have hx':x=h∨(s.R0 x).sits∨s.n≤x:=by
      rcases hx with rfl | hx | hx
      · exact .inr (.inr (Nat.le_refl _))
      · by_cases e:x=h
        · exact .inl e
        · exact .inr (.inl (by have:(upd s.R0 h r' x).sits:=hx;rwa [upd_ne _ _ e] at this))
      · exact .inr (.inr (by have:s.n + 1≤x:=hx;omega))
    refine (hAA.1 x ?_).trans (hA1 x hx')
    rcases hx' with e | e | e
    · exact .inl e
    · exact .inr (.inl ((sm.sits x).2 e))
    · exact .inr (.inr (by rw [hn];exact e))
  · show upd R1 h r' x=upd s.R0 h r' x
    by_cases e:x=h
    · subst e;rw [upd_same,upd_same]
    · rw [upd_ne _ _ e,upd_ne _ _ e]
      have hx':(s.R0 x).sits∨s.n≤x:=hx.imp (fun hx=>by have:(upd s.R0 h r' x).sits:=hx;rwa [upd_ne _ _ e] at this) (fun hx=>by have:s.n + 1≤x:=hx;omega)
      exact (hRR x (hx'.imp (sm.sits x).2 (fun y=>by rw [hn];exact y))).trans (hR x hx')
theorem RW.oo {Post:Value→World→Prop} {st:Addr} {w w₁:World} (r:RW st w w₁) (h:OO Post w):OO Post w₁:=by
  rcases r with ⟨d,rfl⟩ | ⟨n,n₁,d,_,_,rfl⟩
  · exact h
  · exact h
theorem Lh.fin (ok:s.Ok) (hat:g.status=.running∧∀ w₁,RW s.st w w₁→∃ v es,stepG P true g w₁=.ended (.done v) w₁ es∧(∀ e∈es,EvH s.S s.Shun s.R0 0 e)∧(OO Post w₁→Post v w₁)) (hl:∀ x,x≠0→s.R0 x=.leave):Lh P Post s 0 g w:=by
  rintro m T ⟨gs,sl,q,Rl,A,w₁,rfl,rw₁,hn,ha,C,sm,hd,hA1,hA2,hR⟩
  have hlv:∀ x,x≠0→Rl x=.leave:=fun x hx=>by
    rcases sm.kind x with e | ⟨e,_⟩
    · rw [e];exact hl x hx
    · rw [hl x hx] at e;cases e
  refine hold_end (sl:=sl) ok.KatO ok.KstO (fun x c hc=>ok.stc x c ((sm.has x c).1 hc)) ha ?_ C hlv
  obtain ⟨h1,h2⟩:=hat
  exact ⟨h1,fun w₂ r=>by
    obtain ⟨v,es,e1,e2,e3⟩:=h2 w₂ (rw₁.trans r)
    exact ⟨v,es,e1,fun e he=>(e2 e he).same sm,e3 (r.oo C.keep.2)⟩⟩
theorem Lh.stronger {K':World→Prop} (hK:∀ w,K' w→s.K w) (hw:∀ w₁,RW s.st w w₁→K' w₁) (H:Lh P Post { s with K:=K' } h g w):Lh P Post s h g w:=by
  rintro m T ⟨gs,sl,q,Rl,A,w₁,rfl,rw₁,hn,ha,C,h9⟩
  refine H _ _ ⟨gs,sl,q,Rl,A,w₁,rfl,rw₁,hn,ha,⟨fun x y hx hy=>?_,C.chans,C.live,C.deadSeat,C.inj,C.above,C.aliveD,C.past,C.shun,⟨hw _ rw₁,C.keep.2⟩,C.cell,C.few,C.low,C.slow,C.aliveC⟩,h9⟩
  have hi:=C.idle x y hx hy
  cases e:Rl x with
  | seat c z ok home=>rw [e] at hi;exact SitsS.stronger (fun w h=>⟨hK w h.1,h.2⟩) hi
  | done=>rw [e] at hi;exact hi
  | leave=>rw [e] at hi;exact hi
theorem Lh.shun {Shun':Loc→Prop} (h1:∀ l,s.Shun l→Shun' l) (h2:∀ l,Shun' l→s.Shun l∨∃ x,l=.cell x∧w.heap.size≤x.block) (H:Lh P Post { s with Shun:=Shun' } h g w):Lh P Post s h g w:=by
  rintro m T ⟨gs,sl,q,Rl,A,w₁,rfl,rw₁,hn,ha,C,h9⟩
  refine H _ _ ⟨gs,sl,q,Rl,A,w₁,rfl,rw₁,hn,ha,⟨C.idle,C.chans,C.live,C.deadSeat,C.inj,C.above,C.aliveD,C.past.reshun h1 (fun i a ha hs=>?_) (fun x l hx hl hs=>?_),fun e=>h1 _ (C.shun e),C.keep,C.cell,C.few,C.low,C.slow,C.aliveC⟩,h9⟩
  · rcases h2 _ hs with h | ⟨x,e,hx⟩
    · exact C.past.shun i a ha h
    · have:=C.low i a x ha e
      rw [rw₁.size] at this;omega
  · rcases h2 _ hs with h | ⟨y,e,hy⟩
    · exact (C.past.apart x l hx hl).2 h
    · subst e
      have:=C.slow x y hx.2 hl
      rw [rw₁.size] at this;omega
theorem Lh.game {st':Addr} (hl:∀ x,x≠h→s.R0 x=.leave) (hA:∀ x,s.A0 x=false) (hold:s.st.spot≠none∨w.cell? s.st=some (.int .u64 0)) (hs:s.Shun (.cell st')) (hc:w.cell? st'=some (.int .u64 0)) (hf:w.frozen? st'=false)
    (H:Lh P Post { s with st:=st' } h g w):Lh P Post s h g w:=by
  rintro m T ⟨gs,sl,q,Rl,A,w₁,rfl,rw₁,hn,ha,C,sm,hd,hA1,hA2,hR⟩
  have hlv:∀ x,x≠h→Rl x=.leave:=fun x hx=>by
    rcases sm.kind x with e | ⟨e,_⟩
    · rw [e];exact hl x hx
    · rw [hl x hx] at e;cases e
  have hAf:∀ x,A x=false:=fun x=>by
    cases e:A x with
    | false=>rfl
    | true=>have:=hA2 x e;rw [hA x] at this;cases this
  have hal:∀ n,alive A n=0:=fun n=>by
    induction n with
    | zero=>rfl
    | succ n ih=>simp [alive,ih,hAf n]
  obtain ⟨d,rfl⟩:∃ d,w₁=w.at d:=by
    rcases rw₁ with h | ⟨n,n₁,d,h1,h2,rfl⟩
    · exact h
    · rcases hold with h | h
      · exfalso
        obtain ⟨_,_,_,_,h3,_⟩:=cell_some h1
        exact h h3
      · rw [h] at h1
        have:=Option.some.inj h1
        injection this with _ h6
        have e:n₁=0:=by omega
        subst e
        exact ⟨d,by rw [show (Value.int .u64 ((0 * 4294967296:Nat):Int))=Value.int .u64 0 from rfl,setCell_same h]⟩
  refine H _ _ ⟨gs,sl,q,Rl,A,w.at d,rfl,RW.at d,hn,ha,⟨fun x y hx hy=>?_,C.chans,C.live,C.deadSeat,C.inj,C.above,fun x hx e=>?_,C.past,fun _=>hs,C.keep,fun _=>⟨by rw [hal];exact hc,hf⟩,C.few,C.low,C.slow,C.aliveC⟩,sm,hd,hA1,hA2,hR⟩
  · have hi:=C.idle x y hx hy
    rw [hlv x hx] at hi ⊢
    exact hi
  · rw [hlv x hx] at e;cases e
end
end Go.Proofs.Ytndppafplgilbaa
